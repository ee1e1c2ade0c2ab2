/- The texts PWalkD, PPlain, PWalkE, PWalkF, laid together. Conditions: none. -/
import Derived.Test.YtbhlgkibgajajaaGreatDoorQPB
import Derived.Test.YtbhlgkibgajajaaGreatDoorQPC
import Derived.Test.YtbhlgkibgajajaaGreatDoorQPE
import Derived.Test.YtbhlgkibgajajaaGreatDoorQPD
set_option maxRecDepth 20000
namespace Go.Proofs.YtbhlgkibgajajaaGreatDoor
open Go.Lx Go.RowKit
def kAtom:ByteArray:=⟨#[97,116,111,109]⟩
def kSame:ByteArray:=⟨#[115,97,109,101]⟩
def kEq:ByteArray:=⟨#[61]⟩
def kLt:ByteArray:=⟨#[60]⟩
def kLe:ByteArray:=⟨#[60,61]⟩
def kAnd:ByteArray:=⟨#[97,110,100]⟩
def XN:ByteArray:=⟨#[102,111,114,97,108,108]⟩
def We:ByteArray:=⟨#[101,120,105,115,116,115]⟩
def CmpOp (s:ByteArray):Prop:=s=kLt∨s=kLe∨s=kEq
inductive FShape:Formula→Prop
 | atom {f:Formula} (h:f.op=kAtom∨f.op=kSame) (hn:f.args.length≤1000000000):FShape f
 | cmp {f:Formula} {a b:Lx.Expr} (h:CmpOp f.op) (he:f.exprs=[a,b]) (ha:EShape a) (hb:EShape b):FShape f
 | other {f:Formula} (h0:f.op≠kAtom) (h1:f.op≠kSame) (h2:¬CmpOp f.op) (hp:f.params.length≤1000000000) (hn:f.kids.length≤1000000000) (hk:∀ k∈f.kids,FShape k):FShape f
open Classical in
noncomputable def Yax:Nat→Formula→Sexpr
 | 0,_=>numE 0
 | s+1,f=>if f.op=kAtom then Xj f.name f.args else if f.op=kSame then Xj kEq f.args else if CmpOp f.op then Yv (Yd f.op::f.exprs.map Y8)
  else Yv ((if f.op≠kAnd∨f.kids≠ [] then [Yd f.op] else [])++(if f.op=XN∨f.op=We then [Yv ((f.params.flatMap XO).map Yd)] else [])++f.kids.map (Yax s))
theorem YcR:∀ (s s':Nat) (f:Formula),SizeOf.sizeOf f≤s→SizeOf.sizeOf f≤s'→Yax s f=Yax s' f
 | 0,_,e,h,_=>by cases e;simp at h
 | _+1,0,e,_,h=>by cases e;simp at h
 | s+1,s'+1,e,h,h'=>by
  have hk:e.kids.map (Yax s)=e.kids.map (Yax s'):=List.map_congr_left (fun k hk=>YcR s s' k (by have:=Formula.kids_lt hk;omega) (by have:=Formula.kids_lt hk;omega))
  simp only [Yax,hk]
theorem Ybn {fz3:FZ} {gb:Nat} {o:ByteArray} {X Y:Sexpr} {vk3 vk5:Value} (ho:Short o) (hg:fz3 gb=some (.cells (Ym o++ [.int .i64 X.kind,.int .i64 X.value,.int .i64 X.line,.int .i64 X.column,.string X.text,vk3]++ [.int .i64 Y.kind,.int .i64 Y.value,.int .i64 Y.line,.int .i64 Y.column,.string Y.text,vk5]).toArray 64 (0,0))) (hX:Xd fz3 X vk3) (hY:Xd fz3 Y vk5):
 SxIs fz3 (sxV 3 0 ⟨#[]⟩ (.slice (some ⟨gb,0,none⟩) 3 3)) (Yv [Yd o,X,Y]):=by
 obtain ⟨A',c',he,hsl⟩:=Ye0 (β:={p:Sexpr × List Value // p.2.length=6}) (L:=YF) (f:=fun p=>p.1.2) (g:=fun p=>p.1.1) (e:=64) (n:=3) (v:=.slice (some ⟨gb,0,none⟩) 3 3) (fz':=fz3)
  (l:=[⟨(Yd o,Ym o),rfl⟩,⟨(X,[.int .i64 X.kind,.int .i64 X.value,.int .i64 X.line,.int .i64 X.column,.string X.text,vk3]),rfl⟩,⟨(Y,[.int .i64 Y.kind,.int .i64 Y.value,.int .i64 Y.line,.int .i64 Y.column,.string Y.text,vk5]),rfl⟩]) (fun p=>p.2) (OwnS.of_block (size:=6) rfl Zh) (fun p hp=>by simp at hp;subst hp;exact hg) rfl Zh (fun x hx=>by
   simp only [List.mem_cons,List.not_mem_nil,or_false] at hx
   rcases hx with rfl | rfl | rfl
   ·exact Yq ho
   ·exact Yg (x:=X) hX
   ·exact Yg (x:=Y) hY)
 injection he with he1 he2 he3
 subst he1 he3
 exact XQ hsl
theorem Yh4 {f:Formula} (hF:FShape f) (hc:CmpOp f.op):∃ a b,f.exprs=[a,b]∧EShape a∧EShape b:=by
 cases hF with
 | atom h0=>
  rcases h0 with h0 | h0<;>rw [h0] at hc<;>rcases hc with hc | hc | hc<;>exact absurd (congrArg ByteArray.size hc) Zh
 | cmp _ he ha hb=>exact ⟨_,_,he,ha,hb⟩
 | other _ _ h2=>exact absurd hc h2
set_option maxHeartbeats 2000000 in
theorem YiF:∀ (s:Nat) {fz:FZ} {f:Formula} {va vp ve vk:Value},SizeOf.sizeOf f≤s→FormulaR fz f va vp ve vk→FShape f→
 GFn Tryz.prog 89 [.agg #[.string f.op,.string f.name,va,vp,ve,vk]] fz [] (fun v fz' H'=>H'=[]∧SxIs fz' v (Yax s f))
 | 0,_,f,_,_,_,_,hs,_,_=>by cases f;simp at hs
 | s+1,fz,f,va,vp,ve,vk,hs,h,hF=>by
  obtain ⟨A,n,c,rfl,ha⟩:=h.args
  obtain ⟨B,m,d,rfl,hp⟩:=h.params
  obtain ⟨C,r,cr,rfl,he⟩:=h.exprs
  obtain ⟨D,q,cq,rfl,hk⟩:=h.kids
  (refine GFn.of_wp Tryz.func89 rfl Tryz.ntmps89 rfl rfl (fun w0=>?_))
  (refine Yr (Yp (Yb Zz (Xi _ Zz Zz (fun g0=>?_)))))
  ((repeat (first | refine zS ?_ | refine zA fun _=>?_)))
  rename_i g1
  ((refine zG ?_;refine zC (fun x1=>?_) (fun y1=>?_)))
  ·have hn:f.args.length≤1000000000:=by
    cases hF with
    | atom _ hn=>exact hn
    | cmp hc=>rw [show f.op=kAtom from x1] at hc;rcases hc with hc | hc | hc<;>exact absurd (congrArg ByteArray.size hc) Zh
    | other h0=>exact absurd x1 h0
   ((repeat (first | refine zS ?_ | refine zA fun _=>?_)))
   (refine Yb Zz (YB [] [_,_] Zz Zz Zz (Yfk (f0:=f.name) h.name ha (by rw [← ha.len];exact hn)) (fun v fz2 H2 hle2 hR=>?_)))
   obtain ⟨rfl,C,mm,cc,rfl,hsl⟩:=hR
   unfold sxV
   ((repeat (first | refine zS ?_ | refine zA fun _=>?_)))
   refine Y4 T (i:=0) rfl Zz Zz Zz Zz Zz (fun fz3 hle3 hf3=>⟨rfl,?_⟩)
   rw [Yax,if_pos (show f.op=kAtom from x1)]
   exact (XQ hsl).mono hle3
  ·((repeat (first | refine zS ?_ | refine zA fun _=>?_)))
   ((refine zG ?_;refine zC (fun x2=>?_) (fun y2=>?_)))
   ·have hn:f.args.length≤1000000000:=by
     cases hF with
     | atom _ hn=>exact hn
     | cmp hc=>rw [show f.op=kSame from x2] at hc;rcases hc with hc | hc | hc<;>exact absurd (congrArg ByteArray.size hc) Zh
     | other _ h1=>exact absurd x2 h1
    ((repeat (first | refine zS ?_ | refine zA fun _=>?_)))
    (refine Yb Zz (YB [] [_,_] Zz Zz Zz (Yfk (f0:=kEq) (by unfold Short kEq;decide) ha (by rw [← ha.len];exact hn)) (fun v fz2 H2 hle2 hR=>?_)))
    obtain ⟨rfl,C,mm,cc,rfl,hsl⟩:=hR
    unfold sxV
    ((repeat (first | refine zS ?_ | refine zA fun _=>?_)))
    refine Y4 T (i:=0) rfl Zz Zz Zz Zz Zz (fun fz3 hle3 hf3=>⟨rfl,?_⟩)
    rw [Yax,if_neg (show ¬f.op=kAtom from y1),if_pos (show f.op=kSame from x2)]
    exact (XQ hsl).mono hle3
   ·((repeat (first | refine zS ?_ | refine zA fun _=>?_)))
    ((refine zG ?_;refine zC (fun x3=>?_) (fun y3=>?_)))
    ·have hcmp:CmpOp f.op:=.inl x3
     (obtain ⟨a,b,hab,hsa,hsb⟩:=Yh4 hF hcmp;have l2:=he.len;rw [hab] at l2;simp at l2;subst l2;((repeat (first | refine zS ?_ | refine zA fun _=>?_)));(refine Wp.drawK (Hq:=[_,_]) T.mixed Zj Zj (Zb) ?_);((repeat (first | refine zS ?_ | refine zA fun _=>?_)));(refine Ye ?_);((repeat (first | refine zS ?_ | refine zA fun _=>?_)));(((refine zG ?_));refine YA T 0 Zz Zz Zz Zz Zz Zz he (by first | rfl | omega) (by rw [hab];rfl:f.exprs[0]?=some a) (fun p hp0=>?_));(((refine zG ?_));refine Yx T Zz Zz Zz hp0 Zz ?_);intro cs hcs;obtain ⟨wa,wk,rfl,hRa⟩:=YU hcs;(refine Ye ?_);((repeat (first | refine zS ?_ | refine zA fun _=>?_)));(((refine zG ?_));refine YA T 1 Zz Zz Zz Zz Zz Zz he (by first | rfl | omega) (by rw [hab];rfl:f.exprs[1]?=some b) (fun p2 hp2=>?_));(((refine zG ?_));refine Yx T Zz Zz Zz hp2 Zz ?_);intro cs2 hcs2;obtain ⟨za,zk,rfl,hRb⟩:=YU hcs2;(refine Ye ?_);(refine Ye ?_);(refine Ye ?_);(refine Ye ?_);(refine YR ⟨by kernel_rfl,?_⟩))
     (refine Ch.qk (⟨Le.refl _,Zx⟩) (Yj Zz Zz (Yaw (s:=f.op)) ?_);refine Ys (YB [] [_,_] Zz Zz Zz (X4 hRa hsa) (fun v2 fz2 H2 hle2 hR2=>?_));obtain ⟨rfl,cs3,rfl,hr3⟩:=hR2;obtain ⟨vk3,rfl,hR3⟩:=Yt hr3;refine ⟨(⟨hle2,Zp2⟩),?_⟩;refine Ys (YB [] [_,_] Zz Zz Zz (X4 (hRb.mono hle2) hsb) (fun v4 fz4 H4 hle4 hR4=>?_));obtain ⟨rfl,cs5,rfl,hr5⟩:=hR4;obtain ⟨vk5,rfl,hR5⟩:=Yt hr5;refine ⟨(⟨(hle2.trans hle4),Zp2⟩),?_⟩;refine Ys (Yc T (cs:=Ym f.op++ [.int .i64 (Y8 a).kind,.int .i64 (Y8 a).value,.int .i64 (Y8 a).line,.int .i64 (Y8 a).column,.string (Y8 a).text,vk3]++ [.int .i64 (Y8 b).kind,.int .i64 (Y8 b).value,.int .i64 (Y8 b).line,.int .i64 (Y8 b).column,.string (Y8 b).text,vk5]) Zz Zz Zz Zz Zz Zz Zz Zz (fun gb=>⟨(⟨(hle2.trans hle4),Zp3⟩),?_⟩));refine Ch.qk (⟨(hle2.trans hle4),Zp3⟩) (Yj Zz Zz Ybw ?_);unfold sxV;refine Ch.hard0 Zj (YT T Zz Zz Zz Zz Zz Zz ?_);refine Ch.done ?_;((repeat (first | refine zS ?_ | refine zA fun _=>?_)));refine Y4 T (i:=1) rfl Zz Zz Zz Zz Zz (fun fz3 hle3 hf3=>⟨rfl,?_⟩);rw [Yax,if_neg (show ¬f.op=kAtom from y1),if_neg (show ¬f.op=kSame from y2),if_pos hcmp,hab];exact Ybn h.op (hf3 _ (.head _)) (hR3.mono (hle4.trans hle3)) (hR5.mono hle3))
    ·((repeat (first | refine zS ?_ | refine zA fun _=>?_)))
     ((refine zG ?_;refine zC (fun x4=>?_) (fun y4=>?_)))
     ·have hcmp:CmpOp f.op:=.inr (.inl x4)
      (obtain ⟨a,b,hab,hsa,hsb⟩:=Yh4 hF hcmp;have l2:=he.len;rw [hab] at l2;simp at l2;subst l2;((repeat (first | refine zS ?_ | refine zA fun _=>?_)));(refine Wp.drawK (Hq:=[_,_]) T.mixed Zj Zj (Zb) ?_);((repeat (first | refine zS ?_ | refine zA fun _=>?_)));(refine Ye ?_);((repeat (first | refine zS ?_ | refine zA fun _=>?_)));(((refine zG ?_));refine YA T 0 Zz Zz Zz Zz Zz Zz he (by first | rfl | omega) (by rw [hab];rfl:f.exprs[0]?=some a) (fun p hp0=>?_));(((refine zG ?_));refine Yx T Zz Zz Zz hp0 Zz ?_);intro cs hcs;obtain ⟨wa,wk,rfl,hRa⟩:=YU hcs;(refine Ye ?_);((repeat (first | refine zS ?_ | refine zA fun _=>?_)));(((refine zG ?_));refine YA T 1 Zz Zz Zz Zz Zz Zz he (by first | rfl | omega) (by rw [hab];rfl:f.exprs[1]?=some b) (fun p2 hp2=>?_));(((refine zG ?_));refine Yx T Zz Zz Zz hp2 Zz ?_);intro cs2 hcs2;obtain ⟨za,zk,rfl,hRb⟩:=YU hcs2;(refine Ye ?_);(refine Ye ?_);(refine Ye ?_);(refine Ye ?_);(refine YR ⟨by kernel_rfl,?_⟩))
      (refine Ch.qk (⟨Le.refl _,Zx⟩) (Yj Zz Zz (Yaw (s:=f.op)) ?_);refine Ys (YB [] [_,_] Zz Zz Zz (X4 hRa hsa) (fun v2 fz2 H2 hle2 hR2=>?_));obtain ⟨rfl,cs3,rfl,hr3⟩:=hR2;obtain ⟨vk3,rfl,hR3⟩:=Yt hr3;refine ⟨(⟨hle2,Zp2⟩),?_⟩;refine Ys (YB [] [_,_] Zz Zz Zz (X4 (hRb.mono hle2) hsb) (fun v4 fz4 H4 hle4 hR4=>?_));obtain ⟨rfl,cs5,rfl,hr5⟩:=hR4;obtain ⟨vk5,rfl,hR5⟩:=Yt hr5;refine ⟨(⟨(hle2.trans hle4),Zp2⟩),?_⟩;refine Ys (Yc T (cs:=Ym f.op++ [.int .i64 (Y8 a).kind,.int .i64 (Y8 a).value,.int .i64 (Y8 a).line,.int .i64 (Y8 a).column,.string (Y8 a).text,vk3]++ [.int .i64 (Y8 b).kind,.int .i64 (Y8 b).value,.int .i64 (Y8 b).line,.int .i64 (Y8 b).column,.string (Y8 b).text,vk5]) Zz Zz Zz Zz Zz Zz Zz Zz (fun gb=>⟨(⟨(hle2.trans hle4),Zp3⟩),?_⟩));refine Ch.qk (⟨(hle2.trans hle4),Zp3⟩) (Yj Zz Zz Ybw ?_);unfold sxV;refine Ch.hard0 Zj (YT T Zz Zz Zz Zz Zz Zz ?_);refine Ch.done ?_;((repeat (first | refine zS ?_ | refine zA fun _=>?_)));refine Y4 T (i:=1) rfl Zz Zz Zz Zz Zz (fun fz3 hle3 hf3=>⟨rfl,?_⟩);rw [Yax,if_neg (show ¬f.op=kAtom from y1),if_neg (show ¬f.op=kSame from y2),if_pos hcmp,hab];exact Ybn h.op (hf3 _ (.head _)) (hR3.mono (hle4.trans hle3)) (hR5.mono hle3))
     ·((repeat (first | refine zS ?_ | refine zA fun _=>?_)))
      ((refine zG ?_;refine zC (fun x5=>?_) (fun y5=>?_)))
      ·have hcmp:CmpOp f.op:=.inr (.inr x5)
       (obtain ⟨a,b,hab,hsa,hsb⟩:=Yh4 hF hcmp;have l2:=he.len;rw [hab] at l2;simp at l2;subst l2;((repeat (first | refine zS ?_ | refine zA fun _=>?_)));(refine Wp.drawK (Hq:=[_,_]) T.mixed Zj Zj (Zb) ?_);((repeat (first | refine zS ?_ | refine zA fun _=>?_)));(refine Ye ?_);((repeat (first | refine zS ?_ | refine zA fun _=>?_)));(((refine zG ?_));refine YA T 0 Zz Zz Zz Zz Zz Zz he (by first | rfl | omega) (by rw [hab];rfl:f.exprs[0]?=some a) (fun p hp0=>?_));(((refine zG ?_));refine Yx T Zz Zz Zz hp0 Zz ?_);intro cs hcs;obtain ⟨wa,wk,rfl,hRa⟩:=YU hcs;(refine Ye ?_);((repeat (first | refine zS ?_ | refine zA fun _=>?_)));(((refine zG ?_));refine YA T 1 Zz Zz Zz Zz Zz Zz he (by first | rfl | omega) (by rw [hab];rfl:f.exprs[1]?=some b) (fun p2 hp2=>?_));(((refine zG ?_));refine Yx T Zz Zz Zz hp2 Zz ?_);intro cs2 hcs2;obtain ⟨za,zk,rfl,hRb⟩:=YU hcs2;(refine Ye ?_);(refine Ye ?_);(refine Ye ?_);(refine Ye ?_);(refine YR ⟨by kernel_rfl,?_⟩))
       (refine Ch.qk (⟨Le.refl _,Zx⟩) (Yj Zz Zz (Yaw (s:=f.op)) ?_);refine Ys (YB [] [_,_] Zz Zz Zz (X4 hRa hsa) (fun v2 fz2 H2 hle2 hR2=>?_));obtain ⟨rfl,cs3,rfl,hr3⟩:=hR2;obtain ⟨vk3,rfl,hR3⟩:=Yt hr3;refine ⟨(⟨hle2,Zp2⟩),?_⟩;refine Ys (YB [] [_,_] Zz Zz Zz (X4 (hRb.mono hle2) hsb) (fun v4 fz4 H4 hle4 hR4=>?_));obtain ⟨rfl,cs5,rfl,hr5⟩:=hR4;obtain ⟨vk5,rfl,hR5⟩:=Yt hr5;refine ⟨(⟨(hle2.trans hle4),Zp2⟩),?_⟩;refine Ys (Yc T (cs:=Ym f.op++ [.int .i64 (Y8 a).kind,.int .i64 (Y8 a).value,.int .i64 (Y8 a).line,.int .i64 (Y8 a).column,.string (Y8 a).text,vk3]++ [.int .i64 (Y8 b).kind,.int .i64 (Y8 b).value,.int .i64 (Y8 b).line,.int .i64 (Y8 b).column,.string (Y8 b).text,vk5]) Zz Zz Zz Zz Zz Zz Zz Zz (fun gb=>⟨(⟨(hle2.trans hle4),Zp3⟩),?_⟩));refine Ch.qk (⟨(hle2.trans hle4),Zp3⟩) (Yj Zz Zz Ybw ?_);unfold sxV;refine Ch.hard0 Zj (YT T Zz Zz Zz Zz Zz Zz ?_);refine Ch.done ?_;((repeat (first | refine zS ?_ | refine zA fun _=>?_)));refine Y4 T (i:=1) rfl Zz Zz Zz Zz Zz (fun fz3 hle3 hf3=>⟨rfl,?_⟩);rw [Yax,if_neg (show ¬f.op=kAtom from y1),if_neg (show ¬f.op=kSame from y2),if_pos hcmp,hab];exact Ybn h.op (hf3 _ (.head _)) (hR3.mono (hle4.trans hle3)) (hR5.mono hle3))
      ·((repeat (first | refine zS ?_ | refine zA fun _=>?_)))
       have hc:¬CmpOp f.op:=fun h1=>h1.elim y3 (fun h1=>h1.elim y4 y5)
       obtain ⟨hpn,hkn,hks⟩:f.params.length≤1000000000∧f.kids.length≤1000000000∧∀ k∈f.kids,FShape k:=by
        cases hF with
        | atom h0=>exact (h0.elim y1 y2).elim
        | cmp h1=>exact absurd h1 hc
        | other _ _ _ h1 h2 h3=>exact ⟨h1,h2,h3⟩
       (((refine zG ?_));refine Yj Zz Zz (Ybw (A:=none) (n:=0) (c:=0)) ?_)
       unfold sxV
       ((repeat (first | refine zSO ?_ | refine zA fun _=>?_)))
       rename_i g2
       have l4:=hk.len
       refine Yr (Wp.mid (fun σ fz' H'=>∃ (v:Value) (k:Nat) (Hs:HP),σ=[(3,.pointer (some ⟨g2,0,none⟩)),(2,.pointer (some ⟨g1,0,none⟩)),(1,.pointer (some ⟨g0,0,none⟩))]∧fz=fz'∧k≤1∧
        H'=(g2,.cells #[.int .i64 3,.int .i64 0,.int .i64 0,.int .i64 0,.string ⟨#[]⟩,v] 64 (0,0))::(g1,.cells #[.int .i64 0,.int .i64 0,.int .i64 0,.int .i64 0,.string ⟨#[]⟩,.slice none 0 0] 64 (0,0))::(g0,.cells #[.string f.op,.string f.name,.slice A n c,.slice B m d,.slice C r cr,.slice D q cq] 36 (0,0))::Hs∧
        Grow YF 64 fz' v k Hs (if f.op≠kAnd∨f.kids≠ [] then [Yd f.op] else [])) ?_ ?_)
       ·((repeat (first | refine zS ?_ | refine zA fun _=>?_)))
        ((refine zG ?_;refine zC (fun z1=>?_) (fun z1=>?_)))
        ·((repeat (first | refine zS ?_ | refine zA fun _=>?_)))
         (refine Wp.drawK (Hq:=[_,_,_]) T.mixed Zj Zj (Zb) ?_)
         ((repeat (first | refine zS ?_ | refine zA fun _=>?_)))
         (refine Ye ?_)
         (refine Ye ?_)
         (refine Ye ?_)
         ((repeat (first | refine zS ?_ | refine zA fun _=>?_)))
         (refine Ye ?_)
         (refine YR ⟨by kernel_rfl,?_⟩)
         refine Ch.qk (⟨Le.refl _,Zx⟩) (Yj Zz Zz (Yaw (s:=f.op)) ?_)
         refine Ys (Yc T (cs:=Ym f.op) Zz Zz Zz Zz Zz Zz Zz Zz (fun gb=>⟨(⟨Le.refl _,Zx⟩),?_⟩))
         refine Ys (Y3 T (Hr:=[_,_,_,_]) Zz Zz Zz Zz Zz Zz Zz Zz (List.Perm.refl _) (Grow.nil YF 64 fz) Yn (.head _) (Yq h.op) Zh Zh (fun v' Hs' hO'=>⟨(⟨Le.refl _,Zx⟩),?_⟩))
         obtain ⟨Av',cv',rfl,_,_⟩:=hO'.form
         refine Ch.hard0 Zj (YT T Zz Zz Zz Zz Zz Zz ?_)
         refine Ch.done ?_
         ((repeat (first | refine zS ?_ | refine zA fun _=>?_)))
         exact midN ⟨_,1,Hs',rfl,rfl,by omega,rfl,by rw [if_pos (.inl z1)];exact hO'⟩ (Zw) (Zb)
        ·((repeat (first | refine zS ?_ | refine zA fun _=>?_)))
         ((refine zG ?_;refine zC (fun z2=>?_) (fun z2=>?_)))
         ·have hkn0:f.kids≠ []:=fun h0=>by rw [h0] at l4;simp at l4;omega
          ((repeat (first | refine zS ?_ | refine zA fun _=>?_)))
          (refine Wp.drawK (Hq:=[_,_,_]) T.mixed Zj Zj (Zb) ?_)
          ((repeat (first | refine zS ?_ | refine zA fun _=>?_)))
          (refine Ye ?_)
          (refine Ye ?_)
          (refine Ye ?_)
          ((repeat (first | refine zS ?_ | refine zA fun _=>?_)))
          (refine Ye ?_)
          (refine YR ⟨by kernel_rfl,?_⟩)
          refine Ch.qk (⟨Le.refl _,Zx⟩) (Yj Zz Zz (Yaw (s:=f.op)) ?_)
          refine Ys (Yc T (cs:=Ym f.op) Zz Zz Zz Zz Zz Zz Zz Zz (fun gb=>⟨(⟨Le.refl _,Zx⟩),?_⟩))
          refine Ys (Y3 T (Hr:=[_,_,_,_]) Zz Zz Zz Zz Zz Zz Zz Zz (List.Perm.refl _) (Grow.nil YF 64 fz) Yn (.head _) (Yq h.op) Zh Zh (fun v' Hs' hO'=>⟨(⟨Le.refl _,Zx⟩),?_⟩))
          obtain ⟨Av',cv',rfl,_,_⟩:=hO'.form
          refine Ch.hard0 Zj (YT T Zz Zz Zz Zz Zz Zz ?_)
          refine Ch.done ?_
          ((repeat (first | refine zS ?_ | refine zA fun _=>?_)))
          exact midN ⟨_,1,Hs',rfl,rfl,by omega,rfl,by rw [if_pos (.inr hkn0)];exact hO'⟩ (Zw) (Zb)
         ·have hkn0:f.kids=[]:=List.eq_nil_of_length_eq_zero Zi
          ((repeat (first | refine zS ?_ | refine zA fun _=>?_)))
          exact midN ⟨_,0,[],rfl,rfl,by omega,rfl,by rw [if_neg (by rintro (h0 | h0);exact h0 z1;exact h0 hkn0)];exact Grow.nil _ _ _⟩ (Zw) (Zb)
       ·rintro σ fz' H' ⟨v,k,Hs,rfl,rfl,hk1,rfl,hG⟩
        refine Yr (Wp.mid (fun σ fz' H'=>∃ (v:Value) (k:Nat) (Hs:HP),σ=[(3,.pointer (some ⟨g2,0,none⟩)),(2,.pointer (some ⟨g1,0,none⟩)),(1,.pointer (some ⟨g0,0,none⟩))]∧Le fz fz'∧k≤2∧
         H'=(g2,.cells #[.int .i64 3,.int .i64 0,.int .i64 0,.int .i64 0,.string ⟨#[]⟩,v] 64 (0,0))::(g1,.cells #[.int .i64 0,.int .i64 0,.int .i64 0,.int .i64 0,.string ⟨#[]⟩,.slice none 0 0] 64 (0,0))::(g0,.cells #[.string f.op,.string f.name,.slice A n c,.slice B m d,.slice C r cr,.slice D q cq] 36 (0,0))::Hs∧
         Grow YF 64 fz' v k Hs ((if f.op≠kAnd∨f.kids≠ [] then [Yd f.op] else [])++(if f.op=XN∨f.op=We then [Yv ((f.params.flatMap XO).map Yd)] else []))) ?_ ?_)
        ·obtain ⟨Av,cv,rfl,_,_⟩:=hG.form
         ((repeat (first | refine zS ?_ | refine zA fun _=>?_)))
         ((refine zG ?_;refine zC (fun w1=>?_) (fun w1=>?_)))
         ·((repeat (first | refine zS ?_ | refine zA fun _=>?_)))
          (refine Wp.drawK (Hq:=[_,_,_]) T.mixed Zj Zj (Zb) ?_)
          ((repeat (first | refine zS ?_ | refine zA fun _=>?_)))
          (refine Ye ?_)
          (refine Ye ?_)
          (refine Ye ?_)
          (refine Ye ?_)
          ((repeat (first | refine zS ?_ | refine zA fun _=>?_)))
          (refine Ye ?_)
          (refine YR ⟨by kernel_rfl,?_⟩)
          refine Ys (YB [] _ Zz Zz Zz (Ycf hp (by rw [← hp.len];exact hpn)) (fun v2 fz2 H2 hle2 hR2=>?_))
          obtain ⟨rfl,B2,cc2,rfl,hsl2⟩:=hR2
          refine ⟨(⟨hle2,Zx⟩),?_⟩
          refine Ch.qk (⟨hle2,Zx⟩) (Yj Zz Zz Ybw ?_)
          unfold sxV
          refine Ys (Yc T (cs:=[.int .i64 3,.int .i64 0,.int .i64 0,.int .i64 0,.string ⟨#[]⟩,.slice B2 (3*m) cc2]) Zz Zz Zz Zz Zz Zz Zz Zz (fun gb=>⟨(⟨hle2,Zx⟩),?_⟩))
          refine Ys (Y3 T (Hr:=[_,_,_,_]) (d:=Yv ((f.params.flatMap XO).map Yd)) Zz Zz Zz Zz Zz Zz Zz Zz (List.Perm.refl _) (hG.mono hle2) Yn (.head _) (Yg (x:=Yv _) ⟨YcO,Xp,Xp,Xp,Y0,hsl2.is⟩) (by show _*72≤_;omega) Zi (fun v' Hs' hO'=>⟨(⟨hle2,Zx⟩),?_⟩))
          obtain ⟨Av',cv',rfl,_,_⟩:=hO'.form
          refine Ch.hard0 Zj (YT T Zz Zz Zz Zz Zz Zz ?_)
          refine Ch.done ?_
          ((repeat (first | refine zS ?_ | refine zA fun _=>?_)))
          exact midN ⟨_,k+1,Hs',rfl,hle2,by omega,rfl,by rw [if_pos (Or.inl w1:f.op=XN∨f.op=We)];exact hO'⟩ (Zw) (Zb)
         ·((repeat (first | refine zS ?_ | refine zA fun _=>?_)))
          ((refine zG ?_;refine zC (fun w2=>?_) (fun w2=>?_)))
          ·((repeat (first | refine zS ?_ | refine zA fun _=>?_)))
           (refine Wp.drawK (Hq:=[_,_,_]) T.mixed Zj Zj (Zb) ?_)
           ((repeat (first | refine zS ?_ | refine zA fun _=>?_)))
           (refine Ye ?_)
           (refine Ye ?_)
           (refine Ye ?_)
           (refine Ye ?_)
           ((repeat (first | refine zS ?_ | refine zA fun _=>?_)))
           (refine Ye ?_)
           (refine YR ⟨by kernel_rfl,?_⟩)
           refine Ys (YB [] _ Zz Zz Zz (Ycf hp (by rw [← hp.len];exact hpn)) (fun v2 fz2 H2 hle2 hR2=>?_))
           obtain ⟨rfl,B2,cc2,rfl,hsl2⟩:=hR2
           refine ⟨(⟨hle2,Zx⟩),?_⟩
           refine Ch.qk (⟨hle2,Zx⟩) (Yj Zz Zz Ybw ?_)
           unfold sxV
           refine Ys (Yc T (cs:=[.int .i64 3,.int .i64 0,.int .i64 0,.int .i64 0,.string ⟨#[]⟩,.slice B2 (3*m) cc2]) Zz Zz Zz Zz Zz Zz Zz Zz (fun gb=>⟨(⟨hle2,Zx⟩),?_⟩))
           refine Ys (Y3 T (Hr:=[_,_,_,_]) (d:=Yv ((f.params.flatMap XO).map Yd)) Zz Zz Zz Zz Zz Zz Zz Zz (List.Perm.refl _) (hG.mono hle2) Yn (.head _) (Yg (x:=Yv _) ⟨YcO,Xp,Xp,Xp,Y0,hsl2.is⟩) (by show _*72≤_;omega) Zi (fun v' Hs' hO'=>⟨(⟨hle2,Zx⟩),?_⟩))
           obtain ⟨Av',cv',rfl,_,_⟩:=hO'.form
           refine Ch.hard0 Zj (YT T Zz Zz Zz Zz Zz Zz ?_)
           refine Ch.done ?_
           ((repeat (first | refine zS ?_ | refine zA fun _=>?_)))
           exact midN ⟨_,k+1,Hs',rfl,hle2,by omega,rfl,by rw [if_pos (Or.inr w2:f.op=XN∨f.op=We)];exact hO'⟩ (Zw) (Zb)
          ·((repeat (first | refine zS ?_ | refine zA fun _=>?_)))
           exact midN ⟨_,k,Hs,rfl,Le.refl _,by omega,rfl,by rw [if_neg (show ¬(f.op=XN∨f.op=We) from fun h0=>h0.elim w1 w2),List.append_nil];exact hG⟩ (Zw) (Zb)
        ·rintro σ fz' H' ⟨v,k,Hs,rfl,hle,hk1,rfl,hG⟩
         generalize hbase:(if f.op≠kAnd∨f.kids≠ [] then [Yd f.op] else [])++(if f.op=XN∨f.op=We then [Yv ((f.params.flatMap XO).map Yd)] else [])=base at hG
         ((repeat (first | refine zS ?_ | refine zA fun _=>?_)))
         refine YD (fun mm σ fz2 H'=>∃ (j:Nat) (v:Value) (k:Nat) (Hs:HP),j≤q∧mm=q - j∧σ=[(77,.int .i64 j),(76,.int .i64 q),(75,.slice D q cq),(3,.pointer (some ⟨g2,0,none⟩)),(2,.pointer (some ⟨g1,0,none⟩))]∧Le fz' fz2∧k≤2+j∧
          H'=(g2,.cells #[.int .i64 3,.int .i64 0,.int .i64 0,.int .i64 0,.string ⟨#[]⟩,v] 64 (0,0))::(g1,.cells #[.int .i64 0,.int .i64 0,.int .i64 0,.int .i64 0,.string ⟨#[]⟩,.slice none 0 0] 64 (0,0))::Hs∧Grow YF 64 fz2 v k Hs (base++(f.kids.take j).map (Yax s)))
          ⟨0,v,k,Hs,Nat.zero_le _,rfl,rfl,Le.refl _,by omega,rfl,by simpa using hG⟩ (Zw) (Zb) ?_
         rintro mm σ fz2 H' ⟨j,v,k,Hs,hj,rfl,rfl,hle2,hk2,rfl,hG⟩
         obtain ⟨Av,cv,rfl,_,_⟩:=hG.form
         have hk3:=hk.mono (hle.trans hle2)
         ((repeat (first | refine zS ?_ | refine zA fun _=>?_)))
         ((refine zG ?_;refine zC (fun c1=>?_) (fun c1=>?_)))
         ·obtain ⟨x,hx⟩:=YG (l:=f.kids) (k:=j) Zi
          have hxm:x∈f.kids:=List.mem_of_getElem? hx
          have hlt:=Formula.kids_lt hxm
          ((repeat (first | refine zS ?_ | refine zA fun _=>?_)))
          (((refine zG ?_));refine YA T j Zz Zz Zz Zz Zz Zz hk3 (by first | rfl | omega) hx (fun p hp5=>?_))
          (((refine zG ?_));refine Yx T Zz Zz Zz hp5 Zz ?_)
          intro cs hcs
          obtain ⟨wa,wp,we,wk,rfl,hRx⟩:=Xc hcs
          obtain ⟨A1,n1,b1,rfl,_⟩:=hRx.args
          obtain ⟨A2,n2,b2,rfl,_⟩:=hRx.params
          obtain ⟨A3,n3,b3,rfl,_⟩:=hRx.exprs
          obtain ⟨A4,n4,b4,rfl,_⟩:=hRx.kids
          ((repeat (first | refine zS ?_ | refine zA fun _=>?_)))
          rename_i g5
          (refine Wp.drawK (Hq:=[_,_,_]) T.mixed Zj Zj (Zb) ?_)
          ((repeat (first | refine zS ?_ | refine zA fun _=>?_)))
          (refine Ye ?_)
          (refine Ye ?_)
          (refine Ye ?_)
          ((repeat (first | refine zS ?_ | refine zA fun _=>?_)))
          (refine Ye ?_)
          (refine YR ⟨by kernel_rfl,?_⟩)
          refine Ys (YB [] _ Zz Zz Zz (YiF s (f:=x) Zi hRx (hks x hxm)) (fun v2 fz4 H2 hle4 hR2=>?_))
          obtain ⟨rfl,cs3,rfl,hr3⟩:=hR2
          obtain ⟨vk3,rfl,hR3⟩:=Yt hr3
          refine ⟨(⟨hle4,Zx⟩),?_⟩
          refine Ys (Yc T (cs:=[.int .i64 (Yax s x).kind,.int .i64 (Yax s x).value,.int .i64 (Yax s x).line,.int .i64 (Yax s x).column,.string (Yax s x).text,vk3]) Zz Zz Zz Zz Zz Zz Zz Zz (fun gb=>⟨(⟨hle4,Zx⟩),?_⟩))
          refine Ys (Y3 T (Hr:=[_,_,_,_]) (d:=Yax s x) Zz Zz Zz Zz Zz Zz Zz Zz (List.Perm.refl _) (hG.mono hle4) Yn (.head _) (Yg hR3) (by show _*72≤_;omega) Zi (fun v' Hs' hO'=>⟨(⟨hle4,Zx⟩),?_⟩))
          obtain ⟨Av',cv',rfl,_,_⟩:=hO'.form
          refine Ch.hard0 Zj (Xv T Zz Zz Zz Zz Zz Zz ?_)
          refine Ch.done ?_
          ((repeat (first | refine zS ?_ | refine zA fun _=>?_)))
          exact YP ⟨j+1,_,k+1,Hs',by omega,rfl,rfl,hle2.trans hle4,by omega,rfl,by rw [List.take_add_one,hx,Option.toList,List.map_append,← List.append_assoc];exact hO'⟩ Zi (Zw) (Zb)
         ·have hj1:j=q:=by omega
          subst hj1
          ((repeat (first | refine zS ?_ | refine zA fun _=>?_)))
          refine Y4 T (i:=1) rfl Zz Zz Zz Zz Zz (fun fz3 hle3 hf3=>⟨rfl,?_⟩)
          rw [List.take_of_length_le Zi] at hG
          obtain ⟨A',c',he5,hsl⟩:=hG.sl hle3 (fun p hp=>hf3 p (by simp [hp])) Zi
          injection he5 with e1 e2 e3
          subst e1 e3
          rw [Yax,if_neg (show ¬f.op=kAtom from y1),if_neg (show ¬f.op=kSame from y2),if_neg hc,hbase]
          exact XQ hsl
noncomputable def YN (f:Formula):Sexpr:=Yax (SizeOf.sizeOf f) f
open Classical in
theorem YaE (f:Formula):YN f=if f.op=kAtom then Xj f.name f.args else if f.op=kSame then Xj kEq f.args else if CmpOp f.op then Yv (Yd f.op::f.exprs.map Y8)
 else Yv ((if f.op≠kAnd∨f.kids≠ [] then [Yd f.op] else [])++(if f.op=XN∨f.op=We then [Yv ((f.params.flatMap XO).map Yd)] else [])++f.kids.map YN):=by
 have hk:f.kids.map (Yax (SizeOf.sizeOf f))=f.kids.map YN:=List.map_congr_left (fun k hk=>YcR _ _ k (by have:=Formula.kids_lt hk;omega) (Nat.le_refl _))
 rw [YN,YcR _ (SizeOf.sizeOf f+1) f (Nat.le_refl _) Zi,Yax,hk]
theorem YiE {fz:FZ} {f:Formula} {va vp ve vk:Value} (h:FormulaR fz f va vp ve vk) (hF:FShape f):
 GFn Tryz.prog 89 [.agg #[.string f.op,.string f.name,va,vp,ve,vk]] fz [] (fun v fz' H'=>H'=[]∧SxIs fz' v (YN f)):=YiF _ (Nat.le_refl _) h hF
end Go.Proofs.YtbhlgkibgajajaaGreatDoor
namespace Go.Lx
def YcB (n:Int):Prop:= -1099511627776≤n∧n≤1099511627776
mutual
def ecount:Expr→Nat
 | .mk _ _ _ _ kids=>1+ecountL kids
def ecountL:List Expr→Nat
 | []=>0
 | k::r=>ecount k+ecountL r
end
mutual
def edepth:Expr→Nat
 | .mk _ _ _ _ kids=>1+edepthL kids
def edepthL:List Expr→Nat
 | []=>0
 | k::r=>max (edepth k) (edepthL r)
end
mutual
def fcount:Formula→Nat
 | .mk _ _ _ _ exprs kids=>1+ecountL exprs+fcountL kids
def fcountL:List Formula→Nat
 | []=>0
 | k::r=>fcount k+fcountL r
end
mutual
def fdepth:Formula→Nat
 | .mk _ _ _ _ exprs kids=>1+max (edepthL exprs) (fdepthL kids)
def fdepthL:List Formula→Nat
 | []=>0
 | k::r=>max (fdepth k) (fdepthL r)
end
mutual
def xcount:Sexpr→Nat
 | .mk _ _ _ _ _ kids=>1+xcountL kids
def xcountL:List Sexpr→Nat
 | []=>0
 | k::r=>xcount k+xcountL r
end
mutual
def xdepth:Sexpr→Nat
 | .mk kind _ _ _ _ kids=>xdepthL kids+(if kind=3 then 1 else 0)
def xdepthL:List Sexpr→Nat
 | []=>0
 | k::r=>max (xdepth k) (xdepthL r)
end
theorem Ybx (e:Expr):ecount e=1+ecountL e.kids:=by cases e;simp [ecount,Expr.kids]
theorem Yct (e:Expr):edepth e=1+edepthL e.kids:=by cases e;simp [edepth,Expr.kids]
theorem Ycr (f:Formula):fcount f=1+ecountL f.exprs+fcountL f.kids:=by cases f;simp [fcount,Formula.kids,Formula.exprs]
theorem Yd3 (f:Formula):fdepth f=1+max (edepthL f.exprs) (fdepthL f.kids):=by cases f;simp [fdepth,Formula.kids,Formula.exprs]
theorem WD (x:Sexpr):xcount x=1+xcountL x.kids:=by cases x;simp [xcount,Sexpr.kids]
theorem YaO (x:Sexpr):xdepth x=xdepthL x.kids+(if x.kind=3 then 1 else 0):=by cases x;rw [xdepth];rfl
theorem Ygo {l:List Expr} {x:Expr}:ecountL (l++ [x])=ecountL l+ecount x:=by
 induction l with
 | nil=>simp [ecountL]
 | cons a r ih=>simp only [List.cons_append,ecountL,ih];omega
theorem Ygm {l:List Formula} {x:Formula}:fcountL (l++ [x])=fcountL l+fcount x:=by
 induction l with
 | nil=>simp [fcountL]
 | cons a r ih=>simp only [List.cons_append,fcountL,ih];omega
theorem YfF {l:List Sexpr} {x:Sexpr}:xcountL (l++ [x])=xcountL l+xcount x:=by
 induction l with
 | nil=>simp [xcountL]
 | cons a r ih=>simp only [List.cons_append,xcountL,ih];omega
theorem YfE {l:List Sexpr} {x:Sexpr}:xdepthL (l++ [x])=max (xdepthL l) (xdepth x):=by
 induction l with
 | nil=>simp [xdepthL]
 | cons a r ih=>simp only [List.cons_append,xdepthL,ih];omega
theorem Yeq {l m:List Expr}:ecountL (l++m)=ecountL l+ecountL m:=by
 induction l with
 | nil=>simp [ecountL]
 | cons a r ih=>simp only [List.cons_append,ecountL,ih];omega
theorem Yep {l m:List Formula}:fcountL (l++m)=fcountL l+fcountL m:=by
 induction l with
 | nil=>simp [fcountL]
 | cons a r ih=>simp only [List.cons_append,fcountL,ih];omega
theorem X1 {l m:List Sexpr}:xcountL (l++m)=xcountL l+xcountL m:=by
 induction l with
 | nil=>simp [xcountL]
 | cons a r ih=>simp only [List.cons_append,xcountL,ih];omega
theorem Yeh {l m:List Sexpr}:xdepthL (l++m)=max (xdepthL l) (xdepthL m):=by
 induction l with
 | nil=>simp [xdepthL]
 | cons a r ih=>simp only [List.cons_append,xdepthL,ih];omega
theorem Wm {l:List Sexpr} {x:Sexpr} (h:x∈l):xcount x≤xcountL l:=by
 induction l with
 | nil=>cases h
 | cons a r ih=>
  simp only [xcountL]
  rcases List.mem_cons.1 h with rfl | h
  ·omega
  ·have:=ih h;omega
theorem YeL {l:List Expr} {b:Nat}:edepthL l≤b↔∀ x∈l,edepth x≤b:=by
 induction l with
 | nil=>simp [edepthL]
 | cons a r ih=>simp only [edepthL,List.mem_cons,forall_eq_or_imp,Nat.max_le,ih]
theorem YeK {l:List Formula} {b:Nat}:fdepthL l≤b↔∀ x∈l,fdepth x≤b:=by
 induction l with
 | nil=>simp [fdepthL]
 | cons a r ih=>simp only [fdepthL,List.mem_cons,forall_eq_or_imp,Nat.max_le,ih]
theorem XF {l:List Sexpr} {b:Nat}:xdepthL l≤b↔∀ x∈l,xdepth x≤b:=by
 induction l with
 | nil=>simp [xdepthL]
 | cons a r ih=>simp only [xdepthL,List.mem_cons,forall_eq_or_imp,Nat.max_le,ih]
theorem Ydv {l:List Sexpr}:l.length≤xcountL l:=by
 induction l with
 | nil=>simp
 | cons a r ih=>simp only [List.length_cons,xcountL,WD a];omega
theorem Ybz {l:List Expr} {k:Nat} {x:Expr} (hx:l[k]?=some x):ecountL (l.take (k+1))=ecountL (l.take k)+ecount x:=by
 rw [List.take_add_one,hx];simp only [Option.toList];exact Ygo
theorem Yby {l:List Expr} {k:Nat}:ecountL (l.take k)≤ecountL l:=by
 have h:=Yeq (l:=l.take k) (m:=l.drop k)
 rw [List.take_append_drop] at h;omega
theorem Ydd {l:List Formula} {k:Nat} {x:Formula} (hx:l[k]?=some x):fcountL (l.take (k+1))=fcountL (l.take k)+fcount x:=by
 rw [List.take_add_one,hx];simp only [Option.toList];exact Ygm
theorem Ydc {l:List Formula} {k:Nat}:fcountL (l.take k)≤fcountL l:=by
 have h:=Yep (l:=l.take k) (m:=l.drop k)
 rw [List.take_append_drop] at h;omega
theorem Yc4 {l:List Sexpr} {k:Nat} {x:Sexpr} (hx:l[k]?=some x):xcountL (l.take (k+1))=xcountL (l.take k)+xcount x:=by
 rw [List.take_add_one,hx];simp only [Option.toList];exact YfF
theorem YaA {l:List Sexpr} {k:Nat}:xcountL (l.take k)≤xcountL l:=by
 have h:=X1 (l:=l.take k) (m:=l.drop k)
 rw [List.take_append_drop] at h;omega
mutual
/-- what holds of all parts -/
def EAll (p:Expr→Prop):Expr→Prop
 | .mk op name n args kids=>p (.mk op name n args kids)∧EAllL p kids
def EAllL (p:Expr→Prop):List Expr→Prop
 | []=>True
 | k::r=>EAll p k∧EAllL p r
end
mutual
def FAll (p:Formula→Prop) (q:Expr→Prop):Formula→Prop
 | .mk op name args params exprs kids=>p (.mk op name args params exprs kids)∧EAllL q exprs∧FAllL p q kids
def FAllL (p:Formula→Prop) (q:Expr→Prop):List Formula→Prop
 | []=>True
 | k::r=>FAll p q k∧FAllL p q r
end
mutual
def XAll (p:Sexpr→Prop):Sexpr→Prop
 | .mk kind value line column text kids=>p (.mk kind value line column text kids)∧XAllL p kids
def XAllL (p:Sexpr→Prop):List Sexpr→Prop
 | []=>True
 | k::r=>XAll p k∧XAllL p r
end
theorem YgB {p:Expr→Prop} {l:List Expr}:EAllL p l↔∀ k∈l,EAll p k:=by
 induction l with
 | nil=>simp [EAllL]
 | cons a r ih=>simp only [EAllL,ih,List.mem_cons,forall_eq_or_imp]
theorem Yki {p:Formula→Prop} {q:Expr→Prop} {l:List Formula}:FAllL p q l↔∀ k∈l,FAll p q k:=by
 induction l with
 | nil=>simp [FAllL]
 | cons a r ih=>simp only [FAllL,ih,List.mem_cons,forall_eq_or_imp]
theorem YbC {p:Sexpr→Prop} {l:List Sexpr}:XAllL p l↔∀ k∈l,XAll p k:=by
 induction l with
 | nil=>simp [XAllL]
 | cons a r ih=>simp only [XAllL,ih,List.mem_cons,forall_eq_or_imp]
theorem WZ {p:Expr→Prop} {e:Expr}:EAll p e↔p e∧∀ k∈e.kids,EAll p k:=by cases e;simp only [EAll,YgB,Expr.kids]
theorem Wl {p:Formula→Prop} {q:Expr→Prop} {f:Formula}:FAll p q f↔p f∧(∀ e∈f.exprs,EAll q e)∧∀ k∈f.kids,FAll p q k:=by cases f;simp only [FAll,Yki,YgB,Formula.kids,Formula.exprs]
theorem Xq {p:Sexpr→Prop} {x:Sexpr}:XAll p x↔p x∧∀ k∈x.kids,XAll p k:=by cases x;simp only [XAll,YbC,Sexpr.kids]
end Go.Lx
set_option maxRecDepth 20000
namespace Go.Lx
theorem Ydn {P:Program} {cx:Cx} {r:Operand→Option Value} {fz:FZ} {H:HP} {V:Value→Prop} {dst:Option Nat} {ty:TypeId} {pos:String} {af:Array Edge} {gd:Option (Nat × Bool)} {f:FuncId} {ff:Operand} {xs:List Operand} {ats:Array TypeId} {us vs first capt:List Value} {p:Prop} [Decidable p] (hf:r ff=some (.func (.func f) first.toArray capt.toArray)) (hx:rds r xs=some us) (hv:first++us++capt=vs) (hq:QFn P f vs fz (.bool (decide p)))
 (h1:p→V (.bool true)) (h2:¬p→V (.bool false)):DoesQ P cx ⟨dst,.call {callee:=.value ff,args:=xs.toArray,argTypes:=ats},ty,pos,af,gd⟩ r fz H V:=
 q_callv hf hx hv hq (YeU h1 h2)
end Go.Lx
namespace Go.Proofs.YtbhlgkibgajajaaGreatDoor
open Go.Lx Go.RowKit
attribute [local instance 10] Classical.propDecidable
theorem Yh8 {p:Prop} [Decidable p]:Value.bool (!decide p)=Value.bool (decide (¬p)):=by rw [decide_not]
theorem indexF_q {fz:FZ} {A:Option Addr} {n c:Nat} {l:List ByteArray} {ff:FuncId} {p:ByteArray→Prop} [DecidablePred p] (h1:Sl strL fz A n c l) (hq:∀ x,Short x→QFn Tryz.prog ff [.string x] fz (.bool (decide (p x)))):
 QFn Tryz.prog 216 [.slice A n c,.func (.func ff) #[] #[]] fz (.int .i64 (Ybk p l 0)):=by
 refine GFn.quiet ?_
 (refine GFn.of_wp Tryz.func216 rfl Tryz.ntmps216 rfl rfl (fun w0=>?_))
 have l1:=h1.len
 have hm:=h1.short
 ((repeat (first | refine zS ?_ | refine zA fun _=>?_)))
 (refine YD (fun q σ fz' H'=>∃ k:Nat,k≤n∧q=n - k∧σ=[(8,.int .i64 k),(7,.int .i64 n),(0,.slice A n c),(1,.func (.func ff) #[] #[])]∧fz=fz'∧H'=[]∧(∀ i,i<k→∀ x,l[i]?=some x→¬p x)) ⟨0,Nat.zero_le _,rfl,rfl,rfl,rfl,(fun i hi=>absurd hi Zi)⟩ (Zw) (Zb) ?_;rintro q σ fz' H' ⟨k,hk,rfl,rfl,rfl,rfl,hh⟩)
 ((repeat (first | refine zS ?_ | refine zA fun _=>?_)))
 ((refine zG ?_;refine zC (fun hlt=>?_) (fun hge=>?_)))
 ·((repeat (first | refine zS ?_ | refine zA fun _=>?_)))
  obtain ⟨x,hx⟩:=YG (l:=l) (k:=k) Zi
  (((refine zG ?_));refine YA T k Zz Zz Zz Zz Zz Zz h1 (by first | rfl | omega) hx (fun a ha=>?_))
  (((refine zG ?_));refine Y9 T Zz Zz Zz ha (fun iy=>?_))
  ((repeat (first | refine zS ?_ | refine zA fun _=>?_)))
  (((refine zG ?_));refine Ydn Zz Zz Zz (hq x iy) (fun c1=>?_) (fun c1=>?_))
  ·((repeat (first | refine zS ?_ | refine zA fun _=>?_)))
   (exact ret1 rfl rfl (Zb) (by rw [Ycq hh hx c1,Int.zero_add]))
  ·((repeat (first | refine zS ?_ | refine zA fun _=>?_)))
   (exact YP ⟨k+1,by omega,rfl,rfl,rfl,rfl,(YZ hh hx c1)⟩ Zi (Zw) (Zb))
 ·((repeat (first | refine zS ?_ | refine zA fun _=>?_)))
  (exact ret1 rfl rfl (Zb) (by rw [Ybf (XW hh Zi)]))
theorem Ybh {fz:FZ} {A:Option Addr} {n c:Nat} {l:List ByteArray} {ff:FuncId} {p:ByteArray→Prop} [DecidablePred p] (h1:Sl strL fz A n c l) (hq:∀ x,Short x→QFn Tryz.prog ff [.string x] fz (.bool (decide (p x)))):
 QFn Tryz.prog 162 [.slice A n c,.func (.func ff) #[] #[]] fz (.bool (decide (∃ x∈l,p x))):=by
 refine GFn.quiet ?_
 (refine GFn.of_wp Tryz.func162 rfl Tryz.ntmps162 rfl rfl (fun w0=>?_))
 ((repeat (first | refine zS ?_ | refine zA fun _=>?_)))
 (((refine zG ?_));refine Yj Zz Zz (indexF_q h1 hq) ?_)
 ((refine zG ?_;refine zC (fun c1=>?_) (fun c1=>?_)))
 ·((repeat (first | refine zS ?_ | refine zA fun _=>?_)))
  (exact ret1 rfl rfl (Zb) (Yw ((WV (Int.le_refl 0)).1 c1)))
 ·((repeat (first | refine zS ?_ | refine zA fun _=>?_)))
  (exact ret1 rfl rfl (Zb) (Ya (fun h=>c1 ((WV (Int.le_refl 0)).2 h))))
theorem YfP {fz:FZ} {s:ByteArray} (hs:Short s):QFn Tryz.prog 213 [.string s] fz (.bool (decide (¬YbE s))):=by
 refine GFn.quiet ?_
 (refine GFn.of_wp Tryz.func213 rfl Tryz.ntmps213 rfl rfl (fun w0=>?_))
 ((repeat (first | refine zS ?_ | refine zA fun _=>?_)))
 (((refine zG ?_));refine Yj Zz Zz (term_q hs) ?_)
 ((repeat (first | refine zS ?_ | refine zA fun _=>?_)))
 (exact ret1 rfl rfl (Zb) Yh8)
theorem YjK {fz:FZ} {s:ByteArray} (hs:Short s):QFn Tryz.prog 247 [.string s] fz (.bool (decide (¬YbE s))):=by
 refine GFn.quiet ?_
 (refine GFn.of_wp Tryz.func247 rfl Tryz.ntmps247 rfl rfl (fun w0=>?_))
 ((repeat (first | refine zS ?_ | refine zA fun _=>?_)))
 (((refine zG ?_));refine Yj Zz Zz (term_q hs) ?_)
 ((repeat (first | refine zS ?_ | refine zA fun _=>?_)))
 (exact ret1 rfl rfl (Zb) Yh8)
def budO (c:Int):Obj:=.cells #[.int .i64 c] 212 (0,0)
theorem take_q {fz:FZ} {g:Nat} {c d:Nat} (hc:c≤5000):GFn Tryz.prog 212 [.pointer (some ⟨g,0,none⟩),.int .i64 d] fz [(g,budO c)] (fun v fz' H'=>Le fz fz'∧H'=[(g,budO (c+1:Nat))]∧∃ b:Bool,v=.bool b∧(b=true↔c+1≤4096∧d≤32)):=by
 unfold budO
 (refine GFn.of_wp Tryz.func212 rfl Tryz.ntmps212 rfl rfl (fun w0=>?_))
 ((repeat (first | refine zS ?_ | refine zA fun _=>?_)))
 ((refine zG ?_;refine zC (fun c1=>?_) (fun c1=>?_)))
 ·((repeat (first | refine zS ?_ | refine zA fun _=>?_)))
  ((refine zG ?_;refine zC (fun c2=>?_) (fun c2=>?_)))
  ·((repeat (first | refine zS ?_ | refine zA fun _=>?_)))
   exact ret1 rfl rfl (Zb) ⟨Le.refl _,rfl,true,rfl,iff_of_true rfl ⟨by omega,by omega⟩⟩
  ·((repeat (first | refine zS ?_ | refine zA fun _=>?_)))
   exact ret1 rfl rfl (Zb) ⟨Le.refl _,rfl,false,rfl,iff_of_false (by simp) (fun h=>c2 Zi)⟩
 ·((repeat (first | refine zS ?_ | refine zA fun _=>?_)))
  exact ret1 rfl rfl (Zb) ⟨Le.refl _,rfl,false,rfl,iff_of_false (by simp) (fun h=>c1 Zi)⟩
def kPlus:ByteArray:=⟨#[43]⟩
def kStar:ByteArray:=⟨#[42]⟩
def BinP (s:ByteArray):Prop:=s=kPlus∨s=X7∨s=kStar
def Yc1 (e:Lx.Expr):Prop:=
 (e.op=kNumber∧e.name=Xx∧e.args=[]∧e.kids=[]∧YcB e.n)∨(e.op=kFluent∧e.n=0∧e.kids=[]∧Xn e.name∧∀ s∈e.args,YbE s)∨(BinP e.op∧e.n=0∧e.name=Xx∧e.args=[]∧e.kids.length=2)
abbrev EOk (e:Lx.Expr):Prop:=EAll Yc1 e
theorem Yd4 {e:Lx.Expr} (h:e.op=kNumber):Yc1 e↔e.name=Xx∧e.args=[]∧e.kids=[]∧YcB e.n:=by
 unfold Yc1 BinP
 rw [h]
 refine ⟨fun h=>?_,fun h=>.inl ⟨rfl,h⟩⟩
 rcases h with h | h | h
 ·exact h.2
 ·exact absurd (congrArg (fun s=>WP s 0) h.1) Zh
 ·rcases h.1 with h | h | h<;>exact absurd (congrArg ByteArray.size h) Zh
theorem Yd5 {e:Lx.Expr} (h:e.op=kFluent):Yc1 e↔e.n=0∧e.kids=[]∧Xn e.name∧∀ s∈e.args,YbE s:=by
 unfold Yc1 BinP
 rw [h]
 refine ⟨fun h=>?_,fun h=>.inr (.inl ⟨rfl,h⟩)⟩
 rcases h with h | h | h
 ·exact absurd (congrArg (fun s=>WP s 0) h.1) Zh
 ·exact h.2
 ·rcases h.1 with h | h | h<;>exact absurd (congrArg ByteArray.size h) Zh
theorem Yd6 {e:Lx.Expr} (h1:¬e.op=kNumber) (h2:¬e.op=kFluent):Yc1 e↔BinP e.op∧e.n=0∧e.name=Xx∧e.args=[]∧e.kids.length=2:=
 ⟨fun h=>by rcases h with h | h | h;exact absurd h.1 h1;exact absurd h.1 h2;exact h,fun h=>.inr (.inr h)⟩
def EBud (g:Nat) (e:Lx.Expr) (d c:Nat) (v:Value) (H':HP):Prop:=
 ∃ (b:Bool) (c':Int),v=.bool b∧H'=[(g,budO c')]∧(b=true→c'=((c+ecount e:Nat):Int))∧(b=true↔EOk e∧d+edepth e≤33∧c+ecount e≤4096)
theorem Yfs {g:Nat} {e:Lx.Expr} {d c:Nat} {c':Int} (h:¬(EOk e∧d+edepth e≤33∧c+ecount e≤4096)):EBud g e d c (.bool false) [(g,budO c')]:=⟨false,c',rfl,rfl,(by simp),iff_of_false (by simp) h⟩
theorem Ygp {g:Nat} {e:Lx.Expr} {d c:Nat} (h:Yc1 e) (hk:e.kids=[]) (ht:c+1≤4096∧d≤32):EBud g e d c (.bool true) [(g,budO (c+1:Nat))]:=by
 have h1:ecount e=1:=by rw [Ybx,hk];simp [ecountL]
 have h2:edepth e=1:=by rw [Yct,hk];simp [edepthL]
 exact ⟨true,_,rfl,rfl,fun _=>by rw [h1],iff_of_true rfl ⟨WZ.2 ⟨h,by rw [hk];simp⟩,by omega,by omega⟩⟩
theorem len0 {α:Type} {l:List α} {n:Nat} (h:l.length=n):(n:Int)=0↔l=[]:=by
 constructor
 ·intro h0;exact List.eq_nil_of_length_eq_zero Zi
 ·intro h0;subst h0;simp at h;omega
set_option maxHeartbeats 1000000 in
theorem Yfm:∀ (s:Nat) {fz:FZ} {e:Lx.Expr} {va vk:Value} {g d c:Nat},SizeOf.sizeOf e≤s→ExprR fz e va vk→d≤33→c≤4096→
 GFn Tryz.prog 215 [.agg #[.string e.op,.string e.name,.int .i64 e.n,va,vk],.int .i64 d,.pointer (some ⟨g,0,none⟩)] fz [(g,budO c)] (fun v fz' H'=>Le fz fz'∧EBud g e d c v H')
 | 0,_,e,_,_,_,_,_,hs,_,_,_=>by cases e;simp at hs
 | s+1,fz,e,va,vk,g,d,c,hs,h,hd,hc=>by
  obtain ⟨A,n,ca,rfl,ha⟩:=h.args
  obtain ⟨B,m,cb,rfl,hk⟩:=h.kids
  have no:∀ {c':Int},¬Yc1 e→EBud g e d c (.bool false) [(g,budO c')]:=fun h0=>Yfs (fun h1=>h0 (WZ.1 h1.1).1)
  (refine GFn.of_wp Tryz.func215 rfl Tryz.ntmps215 rfl rfl (fun w0=>?_))
  (refine Yr (Yp (Yb Zz (Xi _ Zz Zz (fun g0=>?_)))))
  (first | refine Wp.perm (List.Perm.swap _ _ _) ?_ | refine Seq.perm (List.Perm.swap _ _ _) ?_)
  ((repeat (first | refine zS ?_ | refine zA fun _=>?_)))
  (refine Yb Zz (YB [_] [_] Zz Zz Zz (take_q Zi) (fun v fz2 H2 hle2 hR=>?_)))
  obtain ⟨hle3,rfl,b,rfl,hb⟩:=hR
  cases b
  ·((repeat (first | refine zS ?_ | refine zA fun _=>?_)))
   (exact ret1 rfl rfl (Zb) ⟨hle2,Yfs (fun h0=>by
    have h1:=Ybx e
    have h2:=Yct e
    exact absurd (hb.2 ⟨by omega,by omega⟩) (by simp))⟩)
  ·have ht:=hb.1 rfl
   ((repeat (first | refine zS ?_ | refine zA fun _=>?_)))
   ((refine zG ?_;refine zC (fun x1=>?_) (fun y1=>?_)))
   ·have hn:=Yd4 (e:=e) x1
    ((repeat (first | refine zS ?_ | refine zA fun _=>?_)))
    ((((refine zG ?_;refine zC (fun n1=>?_) (fun n1=>?_)));rotate_left 1;(((repeat (first | refine zS ?_ | refine zA fun _=>?_)));(exact ret1 rfl rfl (Zb) ⟨hle2,no (fun h0=>n1 (hn.1 h0).1)⟩));((repeat (first | refine zS ?_ | refine zA fun _=>?_)))))
    ((((refine zG ?_;refine zC (fun n2=>?_) (fun n2=>?_)));rotate_left 1;(((repeat (first | refine zS ?_ | refine zA fun _=>?_)));(exact ret1 rfl rfl (Zb) ⟨hle2,no (fun h0=>n2 ((len0 ha.len).2 (hn.1 h0).2.1))⟩));((repeat (first | refine zS ?_ | refine zA fun _=>?_)))))
    ((((refine zG ?_;refine zC (fun n3=>?_) (fun n3=>?_)));rotate_left 1;(((repeat (first | refine zS ?_ | refine zA fun _=>?_)));(exact ret1 rfl rfl (Zb) ⟨hle2,no (fun h0=>n3 ((len0 hk.len).2 (hn.1 h0).2.2.1))⟩));((repeat (first | refine zS ?_ | refine zA fun _=>?_)))))
    ((((refine zG ?_;refine zC (fun n4=>?_) (fun n4=>?_)));rotate_left 1;(((repeat (first | refine zS ?_ | refine zA fun _=>?_)));(exact ret1 rfl rfl (Zb) ⟨hle2,no (fun h0=>n4 (hn.1 h0).2.2.2.1)⟩));((repeat (first | refine zS ?_ | refine zA fun _=>?_)))))
    ((((refine zG ?_;refine zC (fun n5=>?_) (fun n5=>?_)));rotate_left 1;(((repeat (first | refine zS ?_ | refine zA fun _=>?_)));(exact ret1 rfl rfl (Zb) ⟨hle2,no (fun h0=>n5 (hn.1 h0).2.2.2.2)⟩));((repeat (first | refine zS ?_ | refine zA fun _=>?_)))))
    (exact ret1 rfl rfl (Zb) ⟨hle2,Ygp (hn.2 ⟨n1,(len0 ha.len).1 n2,(len0 hk.len).1 n3,n4,n5⟩) ((len0 hk.len).1 n3) ht⟩)
   ·((repeat (first | refine zS ?_ | refine zA fun _=>?_)))
    ((refine zG ?_;refine zC (fun x2=>?_) (fun y2=>?_)))
    ·have hn:=Yd5 (e:=e) x2
     ((repeat (first | refine zS ?_ | refine zA fun _=>?_)))
     ((((refine zG ?_;refine zC (fun n1=>?_) (fun n1=>?_)));rotate_left 1;(((repeat (first | refine zS ?_ | refine zA fun _=>?_)));(exact ret1 rfl rfl (Zb) ⟨hle2,no (fun h0=>n1 (hn.1 h0).1)⟩));((repeat (first | refine zS ?_ | refine zA fun _=>?_)))))
     ((((refine zG ?_;refine zC (fun n2=>?_) (fun n2=>?_)));rotate_left 1;(((repeat (first | refine zS ?_ | refine zA fun _=>?_)));(exact ret1 rfl rfl (Zb) ⟨hle2,no (fun h0=>n2 ((len0 hk.len).2 (hn.1 h0).2.1))⟩));((repeat (first | refine zS ?_ | refine zA fun _=>?_)))))
     (((refine zG ?_));refine Yz Zz Zz (W6 h.name) (fun f1=>?_) (fun f1=>?_))
     ·((repeat (first | refine zS ?_ | refine zA fun _=>?_)))
      (((refine zG ?_));refine Yz Zz Zz (Ybh (ha.mono hle2) (fun x hx=>YjK hx)) (fun f2=>?_) (fun f2=>?_))
      ·((repeat (first | refine zS ?_ | refine zA fun _=>?_)))
       (exact ret1 rfl rfl (Zb) ⟨hle2,no (fun h0=>by
        obtain ⟨x,hx,hx2⟩:=of_decide_eq_true f2
        exact hx2 ((hn.1 h0).2.2.2 x hx))⟩)
      ·((repeat (first | refine zS ?_ | refine zA fun _=>?_)))
       (exact ret1 rfl rfl (Zb) ⟨hle2,Ygp (hn.2 ⟨n1,(len0 hk.len).1 n2,of_decide_eq_true f1,fun x hx=>Classical.byContradiction fun h0=>of_decide_eq_false f2 ⟨x,hx,h0⟩⟩) ((len0 hk.len).1 n2) ht⟩)
     ·((repeat (first | refine zS ?_ | refine zA fun _=>?_)))
      (exact ret1 rfl rfl (Zb) ⟨hle2,no (fun h0=>of_decide_eq_false f1 (hn.1 h0).2.2.1)⟩)
    ·((repeat (first | refine zSO ?_ | refine zA fun _=>?_)))
     refine Wp.cond_false Zz ?_
     refine Yr (Wp.mid (fun σ fz' H'=>∃ b:Bool,σ=[(62,.bool b),(3,.pointer (some ⟨g0,0,none⟩)),(2,.pointer (some ⟨g,0,none⟩)),(1,.int .i64 d)]∧fz2=fz'∧H'=[(g,budO (c+1:Nat)),(g0,.cells #[.string e.op,.string e.name,.int .i64 e.n,.slice A n ca,.slice B m cb] 75 (0,0))]∧(b=true↔BinP e.op)) ?_ ?_)
     ·((repeat (first | refine zS ?_ | refine zA fun _=>?_)))
      ((refine zG ?_;refine zC (fun p1=>?_) (fun p1=>?_)))
      ·((repeat (first | refine zS ?_ | refine zA fun _=>?_)))
       exact midN ⟨true,rfl,rfl,rfl,iff_of_true rfl (.inl p1)⟩ (Zw) (Zb)
      ·((repeat (first | refine zS ?_ | refine zA fun _=>?_)))
       ((refine zG ?_;refine zC (fun p2=>?_) (fun p2=>?_)))
       ·((repeat (first | refine zS ?_ | refine zA fun _=>?_)))
        exact midN ⟨true,rfl,rfl,rfl,iff_of_true rfl (.inr (.inl p2))⟩ (Zw) (Zb)
       ·((repeat (first | refine zS ?_ | refine zA fun _=>?_)))
        ((refine zG ?_;refine zC (fun p3=>?_) (fun p3=>?_)))
        ·((repeat (first | refine zS ?_ | refine zA fun _=>?_)))
         exact midN ⟨true,rfl,rfl,rfl,iff_of_true rfl (.inr (.inr p3))⟩ (Zw) (Zb)
        ·((repeat (first | refine zS ?_ | refine zA fun _=>?_)))
         exact midN ⟨false,rfl,rfl,rfl,iff_of_false (by simp) (fun h0=>h0.elim p1 (fun h0=>h0.elim p2 p3))⟩ (Zw) (Zb)
     ·rintro σ fz' H' ⟨b,rfl,rfl,rfl,hbp⟩
      have hn:=Yd6 (e:=e) y1 y2
      cases b
      ·((repeat (first | refine zS ?_ | refine zA fun _=>?_)))
       (exact ret1 rfl rfl (Zb) ⟨hle2,no (fun h0=>absurd (hbp.2 (hn.1 h0).1) (by simp))⟩)
      ·have lk:=hk.len
       ((repeat (first | refine zS ?_ | refine zA fun _=>?_)))
       ((((refine zG ?_;refine zC (fun n1=>?_) (fun n1=>?_)));rotate_left 1;(((repeat (first | refine zS ?_ | refine zA fun _=>?_)));(exact ret1 rfl rfl (Zb) ⟨hle2,no (fun h0=>n1 (hn.1 h0).2.1)⟩));((repeat (first | refine zS ?_ | refine zA fun _=>?_)))))
       ((((refine zG ?_;refine zC (fun n2=>?_) (fun n2=>?_)));rotate_left 1;(((repeat (first | refine zS ?_ | refine zA fun _=>?_)));(exact ret1 rfl rfl (Zb) ⟨hle2,no (fun h0=>n2 (hn.1 h0).2.2.1)⟩));((repeat (first | refine zS ?_ | refine zA fun _=>?_)))))
       ((((refine zG ?_;refine zC (fun n3=>?_) (fun n3=>?_)));rotate_left 1;(((repeat (first | refine zS ?_ | refine zA fun _=>?_)));(exact ret1 rfl rfl (Zb) ⟨hle2,no (fun h0=>n3 ((len0 ha.len).2 (hn.1 h0).2.2.2.1))⟩));((repeat (first | refine zS ?_ | refine zA fun _=>?_)))))
       ((((refine zG ?_;refine zC (fun n4=>?_) (fun n4=>?_)));rotate_left 1;(((repeat (first | refine zS ?_ | refine zA fun _=>?_)));(exact ret1 rfl rfl (Zb) ⟨hle2,no (fun h0=>n4 (by have:=(hn.1 h0).2.2.2.2;omega))⟩));((repeat (first | refine zS ?_ | refine zA fun _=>?_)))))
       have hN:Yc1 e:=hn.2 ⟨hbp.1 rfl,n1,n2,(len0 ha.len).1 n3,by omega⟩
       obtain ⟨a,b,hab⟩:∃ a b,e.kids=[a,b]:=by
        match hK:e.kids,(show e.kids.length=2 by omega) with
        | [a,b],_=>exact ⟨a,b,rfl⟩
       have la:=Lx.Expr.kids_lt (x:=e) (k:=a) (by rw [hab];simp)
       have lb:=Lx.Expr.kids_lt (x:=e) (k:=b) (by rw [hab];simp)
       have hcnt:ecount e=1+(ecount a+ecount b):=by rw [Ybx,hab];simp [ecountL]
       have hdep:edepth e=1+max (edepth a) (edepth b):=by rw [Yct,hab];simp [edepthL]
       have hall:EOk e↔EOk a∧EOk b:=by
        refine (WZ (p:=Yc1) (e:=e)).trans ?_
        rw [hab]
        simp only [List.mem_cons,List.not_mem_nil,or_false,forall_eq_or_imp,forall_eq]
        exact ⟨fun h0=>h0.2,fun h0=>⟨hN,h0⟩⟩
       have hk2:=hk.mono hle2
       (((refine zG ?_));refine YA T 0 Zz Zz Zz Zz Zz Zz hk2 (by first | rfl | omega) (by rw [hab];rfl:e.kids[0]?=some a) (fun p hp=>?_))
       (((refine zG ?_));refine Yx T Zz Zz Zz hp Zz ?_)
       intro cs hcs
       obtain ⟨wa,wk,rfl,hRa⟩:=YU hcs
       ((repeat (first | refine zS ?_ | refine zA fun _=>?_)))
       refine Seq.guard_yesK Zz Zz Zz (YB [_] [_] Zz Zz Zz (Yfm s (e:=a) (d:=d+1) (c:=c+1) Zi hRa Zi Zi) (fun v4 fz4 H4 hle4 hR4=>?_))
       obtain ⟨_,b1,c1,rfl,rfl,hc1,hb1⟩:=hR4
       cases b1
       ·((repeat (first | refine zS ?_ | refine zA fun _=>?_)))
        (exact ret1 rfl rfl (Zb) ⟨hle2.trans hle4,Yfs (fun h0=>absurd (hb1.2 ⟨(hall.1 h0.1).1,by omega,by omega⟩) (by simp))⟩)
       ·have hc1:=hc1 rfl
        have hb1:=hb1.1 rfl
        subst hc1
        ((repeat (first | refine zS ?_ | refine zA fun _=>?_)))
        (((refine zG ?_));refine YA T 1 Zz Zz Zz Zz Zz Zz (hk2.mono hle4) (by first | rfl | omega) (by rw [hab];rfl:e.kids[1]?=some b) (fun p2 hp2=>?_))
        (((refine zG ?_));refine Yx T Zz Zz Zz hp2 Zz ?_)
        intro cs2 hcs2
        obtain ⟨za,zk,rfl,hRb⟩:=YU hcs2
        ((repeat (first | refine zS ?_ | refine zA fun _=>?_)))
        refine Seq.guard_yesK Zz Zz Zz (YB [_] [_] Zz Zz Zz (Yfm s (e:=b) (d:=d+1) (c:=c+1+ecount a) Zi hRb Zi Zi) (fun v5 fz5 H5 hle5 hR5=>?_))
        obtain ⟨_,b2,c2,rfl,rfl,hc2,hb2⟩:=hR5
        cases b2
        ·((repeat (first | refine zS ?_ | refine zA fun _=>?_)))
         (exact ret1 rfl rfl (Zb) ⟨hle2.trans (hle4.trans hle5),Yfs (fun h0=>absurd (hb2.2 ⟨(hall.1 h0.1).2,by omega,by omega⟩) (by simp))⟩)
        ·have hc2:=hc2 rfl
         have hb2:=hb2.1 rfl
         subst hc2
         ((repeat (first | refine zS ?_ | refine zA fun _=>?_)))
         (exact ret1 rfl rfl (Zb) ⟨hle2.trans (hle4.trans hle5),true,_,rfl,rfl,fun _=>by omega,iff_of_true rfl ⟨hall.2 ⟨hb1.1,hb2.1⟩,by omega,by omega⟩⟩)
theorem YhO {fz:FZ} {e:Lx.Expr} {va vk:Value} {g d c:Nat} (h:ExprR fz e va vk) (hd:d≤33) (hc:c≤4096):
 GFn Tryz.prog 215 [.agg #[.string e.op,.string e.name,.int .i64 e.n,va,vk],.int .i64 d,.pointer (some ⟨g,0,none⟩)] fz [(g,budO c)] (fun v fz' H'=>Le fz fz'∧EBud g e d c v H'):=Yfm _ (Nat.le_refl _) h hd hc
end Go.Proofs.YtbhlgkibgajajaaGreatDoor
set_option maxRecDepth 20000
namespace Go.Proofs.YtbhlgkibgajajaaGreatDoor
open Go.Lx Go.RowKit
attribute [local instance 10] Classical.propDecidable
def kOr:ByteArray:=⟨#[111,114]⟩
def kNot:ByteArray:=⟨#[110,111,116]⟩
def kImply:ByteArray:=⟨#[105,109,112,108,121]⟩
noncomputable def Ydi (f:Formula):Option (Nat × Bool × Nat):=
 if f.op=kAtom∨f.op=kSame then some (0,false,0) else if CmpOp f.op then some (2,false,0) else if f.op=kAnd∨f.op=kOr then some (0,false,f.kids.length) else if f.op=kNot then some (0,false,1)
 else if f.op=kImply then some (0,false,2) else if f.op=XN∨f.op=We then some (0,true,1) else none
def Yhc (f:Formula):Prop:=(f.op=kAtom→Xn f.name)∧(f.op=kSame→f.name=Xx∧f.args.length=2)∧(f.op=kAtom∨f.op=kSame→∀ s∈f.args,YbE s)
def Yhb (f:Formula) (k:Nat × Bool × Nat):Prop:=(f.op≠kAtom→f.op≠kSame→f.name=Xx∧f.args=[])∧f.exprs.length=k.1∧f.kids.length=k.2.2∧(k.2.1=false→f.params=[])
def YcC (f:Formula):Prop:=Yhc f∧(∃ k,Ydi f=some k∧Yhb f k)∧∀ p∈f.params,VarP p.name∧Ygz p.typ
abbrev FOk (f:Formula):Prop:=FAll YcC Yc1 f
def FBud (g:Nat) (f:Formula) (d c:Nat) (v:Value) (H':HP):Prop:=
 ∃ (b:Bool) (c':Int),v=.bool b∧H'=[(g,budO c')]∧(b=true→c'=((c+fcount f:Nat):Int))∧(b=true↔FOk f∧d+fdepth f≤33∧c+fcount f≤4096)
theorem Yfo {g:Nat} {f:Formula} {d c:Nat} {c':Int} (h:¬(FOk f∧d+fdepth f≤33∧c+fcount f≤4096)):FBud g f d c (.bool false) [(g,budO c')]:=⟨false,c',rfl,rfl,(by simp),iff_of_false (by simp) h⟩
theorem WT {α:Type} {l:List α} {n:Nat} (h:l.length=n):(0:Int)<(n:Int)↔l≠ []:=by
 constructor
 ·intro h0 h1;subst h1;simp at h;omega
 ·intro h0;have:=List.length_pos_iff.2 h0;omega
set_option maxHeartbeats 4000000 in
theorem Yhq:∀ (s:Nat) {fz:FZ} {f:Formula} {va vp ve vk:Value} {g d c:Nat},SizeOf.sizeOf f≤s→FormulaR fz f va vp ve vk→d≤33→c≤4096→
 GFn Tryz.prog 158 [.agg #[.string f.op,.string f.name,va,vp,ve,vk],.int .i64 d,.pointer (some ⟨g,0,none⟩)] fz [(g,budO c)] (fun v fz' H'=>Le fz fz'∧FBud g f d c v H')
 | 0,_,e,_,_,_,_,_,_,_,hs,_,_,_=>by cases e;simp at hs
 | s+1,fz,f,va,vp,ve,vk,g,d,c,hs,h,hd,hc=>by
  obtain ⟨A,n,ca,rfl,ha⟩:=h.args
  obtain ⟨B,m,cb,rfl,hp⟩:=h.params
  obtain ⟨C,r,cr,rfl,he⟩:=h.exprs
  obtain ⟨D,q,cq,rfl,hk⟩:=h.kids
  have no:∀ {c':Int},¬YcC f→FBud g f d c (.bool false) [(g,budO c')]:=fun h0=>Yfo (fun h1=>h0 (Wl.1 h1.1).1)
  (refine GFn.of_wp Tryz.func158 rfl Tryz.ntmps158 rfl rfl (fun w0=>?_))
  (refine Yr (Yp (Yb Zz (Xi _ Zz Zz (fun g0=>?_)))))
  (first | refine Wp.perm (List.Perm.swap _ _ _) ?_ | refine Seq.perm (List.Perm.swap _ _ _) ?_)
  ((repeat (first | refine zS ?_ | refine zA fun _=>?_)))
  (refine Yb Zz (YB [_] [_] Zz Zz Zz (take_q Zi) (fun v fz2 H2 hle2 hR=>?_)))
  obtain ⟨hle3,rfl,b,rfl,hb⟩:=hR
  cases b
  ·((repeat (first | refine zS ?_ | refine zA fun _=>?_)))
   (exact ret1 rfl rfl (Zb) ⟨hle2,Yfo (fun h0=>by
    have h1:=Ycr f
    have h2:=Yd3 f
    exact absurd (hb.2 ⟨by omega,by omega⟩) (by simp))⟩)
  ·have ht:=hb.1 rfl
   ((repeat (first | refine zSO ?_ | refine zA fun _=>?_)))
   refine Wp.cond_false Zz ?_
   refine Wj ?_
   refine YbU ?_
   refine Yr (Yp ?_)
   ((repeat (first | refine zSO ?_ | refine zA fun _=>?_)))
   refine Yr (Wp.mid (fun σ fz' H'=>∃ (ex:Nat) (pa:Bool) (mn:Nat),σ=[(9,.int .i64 mn),(8,.bool pa),(7,.int .i64 ex),(3,.pointer (some ⟨g0,0,none⟩)),(2,.pointer (some ⟨g,0,none⟩)),(1,.int .i64 d)]∧fz2=fz'∧
    H'=[(g,budO (c+1:Nat)),(g0,.cells #[.string f.op,.string f.name,.slice A n ca,.slice B m cb,.slice C r cr,.slice D q cq] 36 (0,0))]∧Yhc f∧Ydi f=some (ex,pa,mn)) ?_ ?_)
   ·((repeat (first | refine zS ?_ | refine zA fun _=>?_)))
    ((refine zG ?_;refine zC (fun x1=>?_) (fun y1=>?_)))
    ·have y2:¬f.op=⟨#[115,97,109,101]⟩:=fun h0=>absurd (congrArg (fun s=>WP s 0) (x1.symm.trans h0)) Zh
     ((repeat (first | refine zS ?_ | refine zA fun _=>?_)))
     (((refine zG ?_));refine Yz Zz Zz (W6 h.name) (fun f1=>?_) (fun f1=>?_))
     ·((repeat (first | refine zS ?_ | refine zA fun _=>?_)))
      (((refine zG ?_));refine Yz Zz Zz (Ybh (ha.mono hle2) (fun x hx=>YfP hx)) (fun f2=>?_) (fun f2=>?_))
      ·((repeat (first | refine zS ?_ | refine zA fun _=>?_)))
       (exact ret1 rfl rfl (Zb) ⟨hle2,no (fun h0=>by
        obtain ⟨x,hx,hx2⟩:=of_decide_eq_true f2
        exact hx2 (h0.1.2.2 (.inl x1) x hx))⟩)
      ·((repeat (first | refine zS ?_ | refine zA fun _=>?_)))
       exact midN ⟨0,false,0,rfl,rfl,rfl,⟨fun _=>of_decide_eq_true f1,fun h0=>absurd h0 y2,fun _ x hx=>Classical.byContradiction fun h0=>of_decide_eq_false f2 ⟨x,hx,h0⟩⟩,if_pos (.inl x1)⟩ (Zw) (Zb)
     ·((repeat (first | refine zS ?_ | refine zA fun _=>?_)))
      (exact ret1 rfl rfl (Zb) ⟨hle2,no (fun h0=>of_decide_eq_false f1 (h0.1.1 x1))⟩)
    ·((repeat (first | refine zS ?_ | refine zA fun _=>?_)))
     ((refine zG ?_;refine zC (fun x2=>?_) (fun y2=>?_)))
     ·((repeat (first | refine zS ?_ | refine zA fun _=>?_)))
      ((refine zG ?_;refine zC (fun n1=>?_) (fun n1=>?_)))
      ·((repeat (first | refine zS ?_ | refine zA fun _=>?_)))
       (exact ret1 rfl rfl (Zb) ⟨hle2,no (fun h0=>n1 (h0.1.2.1 x2).1)⟩)
      ·((repeat (first | refine zS ?_ | refine zA fun _=>?_)))
       ((refine zG ?_;refine zC (fun n2=>?_) (fun n2=>?_)))
       ·((repeat (first | refine zS ?_ | refine zA fun _=>?_)))
        (exact ret1 rfl rfl (Zb) ⟨hle2,no (fun h0=>n2 (by have:=(h0.1.2.1 x2).2;have:=ha.len;omega))⟩)
       ·((repeat (first | refine zS ?_ | refine zA fun _=>?_)))
        (((refine zG ?_));refine Yz Zz Zz (Ybh (ha.mono hle2) (fun x hx=>YfP hx)) (fun f2=>?_) (fun f2=>?_))
        ·((repeat (first | refine zS ?_ | refine zA fun _=>?_)))
         (exact ret1 rfl rfl (Zb) ⟨hle2,no (fun h0=>by
          obtain ⟨x,hx,hx2⟩:=of_decide_eq_true f2
          exact hx2 (h0.1.2.2 (.inr x2) x hx))⟩)
        ·((repeat (first | refine zS ?_ | refine zA fun _=>?_)))
         exact midN ⟨0,false,0,rfl,rfl,rfl,⟨fun h0=>absurd h0 y1,fun _=>⟨n1,by have:=ha.len;omega⟩,fun _ x hx=>Classical.byContradiction fun h0=>of_decide_eq_false f2 ⟨x,hx,h0⟩⟩,if_pos (.inr x2)⟩ (Zw) (Zb)
     ·have hh:Yhc f:=⟨fun h0=>absurd h0 y1,fun h0=>absurd h0 y2,fun h0=>(h0.elim y1 y2).elim⟩
      have k0:¬(f.op=kAtom∨f.op=kSame):=fun h0=>h0.elim y1 y2
      ((repeat (first | refine zS ?_ | refine zA fun _=>?_)))
      ((refine zG ?_;refine zC (fun x3=>?_) (fun y3=>?_)))
      ·((repeat (first | refine zS ?_ | refine zA fun _=>?_)))
       exact midN ⟨2,false,0,rfl,rfl,rfl,hh,(if_neg k0).trans (if_pos (.inl x3))⟩ (Zw) (Zb)
      ·((repeat (first | refine zS ?_ | refine zA fun _=>?_)))
       ((refine zG ?_;refine zC (fun x4=>?_) (fun y4=>?_)))
       ·((repeat (first | refine zS ?_ | refine zA fun _=>?_)))
        exact midN ⟨2,false,0,rfl,rfl,rfl,hh,(if_neg k0).trans (if_pos (.inr (.inl x4)))⟩ (Zw) (Zb)
       ·((repeat (first | refine zS ?_ | refine zA fun _=>?_)))
        ((refine zG ?_;refine zC (fun x5=>?_) (fun y5=>?_)))
        ·((repeat (first | refine zS ?_ | refine zA fun _=>?_)))
         exact midN ⟨2,false,0,rfl,rfl,rfl,hh,(if_neg k0).trans (if_pos (.inr (.inr x5)))⟩ (Zw) (Zb)
        ·have k1:¬CmpOp f.op:=fun h0=>h0.elim y3 (fun h0=>h0.elim y4 y5)
         ((repeat (first | refine zS ?_ | refine zA fun _=>?_)))
         ((refine zG ?_;refine zC (fun x6=>?_) (fun y6=>?_)))
         ·((repeat (first | refine zS ?_ | refine zA fun _=>?_)))
          exact midN ⟨0,false,q,rfl,rfl,rfl,hh,(if_neg k0).trans ((if_neg k1).trans ((if_pos (.inl x6)).trans (by rw [hk.len])))⟩ (Zw) (Zb)
         ·((repeat (first | refine zS ?_ | refine zA fun _=>?_)))
          ((refine zG ?_;refine zC (fun x7=>?_) (fun y7=>?_)))
          ·((repeat (first | refine zS ?_ | refine zA fun _=>?_)))
           exact midN ⟨0,false,q,rfl,rfl,rfl,hh,(if_neg k0).trans ((if_neg k1).trans ((if_pos (.inr x7)).trans (by rw [hk.len])))⟩ (Zw) (Zb)
          ·have k2:¬(f.op=kAnd∨f.op=kOr):=fun h0=>h0.elim y6 y7
           ((repeat (first | refine zS ?_ | refine zA fun _=>?_)))
           ((refine zG ?_;refine zC (fun x8=>?_) (fun y8=>?_)))
           ·((repeat (first | refine zS ?_ | refine zA fun _=>?_)))
            exact midN ⟨0,false,1,rfl,rfl,rfl,hh,(if_neg k0).trans ((if_neg k1).trans ((if_neg k2).trans (if_pos x8)))⟩ (Zw) (Zb)
           ·((repeat (first | refine zS ?_ | refine zA fun _=>?_)))
            ((refine zG ?_;refine zC (fun x9=>?_) (fun y9=>?_)))
            ·((repeat (first | refine zS ?_ | refine zA fun _=>?_)))
             exact midN ⟨0,false,2,rfl,rfl,rfl,hh,(if_neg k0).trans ((if_neg k1).trans ((if_neg k2).trans ((if_neg y8).trans (if_pos x9))))⟩ (Zw) (Zb)
            ·((repeat (first | refine zS ?_ | refine zA fun _=>?_)))
             ((refine zG ?_;refine zC (fun z1=>?_) (fun z1=>?_)))
             ·((repeat (first | refine zS ?_ | refine zA fun _=>?_)))
              exact midN ⟨0,true,1,rfl,rfl,rfl,hh,(if_neg k0).trans ((if_neg k1).trans ((if_neg k2).trans ((if_neg y8).trans ((if_neg y9).trans (if_pos (.inl z1))))))⟩ (Zw) (Zb)
             ·((repeat (first | refine zS ?_ | refine zA fun _=>?_)))
              ((refine zG ?_;refine zC (fun z2=>?_) (fun z2=>?_)))
              ·((repeat (first | refine zS ?_ | refine zA fun _=>?_)))
               exact midN ⟨0,true,1,rfl,rfl,rfl,hh,(if_neg k0).trans ((if_neg k1).trans ((if_neg k2).trans ((if_neg y8).trans ((if_neg y9).trans (if_pos (.inr z2))))))⟩ (Zw) (Zb)
              ·have k3:Ydi f=none:=(if_neg k0).trans ((if_neg k1).trans ((if_neg k2).trans ((if_neg y8).trans ((if_neg y9).trans (if_neg (fun h0=>h0.elim z1 z2))))))
               ((repeat (first | refine zS ?_ | refine zA fun _=>?_)))
               (exact ret1 rfl rfl (Zb) ⟨hle2,no (fun h0=>by obtain ⟨_,⟨k,h1,_⟩,_⟩:=h0;rw [k3] at h1;cases h1)⟩)
   ·rintro σ fz' H' ⟨ex,pa,mn,rfl,rfl,rfl,hh,hkind⟩
    have no2:YcC f→¬¬Yhb f (ex,pa,mn):=fun h0 h1=>by
     obtain ⟨_,⟨k,h2,h3⟩,_⟩:=h0
     rw [hkind] at h2
     cases h2
     exact h1 h3
    refine Yr (Wp.mid (fun σ fz' H'=>σ=[(3,.pointer (some ⟨g0,0,none⟩)),(2,.pointer (some ⟨g,0,none⟩)),(1,.int .i64 d)]∧fz2=fz'∧
     H'=[(g,budO (c+1:Nat)),(g0,.cells #[.string f.op,.string f.name,.slice A n ca,.slice B m cb,.slice C r cr,.slice D q cq] 36 (0,0))]∧Yhb f (ex,pa,mn)) ?_ ?_)
    ·((repeat (first | refine zS ?_ | refine zA fun _=>?_)))
     ((refine zG ?_;refine zC (fun x1=>?_) (fun x1=>?_)))
     ·((repeat (first | refine zS ?_ | refine zA fun _=>?_)))
      ((refine zG ?_;refine zC (fun x2=>?_) (fun x2=>?_)))
      ·((repeat (first | refine zS ?_ | refine zA fun _=>?_)))
       ((refine zG ?_;refine zC (fun x3=>?_) (fun x3=>?_)))
       ·((repeat (first | refine zS ?_ | refine zA fun _=>?_)))
        (exact ret1 rfl rfl (Zb) ⟨hle2,no (fun h0=>no2 h0 (fun h1=>x3 (h1.1 x1 x2).1))⟩)
       ·((repeat (first | refine zS ?_ | refine zA fun _=>?_)))
        ((refine zG ?_;refine zC (fun x4=>?_) (fun x4=>?_)))
        ·((repeat (first | refine zS ?_ | refine zA fun _=>?_)))
         (exact ret1 rfl rfl (Zb) ⟨hle2,no (fun h0=>no2 h0 (fun h1=>(WT ha.len).1 x4 (h1.1 x1 x2).2))⟩)
        ·((repeat (first | refine zS ?_ | refine zA fun _=>?_)))
         ((refine zG ?_;refine zC (fun w1=>?_) (fun w1=>?_)))
         ·((repeat (first | refine zS ?_ | refine zA fun _=>?_)))
          (exact ret1 rfl rfl (Zb) ⟨hle2,no (fun h0=>no2 h0 (fun h1=>w1 (by have:=h1.2.1;have:=he.len;simp only at*;omega)))⟩)
         ·((repeat (first | refine zS ?_ | refine zA fun _=>?_)))
          ((refine zG ?_;refine zC (fun w2=>?_) (fun w2=>?_)))
          ·((repeat (first | refine zS ?_ | refine zA fun _=>?_)))
           (exact ret1 rfl rfl (Zb) ⟨hle2,no (fun h0=>no2 h0 (fun h1=>w2 (by have:=h1.2.2.1;have:=hk.len;simp only at*;omega)))⟩)
          ·((repeat (first | refine zS ?_ | refine zA fun _=>?_)))
           ((refine zG ?_;refine zC (fun w3=>?_) (fun w3=>?_)))
           ·cases pa
            ·((repeat (first | refine zS ?_ | refine zA fun _=>?_)))
             (exact ret1 rfl rfl (Zb) ⟨hle2,no (fun h0=>no2 h0 (fun h1=>(WT hp.len).1 w3 (h1.2.2.2 rfl)))⟩)
            ·((repeat (first | refine zS ?_ | refine zA fun _=>?_)))
             exact midN ⟨rfl,rfl,rfl,fun _ _=>⟨x3,Classical.byContradiction fun h1=>x4 ((WT ha.len).2 h1)⟩,by have:=he.len;simp only;omega,by have:=hk.len;simp only;omega,fun h0=>by cases h0⟩ (Zw) (Zb)
           ·((repeat (first | refine zS ?_ | refine zA fun _=>?_)))
            exact midN ⟨rfl,rfl,rfl,fun _ _=>⟨x3,Classical.byContradiction fun h1=>x4 ((WT ha.len).2 h1)⟩,by have:=he.len;simp only;omega,by have:=hk.len;simp only;omega,fun _=>Classical.byContradiction fun h1=>w3 ((WT hp.len).2 h1)⟩ (Zw) (Zb)
      ·((repeat (first | refine zS ?_ | refine zA fun _=>?_)))
       ((refine zG ?_;refine zC (fun w1=>?_) (fun w1=>?_)))
       ·((repeat (first | refine zS ?_ | refine zA fun _=>?_)))
        (exact ret1 rfl rfl (Zb) ⟨hle2,no (fun h0=>no2 h0 (fun h1=>w1 (by have:=h1.2.1;have:=he.len;simp only at*;omega)))⟩)
       ·((repeat (first | refine zS ?_ | refine zA fun _=>?_)))
        ((refine zG ?_;refine zC (fun w2=>?_) (fun w2=>?_)))
        ·((repeat (first | refine zS ?_ | refine zA fun _=>?_)))
         (exact ret1 rfl rfl (Zb) ⟨hle2,no (fun h0=>no2 h0 (fun h1=>w2 (by have:=h1.2.2.1;have:=hk.len;simp only at*;omega)))⟩)
        ·((repeat (first | refine zS ?_ | refine zA fun _=>?_)))
         ((refine zG ?_;refine zC (fun w3=>?_) (fun w3=>?_)))
         ·cases pa
          ·((repeat (first | refine zS ?_ | refine zA fun _=>?_)))
           (exact ret1 rfl rfl (Zb) ⟨hle2,no (fun h0=>no2 h0 (fun h1=>(WT hp.len).1 w3 (h1.2.2.2 rfl)))⟩)
          ·((repeat (first | refine zS ?_ | refine zA fun _=>?_)))
           exact midN ⟨rfl,rfl,rfl,fun _ h0=>absurd x2 h0,by have:=he.len;simp only;omega,by have:=hk.len;simp only;omega,fun h0=>by cases h0⟩ (Zw) (Zb)
         ·((repeat (first | refine zS ?_ | refine zA fun _=>?_)))
          exact midN ⟨rfl,rfl,rfl,fun _ h0=>absurd x2 h0,by have:=he.len;simp only;omega,by have:=hk.len;simp only;omega,fun _=>Classical.byContradiction fun h1=>w3 ((WT hp.len).2 h1)⟩ (Zw) (Zb)
     ·((repeat (first | refine zS ?_ | refine zA fun _=>?_)))
      ((refine zG ?_;refine zC (fun w1=>?_) (fun w1=>?_)))
      ·((repeat (first | refine zS ?_ | refine zA fun _=>?_)))
       (exact ret1 rfl rfl (Zb) ⟨hle2,no (fun h0=>no2 h0 (fun h1=>w1 (by have:=h1.2.1;have:=he.len;simp only at*;omega)))⟩)
      ·((repeat (first | refine zS ?_ | refine zA fun _=>?_)))
       ((refine zG ?_;refine zC (fun w2=>?_) (fun w2=>?_)))
       ·((repeat (first | refine zS ?_ | refine zA fun _=>?_)))
        (exact ret1 rfl rfl (Zb) ⟨hle2,no (fun h0=>no2 h0 (fun h1=>w2 (by have:=h1.2.2.1;have:=hk.len;simp only at*;omega)))⟩)
       ·((repeat (first | refine zS ?_ | refine zA fun _=>?_)))
        ((refine zG ?_;refine zC (fun w3=>?_) (fun w3=>?_)))
        ·cases pa
         ·((repeat (first | refine zS ?_ | refine zA fun _=>?_)))
          (exact ret1 rfl rfl (Zb) ⟨hle2,no (fun h0=>no2 h0 (fun h1=>(WT hp.len).1 w3 (h1.2.2.2 rfl)))⟩)
         ·((repeat (first | refine zS ?_ | refine zA fun _=>?_)))
          exact midN ⟨rfl,rfl,rfl,fun h0=>absurd x1 h0,by have:=he.len;simp only;omega,by have:=hk.len;simp only;omega,fun h0=>by cases h0⟩ (Zw) (Zb)
        ·((repeat (first | refine zS ?_ | refine zA fun _=>?_)))
         exact midN ⟨rfl,rfl,rfl,fun h0=>absurd x1 h0,by have:=he.len;simp only;omega,by have:=hk.len;simp only;omega,fun _=>Classical.byContradiction fun h1=>w3 ((WT hp.len).2 h1)⟩ (Zw) (Zb)
    ·rintro σ fz' H' ⟨rfl,rfl,rfl,hrest⟩
     have hE:=Ycr f
     have hD:=Yd3 f
     have hp2:=hp.mono hle2
     ((repeat (first | refine zS ?_ | refine zA fun _=>?_)))
     refine YD (fun mm σ fz' H'=>∃ k:Nat,k≤m∧mm=m - k∧σ=[(118,.int .i64 k),(117,.int .i64 m),(116,.slice B m cb),(3,.pointer (some ⟨g0,0,none⟩)),(2,.pointer (some ⟨g,0,none⟩)),(1,.int .i64 d)]∧fz2=fz'∧H'=[(g,budO (c+1:Nat)),(g0,.cells #[.string f.op,.string f.name,.slice A n ca,.slice B m cb,.slice C r cr,.slice D q cq] 36 (0,0))]∧(∀ i,i<k→∀ x,f.params[i]?=some x→VarP x.name∧Ygz x.typ)) ⟨0,Nat.zero_le _,rfl,rfl,rfl,rfl,fun i hi=>absurd hi Zi⟩ (Zw) (Zb) ?_
     rintro _ σ fz' H' ⟨k,hkm,rfl,rfl,rfl,rfl,hh1⟩
     have lp:=hp.len
     have sp:=hp.short
     ((repeat (first | refine zS ?_ | refine zA fun _=>?_)))
     ((refine zG ?_;refine zC (fun c1=>?_) (fun c1=>?_)))
     ·obtain ⟨x,hx⟩:=YG (l:=f.params) (k:=k) Zi
      have bad:¬(VarP x.name∧Ygz x.typ)→¬YcC f:=fun h1 h0=>h1 (h0.2.2 x (List.mem_of_getElem? hx))
      ((repeat (first | refine zS ?_ | refine zA fun _=>?_)))
      (((refine zG ?_));refine YA T k Zz Zz Zz Zz Zz Zz hp2 (by first | rfl | omega) hx (fun p1 hp1=>?_))
      (((refine zG ?_));refine Yx T Zz Zz Zz hp1 Zz ?_)
      intro cs hcs
      obtain ⟨rfl,hRx⟩:=Xy hcs
      ((repeat (first | refine zS ?_ | refine zA fun _=>?_)))
      (((refine zG ?_));refine Yz Zz Zz (YbH hRx.name) (fun f1=>?_) (fun f1=>?_))
      ·((repeat (first | refine zS ?_ | refine zA fun _=>?_)))
       (((refine zG ?_));refine Yz Zz Zz (typed_q hRx.typ) (fun f2=>?_) (fun f2=>?_))
       ·((repeat (first | refine zS ?_ | refine zA fun _=>?_)))
        exact YP ⟨k+1,by omega,rfl,rfl,rfl,rfl,YZ hh1 hx ⟨of_decide_eq_true f1,of_decide_eq_true f2⟩⟩ Zi (Zw) (Zb)
       ·((repeat (first | refine zS ?_ | refine zA fun _=>?_)))
        (exact ret1 rfl rfl (Zb) ⟨hle2,no (bad (fun h1=>of_decide_eq_false f2 h1.2))⟩)
      ·((repeat (first | refine zS ?_ | refine zA fun _=>?_)))
       (exact ret1 rfl rfl (Zb) ⟨hle2,no (bad (fun h1=>of_decide_eq_false f1 h1.1))⟩)
     ·have hN:YcC f:=⟨hh,⟨_,hkind,hrest⟩,XW hh1 Zi⟩
      have le:=he.len
      have se:=he.short
      ((repeat (first | refine zS ?_ | refine zA fun _=>?_)))
      refine YD (fun mm σ fz' H'=>∃ k:Nat,k≤r∧mm=r - k∧σ=[(136,.int .i64 k),(135,.int .i64 r),(134,.slice C r cr),(3,.pointer (some ⟨g0,0,none⟩)),(2,.pointer (some ⟨g,0,none⟩)),(1,.int .i64 d)]∧Le fz2 fz'∧H'=[(g,budO (c+1+ecountL (f.exprs.take k):Nat)),(g0,.cells #[.string f.op,.string f.name,.slice A n ca,.slice B m cb,.slice C r cr,.slice D q cq] 36 (0,0))]∧(∀ i,i<k→∀ x,f.exprs[i]?=some x→EOk x∧d+1+edepth x≤33)∧c+1+ecountL (f.exprs.take k)≤4096) ⟨0,Nat.zero_le _,rfl,rfl,Le.refl _,rfl,(fun i hi=>absurd hi Zi),by simp [ecountL];omega⟩ (Zw) (Zb) ?_
      rintro _ σ fz' H' ⟨k,hkr,rfl,rfl,hle4,rfl,hh2,hcc⟩
      have he2:=he.mono (hle2.trans hle4)
      ((repeat (first | refine zS ?_ | refine zA fun _=>?_)))
      ((refine zG ?_;refine zC (fun c2=>?_) (fun c2=>?_)))
      ·obtain ⟨x,hx⟩:=YG (l:=f.exprs) (k:=k) Zi
       have hxm:=List.mem_of_getElem? hx
       have hst:=Ybz hx
       have htk:=Yby (l:=f.exprs) (k:=k+1)
       ((repeat (first | refine zS ?_ | refine zA fun _=>?_)))
       (((refine zG ?_));refine YA T k Zz Zz Zz Zz Zz Zz he2 (by first | rfl | omega) hx (fun p1 hp1=>?_))
       (((refine zG ?_));refine Yx T Zz Zz Zz hp1 Zz ?_)
       intro cs hcs
       obtain ⟨wa,wk,rfl,hRx⟩:=YU hcs
       obtain ⟨A1,n1,b1,rfl,_⟩:=hRx.args
       obtain ⟨A2,n2,b2,rfl,_⟩:=hRx.kids
       ((repeat (first | refine zS ?_ | refine zA fun _=>?_)))
       (first | refine Wp.perm (List.Perm.swap _ _ _) ?_ | refine Seq.perm (List.Perm.swap _ _ _) ?_)
       (refine Yb Zz (YB [_] [_,_] Zz Zz Zz (YhO (e:=x) (d:=d+1) (c:=c+1+ecountL (f.exprs.take k)) hRx Zi hcc) (fun v5 fz5 H5 hle5 hR5=>?_)))
       obtain ⟨_,b5,c5,rfl,rfl,hc5,hb5⟩:=hR5
       cases b5
       ·((repeat (first | refine zS ?_ | refine zA fun _=>?_)))
        (exact ret1 rfl rfl (Zb) ⟨hle2.trans (hle4.trans hle5),Yfo (fun h0=>absurd (hb5.2 ⟨(Wl.1 h0.1).2.1 x hxm,by have:=(YeL (l:=f.exprs)).1 (Nat.le_refl _) x hxm;omega,by omega⟩) (by simp))⟩)
       ·have hc5:=hc5 rfl
        have hb5:=hb5.1 rfl
        subst hc5
        ((repeat (first | refine zS ?_ | refine zA fun _=>?_)))
        exact YP ⟨k+1,by omega,rfl,rfl,hle4.trans hle5,by rw [hst,← Nat.add_assoc],YZ hh2 hx ⟨hb5.1,hb5.2.1⟩,by omega⟩ Zi (Zw) (Zb)
      ·rw [show f.exprs.take k=f.exprs from List.take_of_length_le Zi] at hcc ⊢
       have hEX:=XW hh2 Zi
       have lk:=hk.len
       have sk:=hk.short
       ((repeat (first | refine zS ?_ | refine zA fun _=>?_)))
       refine YD (H0:=[(g,budO (c+1+ecountL f.exprs:Nat)),(g0,.cells #[.string f.op,.string f.name,.slice A n ca,.slice B m cb,.slice C r cr,.slice D q cq] 36 (0,0))]) (fun mm σ fz7 H'=>∃ j:Nat,j≤q∧mm=q - j∧σ=[(150,.int .i64 j),(149,.int .i64 q),(148,.slice D q cq),(2,.pointer (some ⟨g,0,none⟩)),(1,.int .i64 d)]∧Le fz' fz7∧H'=[(g,budO (c+1+ecountL f.exprs+fcountL (f.kids.take j):Nat)),(g0,.cells #[.string f.op,.string f.name,.slice A n ca,.slice B m cb,.slice C r cr,.slice D q cq] 36 (0,0))]∧(∀ i,i<j→∀ x,f.kids[i]?=some x→FOk x∧d+1+fdepth x≤33)∧c+1+ecountL f.exprs+fcountL (f.kids.take j)≤4096) ⟨0,Nat.zero_le _,rfl,rfl,Le.refl _,by simp [fcountL],(fun i hi=>absurd hi Zi),by simp [fcountL];omega⟩ (Zw) (Zb) ?_
       rintro _ σ fz7 H' ⟨j,hjq,rfl,rfl,hle7,rfl,hh3,hcc3⟩
       have hk2:=hk.mono (hle2.trans (hle4.trans hle7))
       ((repeat (first | refine zS ?_ | refine zA fun _=>?_)))
       ((refine zG ?_;refine zC (fun c3=>?_) (fun c3=>?_)))
       ·obtain ⟨x,hx⟩:=YG (l:=f.kids) (k:=j) Zi
        have hxm:=List.mem_of_getElem? hx
        have hlt:=Formula.kids_lt hxm
        have hst:=Ydd hx
        have htk:=Ydc (l:=f.kids) (k:=j+1)
        ((repeat (first | refine zS ?_ | refine zA fun _=>?_)))
        (((refine zG ?_));refine YA T j Zz Zz Zz Zz Zz Zz hk2 (by first | rfl | omega) hx (fun p1 hp1=>?_))
        (((refine zG ?_));refine Yx T Zz Zz Zz hp1 Zz ?_)
        intro cs hcs
        obtain ⟨wa,wp,we,wk,rfl,hRx⟩:=Xc hcs
        obtain ⟨A1,n1,b1,rfl,_⟩:=hRx.args
        obtain ⟨A2,n2,b2,rfl,_⟩:=hRx.params
        obtain ⟨A3,n3,b3,rfl,_⟩:=hRx.exprs
        obtain ⟨A4,n4,b4,rfl,_⟩:=hRx.kids
        ((repeat (first | refine zS ?_ | refine zA fun _=>?_)))
        (first | refine Wp.perm (List.Perm.swap _ _ _) ?_ | refine Seq.perm (List.Perm.swap _ _ _) ?_)
        (refine Yb Zz (YB [_] [_,_] Zz Zz Zz (Yhq s (f:=x) (d:=d+1) (c:=c+1+ecountL f.exprs+fcountL (f.kids.take j)) Zi hRx Zi hcc3) (fun v5 fz5 H5 hle5 hR5=>?_)))
        obtain ⟨_,b5,c5,rfl,rfl,hc5,hb5⟩:=hR5
        cases b5
        ·((repeat (first | refine zS ?_ | refine zA fun _=>?_)))
         (exact ret1 rfl rfl (Zb) ⟨hle2.trans (hle4.trans (hle7.trans hle5)),Yfo (fun h0=>absurd (hb5.2 ⟨(Wl.1 h0.1).2.2 x hxm,by have:=(YeK (l:=f.kids)).1 (Nat.le_refl _) x hxm;omega,by omega⟩) (by simp))⟩)
        ·have hc5:=hc5 rfl
         have hb5:=hb5.1 rfl
         subst hc5
         ((repeat (first | refine zS ?_ | refine zA fun _=>?_)))
         exact YP ⟨j+1,by omega,rfl,rfl,hle7.trans hle5,by rw [hst,← Nat.add_assoc],YZ hh3 hx ⟨hb5.1,hb5.2.1⟩,by omega⟩ Zi (Zw) (Zb)
       ·rw [List.take_of_length_le Zi] at hcc3 ⊢
        have hKX:=XW hh3 Zi
        ((repeat (first | refine zS ?_ | refine zA fun _=>?_)))
        (exact ret1 rfl rfl (Zb) ⟨hle2.trans (hle4.trans hle7),true,_,rfl,rfl,fun _=>by rw [hE];simp only [Nat.add_assoc],iff_of_true rfl ⟨Wl.2 ⟨hN,fun x hx=>(hEX x hx).1,fun x hx=>(hKX x hx).1⟩,by
         have e1:edepthL f.exprs≤32 - d:=YeL.2 (fun x hx=>by have:=(hEX x hx).2;omega)
         have e2:fdepthL f.kids≤32 - d:=YeK.2 (fun x hx=>by have:=(hKX x hx).2;omega)
         omega,by omega⟩⟩)
theorem shaped_q {fz:FZ} {f:Formula} {va vp ve vk:Value} {g d c:Nat} (h:FormulaR fz f va vp ve vk) (hd:d≤33) (hc:c≤4096):
 GFn Tryz.prog 158 [.agg #[.string f.op,.string f.name,va,vp,ve,vk],.int .i64 d,.pointer (some ⟨g,0,none⟩)] fz [(g,budO c)] (fun v fz' H'=>Le fz fz'∧FBud g f d c v H'):=Yhq _ (Nat.le_refl _) h hd hc
end Go.Proofs.YtbhlgkibgajajaaGreatDoor
