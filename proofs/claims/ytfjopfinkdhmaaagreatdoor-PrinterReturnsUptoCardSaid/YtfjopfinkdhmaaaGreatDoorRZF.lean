/- The texts PWalkC, PWalkD, PPlain, PWalkE, PWalkF, PBytes, laid together. Conditions: none. -/
import Derived.Test.YtfjopfinkdhmaaaGreatDoorRZE
import Derived.Lib.ConvBytes
import Derived.Laws.BytesArg
set_option linter.all false
noncomputable section
set_option maxRecDepth 20000
namespace Go.Proofs.YtfjopfinkdhmaaaGreatDoor
open Go.Lx Go.RowKit
open Go.Proofs.Tryz (prog)
def kNumber:Bs:=⟨#[110,117,109,98,101,114]⟩
def kFluent:Bs:=⟨#[102,108,117,101,110,116]⟩
def SxIs (fz:FZ) (v:Value) (x:Sexpr):Prop:=∃ cs,v=.agg (List.toArray cs)/\Yz.rep fz x cs
variable {fz fz':FZ} {v:Value}
theorem SxIs.mono (h:Le fz fz') {x:Sexpr} (hs:SxIs fz v x):SxIs fz' v x:=by
 obtain ⟨cs,e,hr⟩:=hs;exact ⟨cs,e,Yz.mono h hr⟩
def YD (l:List Sexpr):Sexpr:=.mk 3 0 0 0 ⟨#[]⟩ l
def numE (n:Int):Sexpr:=.mk 2 n 0 0 ⟨#[]⟩ []
def W5 (f:Bs) (l:List Bs):Sexpr:=YD (Yg f::l.map Yg)
theorem Wd:I64 0:=by unfold I64;omega
theorem i64_2:I64 2:=by unfold I64;omega
theorem YfH:I64 3:=by unfold I64;omega
theorem Xu:Short ⟨#[]⟩:=by unfold Short;decide
variable {A:Option Addr} {c n:Nat}
theorem Yad {l:List Sexpr} (h:Sl Yz fz A n c l):SxIs fz (sxV 3 0 ⟨#[]⟩ (.slice A n c)) (YD l):=
 ⟨_,rfl,Yh (x:=YD l) ⟨YfH,Wd,Wd,Wd,Xu,h.is⟩⟩
theorem numE_is {n:Int} (h:I64 n):SxIs fz (sxV 2 n ⟨#[]⟩ Zn) (numE n):=
 ⟨_,rfl,Yh (x:=numE n) ⟨i64_2,h,Wd,Wd,Xu,IsSl.nil⟩⟩
inductive EShape:Lx.Expr->Prop
 | num {e:Lx.Expr} (h:e.op=kNumber):EShape e
 | flu {e:Lx.Expr} (h:e.op=kFluent) (hn:e.args.length<=1000000000):EShape e
 | bin {e a b:Lx.Expr} (h1:e.op≠kNumber) (h2:e.op≠kFluent) (hk:e.kids=[a,b]) (ha:EShape a) (hb:EShape b):EShape e
def WP:Nat->Lx.Expr->Sexpr
 | 0,_=>numE 0
 | s+1,e=>open Classical in if e.op=kNumber then numE e.n else if e.op=kFluent then W5 e.name e.args else YD (Yg e.op::e.kids.map (WP s))
set_option maxHeartbeats 1000000 in
theorem Ydh:∀ (s:Nat) {fz:FZ} {e:Lx.Expr} {va vk:Value},SizeOf.sizeOf e<=s->ExprR fz e va vk->EShape e->
 GFn prog 157 [.agg #[.string e.op,.string e.name,Zk e.n,va,vk]] fz [] (fun v fz' H'=>H'=[]/\SxIs fz' v (WP s e))
 | 0,_,e,_,_,hs,_,_=>by cases e;simp at hs
 | s+1,fz,e,va,vk,hs,h,hE=>by
  obtain ⟨A,n,c,rfl,ha⟩:=h.args;obtain ⟨B,m,d,rfl,hk⟩:=h.kids;refine zF Tryz.func157 Tryz.ntmps157 (fun w0=>?_);refine Yj (Yq (Ya Zz (Xb _ Zz Zz (fun g0=>?_))));refine zW ?_;intros;rename_i g1;refine zC (fun x1=>?_) (fun y1=>?_)
  ·refine zW ?_;refine Wg T (i:=0) rfl Zz Zz Zz Zz Zz (fun fz3 hle3 hf3=>⟨rfl,?_⟩);rw [WP,if_pos (show e.op=kNumber from x1)];exact numE_is h.n
  refine wC (fun x2=>?_) (fun y2=>?_)
  ·have hn:e.args.length<=1000000000:=by
    cases hE with
    | num h=>exact absurd h y1
    | flu _ hn=>exact hn
    | bin _ h2=>exact absurd x2 h2
   refine zW ?_;refine Ya Zz (Yx [] [_,_] Zz Zz Zz (YhA (f0:=e.name) h.name ha (by rw [<- ha.len];exact hn)) (fun v fz2 H2 hle2 hR=>?_));obtain ⟨rfl,C,mm,cc,rfl,hsl⟩:=hR;unfold sxV;refine zW ?_;refine Wg T (i:=0) rfl Zz Zz Zz Zz Zz (fun fz3 hle3 hf3=>⟨rfl,?_⟩);rw [WP,if_neg (show ¬e.op=kNumber from y1),if_pos (show e.op=kFluent from x2)];exact (Yad hsl).mono hle3
  obtain ⟨a,b,hab,hsa,hsb⟩:∃ a b,e.kids=[a,b]/\EShape a/\EShape b:=by
   cases hE with
   | num h=>exact absurd h y1
   | flu h _=>exact absurd h y2
   | bin _ _ hk ha hb=>exact ⟨_,_,hk,ha,hb⟩
  have la:=Lx.Expr.kids_lt (x:=e) (k:=a) (by rw [hab];simp);have lb:=Lx.Expr.kids_lt (x:=e) (k:=b) (by rw [hab];simp);have l2:=hk.len;rw [hab] at l2;simp at l2;subst l2;refine zW ?_;refine Wp.drawK (Hq:=[_,_]) T.mixed Zj Zj Zb ?_;refine zW ?_;refine Yf ?_;refine wG ?_;refine YaU T 0 Zz Zz Zz Zz Zz Zz hk (by first | rfl | omega) (by rw [hab];rfl:e.kids[0]?=some a) (fun p hp=>?_);refine zL hp ?_;intro cs hcs;obtain ⟨wa,wk,rfl,hRa⟩:=YK hcs;refine Yf ?_;refine wG ?_;refine YaU T 1 Zz Zz Zz Zz Zz Zz hk (by first | rfl | omega) (by rw [hab];rfl:e.kids[1]?=some b) (fun p2 hp2=>?_);refine zL hp2 ?_;intro cs2 hcs2;obtain ⟨za,zk,rfl,hRb⟩:=YK hcs2;refine Yf ?_;refine Yf ?_;refine Yf ?_;refine Yf ?_;refine YM ⟨by kernel_rfl,?_⟩;refine Ch.qk (⟨Le.refl _,Zx⟩) (Yv Zz Zz (Ybj (s:=e.op)) ?_);refine Yt (Yx [] [_,_] Zz Zz Zz (Ydh s (e:=a) Zi hRa hsa) (fun v2 fz2 H2 hle2 hR2=>?_));obtain ⟨rfl,cs3,rfl,hr3⟩:=hR2;obtain ⟨vk3,rfl,hR3⟩:=Yi hr3;refine ⟨(⟨hle2,Zp2⟩),?_⟩;refine Yt (Yx [] [_,_] Zz Zz Zz (Ydh s (e:=b) Zi (hRb.mono hle2) hsb) (fun v4 fz4 H4 hle4 hR4=>?_));obtain ⟨rfl,cs5,rfl,hr5⟩:=hR4;obtain ⟨vk5,rfl,hR5⟩:=Yi hr5;refine ⟨(⟨(hle2.trans hle4),Zp2⟩),?_⟩;refine Yt (Yb T (cs:=Yr e.op++ [Zk (WP s a).kind,Zk (WP s a).value,Zk (WP s a).line,Zk (WP s a).column,.string (WP s a).text,vk3]++ [Zk (WP s b).kind,Zk (WP s b).value,Zk (WP s b).line,Zk (WP s b).column,.string (WP s b).text,vk5]) Zz Zz Zz Zz Zz Zz Zz Zz (fun gb=>⟨(⟨(hle2.trans hle4),Zp3⟩),?_⟩));refine Ch.qk (⟨(hle2.trans hle4),Zp3⟩) (Yv Zz Zz YcJ ?_);unfold sxV;refine Ch.hard0 Zj (YU T Zz Zz Zz Zz Zz Zz ?_);refine Ch.done ?_;refine zW ?_;refine Wg T (i:=1) rfl Zz Zz Zz Zz Zz (fun fz3 hle3 hf3=>⟨rfl,?_⟩);rw [WP,if_neg (show ¬e.op=kNumber from y1),if_neg (show ¬e.op=kFluent from y2),hab];obtain ⟨A',c',he,hsl⟩:=Yg6 (β:={p:Sexpr × List Value // p.2.length=6}) (L:=Yz) (f:=fun p=>p.1.2) (g:=fun p=>p.1.1) (e:=57) (n:=3) (v:=Zv gb 3 3)
   (l:=[⟨(Yg e.op,Yr e.op),rfl⟩,⟨(WP s a,[Zk (WP s a).kind,Zk (WP s a).value,Zk (WP s a).line,Zk (WP s a).column,.string (WP s a).text,vk3]),rfl⟩,⟨(WP s b,[Zk (WP s b).kind,Zk (WP s b).value,Zk (WP s b).line,Zk (WP s b).column,.string (WP s b).text,vk5]),rfl⟩]) (fun p=>p.2) (OwnS.of_block (size:=6) rfl Zh) (fun p hp=>hf3 p (by simp at hp;subst hp;exact .head _)) rfl Zh (fun x hx=>by
    simp only [List.mem_cons,List.not_mem_nil,or_false] at hx;rcases hx with rfl | rfl | rfl
    ·exact Yu h.op
    ·exact Yh (x:=WP s a) (hR3.mono (hle4.trans hle3))
    exact Yh (x:=WP s b) (hR5.mono hle3))
  injection he with he1 he2 he3
  subst he1 he3;exact Yad hsl
theorem Yes:∀ (s s':Nat) (e:Lx.Expr),SizeOf.sizeOf e<=s->SizeOf.sizeOf e<=s'->WP s e=WP s' e
 | 0,_,e,h,_=>by cases e;simp at h
 | _+1,0,e,_,h=>by cases e;simp at h
 | s+1,s'+1,e,h,h'=>by
  have hk:e.kids.map (WP s)=e.kids.map (WP s'):=List.map_congr_left (fun k hk=>Yes s s' k (by have:=Lx.Expr.kids_lt hk;omega) (by have:=Lx.Expr.kids_lt hk;omega));simp only [WP,hk]
def XU (e:Lx.Expr):Sexpr:=WP (SizeOf.sizeOf e) e
open Classical in
theorem Ye9 (e:Lx.Expr):XU e=if e.op=kNumber then numE e.n else if e.op=kFluent then W5 e.name e.args else YD (Yg e.op::e.kids.map XU):=by
 have hk:e.kids.map (WP (SizeOf.sizeOf e))=e.kids.map XU:=List.map_congr_left (fun k hk=>Yes _ _ k (by have:=Lx.Expr.kids_lt hk;omega) (Zs _));rw [XU,Yes _ (SizeOf.sizeOf e+1) e (Zs _) Zi,WP,hk]
variable {va vk:Value}
theorem WS {e:Lx.Expr} (h:ExprR fz e va vk) (hE:EShape e):
 GFn prog 157 [.agg #[.string e.op,.string e.name,Zk e.n,va,vk]] fz [] (fun v fz' H'=>H'=[]/\SxIs fz' v (XU e)):=Ydh _ (Zs _) h hE
def kAtom:Bs:=⟨#[97,116,111,109]⟩
def kSame:Bs:=⟨#[115,97,109,101]⟩
def kEq:Bs:=⟨#[61]⟩
def kLt:Bs:=⟨#[60]⟩
def kLe:Bs:=⟨#[60,61]⟩
def kAnd:Bs:=⟨#[97,110,100]⟩
def XL:Bs:=⟨#[102,111,114,97,108,108]⟩
def WJ:Bs:=⟨#[101,120,105,115,116,115]⟩
def CmpOp (s:Bs):Prop:=s=kLt\/s=kLe\/s=kEq
inductive FShape:Formula->Prop
 | atom {f:Formula} (h:f.op=kAtom\/f.op=kSame) (hn:f.args.length<=1000000000):FShape f
 | cmp {f:Formula} {a b:Lx.Expr} (h:CmpOp f.op) (he:f.exprs=[a,b]) (ha:EShape a) (hb:EShape b):FShape f
 | other {f:Formula} (h0:f.op≠kAtom) (h1:f.op≠kSame) (h2:¬CmpOp f.op) (hp:f.params.length<=1000000000) (hn:f.kids.length<=1000000000) (hk:∀ k∈f.kids,FShape k):FShape f
open Classical in
def Ybk:Nat->Formula->Sexpr
 | 0,_=>numE 0
 | s+1,f=>if f.op=kAtom then W5 f.name f.args else if f.op=kSame then W5 kEq f.args else if CmpOp f.op then YD (Yg f.op::f.exprs.map XU)
  else YD ((if f.op≠kAnd\/f.kids≠ [] then [Yg f.op] else [])++(if f.op=XL\/f.op=WJ then [YD ((f.params.flatMap W1).map Yg)] else [])++f.kids.map (Ybk s))
theorem Yeq:∀ (s s':Nat) (f:Formula),SizeOf.sizeOf f<=s->SizeOf.sizeOf f<=s'->Ybk s f=Ybk s' f
 | 0,_,e,h,_=>by cases e;simp at h
 | _+1,0,e,_,h=>by cases e;simp at h
 | s+1,s'+1,e,h,h'=>by
  have hk:e.kids.map (Ybk s)=e.kids.map (Ybk s'):=List.map_congr_left (fun k hk=>Yeq s s' k (by have:=Formula.kids_lt hk;omega) (by have:=Formula.kids_lt hk;omega));simp only [Ybk,hk]
theorem Yfh {fz3:FZ} {gb:Nat} {o:Bs} {X Y:Sexpr} {vk3 vk5:Value} (ho:Short o) (hg:fz3 gb=some (.cells (Yr o++ [Zk X.kind,Zk X.value,Zk X.line,Zk X.column,.string X.text,vk3]++ [Zk Y.kind,Zk Y.value,Zk Y.line,Zk Y.column,.string Y.text,vk5]).toArray 57 (0,0))) (hX:YS fz3 X vk3) (hY:YS fz3 Y vk5):
 SxIs fz3 (sxV 3 0 ⟨#[]⟩ (Zv gb 3 3)) (YD [Yg o,X,Y]):=by
 obtain ⟨A',c',he,hsl⟩:=Yg6 (β:={p:Sexpr × List Value // p.2.length=6}) (L:=Yz) (f:=fun p=>p.1.2) (g:=fun p=>p.1.1) (e:=57) (n:=3) (v:=Zv gb 3 3) (fz':=fz3)
  (l:=[⟨(Yg o,Yr o),rfl⟩,⟨(X,[Zk X.kind,Zk X.value,Zk X.line,Zk X.column,.string X.text,vk3]),rfl⟩,⟨(Y,[Zk Y.kind,Zk Y.value,Zk Y.line,Zk Y.column,.string Y.text,vk5]),rfl⟩]) (fun p=>p.2) (OwnS.of_block (size:=6) rfl Zh) (fun p hp=>by simp at hp;subst hp;exact hg) rfl Zh (fun x hx=>by
   simp only [List.mem_cons,List.not_mem_nil,or_false] at hx;rcases hx with rfl | rfl | rfl
   ·exact Yu ho
   ·exact Yh (x:=X) hX
   exact Yh (x:=Y) hY)
 injection he with he1 he2 he3
 subst he1 he3;exact Yad hsl
variable {f:Formula}
theorem Yn0 (hF:FShape f) (hc:CmpOp f.op):∃ a b,f.exprs=[a,b]/\EShape a/\EShape b:=by
 cases hF with
 | atom h0=>
  rcases h0 with h0 | h0<;>rw [h0] at hc<;>rcases hc with hc | hc | hc<;>exact absurd (congrArg ByteArray.size hc) Zh
 | cmp _ he ha hb=>exact ⟨_,_,he,ha,hb⟩
 | other _ _ h2=>exact absurd hc h2
set_option maxHeartbeats 2000000 in
theorem YlU:∀ (s:Nat) {fz:FZ} {f:Formula} {va vp ve vk:Value},SizeOf.sizeOf f<=s->FormulaR fz f va vp ve vk->FShape f->
 GFn prog 108 [.agg #[.string f.op,.string f.name,va,vp,ve,vk]] fz [] (fun v fz' H'=>H'=[]/\SxIs fz' v (Ybk s f))
 | 0,_,f,_,_,_,_,hs,_,_=>by cases f;simp at hs
 | s+1,fz,f,va,vp,ve,vk,hs,h,hF=>by
  obtain ⟨A,n,c,rfl,ha⟩:=h.args;obtain ⟨B,m,d,rfl,hp⟩:=h.params;obtain ⟨C,r,cr,rfl,he⟩:=h.exprs;obtain ⟨D,q,cq,rfl,hk⟩:=h.kids;refine zF Tryz.func108 Tryz.ntmps108 (fun w0=>?_);refine Yj (Yq (Ya Zz (Xb _ Zz Zz (fun g0=>?_))));refine zW ?_;intros;rename_i g1;refine zC (fun x1=>?_) (fun y1=>?_)
  ·have hn:f.args.length<=1000000000:=by
    cases hF with
    | atom _ hn=>exact hn
    | cmp hc=>rw [show f.op=kAtom from x1] at hc;rcases hc with hc | hc | hc<;>exact absurd (congrArg ByteArray.size hc) Zh
    | other h0=>exact absurd x1 h0
   refine zW ?_;refine Ya Zz (Yx [] [_,_] Zz Zz Zz (YhA (f0:=f.name) h.name ha (by rw [<- ha.len];exact hn)) (fun v fz2 H2 hle2 hR=>?_));obtain ⟨rfl,C,mm,cc,rfl,hsl⟩:=hR;unfold sxV;refine zW ?_;refine Wg T (i:=0) rfl Zz Zz Zz Zz Zz (fun fz3 hle3 hf3=>⟨rfl,?_⟩);rw [Ybk,if_pos (show f.op=kAtom from x1)];exact (Yad hsl).mono hle3
  refine wC (fun x2=>?_) (fun y2=>?_)
  ·have hn:f.args.length<=1000000000:=by
    cases hF with
    | atom _ hn=>exact hn
    | cmp hc=>rw [show f.op=kSame from x2] at hc;rcases hc with hc | hc | hc<;>exact absurd (congrArg ByteArray.size hc) Zh
    | other _ h1=>exact absurd x2 h1
   refine zW ?_;refine Ya Zz (Yx [] [_,_] Zz Zz Zz (YhA (f0:=kEq) (by unfold Short kEq;decide) ha (by rw [<- ha.len];exact hn)) (fun v fz2 H2 hle2 hR=>?_));obtain ⟨rfl,C,mm,cc,rfl,hsl⟩:=hR;unfold sxV;refine zW ?_;refine Wg T (i:=0) rfl Zz Zz Zz Zz Zz (fun fz3 hle3 hf3=>⟨rfl,?_⟩);rw [Ybk,if_neg (show ¬f.op=kAtom from y1),if_pos (show f.op=kSame from x2)];exact (Yad hsl).mono hle3
  refine wC (fun x3=>?_) (fun y3=>?_)
  ·have hcmp:CmpOp f.op:=.inl x3;obtain ⟨a,b,hab,hsa,hsb⟩:=Yn0 hF hcmp;have l2:=he.len;rw [hab] at l2;simp at l2;subst l2;refine zW ?_;refine Wp.drawK (Hq:=[_,_]) T.mixed Zj Zj Zb ?_;refine zW ?_;refine Yf ?_;refine zW ?_;((refine zG ?_);refine YaU T 0 Zz Zz Zz Zz Zz Zz he (by first | rfl | omega) (by rw [hab];rfl:f.exprs[0]?=some a) (fun p hp0=>?_));refine zL hp0 ?_;intro cs hcs;obtain ⟨wa,wk,rfl,hRa⟩:=YK hcs;refine Yf ?_;refine zW ?_;((refine zG ?_);refine YaU T 1 Zz Zz Zz Zz Zz Zz he (by first | rfl | omega) (by rw [hab];rfl:f.exprs[1]?=some b) (fun p2 hp2=>?_));refine zL hp2 ?_;intro cs2 hcs2;obtain ⟨za,zk,rfl,hRb⟩:=YK hcs2;refine Yf ?_;refine Yf ?_;refine Yf ?_;refine Yf ?_;refine YM ⟨by kernel_rfl,?_⟩;refine Ch.qk (⟨Le.refl _,Zx⟩) (Yv Zz Zz (Ybj (s:=f.op)) ?_);refine Yt (Yx [] [_,_] Zz Zz Zz (WS hRa hsa) (fun v2 fz2 H2 hle2 hR2=>?_));obtain ⟨rfl,cs3,rfl,hr3⟩:=hR2;obtain ⟨vk3,rfl,hR3⟩:=Yi hr3;refine ⟨(⟨hle2,Zp2⟩),?_⟩;refine Yt (Yx [] [_,_] Zz Zz Zz (WS (hRb.mono hle2) hsb) (fun v4 fz4 H4 hle4 hR4=>?_));obtain ⟨rfl,cs5,rfl,hr5⟩:=hR4;obtain ⟨vk5,rfl,hR5⟩:=Yi hr5;refine ⟨(⟨(hle2.trans hle4),Zp2⟩),?_⟩;refine Yt (Yb T (cs:=Yr f.op++ [Zk (XU a).kind,Zk (XU a).value,Zk (XU a).line,Zk (XU a).column,.string (XU a).text,vk3]++ [Zk (XU b).kind,Zk (XU b).value,Zk (XU b).line,Zk (XU b).column,.string (XU b).text,vk5]) Zz Zz Zz Zz Zz Zz Zz Zz (fun gb=>⟨(⟨(hle2.trans hle4),Zp3⟩),?_⟩));refine Ch.qk (⟨(hle2.trans hle4),Zp3⟩) (Yv Zz Zz YcJ ?_);unfold sxV;refine Ch.hard0 Zj (YU T Zz Zz Zz Zz Zz Zz ?_);refine Ch.done ?_;refine zW ?_;refine Wg T (i:=1) rfl Zz Zz Zz Zz Zz (fun fz3 hle3 hf3=>⟨rfl,?_⟩);rw [Ybk,if_neg (show ¬f.op=kAtom from y1),if_neg (show ¬f.op=kSame from y2),if_pos hcmp,hab];exact Yfh h.op (hf3 _ (.head _)) (hR3.mono (hle4.trans hle3)) (hR5.mono hle3)
  refine wC (fun x4=>?_) (fun y4=>?_)
  ·have hcmp:CmpOp f.op:=.inr (.inl x4);obtain ⟨a,b,hab,hsa,hsb⟩:=Yn0 hF hcmp;have l2:=he.len;rw [hab] at l2;simp at l2;subst l2;refine zW ?_;refine Wp.drawK (Hq:=[_,_]) T.mixed Zj Zj Zb ?_;refine zW ?_;refine Yf ?_;refine zW ?_;((refine zG ?_);refine YaU T 0 Zz Zz Zz Zz Zz Zz he (by first | rfl | omega) (by rw [hab];rfl:f.exprs[0]?=some a) (fun p hp0=>?_));refine zL hp0 ?_;intro cs hcs;obtain ⟨wa,wk,rfl,hRa⟩:=YK hcs;refine Yf ?_;refine zW ?_;((refine zG ?_);refine YaU T 1 Zz Zz Zz Zz Zz Zz he (by first | rfl | omega) (by rw [hab];rfl:f.exprs[1]?=some b) (fun p2 hp2=>?_));refine zL hp2 ?_;intro cs2 hcs2;obtain ⟨za,zk,rfl,hRb⟩:=YK hcs2;refine Yf ?_;refine Yf ?_;refine Yf ?_;refine Yf ?_;refine YM ⟨by kernel_rfl,?_⟩;refine Ch.qk (⟨Le.refl _,Zx⟩) (Yv Zz Zz (Ybj (s:=f.op)) ?_);refine Yt (Yx [] [_,_] Zz Zz Zz (WS hRa hsa) (fun v2 fz2 H2 hle2 hR2=>?_));obtain ⟨rfl,cs3,rfl,hr3⟩:=hR2;obtain ⟨vk3,rfl,hR3⟩:=Yi hr3;refine ⟨(⟨hle2,Zp2⟩),?_⟩;refine Yt (Yx [] [_,_] Zz Zz Zz (WS (hRb.mono hle2) hsb) (fun v4 fz4 H4 hle4 hR4=>?_));obtain ⟨rfl,cs5,rfl,hr5⟩:=hR4;obtain ⟨vk5,rfl,hR5⟩:=Yi hr5;refine ⟨(⟨(hle2.trans hle4),Zp2⟩),?_⟩;refine Yt (Yb T (cs:=Yr f.op++ [Zk (XU a).kind,Zk (XU a).value,Zk (XU a).line,Zk (XU a).column,.string (XU a).text,vk3]++ [Zk (XU b).kind,Zk (XU b).value,Zk (XU b).line,Zk (XU b).column,.string (XU b).text,vk5]) Zz Zz Zz Zz Zz Zz Zz Zz (fun gb=>⟨(⟨(hle2.trans hle4),Zp3⟩),?_⟩));refine Ch.qk (⟨(hle2.trans hle4),Zp3⟩) (Yv Zz Zz YcJ ?_);unfold sxV;refine Ch.hard0 Zj (YU T Zz Zz Zz Zz Zz Zz ?_);refine Ch.done ?_;refine zW ?_;refine Wg T (i:=1) rfl Zz Zz Zz Zz Zz (fun fz3 hle3 hf3=>⟨rfl,?_⟩);rw [Ybk,if_neg (show ¬f.op=kAtom from y1),if_neg (show ¬f.op=kSame from y2),if_pos hcmp,hab];exact Yfh h.op (hf3 _ (.head _)) (hR3.mono (hle4.trans hle3)) (hR5.mono hle3)
  refine wC (fun x5=>?_) (fun y5=>?_)
  ·have hcmp:CmpOp f.op:=.inr (.inr x5);obtain ⟨a,b,hab,hsa,hsb⟩:=Yn0 hF hcmp;have l2:=he.len;rw [hab] at l2;simp at l2;subst l2;refine zW ?_;refine Wp.drawK (Hq:=[_,_]) T.mixed Zj Zj Zb ?_;refine zW ?_;refine Yf ?_;refine zW ?_;((refine zG ?_);refine YaU T 0 Zz Zz Zz Zz Zz Zz he (by first | rfl | omega) (by rw [hab];rfl:f.exprs[0]?=some a) (fun p hp0=>?_));refine zL hp0 ?_;intro cs hcs;obtain ⟨wa,wk,rfl,hRa⟩:=YK hcs;refine Yf ?_;refine zW ?_;((refine zG ?_);refine YaU T 1 Zz Zz Zz Zz Zz Zz he (by first | rfl | omega) (by rw [hab];rfl:f.exprs[1]?=some b) (fun p2 hp2=>?_));refine zL hp2 ?_;intro cs2 hcs2;obtain ⟨za,zk,rfl,hRb⟩:=YK hcs2;refine Yf ?_;refine Yf ?_;refine Yf ?_;refine Yf ?_;refine YM ⟨by kernel_rfl,?_⟩;refine Ch.qk (⟨Le.refl _,Zx⟩) (Yv Zz Zz (Ybj (s:=f.op)) ?_);refine Yt (Yx [] [_,_] Zz Zz Zz (WS hRa hsa) (fun v2 fz2 H2 hle2 hR2=>?_));obtain ⟨rfl,cs3,rfl,hr3⟩:=hR2;obtain ⟨vk3,rfl,hR3⟩:=Yi hr3;refine ⟨(⟨hle2,Zp2⟩),?_⟩;refine Yt (Yx [] [_,_] Zz Zz Zz (WS (hRb.mono hle2) hsb) (fun v4 fz4 H4 hle4 hR4=>?_));obtain ⟨rfl,cs5,rfl,hr5⟩:=hR4;obtain ⟨vk5,rfl,hR5⟩:=Yi hr5;refine ⟨(⟨(hle2.trans hle4),Zp2⟩),?_⟩;refine Yt (Yb T (cs:=Yr f.op++ [Zk (XU a).kind,Zk (XU a).value,Zk (XU a).line,Zk (XU a).column,.string (XU a).text,vk3]++ [Zk (XU b).kind,Zk (XU b).value,Zk (XU b).line,Zk (XU b).column,.string (XU b).text,vk5]) Zz Zz Zz Zz Zz Zz Zz Zz (fun gb=>⟨(⟨(hle2.trans hle4),Zp3⟩),?_⟩));refine Ch.qk (⟨(hle2.trans hle4),Zp3⟩) (Yv Zz Zz YcJ ?_);unfold sxV;refine Ch.hard0 Zj (YU T Zz Zz Zz Zz Zz Zz ?_);refine Ch.done ?_;refine zW ?_;refine Wg T (i:=1) rfl Zz Zz Zz Zz Zz (fun fz3 hle3 hf3=>⟨rfl,?_⟩);rw [Ybk,if_neg (show ¬f.op=kAtom from y1),if_neg (show ¬f.op=kSame from y2),if_pos hcmp,hab];exact Yfh h.op (hf3 _ (.head _)) (hR3.mono (hle4.trans hle3)) (hR5.mono hle3)
  refine zW ?_;have hc:¬CmpOp f.op:=fun h1=>h1.elim y3 (fun h1=>h1.elim y4 y5)
  obtain ⟨hpn,hkn,hks⟩:f.params.length<=1000000000/\f.kids.length<=1000000000/\∀ k∈f.kids,FShape k:=by
   cases hF with
   | atom h0=>exact (h0.elim y1 y2).elim
   | cmp h1=>exact absurd h1 hc
   | other _ _ _ h1 h2 h3=>exact ⟨h1,h2,h3⟩
  refine zc (YcJ (A:=none) (n:=0) (c:=0)) ?_;unfold sxV;refine zWO ?_;intros;rename_i g2;have l4:=hk.len;refine Yj (Wp.mid (fun σ fz' H'=>∃ (v:Value) (k:Nat) (Hs:HP),σ=[(3,Zp g2),(2,Zp g1),(1,Zp g0)]/\fz=fz'/\k<=1/\
   H'=(g2,.cells #[Zk 3,Zk 0,Zk 0,Zk 0,Ze,v] 57 (0,0))::(g1,.cells #[Zk 0,Zk 0,Zk 0,Zk 0,Ze,Zn] 57 (0,0))::(g0,.cells #[.string f.op,.string f.name,.slice A n c,.slice B m d,.slice C r cr,.slice D q cq] 38 (0,0))::Hs/\
   Grow Yz 57 fz' v k Hs (if f.op≠kAnd\/f.kids≠ [] then [Yg f.op] else [])) ?_ ?_)
  ·refine wC (fun z1=>?_) (fun z1=>?_)
   ·refine zW ?_;refine Wp.drawK (Hq:=[_,_,_]) T.mixed Zj Zj Zb ?_;refine zW ?_;refine Yf ?_;refine Yf ?_;refine Yf ?_;refine zW ?_;refine Yf ?_;refine YM ⟨by kernel_rfl,?_⟩;refine Ch.qk (⟨Le.refl _,Zx⟩) (Yv Zz Zz (Ybj (s:=f.op)) ?_);refine Yt (Yb T (cs:=Yr f.op) Zz Zz Zz Zz Zz Zz Zz Zz (fun gb=>⟨(⟨Le.refl _,Zx⟩),?_⟩));refine Yt (YP T (Hr:=[_,_,_,_]) Zz Zz Zz Zz Zz Zz Zz Zz (Zr _) (Grow.nil Yz 57 fz) Ys (.head _) (Yu h.op) Zh Zh (fun v' Hs' hO'=>⟨(⟨Le.refl _,Zx⟩),?_⟩));obtain ⟨Av',cv',rfl,_,_⟩:=hO'.form;refine Ch.hard0 Zj (YU T Zz Zz Zz Zz Zz Zz ?_);refine Ch.done ?_;exact wN (h:=by exact ⟨_,1,Hs',rfl,rfl,by omega,rfl,by rw [if_pos (.inl z1)];exact hO'⟩)
   refine wC (fun z2=>?_) (fun z2=>?_)
   ·have hkn0:f.kids≠ []:=fun h0=>by rw [h0] at l4;simp at l4;omega
    refine zW ?_;refine Wp.drawK (Hq:=[_,_,_]) T.mixed Zj Zj Zb ?_;refine zW ?_;refine Yf ?_;refine Yf ?_;refine Yf ?_;refine zW ?_;refine Yf ?_;refine YM ⟨by kernel_rfl,?_⟩;refine Ch.qk (⟨Le.refl _,Zx⟩) (Yv Zz Zz (Ybj (s:=f.op)) ?_);refine Yt (Yb T (cs:=Yr f.op) Zz Zz Zz Zz Zz Zz Zz Zz (fun gb=>⟨(⟨Le.refl _,Zx⟩),?_⟩));refine Yt (YP T (Hr:=[_,_,_,_]) Zz Zz Zz Zz Zz Zz Zz Zz (Zr _) (Grow.nil Yz 57 fz) Ys (.head _) (Yu h.op) Zh Zh (fun v' Hs' hO'=>⟨(⟨Le.refl _,Zx⟩),?_⟩));obtain ⟨Av',cv',rfl,_,_⟩:=hO'.form;refine Ch.hard0 Zj (YU T Zz Zz Zz Zz Zz Zz ?_);refine Ch.done ?_;exact wN (h:=by exact ⟨_,1,Hs',rfl,rfl,by omega,rfl,by rw [if_pos (.inr hkn0)];exact hO'⟩)
   have hkn0:f.kids=[]:=List.eq_nil_of_length_eq_zero Zi;exact wN (h:=by exact ⟨_,0,[],rfl,rfl,by omega,rfl,by rw [if_neg (by rintro (h0 | h0);exact h0 z1;exact h0 hkn0)];exact Grow.nil _ _ _⟩)
  rintro σ fz' H' ⟨v,k,Hs,rfl,rfl,hk1,rfl,hG⟩;refine Yj (Wp.mid (fun σ fz' H'=>∃ (v:Value) (k:Nat) (Hs:HP),σ=[(3,Zp g2),(2,Zp g1),(1,Zp g0)]/\Le fz fz'/\k<=2/\
   H'=(g2,.cells #[Zk 3,Zk 0,Zk 0,Zk 0,Ze,v] 57 (0,0))::(g1,.cells #[Zk 0,Zk 0,Zk 0,Zk 0,Ze,Zn] 57 (0,0))::(g0,.cells #[.string f.op,.string f.name,.slice A n c,.slice B m d,.slice C r cr,.slice D q cq] 38 (0,0))::Hs/\
   Grow Yz 57 fz' v k Hs ((if f.op≠kAnd\/f.kids≠ [] then [Yg f.op] else [])++(if f.op=XL\/f.op=WJ then [YD ((f.params.flatMap W1).map Yg)] else []))) ?_ ?_)
  ·obtain ⟨Av,cv,rfl,_,_⟩:=hG.form;refine wC (fun w1=>?_) (fun w1=>?_)
   ·refine zW ?_;refine Wp.drawK (Hq:=[_,_,_]) T.mixed Zj Zj Zb ?_;refine zW ?_;refine Yf ?_;refine Yf ?_;refine Yf ?_;refine Yf ?_;refine zW ?_;refine Yf ?_;refine YM ⟨by kernel_rfl,?_⟩;refine Yt (Yx [] _ Zz Zz Zz (YdK hp (by rw [<- hp.len];exact hpn)) (fun v2 fz2 H2 hle2 hR2=>?_));obtain ⟨rfl,B2,cc2,rfl,hsl2⟩:=hR2;refine ⟨(⟨hle2,Zx⟩),?_⟩;refine Ch.qk (⟨hle2,Zx⟩) (Yv Zz Zz YcJ ?_);unfold sxV;refine Yt (Yb T (cs:=[Zk 3,Zk 0,Zk 0,Zk 0,Ze,.slice B2 (3*m) cc2]) Zz Zz Zz Zz Zz Zz Zz Zz (fun gb=>⟨(⟨hle2,Zx⟩),?_⟩));refine Yt (YP T (Hr:=[_,_,_,_]) (d:=YD ((f.params.flatMap W1).map Yg)) Zz Zz Zz Zz Zz Zz Zz Zz (Zr _) (hG.mono hle2) Ys (.head _) (Yh (x:=YD _) ⟨YfH,Wd,Wd,Wd,Xu,hsl2.is⟩) (by show _*72<=_;omega) Zi (fun v' Hs' hO'=>⟨(⟨hle2,Zx⟩),?_⟩));obtain ⟨Av',cv',rfl,_,_⟩:=hO'.form;refine Ch.hard0 Zj (YU T Zz Zz Zz Zz Zz Zz ?_);refine Ch.done ?_;exact wN (h:=by exact ⟨_,k+1,Hs',rfl,hle2,by omega,rfl,by rw [if_pos (Or.inl w1:f.op=XL\/f.op=WJ)];exact hO'⟩)
   refine wC (fun w2=>?_) (fun w2=>?_)
   ·refine zW ?_;refine Wp.drawK (Hq:=[_,_,_]) T.mixed Zj Zj Zb ?_;refine zW ?_;refine Yf ?_;refine Yf ?_;refine Yf ?_;refine Yf ?_;refine zW ?_;refine Yf ?_;refine YM ⟨by kernel_rfl,?_⟩;refine Yt (Yx [] _ Zz Zz Zz (YdK hp (by rw [<- hp.len];exact hpn)) (fun v2 fz2 H2 hle2 hR2=>?_));obtain ⟨rfl,B2,cc2,rfl,hsl2⟩:=hR2;refine ⟨(⟨hle2,Zx⟩),?_⟩;refine Ch.qk (⟨hle2,Zx⟩) (Yv Zz Zz YcJ ?_);unfold sxV;refine Yt (Yb T (cs:=[Zk 3,Zk 0,Zk 0,Zk 0,Ze,.slice B2 (3*m) cc2]) Zz Zz Zz Zz Zz Zz Zz Zz (fun gb=>⟨(⟨hle2,Zx⟩),?_⟩));refine Yt (YP T (Hr:=[_,_,_,_]) (d:=YD ((f.params.flatMap W1).map Yg)) Zz Zz Zz Zz Zz Zz Zz Zz (Zr _) (hG.mono hle2) Ys (.head _) (Yh (x:=YD _) ⟨YfH,Wd,Wd,Wd,Xu,hsl2.is⟩) (by show _*72<=_;omega) Zi (fun v' Hs' hO'=>⟨(⟨hle2,Zx⟩),?_⟩));obtain ⟨Av',cv',rfl,_,_⟩:=hO'.form;refine Ch.hard0 Zj (YU T Zz Zz Zz Zz Zz Zz ?_);refine Ch.done ?_;exact wN (h:=by exact ⟨_,k+1,Hs',rfl,hle2,by omega,rfl,by rw [if_pos (Or.inr w2:f.op=XL\/f.op=WJ)];exact hO'⟩)
   exact wN (h:=by exact ⟨_,k,Hs,rfl,Le.refl _,by omega,rfl,by rw [if_neg (show ¬(f.op=XL\/f.op=WJ) from fun h0=>h0.elim w1 w2),List.append_nil];exact hG⟩)
  rintro σ fz' H' ⟨v,k,Hs,rfl,hle,hk1,rfl,hG⟩;generalize hbase:(if f.op≠kAnd\/f.kids≠ [] then [Yg f.op] else [])++(if f.op=XL\/f.op=WJ then [YD ((f.params.flatMap W1).map Yg)] else [])=base at hG;refine zW ?_;refine Ym (fun mm σ fz2 H'=>∃ (j:Nat) (v:Value) (k:Nat) (Hs:HP),j<=q/\mm=q - j/\σ=[(77,Zk j),(76,Zk q),(75,.slice D q cq),(3,Zp g2),(2,Zp g1)]/\Le fz' fz2/\k<=2+j/\
   H'=(g2,.cells #[Zk 3,Zk 0,Zk 0,Zk 0,Ze,v] 57 (0,0))::(g1,.cells #[Zk 0,Zk 0,Zk 0,Zk 0,Ze,Zn] 57 (0,0))::Hs/\Grow Yz 57 fz2 v k Hs (base++(f.kids.take j).map (Ybk s)))
   ⟨0,v,k,Hs,Z0 _,rfl,rfl,Le.refl _,by omega,rfl,by simpa using hG⟩ Zw Zb ?_
  rintro mm σ fz2 H' ⟨j,v,k,Hs,hj,rfl,rfl,hle2,hk2,rfl,hG⟩;obtain ⟨Av,cv,rfl,_,_⟩:=hG.form;have hk3:=hk.mono (hle.trans hle2);refine wC (fun c1=>?_) (fun c1=>?_)
  ·obtain ⟨x,hx⟩:=Yl (l:=f.kids) (k:=j) Zi;have hxm:x∈f.kids:=Zm hx;have hlt:=Formula.kids_lt hxm;refine wI hk3 hx (fun p hp5=>?_);refine zL hp5 ?_;intro cs hcs;obtain ⟨wa,wp,we,wk,rfl,hRx⟩:=YA hcs;obtain ⟨A1,n1,b1,rfl,_⟩:=hRx.args;obtain ⟨A2,n2,b2,rfl,_⟩:=hRx.params;obtain ⟨A3,n3,b3,rfl,_⟩:=hRx.exprs;obtain ⟨A4,n4,b4,rfl,_⟩:=hRx.kids;refine zW ?_;intros;rename_i g5;refine Wp.drawK (Hq:=[_,_,_]) T.mixed Zj Zj Zb ?_;refine zW ?_;refine Yf ?_;refine Yf ?_;refine Yf ?_;refine zW ?_;refine Yf ?_;refine YM ⟨by kernel_rfl,?_⟩;refine Yt (Yx [] _ Zz Zz Zz (YlU s (f:=x) Zi hRx (hks x hxm)) (fun v2 fz4 H2 hle4 hR2=>?_));obtain ⟨rfl,cs3,rfl,hr3⟩:=hR2;obtain ⟨vk3,rfl,hR3⟩:=Yi hr3;refine ⟨(⟨hle4,Zx⟩),?_⟩;refine Yt (Yb T (cs:=[Zk (Ybk s x).kind,Zk (Ybk s x).value,Zk (Ybk s x).line,Zk (Ybk s x).column,.string (Ybk s x).text,vk3]) Zz Zz Zz Zz Zz Zz Zz Zz (fun gb=>⟨(⟨hle4,Zx⟩),?_⟩));refine Yt (YP T (Hr:=[_,_,_,_]) (d:=Ybk s x) Zz Zz Zz Zz Zz Zz Zz Zz (Zr _) (hG.mono hle4) Ys (.head _) (Yh hR3) (by show _*72<=_;omega) Zi (fun v' Hs' hO'=>⟨(⟨hle4,Zx⟩),?_⟩));obtain ⟨Av',cv',rfl,_,_⟩:=hO'.form;refine Ch.hard0 Zj (Wk T Zz Zz Zz Zz Zz Zz ?_);refine Ch.done ?_;exact wP (h:=by exact ⟨j+1,_,k+1,Hs',by omega,rfl,rfl,hle2.trans hle4,by omega,rfl,by rw [List.take_add_one,hx,Option.toList,List.map_append,<- List.append_assoc];exact hO'⟩)
  have hj1:j=q:=by omega
  subst hj1;refine zW ?_;refine Wg T (i:=1) rfl Zz Zz Zz Zz Zz (fun fz3 hle3 hf3=>⟨rfl,?_⟩);rw [Zl Zi] at hG;obtain ⟨A',c',he5,hsl⟩:=hG.sl hle3 (fun p hp=>hf3 p (by simp [hp])) Zi;injection he5 with e1 e2 e3
  subst e1 e3;rw [Ybk,if_neg (show ¬f.op=kAtom from y1),if_neg (show ¬f.op=kSame from y2),if_neg hc,hbase];exact Yad hsl
def Xc (f:Formula):Sexpr:=Ybk (SizeOf.sizeOf f) f
open Classical in
theorem Ye8 (f:Formula):Xc f=if f.op=kAtom then W5 f.name f.args else if f.op=kSame then W5 kEq f.args else if CmpOp f.op then YD (Yg f.op::f.exprs.map XU)
 else YD ((if f.op≠kAnd\/f.kids≠ [] then [Yg f.op] else [])++(if f.op=XL\/f.op=WJ then [YD ((f.params.flatMap W1).map Yg)] else [])++f.kids.map Xc):=by
 have hk:f.kids.map (Ybk (SizeOf.sizeOf f))=f.kids.map Xc:=List.map_congr_left (fun k hk=>Yeq _ _ k (by have:=Formula.kids_lt hk;omega) (Zs _));rw [Xc,Yeq _ (SizeOf.sizeOf f+1) f (Zs _) Zi,Ybk,hk]
variable {ve vp:Value}
theorem YlT (h:FormulaR fz f va vp ve vk) (hF:FShape f):
 GFn prog 108 [.agg #[.string f.op,.string f.name,va,vp,ve,vk]] fz [] (fun v fz' H'=>H'=[]/\SxIs fz' v (Xc f)):=YlU _ (Zs _) h hF
end Go.Proofs.YtfjopfinkdhmaaaGreatDoor
namespace Go.Lx
def NumOk (n:Int):Prop:= -1099511627776<=n/\n<=1099511627776
mutual
def ecount:Expr->Nat
 | .mk _ _ _ _ kids=>1+ecountL kids
def ecountL:List Expr->Nat
 | []=>0
 | k::r=>ecount k+ecountL r
end
mutual
def edepth:Expr->Nat
 | .mk _ _ _ _ kids=>1+edepthL kids
def edepthL:List Expr->Nat
 | []=>0
 | k::r=>max (edepth k) (edepthL r)
end
mutual
def fcount:Formula->Nat
 | .mk _ _ _ _ exprs kids=>1+ecountL exprs+fcountL kids
def fcountL:List Formula->Nat
 | []=>0
 | k::r=>fcount k+fcountL r
end
mutual
def fdepth:Formula->Nat
 | .mk _ _ _ _ exprs kids=>1+max (edepthL exprs) (fdepthL kids)
def fdepthL:List Formula->Nat
 | []=>0
 | k::r=>max (fdepth k) (fdepthL r)
end
mutual
def xcount:Sexpr->Nat
 | .mk _ _ _ _ _ kids=>1+xcountL kids
def xcountL:List Sexpr->Nat
 | []=>0
 | k::r=>xcount k+xcountL r
end
mutual
def xdepth:Sexpr->Nat
 | .mk kind _ _ _ _ kids=>xdepthL kids+(if kind=3 then 1 else 0)
def xdepthL:List Sexpr->Nat
 | []=>0
 | k::r=>max (xdepth k) (xdepthL r)
end
theorem YcM (e:Expr):ecount e=1+ecountL e.kids:=by cases e;simp [ecount,Expr.kids]
theorem Yd0 (e:Expr):edepth e=1+edepthL e.kids:=by cases e;simp [edepth,Expr.kids]
theorem YdW (f:Formula):fcount f=1+ecountL f.exprs+fcountL f.kids:=by cases f;simp [fcount,Formula.kids,Formula.exprs]
theorem YfS (f:Formula):fdepth f=1+max (edepthL f.exprs) (fdepthL f.kids):=by cases f;simp [fdepth,Formula.kids,Formula.exprs]
theorem Y4 (x:Sexpr):xcount x=1+xcountL x.kids:=by cases x;simp [xcount,Sexpr.kids]
theorem Ybd (x:Sexpr):xdepth x=xdepthL x.kids+(if x.kind=3 then 1 else 0):=by cases x;rw [xdepth];rfl
theorem Yi6 {l:List Expr} {x:Expr}:ecountL (l++ [x])=ecountL l+ecount x:=by
 induction l with
 | nil=>simp [ecountL]
 | cons a r ih=>simp only [List.cons_append,ecountL,ih];omega
theorem Yi2 {l:List Formula} {x:Formula}:fcountL (l++ [x])=fcountL l+fcount x:=by
 induction l with
 | nil=>simp [fcountL]
 | cons a r ih=>simp only [List.cons_append,fcountL,ih];omega
theorem Yh2 {l:List Sexpr} {x:Sexpr}:xcountL (l++ [x])=xcountL l+xcount x:=by
 induction l with
 | nil=>simp [xcountL]
 | cons a r ih=>simp only [List.cons_append,xcountL,ih];omega
theorem Ygn {l m:List Expr}:ecountL (l++m)=ecountL l+ecountL m:=by
 induction l with
 | nil=>simp [ecountL]
 | cons a r ih=>simp only [List.cons_append,ecountL,ih];omega
theorem Ygm {l m:List Formula}:fcountL (l++m)=fcountL l+fcountL m:=by
 induction l with
 | nil=>simp [fcountL]
 | cons a r ih=>simp only [List.cons_append,fcountL,ih];omega
theorem Wo {l m:List Sexpr}:xcountL (l++m)=xcountL l+xcountL m:=by
 induction l with
 | nil=>simp [xcountL]
 | cons a r ih=>simp only [List.cons_append,xcountL,ih];omega
theorem Yga {l m:List Sexpr}:xdepthL (l++m)=max (xdepthL l) (xdepthL m):=by
 induction l with
 | nil=>simp [xdepthL]
 | cons a r ih=>simp only [List.cons_append,xdepthL,ih];omega
theorem XX {l:List Sexpr} {x:Sexpr} (h:x∈l):xcount x<=xcountL l:=by
 induction l with
 | nil=>cases h
 | cons a r ih=>
  simp only [xcountL];rcases List.mem_cons.1 h with rfl | h
  ·omega
  have:=ih h;omega
theorem YgP {l:List Expr} {b:Nat}:edepthL l<=b↔∀ x∈l,edepth x<=b:=by
 induction l with
 | nil=>simp [edepthL]
 | cons a r ih=>simp only [edepthL,List.mem_cons,forall_eq_or_imp,Nat.max_le,ih]
theorem YgO {l:List Formula} {b:Nat}:fdepthL l<=b↔∀ x∈l,fdepth x<=b:=by
 induction l with
 | nil=>simp [fdepthL]
 | cons a r ih=>simp only [fdepthL,List.mem_cons,forall_eq_or_imp,Nat.max_le,ih]
theorem Yat {l:List Sexpr} {b:Nat}:xdepthL l<=b↔∀ x∈l,xdepth x<=b:=by
 induction l with
 | nil=>simp [xdepthL]
 | cons a r ih=>simp only [xdepthL,List.mem_cons,forall_eq_or_imp,Nat.max_le,ih]
theorem X9 {l:List Sexpr}:l.length<=xcountL l:=by
 induction l with
 | nil=>simp
 | cons a r ih=>simp only [List.length_cons,xcountL,Y4 a];omega
variable {k:Nat}
theorem YcO {l:List Expr} {x:Expr} (hx:l[k]?=some x):ecountL (l.take (k+1))=ecountL (l.take k)+ecount x:=by
 rw [List.take_add_one,hx];simp only [Option.toList];exact Yi6
theorem YcN {l:List Expr}:ecountL (l.take k)<=ecountL l:=by
 have h:=Ygn (l:=l.take k) (m:=l.drop k);rw [List.take_append_drop] at h;omega
theorem YeJ {l:List Formula} {x:Formula} (hx:l[k]?=some x):fcountL (l.take (k+1))=fcountL (l.take k)+fcount x:=by
 rw [List.take_add_one,hx];simp only [Option.toList];exact Yi2
theorem YeI {l:List Formula}:fcountL (l.take k)<=fcountL l:=by
 have h:=Ygm (l:=l.take k) (m:=l.drop k);rw [List.take_append_drop] at h;omega
theorem Yh1 {l:List Sexpr} {x:Sexpr} (hx:l[k]?=some x):xcountL (l.take (k+1))=xcountL (l.take k)+xcount x:=by
 rw [List.take_add_one,hx];simp only [Option.toList];exact Yh2
theorem YeC {l:List Sexpr}:xcountL (l.take k)<=xcountL l:=by
 have h:=Wo (l:=l.take k) (m:=l.drop k);rw [List.take_append_drop] at h;omega
mutual
/-- what holds of all parts -/
def EAll (p:Expr->Prop):Expr->Prop
 | .mk op name n args kids=>p (.mk op name n args kids)/\EAllL p kids
def EAllL (p:Expr->Prop):List Expr->Prop
 | []=>True
 | k::r=>EAll p k/\EAllL p r
end
mutual
def FAll (p:Formula->Prop) (q:Expr->Prop):Formula->Prop
 | .mk op name args params exprs kids=>p (.mk op name args params exprs kids)/\EAllL q exprs/\FAllL p q kids
def FAllL (p:Formula->Prop) (q:Expr->Prop):List Formula->Prop
 | []=>True
 | k::r=>FAll p q k/\FAllL p q r
end
mutual
def XAll (p:Sexpr->Prop):Sexpr->Prop
 | .mk kind value line column text kids=>p (.mk kind value line column text kids)/\XAllL p kids
def XAllL (p:Sexpr->Prop):List Sexpr->Prop
 | []=>True
 | k::r=>XAll p k/\XAllL p r
end
theorem Yjp {p:Expr->Prop} {l:List Expr}:EAllL p l↔∀ k∈l,EAll p k:=by
 induction l with
 | nil=>simp [EAllL]
 | cons a r ih=>simp only [EAllL,ih,List.mem_cons,forall_eq_or_imp]
theorem Yoj {p:Formula->Prop} {q:Expr->Prop} {l:List Formula}:FAllL p q l↔∀ k∈l,FAll p q k:=by
 induction l with
 | nil=>simp [FAllL]
 | cons a r ih=>simp only [FAllL,ih,List.mem_cons,forall_eq_or_imp]
theorem Yf7 {p:Sexpr->Prop} {l:List Sexpr}:XAllL p l↔∀ k∈l,XAll p k:=by
 induction l with
 | nil=>simp [XAllL]
 | cons a r ih=>simp only [XAllL,ih,List.mem_cons,forall_eq_or_imp]
theorem W0 {p:Expr->Prop} {e:Expr}:EAll p e↔p e/\∀ k∈e.kids,EAll p k:=by cases e;simp only [EAll,Yjp,Expr.kids]
variable {f:Formula}
theorem Wc {p:Formula->Prop} {q:Expr->Prop}:FAll p q f↔p f/\(∀ e∈f.exprs,EAll q e)/\∀ k∈f.kids,FAll p q k:=by cases f;simp only [FAll,Yoj,Yjp,Formula.kids,Formula.exprs]
theorem Y2 {p:Sexpr->Prop} {x:Sexpr}:XAll p x↔p x/\∀ k∈x.kids,XAll p k:=by cases x;simp only [XAll,Yf7,Sexpr.kids]
theorem Yab {P:Program} {cx:Cx} {r:Operand->Option Value} {fz:FZ} {H:HP} {V:Value->Prop} {dst:Option Nat} {ty:TypeId} {pos:String} {af:Array Edge} {gd:Option (Nat × Bool)} {f:FuncId} {ff:Operand} {xs:List Operand} {ats:Array TypeId} {us vs first capt:List Value} {p:Prop} [Decidable p] (hf:r ff=some (.func (.func f) first.toArray capt.toArray)) (hx:rds r xs=some us) (hv:first++us++capt=vs) (hq:QFn P f vs fz (.bool (decide p)))
 (h1:p->V (.bool true)) (h2:¬p->V (.bool false)):DoesQ P cx ⟨dst,.call {callee:=.value ff,args:=xs.toArray,argTypes:=ats},ty,pos,af,gd⟩ r fz H V:=
 Ycz hf hx hv hq (YgZ h1 h2)
end Go.Lx
namespace Go.Proofs.YtfjopfinkdhmaaaGreatDoor
open Go.Lx Go.RowKit
attribute [local instance 10] Classical.propDecidable
open Go.Proofs.Tryz (prog)
theorem Yli {p:Prop} [Decidable p]:Value.bool (!decide p)=Value.bool (decide (¬p)):=by rw [decide_not]
variable {A:Option Addr} {c n:Nat} {fz:FZ}
theorem indexF_q {l:List Bs} {ff:FuncId} {p:Bs->Prop} [DecidablePred p] (h1:Sl strL fz A n c l) (hq:∀ x,Short x->QFn prog ff [.string x] fz (.bool (decide (p x)))):
 QFn prog 196 [.slice A n c,.func (.func ff) #[] #[]] fz (Zk (Wn p l 0)):=by
 refine GFn.quiet ?_;refine zF Tryz.func196 Tryz.ntmps196 (fun w0=>?_);have l1:=h1.len;have hm:=h1.short;refine zW ?_;refine Ym (fun q σ fz' H'=>∃ k:Nat,k<=n/\q=n - k/\σ=[(8,Zk k),(7,Zk n),(0,.slice A n c),(1,.func (.func ff) #[] #[])]/\fz=fz'/\H'=[]/\(∀ i,i<k->∀ x,l[i]?=some x->¬p x)) ⟨0,Z0 _,rfl,rfl,rfl,rfl,(fun i hi=>absurd hi Zi)⟩ Zw Zb ?_;rintro q σ fz' H' ⟨k,hk,rfl,rfl,rfl,rfl,hh⟩;refine wC (fun hlt=>?_) (fun hge=>?_)
 ·refine zW ?_;obtain ⟨x,hx⟩:=Yl (l:=l) (k:=k) Zi;refine zI h1 hx (fun a ha=>?_);refine zH ha (fun iy=>?_);refine wG ?_;refine Yab Zz Zz Zz (hq x iy) (fun c1=>?_) (fun c1=>?_)
  ·exact wR (h:=by rw [W8 hh hx c1,Int.zero_add])
  exact wP (h:=by exact ⟨k+1,by omega,rfl,rfl,rfl,rfl,(YL hh hx c1)⟩)
 exact wR (h:=by rw [Wu (Xy hh Zi)])
theorem Ycm {l:List Bs} {ff:FuncId} {p:Bs->Prop} [DecidablePred p] (h1:Sl strL fz A n c l) (hq:∀ x,Short x->QFn prog ff [.string x] fz (.bool (decide (p x)))):
 QFn prog 158 [.slice A n c,.func (.func ff) #[] #[]] fz (.bool (decide (∃ x∈l,p x))):=by
 refine GFn.quiet ?_;refine zF Tryz.func158 Tryz.ntmps158 (fun w0=>?_);refine wc (indexF_q h1 hq) ?_;refine zC (fun c1=>?_) (fun c1=>?_)
 ·exact wR (h:=by exact Yw ((Xt (Int.le_refl 0)).1 c1))
 exact wR (h:=by exact Yn (fun h=>c1 ((Xt (Int.le_refl 0)).2 h)))
theorem Yig {s:Bs} (hs:Short s):QFn prog 193 [.string s] fz (.bool (decide (¬Ydx s))):=by
 refine GFn.quiet ?_;refine zF Tryz.func193 Tryz.ntmps193 (fun w0=>?_);refine wc (Ymg hs) ?_;exact wR (h:=by exact Yli)
theorem Ynw {s:Bs} (hs:Short s):QFn prog 227 [.string s] fz (.bool (decide (¬Ydx s))):=by
 refine GFn.quiet ?_;refine zF Tryz.func227 Tryz.ntmps227 (fun w0=>?_);refine wc (Ymg hs) ?_;exact wR (h:=by exact Yli)
def budO (c:Int):Obj:=.cells #[Zk c] 230 (0,0)
variable {g:Nat}
theorem take_q {d:Nat} (hc:c<=5000):GFn prog 192 [Zp g,Zk d] fz [(g,budO c)] (fun v fz' H'=>Le fz fz'/\H'=[(g,budO (c+1:Nat))]/\∃ b:Bool,v=.bool b/\(b=true↔c+1<=4096/\d<=32)):=by
 unfold budO;refine zF Tryz.func192 Tryz.ntmps192 (fun w0=>?_);refine wC (fun c1=>?_) (fun c1=>?_)
 ·refine wC (fun c2=>?_) (fun c2=>?_)
  ·exact wR (h:=by exact ⟨Le.refl _,rfl,true,rfl,iff_of_true rfl ⟨by omega,by omega⟩⟩)
  exact wR (h:=by exact ⟨Le.refl _,rfl,false,rfl,iff_of_false (by simp) (fun h=>c2 Zi)⟩)
 exact wR (h:=by exact ⟨Le.refl _,rfl,false,rfl,iff_of_false (by simp) (fun h=>c1 Zi)⟩)
def kPlus:Bs:=⟨#[43]⟩
def kStar:Bs:=⟨#[42]⟩
def BinP (s:Bs):Prop:=s=kPlus\/s=Wm\/s=kStar
def Yf9 (e:Lx.Expr):Prop:=
 (e.op=kNumber/\e.name=kEmpty/\e.args=[]/\e.kids=[]/\NumOk e.n)\/(e.op=kFluent/\e.n=0/\e.kids=[]/\YX e.name/\∀ s∈e.args,Ydx s)\/(BinP e.op/\e.n=0/\e.name=kEmpty/\e.args=[]/\e.kids.length=2)
abbrev EOk (e:Lx.Expr):Prop:=EAll Yf9 e
theorem YdX {e:Lx.Expr} (h:e.op=kNumber):Yf9 e↔e.name=kEmpty/\e.args=[]/\e.kids=[]/\NumOk e.n:=by
 unfold Yf9 BinP;rw [h];refine ⟨fun h=>?_,fun h=>.inl ⟨rfl,h⟩⟩;rcases h with h | h | h
 ·exact h.2
 ·exact absurd (congrArg (fun s=>Yap s 0) h.1) Zh
 rcases h.1 with h | h | h<;>exact absurd (congrArg ByteArray.size h) Zh
theorem YdY {e:Lx.Expr} (h:e.op=kFluent):Yf9 e↔e.n=0/\e.kids=[]/\YX e.name/\∀ s∈e.args,Ydx s:=by
 unfold Yf9 BinP;rw [h];refine ⟨fun h=>?_,fun h=>.inr (.inl ⟨rfl,h⟩)⟩;rcases h with h | h | h
 ·exact absurd (congrArg (fun s=>Yap s 0) h.1) Zh
 ·exact h.2
 rcases h.1 with h | h | h<;>exact absurd (congrArg ByteArray.size h) Zh
theorem YdZ {e:Lx.Expr} (h1:¬e.op=kNumber) (h2:¬e.op=kFluent):Yf9 e↔BinP e.op/\e.n=0/\e.name=kEmpty/\e.args=[]/\e.kids.length=2:=
 ⟨fun h=>by rcases h with h | h | h;exact absurd h.1 h1;exact absurd h.1 h2;exact h,fun h=>.inr (.inr h)⟩
def EBud (g:Nat) (e:Lx.Expr) (d c:Nat) (v:Value) (H':HP):Prop:=
 ∃ (b:Bool) (c':Int),v=.bool b/\H'=[(g,budO c')]/\(b=true->c'=((c+ecount e:Nat):Int))/\(b=true↔EOk e/\d+edepth e<=33/\c+ecount e<=4096)
theorem YhN {e:Lx.Expr} {d:Nat} {c':Int} (h:¬(EOk e/\d+edepth e<=33/\c+ecount e<=4096)):EBud g e d c (.bool false) [(g,budO c')]:=⟨false,c',rfl,rfl,(by simp),iff_of_false (by simp) h⟩
theorem Yi7 {e:Lx.Expr} {d:Nat} (h:Yf9 e) (hk:e.kids=[]) (ht:c+1<=4096/\d<=32):EBud g e d c (.bool true) [(g,budO (c+1:Nat))]:=by
 have h1:ecount e=1:=by rw [YcM,hk];simp [ecountL]
 have h2:edepth e=1:=by rw [Yd0,hk];simp [edepthL]
 exact ⟨true,_,rfl,rfl,fun _=>by rw [h1],iff_of_true rfl ⟨W0.2 ⟨h,by rw [hk];simp⟩,by omega,by omega⟩⟩
theorem len0 {α:Type} {l:List α} (h:l.length=n):(n:Int)=0↔l=[]:=by
 constructor
 ·intro h0;exact List.eq_nil_of_length_eq_zero Zi
 intro h0;subst h0;simp at h;omega
set_option maxHeartbeats 1000000 in
theorem YhD:∀ (s:Nat) {fz:FZ} {e:Lx.Expr} {va vk:Value} {g d c:Nat},SizeOf.sizeOf e<=s->ExprR fz e va vk->d<=33->c<=4096->
 GFn prog 195 [.agg #[.string e.op,.string e.name,Zk e.n,va,vk],Zk d,Zp g] fz [(g,budO c)] (fun v fz' H'=>Le fz fz'/\EBud g e d c v H')
 | 0,_,e,_,_,_,_,_,hs,_,_,_=>by cases e;simp at hs
 | s+1,fz,e,va,vk,g,d,c,hs,h,hd,hc=>by
  obtain ⟨A,n,ca,rfl,ha⟩:=h.args;obtain ⟨B,m,cb,rfl,hk⟩:=h.kids;have no:∀ {c':Int},¬Yf9 e->EBud g e d c (.bool false) [(g,budO c')]:=fun h0=>YhN (fun h1=>h0 (W0.1 h1.1).1)
  refine zF Tryz.func195 Tryz.ntmps195 (fun w0=>?_);refine Yj (Yq (Ya Zz (Xb _ Zz Zz (fun g0=>?_))))
  first | refine Wp.perm (List.Perm.swap _ _ _) ?_ | refine Seq.perm (List.Perm.swap _ _ _) ?_
  refine zW ?_;refine Ya Zz (Yx [_] [_] Zz Zz Zz (take_q Zi) (fun v fz2 H2 hle2 hR=>?_));obtain ⟨hle3,rfl,b,rfl,hb⟩:=hR;cases b
  ·refine zW ?_
   (exact ret1 rfl rfl Zb ⟨hle2,YhN (fun h0=>by
    have h1:=YcM e;have h2:=Yd0 e;exact absurd (hb.2 ⟨by omega,by omega⟩) (by simp))⟩)
  have ht:=hb.1 rfl;refine zW ?_;refine zC (fun x1=>?_) (fun y1=>?_)
  ·have hn:=YdX (e:=e) x1;refine zW ?_
   (((refine zC (fun n1=>?_) (fun n1=>?_));rotate_left 1;((refine zW ?_);(exact ret1 rfl rfl Zb ⟨hle2,no (fun h0=>n1 (hn.1 h0).1)⟩));(refine zW ?_)))
   (((refine zC (fun n2=>?_) (fun n2=>?_));rotate_left 1;((refine zW ?_);(exact ret1 rfl rfl Zb ⟨hle2,no (fun h0=>n2 ((len0 ha.len).2 (hn.1 h0).2.1))⟩));(refine zW ?_)))
   (((refine zC (fun n3=>?_) (fun n3=>?_));rotate_left 1;((refine zW ?_);(exact ret1 rfl rfl Zb ⟨hle2,no (fun h0=>n3 ((len0 hk.len).2 (hn.1 h0).2.2.1))⟩));(refine zW ?_)))
   (((refine zC (fun n4=>?_) (fun n4=>?_));rotate_left 1;((refine zW ?_);(exact ret1 rfl rfl Zb ⟨hle2,no (fun h0=>n4 (hn.1 h0).2.2.2.1)⟩));(refine zW ?_)))
   (((refine zC (fun n5=>?_) (fun n5=>?_));rotate_left 1;((refine zW ?_);(exact ret1 rfl rfl Zb ⟨hle2,no (fun h0=>n5 (hn.1 h0).2.2.2.2)⟩));(refine zW ?_)));exact ret1 rfl rfl Zb ⟨hle2,Yi7 (hn.2 ⟨n1,(len0 ha.len).1 n2,(len0 hk.len).1 n3,n4,n5⟩) ((len0 hk.len).1 n3) ht⟩
  refine zW ?_;refine zC (fun x2=>?_) (fun y2=>?_)
  ·have hn:=YdY (e:=e) x2;refine zW ?_
   (((refine zC (fun n1=>?_) (fun n1=>?_));rotate_left 1;((refine zW ?_);(exact ret1 rfl rfl Zb ⟨hle2,no (fun h0=>n1 (hn.1 h0).1)⟩));(refine zW ?_)))
   (((refine zC (fun n2=>?_) (fun n2=>?_));rotate_left 1;((refine zW ?_);(exact ret1 rfl rfl Zb ⟨hle2,no (fun h0=>n2 ((len0 hk.len).2 (hn.1 h0).2.1))⟩));(refine zW ?_)));refine zb (Ww h.name) (fun f1=>?_) (fun f1=>?_)
   ·refine zW ?_
    ((refine zG ?_);refine We Zz Zz (Ycm (ha.mono hle2) (fun x hx=>Ynw hx)) (fun f2=>?_) (fun f2=>?_))
    ·refine zW ?_
     (exact ret1 rfl rfl Zb ⟨hle2,no (fun h0=>by
      obtain ⟨x,hx,hx2⟩:=Zt f2;exact hx2 ((hn.1 h0).2.2.2 x hx))⟩)
    refine zW ?_;exact ret1 rfl rfl Zb ⟨hle2,Yi7 (hn.2 ⟨n1,(len0 hk.len).1 n2,Zt f1,fun x hx=>Classical.byContradiction fun h0=>Zf f2 ⟨x,hx,h0⟩⟩) ((len0 hk.len).1 n2) ht⟩
   refine zW ?_;exact ret1 rfl rfl Zb ⟨hle2,no (fun h0=>Zf f1 (hn.1 h0).2.2.1)⟩
  refine zWO ?_;refine Wp.cond_false Zz ?_;refine Yj (Wp.mid (fun σ fz' H'=>∃ b:Bool,σ=[(62,.bool b),(3,Zp g0),(2,Zp g),(1,Zk d)]/\fz2=fz'/\H'=[(g,budO (c+1:Nat)),(g0,.cells #[.string e.op,.string e.name,Zk e.n,.slice A n ca,.slice B m cb] 120 (0,0))]/\(b=true↔BinP e.op)) ?_ ?_)
  ·refine zW ?_;refine zC (fun p1=>?_) (fun p1=>?_)
   ·refine zW ?_;exact midN ⟨true,rfl,rfl,rfl,iff_of_true rfl (.inl p1)⟩ Zw Zb
   refine zW ?_;refine zC (fun p2=>?_) (fun p2=>?_)
   ·refine zW ?_;exact midN ⟨true,rfl,rfl,rfl,iff_of_true rfl (.inr (.inl p2))⟩ Zw Zb
   refine zW ?_;refine zC (fun p3=>?_) (fun p3=>?_)
   ·refine zW ?_;exact midN ⟨true,rfl,rfl,rfl,iff_of_true rfl (.inr (.inr p3))⟩ Zw Zb
   refine zW ?_;exact midN ⟨false,rfl,rfl,rfl,iff_of_false (by simp) (fun h0=>h0.elim p1 (fun h0=>h0.elim p2 p3))⟩ Zw Zb
  rintro σ fz' H' ⟨b,rfl,rfl,rfl,hbp⟩;have hn:=YdZ (e:=e) y1 y2;cases b
  ·refine zW ?_;exact ret1 rfl rfl Zb ⟨hle2,no (fun h0=>absurd (hbp.2 (hn.1 h0).1) (by simp))⟩
  have lk:=hk.len;refine zW ?_
  (((refine zC (fun n1=>?_) (fun n1=>?_));rotate_left 1;((refine zW ?_);(exact ret1 rfl rfl Zb ⟨hle2,no (fun h0=>n1 (hn.1 h0).2.1)⟩));(refine zW ?_)))
  (((refine zC (fun n2=>?_) (fun n2=>?_));rotate_left 1;((refine zW ?_);(exact ret1 rfl rfl Zb ⟨hle2,no (fun h0=>n2 (hn.1 h0).2.2.1)⟩));(refine zW ?_)))
  (((refine zC (fun n3=>?_) (fun n3=>?_));rotate_left 1;((refine zW ?_);(exact ret1 rfl rfl Zb ⟨hle2,no (fun h0=>n3 ((len0 ha.len).2 (hn.1 h0).2.2.2.1))⟩));(refine zW ?_)))
  (((refine zC (fun n4=>?_) (fun n4=>?_));rotate_left 1;((refine zW ?_);(exact ret1 rfl rfl Zb ⟨hle2,no (fun h0=>n4 (by have:=(hn.1 h0).2.2.2.2;omega))⟩));(refine zW ?_)));have hN:Yf9 e:=hn.2 ⟨hbp.1 rfl,n1,n2,(len0 ha.len).1 n3,by omega⟩;obtain ⟨a,b,hab⟩:∃ a b,e.kids=[a,b]:=by
   match hK:e.kids,(show e.kids.length=2 by omega) with
   | [a,b],_=>exact ⟨a,b,rfl⟩
  have la:=Lx.Expr.kids_lt (x:=e) (k:=a) (by rw [hab];simp);have lb:=Lx.Expr.kids_lt (x:=e) (k:=b) (by rw [hab];simp);have hcnt:ecount e=1+(ecount a+ecount b):=by rw [YcM,hab];simp [ecountL]
  have hdep:edepth e=1+max (edepth a) (edepth b):=by rw [Yd0,hab];simp [edepthL]
  have hall:EOk e↔EOk a/\EOk b:=by
   refine (W0 (p:=Yf9) (e:=e)).trans ?_;rw [hab];simp only [List.mem_cons,List.not_mem_nil,or_false,forall_eq_or_imp,forall_eq];exact ⟨fun h0=>h0.2,fun h0=>⟨hN,h0⟩⟩
  have hk2:=hk.mono hle2
  ((refine zG ?_);refine YaU T 0 Zz Zz Zz Zz Zz Zz hk2 (by first | rfl | omega) (by rw [hab];rfl:e.kids[0]?=some a) (fun p hp=>?_));refine zL hp ?_;intro cs hcs;obtain ⟨wa,wk,rfl,hRa⟩:=YK hcs;refine zW ?_;refine Seq.guard_yesK Zz Zz Zz (Yx [_] [_] Zz Zz Zz (YhD s (e:=a) (d:=d+1) (c:=c+1) Zi hRa Zi Zi) (fun v4 fz4 H4 hle4 hR4=>?_));obtain ⟨_,b1,c1,rfl,rfl,hc1,hb1⟩:=hR4;cases b1
  ·refine zW ?_;exact ret1 rfl rfl Zb ⟨hle2.trans hle4,YhN (fun h0=>absurd (hb1.2 ⟨(hall.1 h0.1).1,by omega,by omega⟩) (by simp))⟩
  have hc1:=hc1 rfl;have hb1:=hb1.1 rfl;subst hc1;refine zW ?_
  ((refine zG ?_);refine YaU T 1 Zz Zz Zz Zz Zz Zz (hk2.mono hle4) (by first | rfl | omega) (by rw [hab];rfl:e.kids[1]?=some b) (fun p2 hp2=>?_));refine zL hp2 ?_;intro cs2 hcs2;obtain ⟨za,zk,rfl,hRb⟩:=YK hcs2;refine zW ?_;refine Seq.guard_yesK Zz Zz Zz (Yx [_] [_] Zz Zz Zz (YhD s (e:=b) (d:=d+1) (c:=c+1+ecount a) Zi hRb Zi Zi) (fun v5 fz5 H5 hle5 hR5=>?_));obtain ⟨_,b2,c2,rfl,rfl,hc2,hb2⟩:=hR5;cases b2
  ·refine zW ?_;exact ret1 rfl rfl Zb ⟨hle2.trans (hle4.trans hle5),YhN (fun h0=>absurd (hb2.2 ⟨(hall.1 h0.1).2,by omega,by omega⟩) (by simp))⟩
  have hc2:=hc2 rfl;have hb2:=hb2.1 rfl;subst hc2;refine zW ?_;exact ret1 rfl rfl Zb ⟨hle2.trans (hle4.trans hle5),true,_,rfl,rfl,fun _=>by omega,iff_of_true rfl ⟨hall.2 ⟨hb1.1,hb2.1⟩,by omega,by omega⟩⟩
variable {va vk:Value}
theorem Yk2 {e:Lx.Expr} {d:Nat} (h:ExprR fz e va vk) (hd:d<=33) (hc:c<=4096):
 GFn prog 195 [.agg #[.string e.op,.string e.name,Zk e.n,va,vk],Zk d,Zp g] fz [(g,budO c)] (fun v fz' H'=>Le fz fz'/\EBud g e d c v H'):=YhD _ (Zs _) h hd hc
def kOr:Bs:=⟨#[111,114]⟩
def kNot:Bs:=⟨#[110,111,116]⟩
def YgK:Bs:=⟨#[105,109,112,108,121]⟩
def YcK (f:Formula):Option (Nat × Bool × Nat):=
 if f.op=kAtom\/f.op=kSame then some (0,false,0) else if CmpOp f.op then some (2,false,0) else if f.op=kAnd\/f.op=kOr then some (0,false,f.kids.length) else if f.op=kNot then some (0,false,1)
 else if f.op=YgK then some (0,false,2) else if f.op=XL\/f.op=WJ then some (0,true,1) else none
def fhead (f:Formula):Prop:=(f.op=kAtom->YX f.name)/\(f.op=kSame->f.name=kEmpty/\f.args.length=2)/\(f.op=kAtom\/f.op=kSame->∀ s∈f.args,Ydx s)
def frest (f:Formula) (k:Nat × Bool × Nat):Prop:=(f.op≠kAtom->f.op≠kSame->f.name=kEmpty/\f.args=[])/\f.exprs.length=k.1/\f.kids.length=k.2.2/\(k.2.1=false->f.params=[])
def Yoi (f:Formula):Prop:=fhead f/\(∃ k,YcK f=some k/\frest f k)/\∀ p∈f.params,VarP p.name/\YcT p.typ
abbrev FOk (f:Formula):Prop:=FAll Yoi Yf9 f
def FBud (g:Nat) (f:Formula) (d c:Nat) (v:Value) (H':HP):Prop:=
 ∃ (b:Bool) (c':Int),v=.bool b/\H'=[(g,budO c')]/\(b=true->c'=((c+fcount f:Nat):Int))/\(b=true↔FOk f/\d+fdepth f<=33/\c+fcount f<=4096)
variable {f:Formula}
theorem YhJ {d:Nat} {c':Int} (h:¬(FOk f/\d+fdepth f<=33/\c+fcount f<=4096)):FBud g f d c (.bool false) [(g,budO c')]:=⟨false,c',rfl,rfl,(by simp),iff_of_false (by simp) h⟩
theorem YaA {α:Type} {l:List α} (h:l.length=n):(0:Int)<(n:Int)↔l≠ []:=by
 constructor
 ·intro h0 h1;subst h1;simp at h;omega
 intro h0;have:=List.length_pos_iff.2 h0;omega
set_option maxHeartbeats 4000000 in
theorem YkB:∀ (s:Nat) {fz:FZ} {f:Formula} {va vp ve vk:Value} {g d c:Nat},SizeOf.sizeOf f<=s->FormulaR fz f va vp ve vk->d<=33->c<=4096->
 GFn prog 154 [.agg #[.string f.op,.string f.name,va,vp,ve,vk],Zk d,Zp g] fz [(g,budO c)] (fun v fz' H'=>Le fz fz'/\FBud g f d c v H')
 | 0,_,e,_,_,_,_,_,_,_,hs,_,_,_=>by cases e;simp at hs
 | s+1,fz,f,va,vp,ve,vk,g,d,c,hs,h,hd,hc=>by
  obtain ⟨A,n,ca,rfl,ha⟩:=h.args;obtain ⟨B,m,cb,rfl,hp⟩:=h.params;obtain ⟨C,r,cr,rfl,he⟩:=h.exprs;obtain ⟨D,q,cq,rfl,hk⟩:=h.kids;have no:∀ {c':Int},¬Yoi f->FBud g f d c (.bool false) [(g,budO c')]:=fun h0=>YhJ (fun h1=>h0 (Wc.1 h1.1).1)
  refine zF Tryz.func154 Tryz.ntmps154 (fun w0=>?_);refine Yj (Yq (Ya Zz (Xb _ Zz Zz (fun g0=>?_))))
  first | refine Wp.perm (List.Perm.swap _ _ _) ?_ | refine Seq.perm (List.Perm.swap _ _ _) ?_
  refine zW ?_;refine Ya Zz (Yx [_] [_] Zz Zz Zz (take_q Zi) (fun v fz2 H2 hle2 hR=>?_));obtain ⟨hle3,rfl,b,rfl,hb⟩:=hR;cases b
  ·refine zW ?_
   (exact ret1 rfl rfl Zb ⟨hle2,YhJ (fun h0=>by
    have h1:=YdW f;have h2:=YfS f;exact absurd (hb.2 ⟨by omega,by omega⟩) (by simp))⟩)
  have ht:=hb.1 rfl;refine zWO ?_;refine Wp.cond_false Zz ?_;refine YbB ?_;refine YdD ?_;refine Yj (Yq ?_);refine zWO ?_;refine Yj (Wp.mid (fun σ fz' H'=>∃ (ex:Nat) (pa:Bool) (mn:Nat),σ=[(9,Zk mn),(8,.bool pa),(7,Zk ex),(3,Zp g0),(2,Zp g),(1,Zk d)]/\fz2=fz'/\
   H'=[(g,budO (c+1:Nat)),(g0,.cells #[.string f.op,.string f.name,.slice A n ca,.slice B m cb,.slice C r cr,.slice D q cq] 38 (0,0))]/\fhead f/\YcK f=some (ex,pa,mn)) ?_ ?_)
  ·refine zW ?_;refine zC (fun x1=>?_) (fun y1=>?_)
   ·have y2:¬f.op=⟨#[115,97,109,101]⟩:=fun h0=>absurd (congrArg (fun s=>Yap s 0) (x1.symm.trans h0)) Zh
    refine zW ?_;refine zb (Ww h.name) (fun f1=>?_) (fun f1=>?_)
    ·refine zW ?_
     ((refine zG ?_);refine We Zz Zz (Ycm (ha.mono hle2) (fun x hx=>Yig hx)) (fun f2=>?_) (fun f2=>?_))
     ·refine zW ?_
      (exact ret1 rfl rfl Zb ⟨hle2,no (fun h0=>by
       obtain ⟨x,hx,hx2⟩:=Zt f2;exact hx2 (h0.1.2.2 (.inl x1) x hx))⟩)
     refine zW ?_;exact midN ⟨0,false,0,rfl,rfl,rfl,⟨fun _=>Zt f1,fun h0=>absurd h0 y2,fun _ x hx=>Classical.byContradiction fun h0=>Zf f2 ⟨x,hx,h0⟩⟩,if_pos (.inl x1)⟩ Zw Zb
    refine zW ?_;exact ret1 rfl rfl Zb ⟨hle2,no (fun h0=>Zf f1 (h0.1.1 x1))⟩
   refine zW ?_;refine zC (fun x2=>?_) (fun y2=>?_)
   ·refine zW ?_;refine zC (fun n1=>?_) (fun n1=>?_)
    ·refine zW ?_;exact ret1 rfl rfl Zb ⟨hle2,no (fun h0=>n1 (h0.1.2.1 x2).1)⟩
    refine zW ?_;refine zC (fun n2=>?_) (fun n2=>?_)
    ·refine zW ?_;exact ret1 rfl rfl Zb ⟨hle2,no (fun h0=>n2 (by have:=(h0.1.2.1 x2).2;have:=ha.len;omega))⟩
    refine zW ?_
    ((refine zG ?_);refine We Zz Zz (Ycm (ha.mono hle2) (fun x hx=>Yig hx)) (fun f2=>?_) (fun f2=>?_))
    ·refine zW ?_
     (exact ret1 rfl rfl Zb ⟨hle2,no (fun h0=>by
      obtain ⟨x,hx,hx2⟩:=Zt f2;exact hx2 (h0.1.2.2 (.inr x2) x hx))⟩)
    refine zW ?_;exact midN ⟨0,false,0,rfl,rfl,rfl,⟨fun h0=>absurd h0 y1,fun _=>⟨n1,by have:=ha.len;omega⟩,fun _ x hx=>Classical.byContradiction fun h0=>Zf f2 ⟨x,hx,h0⟩⟩,if_pos (.inr x2)⟩ Zw Zb
   have hh:fhead f:=⟨fun h0=>absurd h0 y1,fun h0=>absurd h0 y2,fun h0=>(h0.elim y1 y2).elim⟩;have k0:¬(f.op=kAtom\/f.op=kSame):=fun h0=>h0.elim y1 y2
   refine zW ?_;refine zC (fun x3=>?_) (fun y3=>?_)
   ·refine zW ?_;exact midN ⟨2,false,0,rfl,rfl,rfl,hh,(if_neg k0).trans (if_pos (.inl x3))⟩ Zw Zb
   refine zW ?_;refine zC (fun x4=>?_) (fun y4=>?_)
   ·refine zW ?_;exact midN ⟨2,false,0,rfl,rfl,rfl,hh,(if_neg k0).trans (if_pos (.inr (.inl x4)))⟩ Zw Zb
   refine zW ?_;refine zC (fun x5=>?_) (fun y5=>?_)
   ·refine zW ?_;exact midN ⟨2,false,0,rfl,rfl,rfl,hh,(if_neg k0).trans (if_pos (.inr (.inr x5)))⟩ Zw Zb
   have k1:¬CmpOp f.op:=fun h0=>h0.elim y3 (fun h0=>h0.elim y4 y5)
   refine zW ?_;refine zC (fun x6=>?_) (fun y6=>?_)
   ·refine zW ?_;exact midN ⟨0,false,q,rfl,rfl,rfl,hh,(if_neg k0).trans ((if_neg k1).trans ((if_pos (.inl x6)).trans (by rw [hk.len])))⟩ Zw Zb
   refine zW ?_;refine zC (fun x7=>?_) (fun y7=>?_)
   ·refine zW ?_;exact midN ⟨0,false,q,rfl,rfl,rfl,hh,(if_neg k0).trans ((if_neg k1).trans ((if_pos (.inr x7)).trans (by rw [hk.len])))⟩ Zw Zb
   have k2:¬(f.op=kAnd\/f.op=kOr):=fun h0=>h0.elim y6 y7
   refine zW ?_;refine zC (fun x8=>?_) (fun y8=>?_)
   ·refine zW ?_;exact midN ⟨0,false,1,rfl,rfl,rfl,hh,(if_neg k0).trans ((if_neg k1).trans ((if_neg k2).trans (if_pos x8)))⟩ Zw Zb
   refine zW ?_;refine zC (fun x9=>?_) (fun y9=>?_)
   ·refine zW ?_;exact midN ⟨0,false,2,rfl,rfl,rfl,hh,(if_neg k0).trans ((if_neg k1).trans ((if_neg k2).trans ((if_neg y8).trans (if_pos x9))))⟩ Zw Zb
   refine zW ?_;refine zC (fun z1=>?_) (fun z1=>?_)
   ·refine zW ?_;exact midN ⟨0,true,1,rfl,rfl,rfl,hh,(if_neg k0).trans ((if_neg k1).trans ((if_neg k2).trans ((if_neg y8).trans ((if_neg y9).trans (if_pos (.inl z1))))))⟩ Zw Zb
   refine zW ?_;refine zC (fun z2=>?_) (fun z2=>?_)
   ·refine zW ?_;exact midN ⟨0,true,1,rfl,rfl,rfl,hh,(if_neg k0).trans ((if_neg k1).trans ((if_neg k2).trans ((if_neg y8).trans ((if_neg y9).trans (if_pos (.inr z2))))))⟩ Zw Zb
   have k3:YcK f=none:=(if_neg k0).trans ((if_neg k1).trans ((if_neg k2).trans ((if_neg y8).trans ((if_neg y9).trans (if_neg (fun h0=>h0.elim z1 z2))))));refine zW ?_;exact ret1 rfl rfl Zb ⟨hle2,no (fun h0=>by obtain ⟨_,⟨k,h1,_⟩,_⟩:=h0;rw [k3] at h1;cases h1)⟩
  rintro σ fz' H' ⟨ex,pa,mn,rfl,rfl,rfl,hh,hkind⟩;have no2:Yoi f->¬¬frest f (ex,pa,mn):=fun h0 h1=>by
   obtain ⟨_,⟨k,h2,h3⟩,_⟩:=h0;rw [hkind] at h2;cases h2;exact h1 h3
  refine Yj (Wp.mid (fun σ fz' H'=>σ=[(3,Zp g0),(2,Zp g),(1,Zk d)]/\fz2=fz'/\
   H'=[(g,budO (c+1:Nat)),(g0,.cells #[.string f.op,.string f.name,.slice A n ca,.slice B m cb,.slice C r cr,.slice D q cq] 38 (0,0))]/\frest f (ex,pa,mn)) ?_ ?_)
  ·refine zW ?_;refine zC (fun x1=>?_) (fun x1=>?_)
   ·refine zW ?_;refine zC (fun x2=>?_) (fun x2=>?_)
    ·refine zW ?_;refine zC (fun x3=>?_) (fun x3=>?_)
     ·refine zW ?_;exact ret1 rfl rfl Zb ⟨hle2,no (fun h0=>no2 h0 (fun h1=>x3 (h1.1 x1 x2).1))⟩
     refine zW ?_;refine zC (fun x4=>?_) (fun x4=>?_)
     ·refine zW ?_;exact ret1 rfl rfl Zb ⟨hle2,no (fun h0=>no2 h0 (fun h1=>(YaA ha.len).1 x4 (h1.1 x1 x2).2))⟩
     refine zW ?_;refine zC (fun w1=>?_) (fun w1=>?_)
     ·refine zW ?_;exact ret1 rfl rfl Zb ⟨hle2,no (fun h0=>no2 h0 (fun h1=>w1 (by have:=h1.2.1;have:=he.len;simp only at*;omega)))⟩
     refine zW ?_;refine zC (fun w2=>?_) (fun w2=>?_)
     ·refine zW ?_;exact ret1 rfl rfl Zb ⟨hle2,no (fun h0=>no2 h0 (fun h1=>w2 (by have:=h1.2.2.1;have:=hk.len;simp only at*;omega)))⟩
     refine zW ?_;refine zC (fun w3=>?_) (fun w3=>?_)
     ·cases pa
      ·refine zW ?_;exact ret1 rfl rfl Zb ⟨hle2,no (fun h0=>no2 h0 (fun h1=>(YaA hp.len).1 w3 (h1.2.2.2 rfl)))⟩
      refine zW ?_;exact midN ⟨rfl,rfl,rfl,fun _ _=>⟨x3,Classical.byContradiction fun h1=>x4 ((YaA ha.len).2 h1)⟩,by have:=he.len;simp only;omega,by have:=hk.len;simp only;omega,fun h0=>by cases h0⟩ Zw Zb
     refine zW ?_;exact midN ⟨rfl,rfl,rfl,fun _ _=>⟨x3,Classical.byContradiction fun h1=>x4 ((YaA ha.len).2 h1)⟩,by have:=he.len;simp only;omega,by have:=hk.len;simp only;omega,fun _=>Classical.byContradiction fun h1=>w3 ((YaA hp.len).2 h1)⟩ Zw Zb
    refine zW ?_;refine zC (fun w1=>?_) (fun w1=>?_)
    ·refine zW ?_;exact ret1 rfl rfl Zb ⟨hle2,no (fun h0=>no2 h0 (fun h1=>w1 (by have:=h1.2.1;have:=he.len;simp only at*;omega)))⟩
    refine zW ?_;refine zC (fun w2=>?_) (fun w2=>?_)
    ·refine zW ?_;exact ret1 rfl rfl Zb ⟨hle2,no (fun h0=>no2 h0 (fun h1=>w2 (by have:=h1.2.2.1;have:=hk.len;simp only at*;omega)))⟩
    refine zW ?_;refine zC (fun w3=>?_) (fun w3=>?_)
    ·cases pa
     ·refine zW ?_;exact ret1 rfl rfl Zb ⟨hle2,no (fun h0=>no2 h0 (fun h1=>(YaA hp.len).1 w3 (h1.2.2.2 rfl)))⟩
     refine zW ?_;exact midN ⟨rfl,rfl,rfl,fun _ h0=>absurd x2 h0,by have:=he.len;simp only;omega,by have:=hk.len;simp only;omega,fun h0=>by cases h0⟩ Zw Zb
    refine zW ?_;exact midN ⟨rfl,rfl,rfl,fun _ h0=>absurd x2 h0,by have:=he.len;simp only;omega,by have:=hk.len;simp only;omega,fun _=>Classical.byContradiction fun h1=>w3 ((YaA hp.len).2 h1)⟩ Zw Zb
   refine zW ?_;refine zC (fun w1=>?_) (fun w1=>?_)
   ·refine zW ?_;exact ret1 rfl rfl Zb ⟨hle2,no (fun h0=>no2 h0 (fun h1=>w1 (by have:=h1.2.1;have:=he.len;simp only at*;omega)))⟩
   refine zW ?_;refine zC (fun w2=>?_) (fun w2=>?_)
   ·refine zW ?_;exact ret1 rfl rfl Zb ⟨hle2,no (fun h0=>no2 h0 (fun h1=>w2 (by have:=h1.2.2.1;have:=hk.len;simp only at*;omega)))⟩
   refine zW ?_;refine zC (fun w3=>?_) (fun w3=>?_)
   ·cases pa
    ·refine zW ?_;exact ret1 rfl rfl Zb ⟨hle2,no (fun h0=>no2 h0 (fun h1=>(YaA hp.len).1 w3 (h1.2.2.2 rfl)))⟩
    refine zW ?_;exact midN ⟨rfl,rfl,rfl,fun h0=>absurd x1 h0,by have:=he.len;simp only;omega,by have:=hk.len;simp only;omega,fun h0=>by cases h0⟩ Zw Zb
   refine zW ?_;exact midN ⟨rfl,rfl,rfl,fun h0=>absurd x1 h0,by have:=he.len;simp only;omega,by have:=hk.len;simp only;omega,fun _=>Classical.byContradiction fun h1=>w3 ((YaA hp.len).2 h1)⟩ Zw Zb
  rintro σ fz' H' ⟨rfl,rfl,rfl,hrest⟩;have hE:=YdW f;have hD:=YfS f;have hp2:=hp.mono hle2;refine zW ?_;refine Ym (fun mm σ fz' H'=>∃ k:Nat,k<=m/\mm=m - k/\σ=[(118,Zk k),(117,Zk m),(116,.slice B m cb),(3,Zp g0),(2,Zp g),(1,Zk d)]/\fz2=fz'/\H'=[(g,budO (c+1:Nat)),(g0,.cells #[.string f.op,.string f.name,.slice A n ca,.slice B m cb,.slice C r cr,.slice D q cq] 38 (0,0))]/\(∀ i,i<k->∀ x,f.params[i]?=some x->VarP x.name/\YcT x.typ)) ⟨0,Z0 _,rfl,rfl,rfl,rfl,fun i hi=>absurd hi Zi⟩ Zw Zb ?_;rintro _ σ fz' H' ⟨k,hkm,rfl,rfl,rfl,rfl,hh1⟩;have lp:=hp.len;have sp:=hp.short;refine zW ?_;refine zC (fun c1=>?_) (fun c1=>?_)
  ·obtain ⟨x,hx⟩:=Yl (l:=f.params) (k:=k) Zi;have bad:¬(VarP x.name/\YcT x.typ)->¬Yoi f:=fun h1 h0=>h1 (h0.2.2 x (Zm hx))
   refine zW ?_;refine zI hp2 hx (fun p1 hp1=>?_);refine zL hp1 ?_;intro cs hcs;obtain ⟨rfl,hRx⟩:=YR hcs;refine zW ?_;intros;refine zb (YbN hRx.name) (fun f1=>?_) (fun f1=>?_)
   ·refine zW ?_;refine zb (Yl6 hRx.typ) (fun f2=>?_) (fun f2=>?_)
    ·refine zW ?_;exact WO ⟨k+1,by omega,rfl,rfl,rfl,rfl,YL hh1 hx ⟨Zt f1,Zt f2⟩⟩ Zi Zw Zb
    refine zW ?_;exact ret1 rfl rfl Zb ⟨hle2,no (bad (fun h1=>Zf f2 h1.2))⟩
   refine zW ?_;exact ret1 rfl rfl Zb ⟨hle2,no (bad (fun h1=>Zf f1 h1.1))⟩
  have hN:Yoi f:=⟨hh,⟨_,hkind,hrest⟩,Xy hh1 Zi⟩;have le:=he.len;have se:=he.short;refine zW ?_;refine Ym (fun mm σ fz' H'=>∃ k:Nat,k<=r/\mm=r - k/\σ=[(136,Zk k),(135,Zk r),(134,.slice C r cr),(3,Zp g0),(2,Zp g),(1,Zk d)]/\Le fz2 fz'/\H'=[(g,budO (c+1+ecountL (f.exprs.take k):Nat)),(g0,.cells #[.string f.op,.string f.name,.slice A n ca,.slice B m cb,.slice C r cr,.slice D q cq] 38 (0,0))]/\(∀ i,i<k->∀ x,f.exprs[i]?=some x->EOk x/\d+1+edepth x<=33)/\c+1+ecountL (f.exprs.take k)<=4096) ⟨0,Z0 _,rfl,rfl,Le.refl _,rfl,(fun i hi=>absurd hi Zi),by simp [ecountL];omega⟩ Zw Zb ?_;rintro _ σ fz' H' ⟨k,hkr,rfl,rfl,hle4,rfl,hh2,hcc⟩;have he2:=he.mono (hle2.trans hle4);refine zW ?_;refine zC (fun c2=>?_) (fun c2=>?_)
  ·obtain ⟨x,hx⟩:=Yl (l:=f.exprs) (k:=k) Zi;have hxm:=Zm hx;have hst:=YcO hx;have htk:=YcN (l:=f.exprs) (k:=k+1);refine zW ?_;refine zI he2 hx (fun p1 hp1=>?_);refine zL hp1 ?_;intro cs hcs;obtain ⟨wa,wk,rfl,hRx⟩:=YK hcs;obtain ⟨A1,n1,b1,rfl,_⟩:=hRx.args;obtain ⟨A2,n2,b2,rfl,_⟩:=hRx.kids;refine zW ?_;intros
   first | refine Wp.perm (List.Perm.swap _ _ _) ?_ | refine Seq.perm (List.Perm.swap _ _ _) ?_
   refine Ya Zz (Yx [_] [_,_] Zz Zz Zz (Yk2 (e:=x) (d:=d+1) (c:=c+1+ecountL (f.exprs.take k)) hRx Zi hcc) (fun v5 fz5 H5 hle5 hR5=>?_));obtain ⟨_,b5,c5,rfl,rfl,hc5,hb5⟩:=hR5;cases b5
   ·refine zW ?_;exact ret1 rfl rfl Zb ⟨hle2.trans (hle4.trans hle5),YhJ (fun h0=>absurd (hb5.2 ⟨(Wc.1 h0.1).2.1 x hxm,by have:=(YgP (l:=f.exprs)).1 (Zs _) x hxm;omega,by omega⟩) (by simp))⟩
   have hc5:=hc5 rfl;have hb5:=hb5.1 rfl;subst hc5;refine zW ?_;exact WO ⟨k+1,by omega,rfl,rfl,hle4.trans hle5,by rw [hst,<- Nat.add_assoc],YL hh2 hx ⟨hb5.1,hb5.2.1⟩,by omega⟩ Zi Zw Zb
  rw [show f.exprs.take k=f.exprs from Zl Zi] at hcc ⊢;have hEX:=Xy hh2 Zi;have lk:=hk.len;have sk:=hk.short;refine zW ?_;refine Ym (H0:=[(g,budO (c+1+ecountL f.exprs:Nat)),(g0,.cells #[.string f.op,.string f.name,.slice A n ca,.slice B m cb,.slice C r cr,.slice D q cq] 38 (0,0))]) (fun mm σ fz7 H'=>∃ j:Nat,j<=q/\mm=q - j/\σ=[(150,Zk j),(149,Zk q),(148,.slice D q cq),(2,Zp g),(1,Zk d)]/\Le fz' fz7/\H'=[(g,budO (c+1+ecountL f.exprs+fcountL (f.kids.take j):Nat)),(g0,.cells #[.string f.op,.string f.name,.slice A n ca,.slice B m cb,.slice C r cr,.slice D q cq] 38 (0,0))]/\(∀ i,i<j->∀ x,f.kids[i]?=some x->FOk x/\d+1+fdepth x<=33)/\c+1+ecountL f.exprs+fcountL (f.kids.take j)<=4096) ⟨0,Z0 _,rfl,rfl,Le.refl _,by simp [fcountL],(fun i hi=>absurd hi Zi),by simp [fcountL];omega⟩ Zw Zb ?_;rintro _ σ fz7 H' ⟨j,hjq,rfl,rfl,hle7,rfl,hh3,hcc3⟩;have hk2:=hk.mono (hle2.trans (hle4.trans hle7));refine zW ?_;refine zC (fun c3=>?_) (fun c3=>?_)
  ·obtain ⟨x,hx⟩:=Yl (l:=f.kids) (k:=j) Zi;have hxm:=Zm hx;have hlt:=Formula.kids_lt hxm;have hst:=YeJ hx;have htk:=YeI (l:=f.kids) (k:=j+1);refine zW ?_;refine zI hk2 hx (fun p1 hp1=>?_);refine zL hp1 ?_;intro cs hcs;obtain ⟨wa,wp,we,wk,rfl,hRx⟩:=YA hcs;obtain ⟨A1,n1,b1,rfl,_⟩:=hRx.args;obtain ⟨A2,n2,b2,rfl,_⟩:=hRx.params;obtain ⟨A3,n3,b3,rfl,_⟩:=hRx.exprs;obtain ⟨A4,n4,b4,rfl,_⟩:=hRx.kids;refine zW ?_;intros
   first | refine Wp.perm (List.Perm.swap _ _ _) ?_ | refine Seq.perm (List.Perm.swap _ _ _) ?_
   refine Ya Zz (Yx [_] [_,_] Zz Zz Zz (YkB s (f:=x) (d:=d+1) (c:=c+1+ecountL f.exprs+fcountL (f.kids.take j)) Zi hRx Zi hcc3) (fun v5 fz5 H5 hle5 hR5=>?_));obtain ⟨_,b5,c5,rfl,rfl,hc5,hb5⟩:=hR5;cases b5
   ·refine zW ?_;exact ret1 rfl rfl Zb ⟨hle2.trans (hle4.trans (hle7.trans hle5)),YhJ (fun h0=>absurd (hb5.2 ⟨(Wc.1 h0.1).2.2 x hxm,by have:=(YgO (l:=f.kids)).1 (Zs _) x hxm;omega,by omega⟩) (by simp))⟩
   have hc5:=hc5 rfl;have hb5:=hb5.1 rfl;subst hc5;exact wP (h:=by exact ⟨j+1,by omega,rfl,rfl,hle7.trans hle5,by rw [hst,<- Nat.add_assoc],YL hh3 hx ⟨hb5.1,hb5.2.1⟩,by omega⟩)
  rw [Zl Zi] at hcc3 ⊢;have hKX:=Xy hh3 Zi;refine zW ?_
  (exact ret1 rfl rfl Zb ⟨hle2.trans (hle4.trans hle7),true,_,rfl,rfl,fun _=>by rw [hE];simp only [Nat.add_assoc],iff_of_true rfl ⟨Wc.2 ⟨hN,fun x hx=>(hEX x hx).1,fun x hx=>(hKX x hx).1⟩,by
   have e1:edepthL f.exprs<=32 - d:=YgP.2 (fun x hx=>by have:=(hEX x hx).2;omega);have e2:fdepthL f.kids<=32 - d:=YgO.2 (fun x hx=>by have:=(hKX x hx).2;omega);omega,by omega⟩⟩)
variable {ve vp:Value}
theorem shaped_q {d:Nat} (h:FormulaR fz f va vp ve vk) (hd:d<=33) (hc:c<=4096):
 GFn prog 154 [.agg #[.string f.op,.string f.name,va,vp,ve,vk],Zk d,Zp g] fz [(g,budO c)] (fun v fz' H'=>Le fz fz'/\FBud g f d c v H'):=YkB _ (Zs _) h hd hc
end Go.Proofs.YtfjopfinkdhmaaaGreatDoor
namespace Go.Lx
open Go.RowKit
def Ycn (b:UInt8):Value:=Value.int .u8 b.toNat
def YbZ (bs:List UInt8) (k:Nat):List Value:=bs.map Ycn++List.replicate k (Value.int .u8 0)
def YbY (e:TypeId) (bs:List UInt8) (k:Nat):Obj:=.cells (YbZ bs k).toArray e (bs.length+k,bs.length+k+1)
variable {k:Nat}
theorem YlM {bs:List UInt8}:(YbZ bs k).length=bs.length+k:=by simp [YbZ]
variable {j:Nat}
theorem Yey {bs:List UInt8} (h:j<bs.length):(YbZ bs k)[j]?=some (Ycn bs[j]):=by
 simp [YbZ,List.getElem?_append,h]
theorem YlL {bs:List UInt8} {b:UInt8} (h:j<bs.length):(YbZ bs k).set j (Ycn b)=YbZ (bs.set j b) k:=by
 unfold YbZ;rw [List.set_append_left _ _ (by simpa using h),List.map_set]
variable {H:HP} {fz:FZ} {w w':World}
theorem Inv.made {cx:Cx} {o:Obj} (h:Inv cx fz H w) (h1:w'.os=w.os) (h2:w'.tape=w.tape) (h3:w'.output=w.output) (h4:w'.heap.size=w.heap.size+1) (h5:w'.heap[w.heap.size]?=some o) (h6:∀ j,j<w.heap.size->w'.heap[j]?=w.heap[j]?):
 Inv cx fz ((w.heap.size,o)::H) w':=by
 refine (h.alloc o).world (h1.trans rfl) (h2.trans rfl) (h3.trans rfl) ?_;apply Array.ext_getElem?;intro j;simp only [World.alloc,Array.getElem?_push];by_cases hj:j=w.heap.size
 ·subst hj;simp [h5]
 simp only [hj,if_false];by_cases hl:j<w.heap.size
 ·exact h6 j hl
 rw [Array.getElem?_eq_none Zi,Array.getElem?_eq_none Zi]
section
variable {P:Program} {cx:Cx} {r:Operand->Option Value} {fz:FZ} {H:HP} {V:Value->Prop} {dst:Option Nat} {ty:TypeId} {pos:String} {af:Array Edge} {gd:Option (Nat × Bool)}
variable {X Y:Ty} {x:Operand}
theorem k_bytes (T:Tab P) {src dt e:TypeId} {Z:Ty} {s:Bs} {K:Value->FZ->HP->Prop} (hX:T.inf src=some X) (hXd:X.desc=.string) (hY:T.inf dt=some Y) (hYd:Y.desc=.slice e) (hZ:T.inf e=some Z) (hZd:Z.desc=.int .u8)
 (hx:r x=some (.string s)) (h:∀ g k,K (Zv g s.size (s.size+k)) fz ((g,YbY e s.data.toList k)::H)):Does P cx ⟨dst,.convert src dt x,ty,pos,af,gd⟩ r fz H K:=by
 refine Does.of fun ρ w hr hw=>?_
 have hrun:=Go.Lib.run_convert_string_bytes (P:=P) w src dt e s (und_plain T hX hXd rfl) (und_plain T hY hYd rfl) (und_plain T hZ hZd rfl);have:(execOp ρ ⟨dst,.convert src dt x,ty,pos,af,gd⟩).run P w=.ok (.value (.slice (some ⟨w.heap.size,0,none⟩) s.size (grownCap w s.size 0 e))) (Go.Lib.bytesWorld w e s):=by
  simp only [execOp,hr _ _ hx,Sem.run_bind,hrun,Result.andThen_ok,Sem.run_pure]
 rw [this];obtain ⟨k,hk⟩:∃ k,grownCap w s.size 0 e=s.size+k:=⟨grownCap w s.size 0 e - s.size,by have:=grownCap_ge w s.size 0 e;omega⟩;have hcells:Go.Lib.bytesCells w e s=(YbZ s.data.toList k).toArray:=by
  simp [Go.Lib.bytesCells,YbZ,hk];exact fun _ _=>rfl
 have hlen:s.data.toList.length=s.size:=by rw [Array.length_toList];rfl
 have hnew:=Go.Lib.bytesWorld_at_new w e s;rw [hcells] at hnew;have hobj:(Go.Lib.bytesWorld w e s).heap[w.heap.size]?=some (YbY e s.data.toList k):=by
  rw [hnew];simp [YbY,YlM]
 rw [hk];exact ⟨fz,_,Inv.made hw rfl rfl rfl (Go.Lib.bytesWorld_size w e s) hobj (fun j hj=>Go.Lib.bytesWorld_at_old w e s j hj),h _ k⟩
variable {g:Nat} {t:TypeId}
theorem YjH (T:Tab P) {t':TypeId} {bs:List UInt8} {b:UInt8} (i:Nat) (hT:T.inf t=some X) (hd:W2 X.desc=false) (hx:r x=some (.pointer (some ⟨g,j,none⟩))) (hi:H[i]?=some (g,YbY t' bs k)) (hb:bs[j]?=some b) (h:V (Ycn b)):
 DoesQ P cx ⟨dst,.load t x,ty,pos,af,gd⟩ r fz H V:=by
 obtain ⟨hj,rfl⟩:=Zg hb;exact Y0 T i hT hd hx hi (Yey hj) h
variable {y:Operand}
theorem YiR (T:Tab P) {t':TypeId} {pre post:HP} {bs:List UInt8} {b:UInt8} {K:Value->FZ->HP->Prop} (hT:T.inf t=some X)
 (hx:r x=some (.pointer (some ⟨g,j,none⟩))) (hy:r y=some (Ycn b)) (hH:H=pre++(g,YbY t' bs k)::post) (hs:X.size=1) (hj:j<bs.length)
 (h:K undef fz (pre++(g,YbY t' (bs.set j b) k)::post)):Does P cx ⟨dst,.store t x y,ty,pos,af,gd⟩ r fz H K:=by
 refine Does.of fun ρ w hr hw=>?_
 subst hH;have hb:=(hw.hp.own (g,YbY t' bs k) (by simp)).1;have hcell:w.cell? ⟨g,j,none⟩=some (Ycn bs[j]):=by
  simp only [World.cell?,hb,YbY];simpa using Yey hj
 have hfro:w.frozen? ⟨g,j,none⟩=false:=by
  simp only [World.frozen?,hb,YbY,Bool.and_eq_false_iff,decide_eq_false_iff_not];left;omega
 have hz:=run_sizeOf T hT w;rw [hs] at hz;have hst:(storeCells ⟨g,j,none⟩ [Ycn b] 0).run P w=.ok () (w.setRow g (YbZ (bs.set j b) k).toArray):=by
  have hadd:(⟨g,j,none⟩:Addr).add 0=⟨g,j,none⟩:=by simp [Addr.add]
  simp only [storeCells,Sem.run_bind,hadd,run_store P w _ (Ycn b) _ rfl,hcell,hfro];simp [setCell_eq_setRow w g j (YbZ bs k).toArray t' _ (Ycn b) hb,<- YlL hj]
 have:(execOp ρ ⟨dst,.store t x y,ty,pos,af,gd⟩).run P w=.ok .skip (w.setRow g (YbZ (bs.set j b) k).toArray):=by
  simp only [execOp,hr _ _ hx,hr _ _ hy,Instr.storeAt,Instr.sureAddr,Sem.run_bind,Sem.run_pure,Result.andThen_ok,storeVar,hz];simp [Ycn,Value.cells] at hst ⊢;simp [hst]
 rw [this];refine ⟨fz,_,hw.write (o':=YbY t' (bs.set j b) k) rfl rfl rfl (by simp) ?_ (fun k hk=>?_),h⟩
 ·simp [World.setRow,Array.getElem?_modify,hb,YbY]
 simp only [World.setRow,Array.getElem?_modify];rw [if_neg Zi]
variable {c n:Nat}
theorem YjE (T:Tab P) {src dt e:TypeId} {Z:Ty} {t':TypeId} {bs:List UInt8} (i:Nat) (hX:T.inf src=some X) (hXd:X.desc=.slice e) (hY:T.inf dt=some Y) (hYd:Y.desc=.string) (hZ:T.inf e=some Z) (hZd:Z.desc=.int .u8)
 (hx:r x=some (Zv g n c)) (hi:H[i]?=some (g,YbY t' bs k)) (hn:bs.length=n) (h:V (.string ⟨bs.toArray⟩)):DoesQ P cx ⟨dst,.convert src dt x,ty,pos,af,gd⟩ r fz H V:=by
 refine DoesQ.of h fun ρ w hr hw=>?_
 have hcell:∀ j,j<n->w.cell? ⟨g,0+j,none⟩=some (.int .u8 ((bs.map fun b=>(b.toNat:Int)).getD j 0)):=fun j hj=>by
  have hj':j<bs.length:=by omega
  rw [Nat.zero_add,hw.cellOwn hi j];have:=Yey (k:=k) hj';simp only [List.getElem?_toArray,this,Ycn];simp [List.getD,hj']
 have hrun:=run_convert_bytes_arg (P:=P) w src e (und_plain T hX hXd rfl) (und_plain T hZ hZd rfl) g 0 n c (bs.map fun b=>(b.toNat:Int)) (by simpa using hn) hcell dt (und_plain T hY hYd rfl);have hs:strOfNums (bs.map fun b=>(b.toNat:Int))=⟨bs.toArray⟩:=by simp [strOfNums,Function.comp_def]
 rw [hs] at hrun;have:(execOp ρ ⟨dst,.convert src dt x,ty,pos,af,gd⟩).run P w=.ok (.value (.string ⟨bs.toArray⟩)) w:=by
  simp only [execOp,hr _ _ hx,Sem.run_bind,hrun,Result.andThen_ok,Sem.run_pure]
 rw [this];exact ⟨rfl,Fr.refl _ _⟩
end
end Go.Lx
