/- The texts PCB, PWalkC, PWalkD, PWalkE, PWalkF, PWalkG, PWalkH, laid together. Conditions: none. -/
import Derived.Test.YtiligkgjcmokbaaGreatDoorKSF
import Derived.Laws.StandIn
import Derived.Lib.Bytealg
set_option linter.all false
set_option maxHeartbeats 4000000
noncomputable section
set_option maxRecDepth 20000
open Go.Lx Go.RowKit
attribute [local instance 10] Classical.propDecidable
open Go.Proofs.Tryz (prog)
namespace Go.Proofs.YtiligkgjcmokbaaGreatDoor
variable {fz:FZ} {v:Value} {A:Option Addr} {c n:Nat}
def WFT (l:List Param):Prop:=(∀ p∈l,Short p.typ)/\∀ t,HasT l t->∃ m,m<=1000/\upN l m t
def IsT (l:List Param) (a b:Bs):Prop:=HasT l a/\HasT l b/\∃ m,upN l m a/\b∈chN l m a
theorem YpW {l:List Param} {a b:Bs} {m:Nat} (h:upN l m a):(∃ m,upN l m a/\b∈chN l m a)↔b∈chN l m a:=
 ⟨fun ⟨k,h1,h2⟩=>by rw [YoF h h1];exact h2,fun h2=>⟨m,h,h2⟩⟩
theorem is_q {l:List Param} {a b:Bs} (h:ForR fz v l) (hw:WFT l) (ha:Short a):QFn prog 275 [v,Zy a,Zy b] fz (Zo (decide (IsT l a b))):=by
 have h0:=h;obtain ⟨gf,gm,rfl,h1,h2⟩:=h;refine qF Tryz.func275 Tryz.ntmps275 (fun w0=>?_);refine vb (has_q h0) (fun f1=>?_) (fun f1=>?_)
 ·have hA:=Zt f1;refine vb (has_q h0) (fun f2=>?_) (fun f2=>?_)
  ·have hB:=Zt f2;obtain ⟨m,hm,hu⟩:=hw.2 a hA;refine zV ?_;refine Yab (Ym [] _ Zz (above_q h0 hw.1 ha Zi hu) (fun v6 fz6 H6 hle6 hR6=>?_));obtain ⟨rfl,B6,cc6,rfl,hs6⟩:=hR6;refine vb (Yew (x:=b) hs6) (fun f3=>?_) (fun f3=>?_)
   ·exact vR (h:=by exact (Yu ⟨hA,hB,(YpW hu).2 (Zt f3)⟩))
   exact vR (h:=by exact Yl (fun h=>Zf f3 ((YpW hu).1 h.2.2)))
  exact vR (h:=by exact Yl (fun h=>Zf f2 h.2.1))
 exact vR (h:=by exact Yl (fun h=>Zf f1 h.1))
def ofT (l:List Param) (t:Bs) (os:List Param):List Bs:=(os.filter fun o=>decide (IsT l o.typ t)).map (·.name)
theorem of_q {l os:List Param} {t:Bs} (h:ForR fz v l) (hw:WFT l) (ho:Sl paramL fz A n c os) (hn:n<=1000000000):
 GFn prog 230 [v,Zc A n c,Zy t] fz [] (fun v fz' H'=>H'=[]/\∃ B m cc,v=Zc B m cc/\Sl strL fz' B m cc (ofT l t os)):=by
 have h0:=h;obtain ⟨gf,gm,rfl,h1,h2⟩:=h;have lo:=ho.len;have so:=ho.short;refine zF Tryz.func230 Tryz.ntmps230 (fun w0=>?_);refine zV ?_;refine Yi (fun q σ fz' H'=>∃ (k m:Nat) (vo:Value) (Ho:HP),k<=n/\q=n - k/\m<=k/\σ=[(12,Zk k),(11,Zk n),(10,Zc A n c),(7,vo),(0,Zp gf),(2,Zy t)]/\Le fz fz'/\H'=Ho/\Grow strL 9 fz' vo m Ho (ofT l t (os.take k)))
  ⟨0,0,_,[],Z0 _,rfl,Zs _,rfl,Zd,rfl,Grow.nil _ _ _⟩ Zw Zb ?_
 rintro q σ fz' H' ⟨k,m,vo,Ho,hk,rfl,hmk,rfl,hlk,rfl,hG⟩;obtain ⟨Ao,co,rfl,_,_⟩:=hG.form;have ok:=ho.mono hlk;refine vC ?_ ?_<;>intro c1
 ·obtain ⟨x,hx⟩:=Ye (l:=os) (k:=k) Zi;refine vI ok hx (fun p hp=>?_);refine zL hp ?_;intro cs hcs;obtain ⟨rfl,hR⟩:=YJ hcs;refine zV ?_;intros;refine zb (is_q (h0.mono hlk) hw hR.typ) (fun f1=>?_) (fun f1=>?_)
  ·have e1:ofT l t (os.take (k+1))=ofT l t (os.take k)++ [x.name]:=by
    rw [List.take_add_one,hx];simp [ofT,Zt f1]
   refine zV ?_;refine Ya (Yb (cs:=[Zy x.name]) (fun gc=>?_));refine Ya (YN (Hr:=[_,_]) (d:=x.name) (Zr _) hG YgJ (.head _) ⟨rfl,hR.name⟩ (fun v' Hs' hO'=>?_));obtain ⟨Av',cv',rfl,_,_⟩:=hO'.form;exact vP (h:=by exact ⟨k+1,m+1,_,Hs',by omega,rfl,by omega,rfl,hlk,rfl,hO'.of e1.symm rfl⟩)
  have e1:ofT l t (os.take (k+1))=ofT l t (os.take k):=by
   rw [List.take_add_one,hx];simp [ofT,Zf f1]
  exact vP (h:=by exact ⟨k+1,m,_,_,by omega,rfl,by omega,rfl,hlk,rfl,hG.of e1.symm rfl⟩)
 have hk1:n=k:=by omega
 subst hk1;rw [show os.take n=os from Zl Zi] at hG;refine zV ?_;refine YnW rfl rfl (fun fz3 hle3 hf3=>?_);obtain ⟨A',c',he,hsl⟩:=hG.sl hle3 hf3 Zi;injection he with x1 x2 x3
 subst x1 x3;exact ⟨rfl,_,_,_,rfl,hsl⟩
end Go.Proofs.YtiligkgjcmokbaaGreatDoor
namespace Go.Proofs.YtiligkgjcmokbaaGreatDoor
variable {fz fz':FZ} {v va vk ve vp:Value} {A:Option Addr} {c n:Nat} {f:Formula}
def kNumber:Bs:=⟨#[110,117,109,98,101,114]⟩
def kFluent:Bs:=⟨#[102,108,117,101,110,116]⟩
def SxIs (fz:FZ) (v:Value) (x:Sexpr):Prop:=∃ cs,v=.agg (List.toArray cs)/\YE.rep fz x cs
theorem SxIs.mono (h:Le fz fz') {x:Sexpr} (hs:SxIs fz v x):SxIs fz' v x:=by
 obtain ⟨cs,e,hr⟩:=hs;exact ⟨cs,e,YE.mono h hr⟩
def YM (l:List Sexpr):Sexpr:=.mk 3 0 0 0 ⟨#[]⟩ l
def numE (n:Int):Sexpr:=.mk 2 n 0 0 ⟨#[]⟩ []
def YaR (f:Bs) (l:List Bs):Sexpr:=YM (Yp f::l.map Yp)
theorem Yae:I64 0:=by unfold I64;omega
theorem i64_2:I64 2:=by unfold I64;omega
theorem YkQ:I64 3:=by unfold I64;omega
theorem XI:Short ⟨#[]⟩:=by unfold Short;decide
theorem YaJ {l:List Sexpr} (h:Sl YE fz A n c l):SxIs fz (sxV 3 0 ⟨#[]⟩ (Zc A n c)) (YM l):=
 ⟨_,rfl,Ys (x:=YM l) ⟨YkQ,Yae,Yae,Yae,XI,h.is⟩⟩
theorem numE_is {n:Int} (h:I64 n):SxIs fz (sxV 2 n ⟨#[]⟩ Zn) (numE n):=
 ⟨_,rfl,Ys (x:=numE n) ⟨i64_2,h,Yae,Yae,XI,IsSl.nil⟩⟩
inductive EShape:Lx.Expr->Prop
 | num {e:Lx.Expr} (h:e.op=kNumber):EShape e
 | flu {e:Lx.Expr} (h:e.op=kFluent) (hn:e.args.length<=1000000000):EShape e
 | bin {e a b:Lx.Expr} (h1:e.op≠kNumber) (h2:e.op≠kFluent) (hk:e.kids=[a,b]) (ha:EShape a) (hb:EShape b):EShape e
def Yaf:Nat->Lx.Expr->Sexpr
 | 0,_=>numE 0
 | s+1,e=>open Classical in if e.op=kNumber then numE e.n else if e.op=kFluent then YaR e.name e.args else YM (Yp e.op::e.kids.map (Yaf s))
theorem Yej:∀ (s:Nat) {fz:FZ} {e:Lx.Expr} {va vk:Value},SizeOf.sizeOf e<=s->ExprR fz e va vk->EShape e->
 GFn prog 216 [.agg #[Zy e.op,Zy e.name,Zk e.n,va,vk]] fz [] (fun v fz' H'=>H'=[]/\SxIs fz' v (Yaf s e))
 | 0,_,e,_,_,hs,_,_=>by cases e;simp at hs
 | s+1,fz,e,va,vk,hs,h,hE=>by
  obtain ⟨⟨A,n,c,rfl,ha⟩,⟨B,m,d,rfl,hk⟩⟩:=h.sls;refine zF Tryz.func216 Tryz.ntmps216 (fun w0=>?_);refine pX (fun g0=>?_);refine zW ?_;intros;rename_i g1;refine zC (fun x1=>?_) (fun y1=>?_)
  ·refine zW ?_;refine XJ (i:=0) rfl (fun fz3 hle3 hf3=>⟨rfl,?_⟩);rw [Yaf,if_pos (show e.op=kNumber from x1)];exact numE_is h.n
  refine wC (fun x2=>?_) (fun y2=>?_)
  ·have hn:e.args.length<=1000000000:=by
    cases hE with
    | num h=>exact absurd h y1
    | flu _ hn=>exact hn
    | bin _ h2=>exact absurd x2 h2
   refine zW ?_;refine Ya (Ym [] [_,_] Zz (Yjh (f0:=e.name) h.name ha (by rw [<- ha.len];exact hn)) (fun v fz2 H2 hle2 hR=>?_));obtain ⟨rfl,C,mm,cc,rfl,hsl⟩:=hR;unfold sxV;refine zW ?_;refine XJ (i:=0) rfl (fun fz3 hle3 hf3=>⟨rfl,?_⟩);rw [Yaf,if_neg (show ¬e.op=kNumber from y1),if_pos (show e.op=kFluent from x2)];exact (YaJ hsl).mono hle3
  obtain ⟨a,b,hab,hsa,hsb⟩:∃ a b,e.kids=[a,b]/\EShape a/\EShape b:=by
   cases hE with
   | num h=>exact absurd h y1
   | flu h _=>exact absurd h y2
   | bin _ _ hk ha hb=>exact ⟨_,_,hk,ha,hb⟩
  have la:=Lx.Expr.kids_lt (x:=e) (k:=a) (by rw [hab];simp);have lb:=Lx.Expr.kids_lt (x:=e) (k:=b) (by rw [hab];simp);have l2:=hk.len;rw [hab] at l2;simp at l2;subst l2;refine zW ?_;refine XF [_,_] ?_;refine zW ?_;refine Yk ?_;refine wG ?_;refine Ybt T 0 Zz Zz Zz Zz Zz Zz hk (by first | rfl | omega) (by rw [hab];rfl:e.kids[0]?=some a) (fun p hp=>?_);refine zL hp ?_;intro cs hcs;obtain ⟨wa,wk,rfl,hRa⟩:=YD hcs;refine Yk ?_;refine wG ?_;refine Ybt T 1 Zz Zz Zz Zz Zz Zz hk (by first | rfl | omega) (by rw [hab];rfl:e.kids[1]?=some b) (fun p2 hp2=>?_);refine zL hp2 ?_;intro cs2 hcs2;obtain ⟨za,zk,rfl,hRb⟩:=YD hcs2;refine pU ?_;refine Ch.qk ⟨Zd,Zx⟩ (YF (Yb4 (s:=e.op)) ?_);refine Yj (Ym [] [_,_] Zz (Yej s (e:=a) Zi hRa hsa) (fun v2 fz2 H2 hle2 hR2=>?_));obtain ⟨rfl,cs3,rfl,hr3⟩:=hR2;obtain ⟨vk3,rfl,hR3⟩:=Yf hr3;refine ⟨⟨hle2,Zp2⟩,?_⟩;refine Yj (Ym [] [_,_] Zz (Yej s (e:=b) Zi (hRb.mono hle2) hsb) (fun v4 fz4 H4 hle4 hR4=>?_));obtain ⟨rfl,cs5,rfl,hr5⟩:=hR4;obtain ⟨vk5,rfl,hR5⟩:=Yf hr5;refine ⟨⟨hle2.trans hle4,Zp2⟩,?_⟩;refine Yj (Yb (cs:=YH e.op++ [Zk (Yaf s a).kind,Zk (Yaf s a).value,Zk (Yaf s a).line,Zk (Yaf s a).column,Zy (Yaf s a).text,vk3]++ [Zk (Yaf s b).kind,Zk (Yaf s b).value,Zk (Yaf s b).line,Zk (Yaf s b).column,Zy (Yaf s b).text,vk5]) (fun gb=>⟨⟨hle2.trans hle4,Zp3⟩,?_⟩));refine Ch.qk ⟨hle2.trans hle4,Zp3⟩ (YF YdK ?_);unfold sxV;refine Ch.hard0 (Y9 ?_);refine Ch.done ?_;refine zW ?_;refine XJ (i:=1) rfl (fun fz3 hle3 hf3=>⟨rfl,?_⟩);rw [Yaf,if_neg (show ¬e.op=kNumber from y1),if_neg (show ¬e.op=kFluent from y2),hab];obtain ⟨A',c',he,hsl⟩:=YiN (β:={p:Sexpr × List Value // p.2.length=6}) (L:=YE) (f:=fun p=>p.1.2) (g:=fun p=>p.1.1) (e:=86) (n:=3) (v:=Zv gb 3 3)
   (l:=[⟨(Yp e.op,YH e.op),rfl⟩,⟨(Yaf s a,[Zk (Yaf s a).kind,Zk (Yaf s a).value,Zk (Yaf s a).line,Zk (Yaf s a).column,Zy (Yaf s a).text,vk3]),rfl⟩,⟨(Yaf s b,[Zk (Yaf s b).kind,Zk (Yaf s b).value,Zk (Yaf s b).line,Zk (Yaf s b).column,Zy (Yaf s b).text,vk5]),rfl⟩]) (fun p=>p.2) (OwnS.of_block (size:=6) rfl) (fun p hp=>hf3 p (by simp at hp;subst hp;exact .head _)) rfl Zh (fun x hx=>by
    simp only [List.mem_cons,List.not_mem_nil,or_false] at hx;rcases hx with rfl | rfl | rfl
    ·exact YO h.op
    ·exact Ys (x:=Yaf s a) (hR3.mono (hle4.trans hle3))
    exact Ys (x:=Yaf s b) (hR5.mono hle3))
  injection he with he1 he2 he3
  subst he1 he3;exact YaJ hsl
theorem YfM:∀ (s s':Nat) (e:Lx.Expr),SizeOf.sizeOf e<=s->SizeOf.sizeOf e<=s'->Yaf s e=Yaf s' e
 | 0,_,e,h,_=>by cases e;simp at h
 | _+1,0,e,_,h=>by cases e;simp at h
 | s+1,s'+1,e,h,h'=>by
  have hk:e.kids.map (Yaf s)=e.kids.map (Yaf s'):=List.map_congr_left (fun k hk=>YfM s s' k (by have:=Lx.Expr.kids_lt hk;omega) (by have:=Lx.Expr.kids_lt hk;omega));simp only [Yaf,hk]
def Ws (e:Lx.Expr):Sexpr:=Yaf (SizeOf.sizeOf e) e
open Classical in
theorem Ynu (e:Lx.Expr):Ws e=if e.op=kNumber then numE e.n else if e.op=kFluent then YaR e.name e.args else YM (Yp e.op::e.kids.map Ws):=by
 have hk:e.kids.map (Yaf (SizeOf.sizeOf e))=e.kids.map Ws:=List.map_congr_left (fun k hk=>YfM _ _ k (by have:=Lx.Expr.kids_lt hk;omega) (Zs _));rw [Ws,YfM _ (SizeOf.sizeOf e+1) e (Zs _) Zi,Yaf,hk]
theorem Yal {e:Lx.Expr} (h:ExprR fz e va vk) (hE:EShape e):
 GFn prog 216 [.agg #[Zy e.op,Zy e.name,Zk e.n,va,vk]] fz [] (fun v fz' H'=>H'=[]/\SxIs fz' v (Ws e)):=Yej _ (Zs _) h hE
def kAtom:Bs:=⟨#[97,116,111,109]⟩
def kSame:Bs:=⟨#[115,97,109,101]⟩
def kEq:Bs:=⟨#[61]⟩
def kLt:Bs:=⟨#[60]⟩
def kLe:Bs:=⟨#[60,61]⟩
def kAnd:Bs:=⟨#[97,110,100]⟩
def kForall:Bs:=⟨#[102,111,114,97,108,108]⟩
def YaA:Bs:=⟨#[101,120,105,115,116,115]⟩
def CmpOp (s:Bs):Prop:=s=kLt\/s=kLe\/s=kEq
inductive FShape:Formula->Prop
 | atom {f:Formula} (h:f.op=kAtom\/f.op=kSame) (hn:f.args.length<=1000000000):FShape f
 | cmp {f:Formula} {a b:Lx.Expr} (h:CmpOp f.op) (he:f.exprs=[a,b]) (ha:EShape a) (hb:EShape b):FShape f
 | other {f:Formula} (h0:f.op≠kAtom) (h1:f.op≠kSame) (h2:¬CmpOp f.op) (hp:f.params.length<=1000000000) (hn:f.kids.length<=1000000000) (hk:∀ k∈f.kids,FShape k):FShape f
open Classical in
def Yb5:Nat->Formula->Sexpr
 | 0,_=>numE 0
 | s+1,f=>if f.op=kAtom then YaR f.name f.args else if f.op=kSame then YaR kEq f.args else if CmpOp f.op then YM (Yp f.op::f.exprs.map Ws)
  else YM ((if f.op≠kAnd\/f.kids≠ [] then [Yp f.op] else [])++(if f.op=kForall\/f.op=YaA then [YM ((f.params.flatMap YaS).map Yp)] else [])++f.kids.map (Yb5 s))
theorem YfH:∀ (s s':Nat) (f:Formula),SizeOf.sizeOf f<=s->SizeOf.sizeOf f<=s'->Yb5 s f=Yb5 s' f
 | 0,_,e,h,_=>by cases e;simp at h
 | _+1,0,e,_,h=>by cases e;simp at h
 | s+1,s'+1,e,h,h'=>by
  have hk:e.kids.map (Yb5 s)=e.kids.map (Yb5 s'):=List.map_congr_left (fun k hk=>YfH s s' k (by have:=Formula.kids_lt hk;omega) (by have:=Formula.kids_lt hk;omega));simp only [Yb5,hk]
theorem YgG {fz3:FZ} {gb:Nat} {o:Bs} {X Y:Sexpr} {vk3 vk5:Value} (ho:Short o) (hg:fz3 gb=some (.cells (YH o++ [Zk X.kind,Zk X.value,Zk X.line,Zk X.column,Zy X.text,vk3]++ [Zk Y.kind,Zk Y.value,Zk Y.line,Zk Y.column,Zy Y.text,vk5]).toArray 86 (0,0))) (hX:YT fz3 X vk3) (hY:YT fz3 Y vk5):
 SxIs fz3 (sxV 3 0 ⟨#[]⟩ (Zv gb 3 3)) (YM [Yp o,X,Y]):=by
 obtain ⟨A',c',he,hsl⟩:=YiN (β:={p:Sexpr × List Value // p.2.length=6}) (L:=YE) (f:=fun p=>p.1.2) (g:=fun p=>p.1.1) (e:=86) (n:=3) (v:=Zv gb 3 3) (fz':=fz3)
  (l:=[⟨(Yp o,YH o),rfl⟩,⟨(X,[Zk X.kind,Zk X.value,Zk X.line,Zk X.column,Zy X.text,vk3]),rfl⟩,⟨(Y,[Zk Y.kind,Zk Y.value,Zk Y.line,Zk Y.column,Zy Y.text,vk5]),rfl⟩]) (fun p=>p.2) (OwnS.of_block (size:=6) rfl) (fun p hp=>by simp at hp;subst hp;exact hg) rfl Zh (fun x hx=>by
   simp only [List.mem_cons,List.not_mem_nil,or_false] at hx;rcases hx with rfl | rfl | rfl
   ·exact YO ho
   ·exact Ys (x:=X) hX
   exact Ys (x:=Y) hY)
 injection he with he1 he2 he3
 subst he1 he3;exact YaJ hsl
theorem YqC (hF:FShape f) (hc:CmpOp f.op):∃ a b,f.exprs=[a,b]/\EShape a/\EShape b:=by
 cases hF with
 | atom h0=>
  rcases h0 with h0 | h0<;>rw [h0] at hc<;>rcases hc with hc | hc | hc<;>exact absurd (congrArg ByteArray.size hc) Zh
 | cmp _ he ha hb=>exact ⟨_,_,he,ha,hb⟩
 | other _ _ h2=>exact absurd hc h2
theorem Yox:∀ (s:Nat) {fz:FZ} {f:Formula} {va vp ve vk:Value},SizeOf.sizeOf f<=s->FormulaR fz f va vp ve vk->FShape f->
 GFn prog 149 [.agg #[Zy f.op,Zy f.name,va,vp,ve,vk]] fz [] (fun v fz' H'=>H'=[]/\SxIs fz' v (Yb5 s f))
 | 0,_,f,_,_,_,_,hs,_,_=>by cases f;simp at hs
 | s+1,fz,f,va,vp,ve,vk,hs,h,hF=>by
  obtain ⟨⟨A,n,c,rfl,ha⟩,⟨B,m,d,rfl,hp⟩,⟨C,r,cr,rfl,he⟩,⟨D,q,cq,rfl,hk⟩⟩:=h.sls;refine zF Tryz.func149 Tryz.ntmps149 (fun w0=>?_);refine pX (fun g0=>?_);refine zW ?_;intros;rename_i g1;refine zC (fun x1=>?_) (fun y1=>?_)
  ·have hn:f.args.length<=1000000000:=by
    cases hF with
    | atom _ hn=>exact hn
    | cmp hc=>rw [show f.op=kAtom from x1] at hc;rcases hc with hc | hc | hc<;>exact absurd (congrArg ByteArray.size hc) Zh
    | other h0=>exact absurd x1 h0
   refine zW ?_;refine Ya (Ym [] [_,_] Zz (Yjh (f0:=f.name) h.name ha (by rw [<- ha.len];exact hn)) (fun v fz2 H2 hle2 hR=>?_));obtain ⟨rfl,C,mm,cc,rfl,hsl⟩:=hR;unfold sxV;refine zW ?_;refine XJ (i:=0) rfl (fun fz3 hle3 hf3=>⟨rfl,?_⟩);rw [Yb5,if_pos (show f.op=kAtom from x1)];exact (YaJ hsl).mono hle3
  refine wC (fun x2=>?_) (fun y2=>?_)
  ·have hn:f.args.length<=1000000000:=by
    cases hF with
    | atom _ hn=>exact hn
    | cmp hc=>rw [show f.op=kSame from x2] at hc;rcases hc with hc | hc | hc<;>exact absurd (congrArg ByteArray.size hc) Zh
    | other _ h1=>exact absurd x2 h1
   refine zW ?_;refine Ya (Ym [] [_,_] Zz (Yjh (f0:=kEq) (by unfold Short kEq;decide) ha (by rw [<- ha.len];exact hn)) (fun v fz2 H2 hle2 hR=>?_));obtain ⟨rfl,C,mm,cc,rfl,hsl⟩:=hR;unfold sxV;refine zW ?_;refine XJ (i:=0) rfl (fun fz3 hle3 hf3=>⟨rfl,?_⟩);rw [Yb5,if_neg (show ¬f.op=kAtom from y1),if_pos (show f.op=kSame from x2)];exact (YaJ hsl).mono hle3
  refine wC (fun x3=>?_) (fun y3=>?_)
  ·have hcmp:CmpOp f.op:=.inl x3;obtain ⟨a,b,hab,hsa,hsb⟩:=YqC hF hcmp;have l2:=he.len;rw [hab] at l2;simp at l2;subst l2;refine zW ?_;refine XF [_,_] ?_;refine zW ?_;refine Yk ?_;refine zW ?_;((refine zG ?_);refine Ybt T 0 Zz Zz Zz Zz Zz Zz he (by first | rfl | omega) (by rw [hab];rfl:f.exprs[0]?=some a) (fun p hp0=>?_));refine zL hp0 ?_;intro cs hcs;obtain ⟨wa,wk,rfl,hRa⟩:=YD hcs;refine Yk ?_;refine zW ?_;((refine zG ?_);refine Ybt T 1 Zz Zz Zz Zz Zz Zz he (by first | rfl | omega) (by rw [hab];rfl:f.exprs[1]?=some b) (fun p2 hp2=>?_));refine zL hp2 ?_;intro cs2 hcs2;obtain ⟨za,zk,rfl,hRb⟩:=YD hcs2;refine Yk ?_;refine Yk ?_;refine Yk ?_;refine Yk ?_;refine QK.dz ?_;refine Ch.qk ⟨Zd,Zx⟩ (YF (Yb4 (s:=f.op)) ?_);refine Yj (Ym [] [_,_] Zz (Yal hRa hsa) (fun v2 fz2 H2 hle2 hR2=>?_));obtain ⟨rfl,cs3,rfl,hr3⟩:=hR2;obtain ⟨vk3,rfl,hR3⟩:=Yf hr3;refine ⟨⟨hle2,Zp2⟩,?_⟩;refine Yj (Ym [] [_,_] Zz (Yal (hRb.mono hle2) hsb) (fun v4 fz4 H4 hle4 hR4=>?_));obtain ⟨rfl,cs5,rfl,hr5⟩:=hR4;obtain ⟨vk5,rfl,hR5⟩:=Yf hr5;refine ⟨⟨hle2.trans hle4,Zp2⟩,?_⟩;refine Yj (Yb (cs:=YH f.op++ [Zk (Ws a).kind,Zk (Ws a).value,Zk (Ws a).line,Zk (Ws a).column,Zy (Ws a).text,vk3]++ [Zk (Ws b).kind,Zk (Ws b).value,Zk (Ws b).line,Zk (Ws b).column,Zy (Ws b).text,vk5]) (fun gb=>⟨⟨hle2.trans hle4,Zp3⟩,?_⟩));refine Ch.qk ⟨hle2.trans hle4,Zp3⟩ (YF YdK ?_);unfold sxV;refine Ch.hard0 (Y9 ?_);refine Ch.done ?_;refine zW ?_;refine XJ (i:=1) rfl (fun fz3 hle3 hf3=>⟨rfl,?_⟩);rw [Yb5,if_neg (show ¬f.op=kAtom from y1),if_neg (show ¬f.op=kSame from y2),if_pos hcmp,hab];exact YgG h.op (hf3 _ (.head _)) (hR3.mono (hle4.trans hle3)) (hR5.mono hle3)
  refine wC (fun x4=>?_) (fun y4=>?_)
  ·have hcmp:CmpOp f.op:=.inr (.inl x4);obtain ⟨a,b,hab,hsa,hsb⟩:=YqC hF hcmp;have l2:=he.len;rw [hab] at l2;simp at l2;subst l2;refine zW ?_;refine XF [_,_] ?_;refine zW ?_;refine Yk ?_;refine zW ?_;((refine zG ?_);refine Ybt T 0 Zz Zz Zz Zz Zz Zz he (by first | rfl | omega) (by rw [hab];rfl:f.exprs[0]?=some a) (fun p hp0=>?_));refine zL hp0 ?_;intro cs hcs;obtain ⟨wa,wk,rfl,hRa⟩:=YD hcs;refine Yk ?_;refine zW ?_;((refine zG ?_);refine Ybt T 1 Zz Zz Zz Zz Zz Zz he (by first | rfl | omega) (by rw [hab];rfl:f.exprs[1]?=some b) (fun p2 hp2=>?_));refine zL hp2 ?_;intro cs2 hcs2;obtain ⟨za,zk,rfl,hRb⟩:=YD hcs2;refine Yk ?_;refine Yk ?_;refine Yk ?_;refine Yk ?_;refine QK.dz ?_;refine Ch.qk ⟨Zd,Zx⟩ (YF (Yb4 (s:=f.op)) ?_);refine Yj (Ym [] [_,_] Zz (Yal hRa hsa) (fun v2 fz2 H2 hle2 hR2=>?_));obtain ⟨rfl,cs3,rfl,hr3⟩:=hR2;obtain ⟨vk3,rfl,hR3⟩:=Yf hr3;refine ⟨⟨hle2,Zp2⟩,?_⟩;refine Yj (Ym [] [_,_] Zz (Yal (hRb.mono hle2) hsb) (fun v4 fz4 H4 hle4 hR4=>?_));obtain ⟨rfl,cs5,rfl,hr5⟩:=hR4;obtain ⟨vk5,rfl,hR5⟩:=Yf hr5;refine ⟨⟨hle2.trans hle4,Zp2⟩,?_⟩;refine Yj (Yb (cs:=YH f.op++ [Zk (Ws a).kind,Zk (Ws a).value,Zk (Ws a).line,Zk (Ws a).column,Zy (Ws a).text,vk3]++ [Zk (Ws b).kind,Zk (Ws b).value,Zk (Ws b).line,Zk (Ws b).column,Zy (Ws b).text,vk5]) (fun gb=>⟨⟨hle2.trans hle4,Zp3⟩,?_⟩));refine Ch.qk ⟨hle2.trans hle4,Zp3⟩ (YF YdK ?_);unfold sxV;refine Ch.hard0 (Y9 ?_);refine Ch.done ?_;refine zW ?_;refine XJ (i:=1) rfl (fun fz3 hle3 hf3=>⟨rfl,?_⟩);rw [Yb5,if_neg (show ¬f.op=kAtom from y1),if_neg (show ¬f.op=kSame from y2),if_pos hcmp,hab];exact YgG h.op (hf3 _ (.head _)) (hR3.mono (hle4.trans hle3)) (hR5.mono hle3)
  refine wC (fun x5=>?_) (fun y5=>?_)
  ·have hcmp:CmpOp f.op:=.inr (.inr x5);obtain ⟨a,b,hab,hsa,hsb⟩:=YqC hF hcmp;have l2:=he.len;rw [hab] at l2;simp at l2;subst l2;refine zW ?_;refine XF [_,_] ?_;refine zW ?_;refine Yk ?_;refine zW ?_;((refine zG ?_);refine Ybt T 0 Zz Zz Zz Zz Zz Zz he (by first | rfl | omega) (by rw [hab];rfl:f.exprs[0]?=some a) (fun p hp0=>?_));refine zL hp0 ?_;intro cs hcs;obtain ⟨wa,wk,rfl,hRa⟩:=YD hcs;refine Yk ?_;refine zW ?_;((refine zG ?_);refine Ybt T 1 Zz Zz Zz Zz Zz Zz he (by first | rfl | omega) (by rw [hab];rfl:f.exprs[1]?=some b) (fun p2 hp2=>?_));refine zL hp2 ?_;intro cs2 hcs2;obtain ⟨za,zk,rfl,hRb⟩:=YD hcs2;refine Yk ?_;refine Yk ?_;refine Yk ?_;refine Yk ?_;refine QK.dz ?_;refine Ch.qk ⟨Zd,Zx⟩ (YF (Yb4 (s:=f.op)) ?_);refine Yj (Ym [] [_,_] Zz (Yal hRa hsa) (fun v2 fz2 H2 hle2 hR2=>?_));obtain ⟨rfl,cs3,rfl,hr3⟩:=hR2;obtain ⟨vk3,rfl,hR3⟩:=Yf hr3;refine ⟨⟨hle2,Zp2⟩,?_⟩;refine Yj (Ym [] [_,_] Zz (Yal (hRb.mono hle2) hsb) (fun v4 fz4 H4 hle4 hR4=>?_));obtain ⟨rfl,cs5,rfl,hr5⟩:=hR4;obtain ⟨vk5,rfl,hR5⟩:=Yf hr5;refine ⟨⟨hle2.trans hle4,Zp2⟩,?_⟩;refine Yj (Yb (cs:=YH f.op++ [Zk (Ws a).kind,Zk (Ws a).value,Zk (Ws a).line,Zk (Ws a).column,Zy (Ws a).text,vk3]++ [Zk (Ws b).kind,Zk (Ws b).value,Zk (Ws b).line,Zk (Ws b).column,Zy (Ws b).text,vk5]) (fun gb=>⟨⟨hle2.trans hle4,Zp3⟩,?_⟩));refine Ch.qk ⟨hle2.trans hle4,Zp3⟩ (YF YdK ?_);unfold sxV;refine Ch.hard0 (Y9 ?_);refine Ch.done ?_;refine zW ?_;refine XJ (i:=1) rfl (fun fz3 hle3 hf3=>⟨rfl,?_⟩);rw [Yb5,if_neg (show ¬f.op=kAtom from y1),if_neg (show ¬f.op=kSame from y2),if_pos hcmp,hab];exact YgG h.op (hf3 _ (.head _)) (hR3.mono (hle4.trans hle3)) (hR5.mono hle3)
  refine zW ?_;have hc:¬CmpOp f.op:=fun h1=>h1.elim y3 (fun h1=>h1.elim y4 y5)
  obtain ⟨hpn,hkn,hks⟩:f.params.length<=1000000000/\f.kids.length<=1000000000/\∀ k∈f.kids,FShape k:=by
   cases hF with
   | atom h0=>exact (h0.elim y1 y2).elim
   | cmp h1=>exact absurd h1 hc
   | other _ _ _ h1 h2 h3=>exact ⟨h1,h2,h3⟩
  refine zc (YdK (A:=none) (n:=0) (c:=0)) ?_;unfold sxV;refine zWO ?_;intros;rename_i g2;have l4:=hk.len;refine Yr (YY (fun σ fz' H'=>∃ (v:Value) (k:Nat) (Hs:HP),σ=[(3,Zp g2),(2,Zp g1),(1,Zp g0)]/\fz=fz'/\k<=1/\
   H'=(g2,Zu #[Zk 3,Zk 0,Zk 0,Zk 0,Ze,v] 86)::(g1,Zu #[Zk 0,Zk 0,Zk 0,Zk 0,Ze,Zn] 86)::(g0,Zu #[Zy f.op,Zy f.name,Zc A n c,Zc B m d,Zc C r cr,Zc D q cq] 35)::Hs/\
   Grow YE 86 fz' v k Hs (if f.op≠kAnd\/f.kids≠ [] then [Yp f.op] else [])) ?_ ?_)
  ·refine wC ?_ ?_<;>intro z1
   ·refine zW ?_;refine XF [_,_,_] ?_;refine zW ?_;refine Yk (Yk (Yk ?_));refine zW ?_;refine pU ?_;refine Ch.qk ⟨Zd,Zx⟩ (YF (Yb4 (s:=f.op)) ?_);refine Yj (Yb (cs:=YH f.op) (fun gb=>⟨⟨Zd,Zx⟩,?_⟩));refine Yj (YN (Hr:=[_,_,_,_]) (Zr _) (Grow.nil YE 86 fz) YP (.head _) (YO h.op) (fun v' Hs' hO'=>⟨⟨Zd,Zx⟩,?_⟩) (hb:=by decide) (hm2:=by decide));obtain ⟨Av',cv',rfl,_,_⟩:=hO'.form;refine Ch.hard0 (Y9 ?_);refine Ch.done ?_;exact wN (h:=by exact ⟨_,1,Hs',rfl,rfl,by omega,rfl,by rw [if_pos (.inl z1)];exact hO'⟩)
   refine wC ?_ ?_<;>intro z2
   ·have hkn0:f.kids≠ []:=fun h0=>by rw [h0] at l4;simp at l4;omega
    refine zW ?_;refine XF [_,_,_] ?_;refine zW ?_;refine Yk (Yk (Yk ?_));refine zW ?_;refine pU ?_;refine Ch.qk ⟨Zd,Zx⟩ (YF (Yb4 (s:=f.op)) ?_);refine Yj (Yb (cs:=YH f.op) (fun gb=>⟨⟨Zd,Zx⟩,?_⟩));refine Yj (YN (Hr:=[_,_,_,_]) (Zr _) (Grow.nil YE 86 fz) YP (.head _) (YO h.op) (fun v' Hs' hO'=>⟨⟨Zd,Zx⟩,?_⟩) (hb:=by decide) (hm2:=by decide));obtain ⟨Av',cv',rfl,_,_⟩:=hO'.form;refine Ch.hard0 (Y9 ?_);refine Ch.done ?_;exact wN (h:=by exact ⟨_,1,Hs',rfl,rfl,by omega,rfl,by rw [if_pos (.inr hkn0)];exact hO'⟩)
   have hkn0:f.kids=[]:=List.eq_nil_of_length_eq_zero Zi;exact wN (h:=by exact ⟨_,0,[],rfl,rfl,by omega,rfl,by rw [if_neg (by rintro (h0 | h0);exact h0 z1;exact h0 hkn0)];exact Grow.nil _ _ _⟩)
  rintro σ fz' H' ⟨v,k,Hs,rfl,rfl,hk1,rfl,hG⟩;refine Yr (YY (fun σ fz' H'=>∃ (v:Value) (k:Nat) (Hs:HP),σ=[(3,Zp g2),(2,Zp g1),(1,Zp g0)]/\Le fz fz'/\k<=2/\
   H'=(g2,Zu #[Zk 3,Zk 0,Zk 0,Zk 0,Ze,v] 86)::(g1,Zu #[Zk 0,Zk 0,Zk 0,Zk 0,Ze,Zn] 86)::(g0,Zu #[Zy f.op,Zy f.name,Zc A n c,Zc B m d,Zc C r cr,Zc D q cq] 35)::Hs/\
   Grow YE 86 fz' v k Hs ((if f.op≠kAnd\/f.kids≠ [] then [Yp f.op] else [])++(if f.op=kForall\/f.op=YaA then [YM ((f.params.flatMap YaS).map Yp)] else []))) ?_ ?_)
  ·obtain ⟨Av,cv,rfl,_,_⟩:=hG.form;refine wC ?_ ?_<;>intro w1
   ·refine zW ?_;refine XF [_,_,_] ?_;refine zW ?_;refine Yk (Yk (Yk (Yk ?_)));refine zW ?_;refine pU ?_;refine Yj (Ym [] _ Zz (Ygr hp (by rw [<- hp.len];exact hpn)) (fun v2 fz2 H2 hle2 hR2=>?_));obtain ⟨rfl,B2,cc2,rfl,hsl2⟩:=hR2;refine ⟨⟨hle2,Zx⟩,?_⟩;refine Ch.qk ⟨hle2,Zx⟩ (YF YdK ?_);unfold sxV;refine Yj (Yb (cs:=[Zk 3,Zk 0,Zk 0,Zk 0,Ze,Zc B2 (3*m) cc2]) (fun gb=>⟨⟨hle2,Zx⟩,?_⟩));refine Yj (YN (Hr:=[_,_,_,_]) (d:=YM ((f.params.flatMap YaS).map Yp)) (Zr _) (hG.mono hle2) YP (.head _) (Ys (x:=YM _) ⟨YkQ,Yae,Yae,Yae,XI,hsl2.is⟩) (fun v' Hs' hO'=>⟨⟨hle2,Zx⟩,?_⟩));obtain ⟨Av',cv',rfl,_,_⟩:=hO'.form;refine Ch.hard0 (Y9 ?_);refine Ch.done ?_;exact wN (h:=by exact ⟨_,k+1,Hs',rfl,hle2,by omega,rfl,by rw [if_pos (Or.inl w1:f.op=kForall\/f.op=YaA)];exact hO'⟩)
   refine wC ?_ ?_<;>intro w2
   ·refine zW ?_;refine XF [_,_,_] ?_;refine zW ?_;refine Yk (Yk (Yk (Yk ?_)));refine zW ?_;refine pU ?_;refine Yj (Ym [] _ Zz (Ygr hp (by rw [<- hp.len];exact hpn)) (fun v2 fz2 H2 hle2 hR2=>?_));obtain ⟨rfl,B2,cc2,rfl,hsl2⟩:=hR2;refine ⟨⟨hle2,Zx⟩,?_⟩;refine Ch.qk ⟨hle2,Zx⟩ (YF YdK ?_);unfold sxV;refine Yj (Yb (cs:=[Zk 3,Zk 0,Zk 0,Zk 0,Ze,Zc B2 (3*m) cc2]) (fun gb=>⟨⟨hle2,Zx⟩,?_⟩));refine Yj (YN (Hr:=[_,_,_,_]) (d:=YM ((f.params.flatMap YaS).map Yp)) (Zr _) (hG.mono hle2) YP (.head _) (Ys (x:=YM _) ⟨YkQ,Yae,Yae,Yae,XI,hsl2.is⟩) (fun v' Hs' hO'=>⟨⟨hle2,Zx⟩,?_⟩));obtain ⟨Av',cv',rfl,_,_⟩:=hO'.form;refine Ch.hard0 (Y9 ?_);refine Ch.done ?_;exact wN (h:=by exact ⟨_,k+1,Hs',rfl,hle2,by omega,rfl,by rw [if_pos (Or.inr w2:f.op=kForall\/f.op=YaA)];exact hO'⟩)
   exact wN (h:=by exact ⟨_,k,Hs,rfl,Zd,by omega,rfl,by rw [if_neg (show ¬(f.op=kForall\/f.op=YaA) from fun h0=>h0.elim w1 w2),List.append_nil];exact hG⟩)
  rintro σ fz' H' ⟨v,k,Hs,rfl,hle,hk1,rfl,hG⟩;generalize hbase:(if f.op≠kAnd\/f.kids≠ [] then [Yp f.op] else [])++(if f.op=kForall\/f.op=YaA then [YM ((f.params.flatMap YaS).map Yp)] else [])=base at hG;refine zW ?_;refine Yi (fun mm σ fz2 H'=>∃ (j:Nat) (v:Value) (k:Nat) (Hs:HP),j<=q/\mm=q - j/\σ=[(77,Zk j),(76,Zk q),(75,Zc D q cq),(3,Zp g2),(2,Zp g1)]/\Le fz' fz2/\k<=2+j/\
   H'=(g2,Zu #[Zk 3,Zk 0,Zk 0,Zk 0,Ze,v] 86)::(g1,Zu #[Zk 0,Zk 0,Zk 0,Zk 0,Ze,Zn] 86)::Hs/\Grow YE 86 fz2 v k Hs (base++(f.kids.take j).map (Yb5 s)))
   ⟨0,v,k,Hs,Z0 _,rfl,rfl,Zd,by omega,rfl,by simpa using hG⟩ Zw Zb ?_
  rintro mm σ fz2 H' ⟨j,v,k,Hs,hj,rfl,rfl,hle2,hk2,rfl,hG⟩;obtain ⟨Av,cv,rfl,_,_⟩:=hG.form;have hk3:=hk.mono (hle.trans hle2);refine wC ?_ ?_<;>intro c1
  ·obtain ⟨x,hx⟩:=Ye (l:=f.kids) (k:=j) Zi;have hxm:x∈f.kids:=Zm hx;have hlt:=Formula.kids_lt hxm;refine wI hk3 hx (fun p hp5=>?_);refine zL hp5 ?_;intro cs hcs;obtain ⟨wa,wp,we,wk,rfl,hRx⟩:=Yv hcs;obtain ⟨⟨A1,n1,b1,rfl,_⟩,⟨A2,n2,b2,rfl,_⟩,⟨A3,n3,b3,rfl,_⟩,⟨A4,n4,b4,rfl,_⟩⟩:=hRx.sls;refine zW ?_;intros;rename_i g5;refine XF [_,_,_] ?_;refine zW ?_;refine Yk (Yk (Yk ?_));refine zW ?_;refine pU ?_;refine Yj (Ym [] _ Zz (Yox s (f:=x) Zi hRx (hks x hxm)) (fun v2 fz4 H2 hle4 hR2=>?_));obtain ⟨rfl,cs3,rfl,hr3⟩:=hR2;obtain ⟨vk3,rfl,hR3⟩:=Yf hr3;refine ⟨⟨hle4,Zx⟩,?_⟩;refine Yj (Yb (cs:=[Zk (Yb5 s x).kind,Zk (Yb5 s x).value,Zk (Yb5 s x).line,Zk (Yb5 s x).column,Zy (Yb5 s x).text,vk3]) (fun gb=>⟨⟨hle4,Zx⟩,?_⟩));refine Yj (YN (Hr:=[_,_,_,_]) (d:=Yb5 s x) (Zr _) (hG.mono hle4) YP (.head _) (Ys hR3) (fun v' Hs' hO'=>⟨⟨hle4,Zx⟩,?_⟩));obtain ⟨Av',cv',rfl,_,_⟩:=hO'.form;refine Ch.hard0 (WT ?_);refine Ch.done ?_;exact wP (h:=by exact ⟨j+1,_,k+1,Hs',by omega,rfl,rfl,hle2.trans hle4,by omega,rfl,by rw [List.take_add_one,hx,Option.toList,List.map_append,<- List.append_assoc];exact hO'⟩)
  have hj1:j=q:=by omega
  subst hj1;refine zW ?_;refine XJ (i:=1) rfl (fun fz3 hle3 hf3=>⟨rfl,?_⟩);rw [Zl Zi] at hG;obtain ⟨A',c',he5,hsl⟩:=hG.sl hle3 (fun p hp=>hf3 p (by simp [hp])) Zi;injection he5 with e1 e2 e3
  subst e1 e3;rw [Yb5,if_neg (show ¬f.op=kAtom from y1),if_neg (show ¬f.op=kSame from y2),if_neg hc,hbase];exact YaJ hsl
def Xm (f:Formula):Sexpr:=Yb5 (SizeOf.sizeOf f) f
open Classical in
theorem Yjm (f:Formula):Xm f=if f.op=kAtom then YaR f.name f.args else if f.op=kSame then YaR kEq f.args else if CmpOp f.op then YM (Yp f.op::f.exprs.map Ws)
 else YM ((if f.op≠kAnd\/f.kids≠ [] then [Yp f.op] else [])++(if f.op=kForall\/f.op=YaA then [YM ((f.params.flatMap YaS).map Yp)] else [])++f.kids.map Xm):=by
 have hk:f.kids.map (Yb5 (SizeOf.sizeOf f))=f.kids.map Xm:=List.map_congr_left (fun k hk=>YfH _ _ k (by have:=Formula.kids_lt hk;omega) (Zs _));rw [Xm,YfH _ (SizeOf.sizeOf f+1) f (Zs _) Zi,Yb5,hk]
theorem Yow (h:FormulaR fz f va vp ve vk) (hF:FShape f):
 GFn prog 149 [.agg #[Zy f.op,Zy f.name,va,vp,ve,vk]] fz [] (fun v fz' H'=>H'=[]/\SxIs fz' v (Xm f)):=Yox _ (Zs _) h hF
end Go.Proofs.YtiligkgjcmokbaaGreatDoor
namespace Go.Lx
theorem Yah {P:Program} {cx:Cx} {r:Operand->Option Value} {fz:FZ} {H:HP} {V:Value->Prop} {dst:Option Nat} {ty:TypeId} {pos:String} {af:Array Edge} {gd:Option (Nat × Bool)} {f:FuncId} {ff:Operand} {xs:List Operand} {ats:Array TypeId} {us vs first capt:List Value} {p:Prop} [Decidable p] (hf:r ff=some (.func (.func f) first.toArray capt.toArray)) (hx:rds r xs=some us) (hv:first++us++capt=vs) (hq:QFn P f vs fz (Zo (decide p)))
 (h1:p->V (.bool true)) (h2:¬p->V (.bool false)):DoesQ P cx ⟨dst,.call {callee:=.value ff,args:=xs.toArray,argTypes:=ats},ty,pos,af,gd⟩ r fz H V:=
 Ybu hq (YiD h1 h2) (hf:=hf) (hx:=hx) (hv:=hv)
end Go.Lx
namespace Go.Proofs.YtiligkgjcmokbaaGreatDoor
variable {α:Type} {A:Option Addr} {c n g k:Nat} {ff:FuncId} {fz:FZ} {s:Bs} {va vk ve vp:Value} {f:Formula} {l:List α}
theorem YnF {p:Prop} [Decidable p]:Value.bool (!decide p)=Value.bool (decide (¬p)):=by rw [decide_not]
theorem indexF_q {l:List Bs} {p:Bs->Prop} [DecidablePred p] (h1:Sl strL fz A n c l) (hq:∀ x,Short x->QFn prog ff [Zy x] fz (Zo (decide (p x)))):
 QFn prog 270 [Zc A n c,.func (.func ff) #[] #[]] fz (Zk (W6 p l 0)):=by
 refine qF Tryz.func270 Tryz.ntmps270 (fun w0=>?_);have l1:=h1.len;have hm:=h1.short;refine zW ?_;refine Yav n (fun k=>[(8,Zk k),(7,Zk n),(0,Zc A n c),(1,.func (.func ff) #[] #[])]) [] (fun k=>(∀ i,i<k->∀ x,l[i]?=some x->¬p x)) (fun i hi=>absurd hi Zi) ?_;intro k hk hh;refine wC (fun hlt=>?_) (fun hge=>?_)
 ·refine zW ?_;obtain ⟨x,hx⟩:=Ye (l:=l) (k:=k) Zi;refine zI h1 hx (fun a ha=>?_);refine zH ha (fun iy=>?_);refine wG ?_;refine Yah Zz Zz Zz (hq x iy) (fun c1=>?_) (fun c1=>?_)
  ·exact wR (h:=by rw [YaG hh hx c1,Int.zero_add])
  exact wM (h:=by exact YL hh hx c1)
 exact wR (h:=by rw [WL (Xu hh Zi)])
theorem Yde {l:List Bs} {p:Bs->Prop} [DecidablePred p] (h1:Sl strL fz A n c l) (hq:∀ x,Short x->QFn prog ff [Zy x] fz (Zo (decide (p x)))):
 QFn prog 217 [Zc A n c,.func (.func ff) #[] #[]] fz (Zo (decide (∃ x∈l,p x))):=by
 refine qF Tryz.func217 Tryz.ntmps217 (fun w0=>?_);refine wc (indexF_q h1 hq) ?_;refine zC ?_ ?_<;>intro c1
 ·exact wR (h:=by exact Yu ((Xt (Int.le_refl 0)).1 c1))
 exact wR (h:=by exact Yl (fun h=>c1 ((Xt (Int.le_refl 0)).2 h)))
theorem Yka (hs:Short s):QFn prog 267 [Zy s] fz (Zo (decide (¬YfW s))):=by
 refine qF Tryz.func267 Tryz.ntmps267 (fun w0=>?_);refine wc (YoP hs) ?_;exact wR (h:=by exact YnF)
theorem Yp6 (hs:Short s):QFn prog 295 [Zy s] fz (Zo (decide (¬YfW s))):=by
 refine qF Tryz.func295 Tryz.ntmps295 (fun w0=>?_);refine wc (YoP hs) ?_;exact wR (h:=by exact YnF)
def budO (c:Int):Obj:=Zu #[Zk c] 276
theorem take_q {d:Nat} (hc:c<=5000):GFn prog 266 [Zp g,Zk d] fz [(g,budO c)] (fun v fz' H'=>Le fz fz'/\H'=[(g,budO (c+1:Nat))]/\∃ b:Bool,v=Zo b/\(b=true↔c+1<=4096/\d<=32)):=by
 unfold budO;refine zF Tryz.func266 Tryz.ntmps266 (fun w0=>?_);refine wC ?_ ?_<;>intro c1
 ·refine wC ?_ ?_<;>intro c2
  ·exact wR (h:=by exact ⟨Zd,rfl,true,rfl,iff_of_true rfl ⟨by omega,by omega⟩⟩)
  exact wR (h:=by exact ⟨Zd,rfl,false,rfl,iff_of_false (by simp) (fun h=>c2 Zi)⟩)
 exact wR (h:=by exact ⟨Zd,rfl,false,rfl,iff_of_false (by simp) (fun h=>c1 Zi)⟩)
def kPlus:Bs:=⟨#[43]⟩
def kStar:Bs:=⟨#[42]⟩
def BinP (s:Bs):Prop:=s=kPlus\/s=YaB\/s=kStar
def YhK (e:Lx.Expr):Prop:=
 (e.op=kNumber/\e.name=Ya5/\e.args=[]/\e.kids=[]/\Yca e.n)\/(e.op=kFluent/\e.n=0/\e.kids=[]/\Xc e.name/\∀ s∈e.args,YfW s)\/(BinP e.op/\e.n=0/\e.name=Ya5/\e.args=[]/\e.kids.length=2)
abbrev EOk (e:Lx.Expr):Prop:=EAll YhK e
theorem Yhr {e:Lx.Expr} (h:e.op=kNumber):YhK e↔e.name=Ya5/\e.args=[]/\e.kids=[]/\Yca e.n:=by
 unfold YhK BinP;rw [h];refine ⟨fun h=>?_,fun h=>.inl ⟨rfl,h⟩⟩;rcases h with h | h | h
 ·exact h.2
 ·exact absurd (congrArg (fun s=>Yb8 s 0) h.1) Zh
 rcases h.1 with h | h | h<;>exact absurd (congrArg ByteArray.size h) Zh
theorem Yhs {e:Lx.Expr} (h:e.op=kFluent):YhK e↔e.n=0/\e.kids=[]/\Xc e.name/\∀ s∈e.args,YfW s:=by
 unfold YhK BinP;rw [h];refine ⟨fun h=>?_,fun h=>.inr (.inl ⟨rfl,h⟩)⟩;rcases h with h | h | h
 ·exact absurd (congrArg (fun s=>Yb8 s 0) h.1) Zh
 ·exact h.2
 rcases h.1 with h | h | h<;>exact absurd (congrArg ByteArray.size h) Zh
theorem Yht {e:Lx.Expr} (h1:¬e.op=kNumber) (h2:¬e.op=kFluent):YhK e↔BinP e.op/\e.n=0/\e.name=Ya5/\e.args=[]/\e.kids.length=2:=
 ⟨fun h=>by rcases h with h | h | h;exact absurd h.1 h1;exact absurd h.1 h2;exact h,fun h=>.inr (.inr h)⟩
def EBud (g:Nat) (e:Lx.Expr) (d c:Nat) (v:Value) (H':HP):Prop:=
 ∃ (b:Bool) (c':Int),v=Zo b/\H'=[(g,budO c')]/\(b=true->c'=((c+ecount e:Nat):Int))/\(b=true↔EOk e/\d+edepth e<=33/\c+ecount e<=4096)
theorem Yjw {e:Lx.Expr} {d:Nat} {c':Int} (h:¬(EOk e/\d+edepth e<=33/\c+ecount e<=4096)):EBud g e d c (Zo false) [(g,budO c')]:=⟨false,c',rfl,rfl,(by simp),iff_of_false (by simp) h⟩
theorem Yk9 {e:Lx.Expr} {d:Nat} (h:YhK e) (hk:e.kids=[]) (ht:c+1<=4096/\d<=32):EBud g e d c (Zo true) [(g,budO (c+1:Nat))]:=by
 have h1:ecount e=1:=by rw [YdM,hk];simp [ecountL]
 have h2:edepth e=1:=by rw [Ye5,hk];simp [edepthL]
 exact ⟨true,_,rfl,rfl,fun _=>by rw [h1],iff_of_true rfl ⟨YaN.2 ⟨h,by rw [hk];simp⟩,by omega,by omega⟩⟩
theorem len0 {α:Type} {l:List α} {n:Nat} (h:l.length=n):(n:Int)=0↔l=[]:=by
 constructor
 ·intro h0;exact List.eq_nil_of_length_eq_zero Zi
 intro h0;subst h0;simp at h;omega
theorem Yjk:∀ (s:Nat) {fz:FZ} {e:Lx.Expr} {va vk:Value} {g d c:Nat},SizeOf.sizeOf e<=s->ExprR fz e va vk->d<=33->c<=4096->
 GFn prog 269 [.agg #[Zy e.op,Zy e.name,Zk e.n,va,vk],Zk d,Zp g] fz [(g,budO c)] (fun v fz' H'=>Le fz fz'/\EBud g e d c v H')
 | 0,_,e,_,_,_,_,_,hs,_,_,_=>by cases e;simp at hs
 | s+1,fz,e,va,vk,g,d,c,hs,h,hd,hc=>by
  obtain ⟨⟨A,n,ca,rfl,ha⟩,⟨B,m,cb,rfl,hk⟩⟩:=h.sls;have no:∀ {c':Int},¬YhK e->EBud g e d c (Zo false) [(g,budO c')]:=fun h0=>Yjw (fun h1=>h0 (YaN.1 h1.1).1)
  refine zF Tryz.func269 Tryz.ntmps269 (fun w0=>?_);refine pX (fun g0=>?_)
  first | refine Wp.perm (List.Perm.swap _ _ _) ?_ | refine Seq.perm (List.Perm.swap _ _ _) ?_
  refine zW ?_;refine Ya (Ym [_] [_] Zz (take_q (c:=c) Zi) (fun v fz2 H2 hle2 hR=>?_));obtain ⟨hle3,rfl,b,rfl,hb⟩:=hR;cases b
  ·refine zW ?_
   (exact ret1 rfl rfl Zb ⟨hle2,Yjw (fun h0=>by
    have h1:=YdM e;have h2:=Ye5 e;exact absurd (hb.2 ⟨by omega,by omega⟩) (by simp))⟩)
  have ht:=hb.1 rfl;refine wC (fun x1=>?_) (fun y1=>?_)
  ·have hn:=Yhr (e:=e) x1;refine zW ?_
   (((refine zC (fun n1=>?_) (fun n1=>?_));rotate_left 1;((refine zW ?_);(exact ret1 rfl rfl Zb ⟨hle2,no (fun h0=>n1 (hn.1 h0).1)⟩));(refine zW ?_)))
   (((refine zC (fun n2=>?_) (fun n2=>?_));rotate_left 1;((refine zW ?_);(exact ret1 rfl rfl Zb ⟨hle2,no (fun h0=>n2 ((len0 ha.len).2 (hn.1 h0).2.1))⟩));(refine zW ?_)))
   (((refine zC (fun n3=>?_) (fun n3=>?_));rotate_left 1;((refine zW ?_);(exact ret1 rfl rfl Zb ⟨hle2,no (fun h0=>n3 ((len0 hk.len).2 (hn.1 h0).2.2.1))⟩));(refine zW ?_)))
   (((refine zC (fun n4=>?_) (fun n4=>?_));rotate_left 1;((refine zW ?_);(exact ret1 rfl rfl Zb ⟨hle2,no (fun h0=>n4 (hn.1 h0).2.2.2.1)⟩));(refine zW ?_)))
   (((refine zC (fun n5=>?_) (fun n5=>?_));rotate_left 1;((refine zW ?_);(exact ret1 rfl rfl Zb ⟨hle2,no (fun h0=>n5 (hn.1 h0).2.2.2.2)⟩));(refine zW ?_)));exact wR (h:=by exact ⟨hle2,Yk9 (hn.2 ⟨n1,(len0 ha.len).1 n2,(len0 hk.len).1 n3,n4,n5⟩) ((len0 hk.len).1 n3) ht⟩)
  refine wC (fun x2=>?_) (fun y2=>?_)
  ·have hn:=Yhs (e:=e) x2;refine zW ?_
   (((refine zC (fun n1=>?_) (fun n1=>?_));rotate_left 1;((refine zW ?_);(exact ret1 rfl rfl Zb ⟨hle2,no (fun h0=>n1 (hn.1 h0).1)⟩));(refine zW ?_)))
   (((refine zC (fun n2=>?_) (fun n2=>?_));rotate_left 1;((refine zW ?_);(exact ret1 rfl rfl Zb ⟨hle2,no (fun h0=>n2 ((len0 hk.len).2 (hn.1 h0).2.1))⟩));(refine zW ?_)));refine zb (WN h.name) (fun f1=>?_) (fun f1=>?_)
   ·refine wG ?_;refine WJ (Yde (ha.mono hle2) (fun x hx=>Yp6 hx)) (fun f2=>?_) (fun f2=>?_)
    ·refine zW ?_
     (exact ret1 rfl rfl Zb ⟨hle2,no (fun h0=>by
      obtain ⟨x,hx,hx2⟩:=Zt f2;exact hx2 ((hn.1 h0).2.2.2 x hx))⟩)
    exact wR (h:=by exact ⟨hle2,Yk9 (hn.2 ⟨n1,(len0 hk.len).1 n2,Zt f1,fun x hx=>Classical.byContradiction fun h0=>Zf f2 ⟨x,hx,h0⟩⟩) ((len0 hk.len).1 n2) ht⟩)
   refine zW ?_;exact ret1 rfl rfl Zb ⟨hle2,no (fun h0=>Zf f1 (hn.1 h0).2.2.1)⟩
  refine zWO ?_;refine WE ?_;refine Yr (YY (fun σ fz' H'=>∃ b:Bool,σ=[(62,Zo b),(3,Zp g0),(2,Zp g),(1,Zk d)]/\fz2=fz'/\H'=[(g,budO (c+1:Nat)),(g0,Zu #[Zy e.op,Zy e.name,Zk e.n,Zc A n ca,Zc B m cb] 112)]/\(b=true↔BinP e.op)) ?_ ?_)
  ·refine wC ?_ ?_<;>intro p1
   ·exact wN (h:=by exact ⟨true,rfl,rfl,rfl,iff_of_true rfl (.inl p1)⟩)
   refine wC ?_ ?_<;>intro p2
   ·exact wN (h:=by exact ⟨true,rfl,rfl,rfl,iff_of_true rfl (.inr (.inl p2))⟩)
   refine wC ?_ ?_<;>intro p3
   ·exact wN (h:=by exact ⟨true,rfl,rfl,rfl,iff_of_true rfl (.inr (.inr p3))⟩)
   refine zW ?_;exact midN ⟨false,rfl,rfl,rfl,iff_of_false (by simp) (fun h0=>h0.elim p1 (fun h0=>h0.elim p2 p3))⟩ Zw Zb
  rintro σ fz' H' ⟨b,rfl,rfl,rfl,hbp⟩;have hn:=Yht (e:=e) y1 y2;cases b
  ·refine zW ?_;exact ret1 rfl rfl Zb ⟨hle2,no (fun h0=>absurd (hbp.2 (hn.1 h0).1) (by simp))⟩
  have lk:=hk.len;refine zW ?_
  (((refine zC (fun n1=>?_) (fun n1=>?_));rotate_left 1;((refine zW ?_);(exact ret1 rfl rfl Zb ⟨hle2,no (fun h0=>n1 (hn.1 h0).2.1)⟩));(refine zW ?_)))
  (((refine zC (fun n2=>?_) (fun n2=>?_));rotate_left 1;((refine zW ?_);(exact ret1 rfl rfl Zb ⟨hle2,no (fun h0=>n2 (hn.1 h0).2.2.1)⟩));(refine zW ?_)))
  (((refine zC (fun n3=>?_) (fun n3=>?_));rotate_left 1;((refine zW ?_);(exact ret1 rfl rfl Zb ⟨hle2,no (fun h0=>n3 ((len0 ha.len).2 (hn.1 h0).2.2.2.1))⟩));(refine zW ?_)))
  (((refine zC (fun n4=>?_) (fun n4=>?_));rotate_left 1;((refine zW ?_);(exact ret1 rfl rfl Zb ⟨hle2,no (fun h0=>n4 (by have:=(hn.1 h0).2.2.2.2;omega))⟩));(refine zW ?_)));have hN:YhK e:=hn.2 ⟨hbp.1 rfl,n1,n2,(len0 ha.len).1 n3,by omega⟩;obtain ⟨a,b,hab⟩:∃ a b,e.kids=[a,b]:=by
   match hK:e.kids,(show e.kids.length=2 by omega) with
   | [a,b],_=>exact ⟨a,b,rfl⟩
  have la:=Lx.Expr.kids_lt (x:=e) (k:=a) (by rw [hab];simp);have lb:=Lx.Expr.kids_lt (x:=e) (k:=b) (by rw [hab];simp);have hcnt:ecount e=1+(ecount a+ecount b):=by rw [YdM,hab];simp [ecountL]
  have hdep:edepth e=1+max (edepth a) (edepth b):=by rw [Ye5,hab];simp [edepthL]
  have hall:EOk e↔EOk a/\EOk b:=by
   refine (YaN (p:=YhK) (e:=e)).trans ?_;rw [hab];simp only [List.mem_cons,List.not_mem_nil,or_false,forall_eq_or_imp,forall_eq];exact ⟨fun h0=>h0.2,fun h0=>⟨hN,h0⟩⟩
  have hk2:=hk.mono hle2
  ((refine zG ?_);refine Ybt T 0 Zz Zz Zz Zz Zz Zz hk2 (by first | rfl | omega) (by rw [hab];rfl:e.kids[0]?=some a) (fun p hp=>?_));refine zL hp ?_;intro cs hcs;obtain ⟨wa,wk,rfl,hRa⟩:=YD hcs;refine zW ?_;refine Yab (Ym [_] [_] Zz (Yjk s (e:=a) (d:=d+1) (c:=c+1) Zi hRa Zi Zi) (fun v4 fz4 H4 hle4 hR4=>?_));obtain ⟨_,b1,c1,rfl,rfl,hc1,hb1⟩:=hR4;cases b1
  ·refine zW ?_;exact ret1 rfl rfl Zb ⟨hle2.trans hle4,Yjw (fun h0=>absurd (hb1.2 ⟨(hall.1 h0.1).1,by omega,by omega⟩) (by simp))⟩
  have hc1:=hc1 rfl;have hb1:=hb1.1 rfl;subst hc1;refine zW ?_
  ((refine zG ?_);refine Ybt T 1 Zz Zz Zz Zz Zz Zz (hk2.mono hle4) (by first | rfl | omega) (by rw [hab];rfl:e.kids[1]?=some b) (fun p2 hp2=>?_));refine zL hp2 ?_;intro cs2 hcs2;obtain ⟨za,zk,rfl,hRb⟩:=YD hcs2;refine zW ?_;refine Yab (Ym [_] [_] Zz (Yjk s (e:=b) (d:=d+1) (c:=c+1+ecount a) Zi hRb Zi Zi) (fun v5 fz5 H5 hle5 hR5=>?_));obtain ⟨_,b2,c2,rfl,rfl,hc2,hb2⟩:=hR5;cases b2
  ·refine zW ?_;exact ret1 rfl rfl Zb ⟨hle2.trans (hle4.trans hle5),Yjw (fun h0=>absurd (hb2.2 ⟨(hall.1 h0.1).2,by omega,by omega⟩) (by simp))⟩
  have hc2:=hc2 rfl;have hb2:=hb2.1 rfl;subst hc2;refine zW ?_;exact ret1 rfl rfl Zb ⟨hle2.trans (hle4.trans hle5),true,_,rfl,rfl,fun _=>by omega,iff_of_true rfl ⟨hall.2 ⟨hb1.1,hb2.1⟩,by omega,by omega⟩⟩
theorem Yno {e:Lx.Expr} {d:Nat} (h:ExprR fz e va vk) (hd:d<=33) (hc:c<=4096):
 GFn prog 269 [.agg #[Zy e.op,Zy e.name,Zk e.n,va,vk],Zk d,Zp g] fz [(g,budO c)] (fun v fz' H'=>Le fz fz'/\EBud g e d c v H'):=Yjk _ (Zs _) h hd hc
def kOr:Bs:=⟨#[111,114]⟩
def kNot:Bs:=⟨#[110,111,116]⟩
def YpS:Bs:=⟨#[105,109,112,108,121]⟩
def Yes (f:Formula):Option (Nat × Bool × Nat):=
 if f.op=kAtom\/f.op=kSame then some (0,false,0) else if CmpOp f.op then some (2,false,0) else if f.op=kAnd\/f.op=kOr then some (0,false,f.kids.length) else if f.op=kNot then some (0,false,1)
 else if f.op=YpS then some (0,false,2) else if f.op=kForall\/f.op=YaA then some (0,true,1) else none
def fhead (f:Formula):Prop:=(f.op=kAtom->Xc f.name)/\(f.op=kSame->f.name=Ya5/\f.args.length=2)/\(f.op=kAtom\/f.op=kSame->∀ s∈f.args,YfW s)
def frest (f:Formula) (k:Nat × Bool × Nat):Prop:=(f.op≠kAtom->f.op≠kSame->f.name=Ya5/\f.args=[])/\f.exprs.length=k.1/\f.kids.length=k.2.2/\(k.2.1=false->f.params=[])
def Yq0 (f:Formula):Prop:=fhead f/\(∃ k,Yes f=some k/\frest f k)/\∀ p∈f.params,VarP p.name/\Yei p.typ
abbrev FOk (f:Formula):Prop:=FAll Yq0 YhK f
def FBud (g:Nat) (f:Formula) (d c:Nat) (v:Value) (H':HP):Prop:=
 ∃ (b:Bool) (c':Int),v=Zo b/\H'=[(g,budO c')]/\(b=true->c'=((c+fcount f:Nat):Int))/\(b=true↔FOk f/\d+fdepth f<=33/\c+fcount f<=4096)
theorem Yjr {d:Nat} {c':Int} (h:¬(FOk f/\d+fdepth f<=33/\c+fcount f<=4096)):FBud g f d c (Zo false) [(g,budO c')]:=⟨false,c',rfl,rfl,(by simp),iff_of_false (by simp) h⟩
theorem Ya7 {α:Type} {l:List α} {n:Nat} (h:l.length=n):(0:Int)<(n:Int)↔l≠ []:=by
 constructor
 ·intro h0 h1;subst h1;simp at h;omega
 intro h0;have:=List.length_pos_iff.2 h0;omega
theorem YmP:∀ (s:Nat) {fz:FZ} {f:Formula} {va vp ve vk:Value} {g d c:Nat},SizeOf.sizeOf f<=s->FormulaR fz f va vp ve vk->d<=33->c<=4096->
 GFn prog 213 [.agg #[Zy f.op,Zy f.name,va,vp,ve,vk],Zk d,Zp g] fz [(g,budO c)] (fun v fz' H'=>Le fz fz'/\FBud g f d c v H')
 | 0,_,e,_,_,_,_,_,_,_,hs,_,_,_=>by cases e;simp at hs
 | s+1,fz,f,va,vp,ve,vk,g,d,c,hs,h,hd,hc=>by
  obtain ⟨⟨A,n,ca,rfl,ha⟩,⟨B,m,cb,rfl,hp⟩,⟨C,r,cr,rfl,he⟩,⟨D,q,cq,rfl,hk⟩⟩:=h.sls;have no:∀ {c':Int},¬Yq0 f->FBud g f d c (Zo false) [(g,budO c')]:=fun h0=>Yjr (fun h1=>h0 (WV.1 h1.1).1)
  refine zF Tryz.func213 Tryz.ntmps213 (fun w0=>?_);refine pX (fun g0=>?_)
  first | refine Wp.perm (List.Perm.swap _ _ _) ?_ | refine Seq.perm (List.Perm.swap _ _ _) ?_
  refine zW ?_;refine Ya (Ym [_] [_] Zz (take_q (c:=c) Zi) (fun v fz2 H2 hle2 hR=>?_));obtain ⟨hle3,rfl,b,rfl,hb⟩:=hR;cases b
  ·refine zW ?_
   (exact ret1 rfl rfl Zb ⟨hle2,Yjr (fun h0=>by
    have h1:=Ye4 f;have h2:=Yhl f;exact absurd (hb.2 ⟨by omega,by omega⟩) (by simp))⟩)
  have ht:=hb.1 rfl;refine zWO ?_;refine WE ?_;refine Ycj ?_;refine Yds ?_;refine Yr (W3 ?_);refine zWO ?_;refine Yr (YY (fun σ fz' H'=>∃ (ex:Nat) (pa:Bool) (mn:Nat),σ=[(9,Zk mn),(8,Zo pa),(7,Zk ex),(3,Zp g0),(2,Zp g),(1,Zk d)]/\fz2=fz'/\
   H'=[(g,budO (c+1:Nat)),(g0,Zu #[Zy f.op,Zy f.name,Zc A n ca,Zc B m cb,Zc C r cr,Zc D q cq] 35)]/\fhead f/\Yes f=some (ex,pa,mn)) ?_ ?_)
  ·refine wC (fun x1=>?_) (fun y1=>?_)
   ·have y2:¬f.op=⟨#[115,97,109,101]⟩:=fun h0=>absurd (congrArg (fun s=>Yb8 s 0) (x1.symm.trans h0)) Zh
    refine wb (WN h.name) (fun f1=>?_) (fun f1=>?_)
    ·refine wG ?_;refine WJ (Yde (ha.mono hle2) (fun x hx=>Yka hx)) (fun f2=>?_) (fun f2=>?_)
     ·refine zW ?_
      (exact ret1 rfl rfl Zb ⟨hle2,no (fun h0=>by
       obtain ⟨x,hx,hx2⟩:=Zt f2;exact hx2 (h0.1.2.2 (.inl x1) x hx))⟩)
     exact wN (h:=by exact ⟨0,false,0,rfl,rfl,rfl,⟨fun _=>Zt f1,fun h0=>absurd h0 y2,fun _ x hx=>Classical.byContradiction fun h0=>Zf f2 ⟨x,hx,h0⟩⟩,if_pos (.inl x1)⟩)
    refine zW ?_;exact ret1 rfl rfl Zb ⟨hle2,no (fun h0=>Zf f1 (h0.1.1 x1))⟩
   refine wC (fun x2=>?_) (fun y2=>?_)
   ·refine zW ?_;refine zC ?_ ?_<;>intro n1
    ·refine zW ?_;exact ret1 rfl rfl Zb ⟨hle2,no (fun h0=>n1 (h0.1.2.1 x2).1)⟩
    refine zW ?_;refine zC ?_ ?_<;>intro n2
    ·refine zW ?_;exact ret1 rfl rfl Zb ⟨hle2,no (fun h0=>n2 (by have:=(h0.1.2.1 x2).2;have:=ha.len;omega))⟩
    refine wG ?_;refine WJ (Yde (ha.mono hle2) (fun x hx=>Yka hx)) (fun f2=>?_) (fun f2=>?_)
    ·refine zW ?_
     (exact ret1 rfl rfl Zb ⟨hle2,no (fun h0=>by
      obtain ⟨x,hx,hx2⟩:=Zt f2;exact hx2 (h0.1.2.2 (.inr x2) x hx))⟩)
    exact wN (h:=by exact ⟨0,false,0,rfl,rfl,rfl,⟨fun h0=>absurd h0 y1,fun _=>⟨n1,by have:=ha.len;omega⟩,fun _ x hx=>Classical.byContradiction fun h0=>Zf f2 ⟨x,hx,h0⟩⟩,if_pos (.inr x2)⟩)
   have hh:fhead f:=⟨fun h0=>absurd h0 y1,fun h0=>absurd h0 y2,fun h0=>(h0.elim y1 y2).elim⟩;have k0:¬(f.op=kAtom\/f.op=kSame):=fun h0=>h0.elim y1 y2
   refine wC (fun x3=>?_) (fun y3=>?_)
   ·exact wN (h:=by exact ⟨2,false,0,rfl,rfl,rfl,hh,(if_neg k0).trans (if_pos (.inl x3))⟩)
   refine wC (fun x4=>?_) (fun y4=>?_)
   ·exact wN (h:=by exact ⟨2,false,0,rfl,rfl,rfl,hh,(if_neg k0).trans (if_pos (.inr (.inl x4)))⟩)
   refine wC (fun x5=>?_) (fun y5=>?_)
   ·exact wN (h:=by exact ⟨2,false,0,rfl,rfl,rfl,hh,(if_neg k0).trans (if_pos (.inr (.inr x5)))⟩)
   have k1:¬CmpOp f.op:=fun h0=>h0.elim y3 (fun h0=>h0.elim y4 y5)
   refine wC (fun x6=>?_) (fun y6=>?_)
   ·exact wN (h:=by exact ⟨0,false,q,rfl,rfl,rfl,hh,(if_neg k0).trans ((if_neg k1).trans ((if_pos (.inl x6)).trans (by rw [hk.len])))⟩)
   refine wC (fun x7=>?_) (fun y7=>?_)
   ·exact wN (h:=by exact ⟨0,false,q,rfl,rfl,rfl,hh,(if_neg k0).trans ((if_neg k1).trans ((if_pos (.inr x7)).trans (by rw [hk.len])))⟩)
   have k2:¬(f.op=kAnd\/f.op=kOr):=fun h0=>h0.elim y6 y7
   refine wC (fun x8=>?_) (fun y8=>?_)
   ·exact wN (h:=by exact ⟨0,false,1,rfl,rfl,rfl,hh,(if_neg k0).trans ((if_neg k1).trans ((if_neg k2).trans (if_pos x8)))⟩)
   refine wC (fun x9=>?_) (fun y9=>?_)
   ·exact wN (h:=by exact ⟨0,false,2,rfl,rfl,rfl,hh,(if_neg k0).trans ((if_neg k1).trans ((if_neg k2).trans ((if_neg y8).trans (if_pos x9))))⟩)
   refine wC ?_ ?_<;>intro z1
   ·refine zW ?_;exact wN (h:=by exact ⟨0,true,1,rfl,rfl,rfl,hh,(if_neg k0).trans ((if_neg k1).trans ((if_neg k2).trans ((if_neg y8).trans ((if_neg y9).trans (if_pos (.inl z1))))))⟩)
   refine zW ?_;refine zC ?_ ?_<;>intro z2
   ·refine zW ?_;exact midN ⟨0,true,1,rfl,rfl,rfl,hh,(if_neg k0).trans ((if_neg k1).trans ((if_neg k2).trans ((if_neg y8).trans ((if_neg y9).trans (if_pos (.inr z2))))))⟩ Zw Zb
   have k3:Yes f=none:=(if_neg k0).trans ((if_neg k1).trans ((if_neg k2).trans ((if_neg y8).trans ((if_neg y9).trans (if_neg (fun h0=>h0.elim z1 z2))))));refine zW ?_;exact ret1 rfl rfl Zb ⟨hle2,no (fun h0=>by obtain ⟨_,⟨k,h1,_⟩,_⟩:=h0;rw [k3] at h1;cases h1)⟩
  rintro σ fz' H' ⟨ex,pa,mn,rfl,rfl,rfl,hh,hkind⟩;have no2:Yq0 f->¬¬frest f (ex,pa,mn):=fun h0 h1=>by
   obtain ⟨_,⟨k,h2,h3⟩,_⟩:=h0;rw [hkind] at h2;cases h2;exact h1 h3
  refine Yr (YY (fun σ fz' H'=>σ=[(3,Zp g0),(2,Zp g),(1,Zk d)]/\fz2=fz'/\
   H'=[(g,budO (c+1:Nat)),(g0,Zu #[Zy f.op,Zy f.name,Zc A n ca,Zc B m cb,Zc C r cr,Zc D q cq] 35)]/\frest f (ex,pa,mn)) ?_ ?_)
  ·refine zW ?_;refine zC ?_ ?_<;>intro x1
   ·refine zW ?_;refine zC ?_ ?_<;>intro x2
    ·refine zW ?_;refine zC ?_ ?_<;>intro x3
     ·refine zW ?_;exact ret1 rfl rfl Zb ⟨hle2,no (fun h0=>no2 h0 (fun h1=>x3 (h1.1 x1 x2).1))⟩
     refine zW ?_;refine zC ?_ ?_<;>intro x4
     ·refine zW ?_;exact ret1 rfl rfl Zb ⟨hle2,no (fun h0=>no2 h0 (fun h1=>(Ya7 ha.len).1 x4 (h1.1 x1 x2).2))⟩
     refine zW ?_;refine zC ?_ ?_<;>intro w1
     ·refine zW ?_;exact ret1 rfl rfl Zb ⟨hle2,no (fun h0=>no2 h0 (fun h1=>w1 (by have:=h1.2.1;have:=he.len;simp only at*;omega)))⟩
     refine zW ?_;refine zC ?_ ?_<;>intro w2
     ·refine zW ?_;exact ret1 rfl rfl Zb ⟨hle2,no (fun h0=>no2 h0 (fun h1=>w2 (by have:=h1.2.2.1;have:=hk.len;simp only at*;omega)))⟩
     refine zW ?_;refine zC ?_ ?_<;>intro w3
     ·cases pa
      ·refine zW ?_;exact ret1 rfl rfl Zb ⟨hle2,no (fun h0=>no2 h0 (fun h1=>(Ya7 hp.len).1 w3 (h1.2.2.2 rfl)))⟩
      refine zW ?_;exact midN ⟨rfl,rfl,rfl,fun _ _=>⟨x3,Classical.byContradiction fun h1=>x4 ((Ya7 ha.len).2 h1)⟩,by have:=he.len;simp only;omega,by have:=hk.len;simp only;omega,fun h0=>by cases h0⟩ Zw Zb
     refine zW ?_;exact midN ⟨rfl,rfl,rfl,fun _ _=>⟨x3,Classical.byContradiction fun h1=>x4 ((Ya7 ha.len).2 h1)⟩,by have:=he.len;simp only;omega,by have:=hk.len;simp only;omega,fun _=>Classical.byContradiction fun h1=>w3 ((Ya7 hp.len).2 h1)⟩ Zw Zb
    refine zW ?_;refine zC ?_ ?_<;>intro w1
    ·refine zW ?_;exact ret1 rfl rfl Zb ⟨hle2,no (fun h0=>no2 h0 (fun h1=>w1 (by have:=h1.2.1;have:=he.len;simp only at*;omega)))⟩
    refine zW ?_;refine zC ?_ ?_<;>intro w2
    ·refine zW ?_;exact ret1 rfl rfl Zb ⟨hle2,no (fun h0=>no2 h0 (fun h1=>w2 (by have:=h1.2.2.1;have:=hk.len;simp only at*;omega)))⟩
    refine zW ?_;refine zC ?_ ?_<;>intro w3
    ·cases pa
     ·refine zW ?_;exact ret1 rfl rfl Zb ⟨hle2,no (fun h0=>no2 h0 (fun h1=>(Ya7 hp.len).1 w3 (h1.2.2.2 rfl)))⟩
     refine zW ?_;exact wN (h:=by exact ⟨rfl,rfl,rfl,fun _ h0=>absurd x2 h0,by have:=he.len;simp only;omega,by have:=hk.len;simp only;omega,fun h0=>by cases h0⟩)
    refine zW ?_;exact midN ⟨rfl,rfl,rfl,fun _ h0=>absurd x2 h0,by have:=he.len;simp only;omega,by have:=hk.len;simp only;omega,fun _=>Classical.byContradiction fun h1=>w3 ((Ya7 hp.len).2 h1)⟩ Zw Zb
   refine zW ?_;refine zC ?_ ?_<;>intro w1
   ·refine zW ?_;exact ret1 rfl rfl Zb ⟨hle2,no (fun h0=>no2 h0 (fun h1=>w1 (by have:=h1.2.1;have:=he.len;simp only at*;omega)))⟩
   refine zW ?_;refine zC ?_ ?_<;>intro w2
   ·refine zW ?_;exact ret1 rfl rfl Zb ⟨hle2,no (fun h0=>no2 h0 (fun h1=>w2 (by have:=h1.2.2.1;have:=hk.len;simp only at*;omega)))⟩
   refine zW ?_;refine zC ?_ ?_<;>intro w3
   ·cases pa
    ·refine zW ?_;exact ret1 rfl rfl Zb ⟨hle2,no (fun h0=>no2 h0 (fun h1=>(Ya7 hp.len).1 w3 (h1.2.2.2 rfl)))⟩
    exact wN (h:=by exact ⟨rfl,rfl,rfl,fun h0=>absurd x1 h0,by have:=he.len;simp only;omega,by have:=hk.len;simp only;omega,fun h0=>by cases h0⟩)
   exact wN (h:=by exact ⟨rfl,rfl,rfl,fun h0=>absurd x1 h0,by have:=he.len;simp only;omega,by have:=hk.len;simp only;omega,fun _=>Classical.byContradiction fun h1=>w3 ((Ya7 hp.len).2 h1)⟩)
  rintro σ fz' H' ⟨rfl,rfl,rfl,hrest⟩;have hE:=Ye4 f;have hD:=Yhl f;have hp2:=hp.mono hle2;refine zW ?_;refine Yi (fun mm σ fz' H'=>∃ k:Nat,k<=m/\mm=m - k/\σ=[(118,Zk k),(117,Zk m),(116,Zc B m cb),(3,Zp g0),(2,Zp g),(1,Zk d)]/\fz2=fz'/\H'=[(g,budO (c+1:Nat)),(g0,Zu #[Zy f.op,Zy f.name,Zc A n ca,Zc B m cb,Zc C r cr,Zc D q cq] 35)]/\(∀ i,i<k->∀ x,f.params[i]?=some x->VarP x.name/\Yei x.typ)) ⟨0,Z0 _,rfl,rfl,rfl,rfl,fun i hi=>absurd hi Zi⟩ Zw Zb ?_;rintro _ σ fz' H' ⟨k,hkm,rfl,rfl,rfl,rfl,hh1⟩;have lp:=hp.len;have sp:=hp.short;refine zW ?_;refine zC ?_ ?_<;>intro c1
  ·obtain ⟨x,hx⟩:=Ye (l:=f.params) (k:=k) Zi;have bad:¬(VarP x.name/\Yei x.typ)->¬Yq0 f:=fun h1 h0=>h1 (h0.2.2 x (Zm hx))
   refine zW ?_;refine zI hp2 hx (fun p1 hp1=>?_);refine zL hp1 ?_;intro cs hcs;obtain ⟨rfl,hRx⟩:=YJ hcs;refine zW ?_;intros;refine zb (Ycu hRx.name) (fun f1=>?_) (fun f1=>?_)
   ·refine wb (YoG hRx.typ) (fun f2=>?_) (fun f2=>?_)
    ·refine zW ?_;exact Wj ⟨k+1,by omega,rfl,rfl,rfl,rfl,YL hh1 hx ⟨Zt f1,Zt f2⟩⟩ Zi Zw Zb
    refine zW ?_;exact ret1 rfl rfl Zb ⟨hle2,no (bad (fun h1=>Zf f2 h1.2))⟩
   refine zW ?_;exact ret1 rfl rfl Zb ⟨hle2,no (bad (fun h1=>Zf f1 h1.1))⟩
  have hN:Yq0 f:=⟨hh,⟨_,hkind,hrest⟩,Xu hh1 Zi⟩;have le:=he.len;have se:=he.short;refine zW ?_;refine Yi (fun mm σ fz' H'=>∃ k:Nat,k<=r/\mm=r - k/\σ=[(136,Zk k),(135,Zk r),(134,Zc C r cr),(3,Zp g0),(2,Zp g),(1,Zk d)]/\Le fz2 fz'/\H'=[(g,budO (c+1+ecountL (f.exprs.take k):Nat)),(g0,Zu #[Zy f.op,Zy f.name,Zc A n ca,Zc B m cb,Zc C r cr,Zc D q cq] 35)]/\(∀ i,i<k->∀ x,f.exprs[i]?=some x->EOk x/\d+1+edepth x<=33)/\c+1+ecountL (f.exprs.take k)<=4096) ⟨0,Z0 _,rfl,rfl,Zd,rfl,(fun i hi=>absurd hi Zi),by simp [ecountL];omega⟩ Zw Zb ?_;rintro _ σ fz' H' ⟨k,hkr,rfl,rfl,hle4,rfl,hh2,hcc⟩;have he2:=he.mono (hle2.trans hle4);refine wC ?_ ?_<;>intro c2
  ·obtain ⟨x,hx⟩:=Ye (l:=f.exprs) (k:=k) Zi;have hxm:=Zm hx;have hst:=YdO hx;have htk:=YdN (l:=f.exprs) (k:=k+1);refine wI he2 hx (fun p1 hp1=>?_);refine zL hp1 ?_;intro cs hcs;obtain ⟨wa,wk,rfl,hRx⟩:=YD hcs;obtain ⟨⟨A1,n1,b1,rfl,_⟩,⟨A2,n2,b2,rfl,_⟩⟩:=hRx.sls;refine zW ?_;intros
   first | refine Wp.perm (List.Perm.swap _ _ _) ?_ | refine Seq.perm (List.Perm.swap _ _ _) ?_
   refine Ya (Ym [_] [_,_] Zz (Yno (e:=x) (d:=d+1) (c:=c+1+ecountL (f.exprs.take k)) hRx Zi hcc) (fun v5 fz5 H5 hle5 hR5=>?_));obtain ⟨_,b5,c5,rfl,rfl,hc5,hb5⟩:=hR5;cases b5
   ·refine zW ?_;exact ret1 rfl rfl Zb ⟨hle2.trans (hle4.trans hle5),Yjr (fun h0=>absurd (hb5.2 ⟨(WV.1 h0.1).2.1 x hxm,by have:=(Yis (l:=f.exprs)).1 (Zs _) x hxm;omega,by omega⟩) (by simp))⟩
   have hc5:=hc5 rfl;have hb5:=hb5.1 rfl;subst hc5;exact wP (h:=by exact ⟨k+1,by omega,rfl,rfl,hle4.trans hle5,by rw [hst,<- Nat.add_assoc],YL hh2 hx ⟨hb5.1,hb5.2.1⟩,by omega⟩)
  rw [show f.exprs.take k=f.exprs from Zl Zi] at hcc ⊢;have hEX:=Xu hh2 Zi;have lk:=hk.len;have sk:=hk.short;refine zW ?_;refine Yi (H0:=[(g,budO (c+1+ecountL f.exprs:Nat)),(g0,Zu #[Zy f.op,Zy f.name,Zc A n ca,Zc B m cb,Zc C r cr,Zc D q cq] 35)]) (fun mm σ fz7 H'=>∃ j:Nat,j<=q/\mm=q - j/\σ=[(150,Zk j),(149,Zk q),(148,Zc D q cq),(2,Zp g),(1,Zk d)]/\Le fz' fz7/\H'=[(g,budO (c+1+ecountL f.exprs+fcountL (f.kids.take j):Nat)),(g0,Zu #[Zy f.op,Zy f.name,Zc A n ca,Zc B m cb,Zc C r cr,Zc D q cq] 35)]/\(∀ i,i<j->∀ x,f.kids[i]?=some x->FOk x/\d+1+fdepth x<=33)/\c+1+ecountL f.exprs+fcountL (f.kids.take j)<=4096) ⟨0,Z0 _,rfl,rfl,Zd,by simp [fcountL],(fun i hi=>absurd hi Zi),by simp [fcountL];omega⟩ Zw Zb ?_;rintro _ σ fz7 H' ⟨j,hjq,rfl,rfl,hle7,rfl,hh3,hcc3⟩;have hk2:=hk.mono (hle2.trans (hle4.trans hle7));refine wC ?_ ?_<;>intro c3
  ·obtain ⟨x,hx⟩:=Ye (l:=f.kids) (k:=j) Zi;have hxm:=Zm hx;have hlt:=Formula.kids_lt hxm;have hst:=Yf5 hx;have htk:=Yf4 (l:=f.kids) (k:=j+1);refine wI hk2 hx (fun p1 hp1=>?_);refine zL hp1 ?_;intro cs hcs;obtain ⟨wa,wp,we,wk,rfl,hRx⟩:=Yv hcs;obtain ⟨⟨A1,n1,b1,rfl,_⟩,⟨A2,n2,b2,rfl,_⟩,⟨A3,n3,b3,rfl,_⟩,⟨A4,n4,b4,rfl,_⟩⟩:=hRx.sls;refine zW ?_;intros
   first | refine Wp.perm (List.Perm.swap _ _ _) ?_ | refine Seq.perm (List.Perm.swap _ _ _) ?_
   refine Ya (Ym [_] [_,_] Zz (YmP s (f:=x) (d:=d+1) (c:=c+1+ecountL f.exprs+fcountL (f.kids.take j)) Zi hRx Zi hcc3) (fun v5 fz5 H5 hle5 hR5=>?_));obtain ⟨_,b5,c5,rfl,rfl,hc5,hb5⟩:=hR5;cases b5
   ·refine zW ?_;exact ret1 rfl rfl Zb ⟨hle2.trans (hle4.trans (hle7.trans hle5)),Yjr (fun h0=>absurd (hb5.2 ⟨(WV.1 h0.1).2.2 x hxm,by have:=(Yir (l:=f.kids)).1 (Zs _) x hxm;omega,by omega⟩) (by simp))⟩
   have hc5:=hc5 rfl;have hb5:=hb5.1 rfl;subst hc5;exact wP (h:=by exact ⟨j+1,by omega,rfl,rfl,hle7.trans hle5,by rw [hst,<- Nat.add_assoc],YL hh3 hx ⟨hb5.1,hb5.2.1⟩,by omega⟩)
  rw [Zl Zi] at hcc3 ⊢;have hKX:=Xu hh3 Zi;refine zW ?_
  (exact ret1 rfl rfl Zb ⟨hle2.trans (hle4.trans hle7),true,_,rfl,rfl,fun _=>by rw [hE];simp only [Nat.add_assoc],iff_of_true rfl ⟨WV.2 ⟨hN,fun x hx=>(hEX x hx).1,fun x hx=>(hKX x hx).1⟩,by
   have e1:edepthL f.exprs<=32 - d:=Yis.2 (fun x hx=>by have:=(hEX x hx).2;omega);have e2:fdepthL f.kids<=32 - d:=Yir.2 (fun x hx=>by have:=(hKX x hx).2;omega);omega,by omega⟩⟩)
theorem shaped_q {d:Nat} (h:FormulaR fz f va vp ve vk) (hd:d<=33) (hc:c<=4096):
 GFn prog 213 [.agg #[Zy f.op,Zy f.name,va,vp,ve,vk],Zk d,Zp g] fz [(g,budO c)] (fun v fz' H'=>Le fz fz'/\FBud g f d c v H'):=YmP _ (Zs _) h hd hc
theorem XT {b:UInt8}:∀ {l:List UInt8},0<=Lib.indexByte l b↔b∈l
 | []=>by simp [Lib.indexByte]
 | x::r=>by
  have ih:=XT (b:=b) (l:=r);simp only [Lib.indexByte,List.mem_cons];split
  ·rename_i h;have:x=b:=by simpa using h
   simp [this]
  rename_i h;have hx:¬b=x:=by
   intro h0;subst h0;simp at h
  simp only [hx,false_or];split
  ·rename_i h1;rw [<- ih,eq_of_beq h1]
  rename_i h1;have h2:Lib.indexByte r b≠ -1:=by simpa using h1
  have:=Lib.indexByte_ge r b;rw [<- ih];omega
theorem sibs_q {n:Int}:QFn prog 293 [Zy s,.int .u8 n] fz (Zk (Lib.indexByte s.data.toList n.toNat.toUInt8)):=by
 refine qF Tryz.func293 Tryz.ntmps293 (fun w0=>?_);refine zW ?_;refine Seq.q rfl (DoesQ.of (v:=Zk (Lib.indexByte s.data.toList n.toNat.toUInt8)) ?_ fun ρ w hr hi=>?_)
 ·exact wR (h:=rfl)
 have h5:ρ (.tmp 5)=Zy s:=hr _ _ rfl;have h6:ρ (.tmp 6)=.int .u8 n:=hr _ _ rfl;have h7:ρ (.func 320)=.func (.func 320) #[] #[]:=hr _ _ rfl;have hrun:=run_callFunc_indexByte (P:=prog) Tryz.func320 Zj rfl (by rfl) (by rfl) #[Zy s,.int .u8 n] w;rw [Lib.run_indexByteString] at hrun;simp only [execOp,resolve,Deferred.ofValue,invoke,List.map_toArray,List.map_cons,List.map_nil,h5,h6,h7,Sem.run_bind,Sem.run_pure,Result.andThen_ok] at hrun ⊢;simp only [Array.empty_append,Array.append_empty];rw [hrun];exact ⟨rfl,Fr.refl _ _⟩
theorem ibs_q {n:Int}:QFn prog 264 [Zy s,.int .u8 n] fz (Zk (Lib.indexByte s.data.toList n.toNat.toUInt8)):=by
 refine qF Tryz.func264 Tryz.ntmps264 (fun w0=>?_);refine wc sibs_q ?_;exact wR (h:=rfl)
def UpC (n:Int):Prop:=65<=n/\n<=90
def SymL:List UInt8:=[45,95,63,58,60,62,61,43,42]
def LowC (b:UInt8):Prop:=LetP b.toNat\/DigP b.toNat\/b∈SymL
def AnyC (b:UInt8):Prop:=UpC b.toNat\/LowC b
def lowB (b:UInt8):UInt8:=if UpC b.toNat then b+32 else b
def lowS (s:Bs):Bs:=⟨(s.data.toList.map lowB).toArray⟩
def LowP (s:Bs):Prop:=s≠Ya5/\s.size<=32/\∀ b∈s.data.toList,AnyC b
theorem Ylw {n:Int} (h:0<=n/\n<=255:=by omega):IntKind.u8.wrap n=n:=by
 simp only [IntKind.wrap,IntKind.signed,IntKind.bits];simp;omega
theorem byteV_up {b:UInt8} (h:UpC b.toNat):Value.int .u8 ((b.toNat:Int)+97 - 65)=Ydf (lowB b):=by
 unfold UpC at h;have h2:(b+32).toNat=b.toNat+32:=by rw [UInt8.toNat_add];simp;omega
 unfold Ydf lowB UpC;rw [if_pos h,h2]
 congr 1
 omega
theorem YbG:s.data.toList.length=s.size:=by rw [Array.length_toList];rfl
theorem Yjg (h:k<s.size):s.data.toList[k]?=some s[k]:=by
 rw [List.getElem?_eq_getElem (by rw [YbG];exact h)];rfl
theorem set_mid {f:α->α} {x:α} (h:l[k]?=some x):((l.take k).map f++l.drop k).set k (f x)=(l.take (k+1)).map f++l.drop (k+1):=by
 have hk:k<l.length:=(Zg h).1;have hl:((l.take k).map f).length=k:=by simp;omega
 rw [List.set_append_right _ _ Zi,hl,Nat.sub_self,List.take_add_one,h];have:l.drop k=x::l.drop (k+1):=by
  rw [List.drop_eq_getElem_cons hk];rw [List.getElem?_eq_getElem hk] at h;cases h;rfl
 rw [this];simp
theorem Yc5 {f:α->α} {x:α} (h:l[k]?=some x) (hf:f x=x):(l.take k).map f++l.drop k=(l.take (k+1)).map f++l.drop (k+1):=by
 rw [<- set_mid h,hf];have hk:k<l.length:=(Zg h).1;apply List.ext_getElem?;intro i;rw [List.getElem?_set];split
 ·rename_i he;subst he;have hl:((l.take k).map f).length=k:=by simp;omega
  rw [if_pos (by simp;omega),List.getElem?_append_right Zi,hl,Nat.sub_self,List.getElem?_drop,Nat.add_zero,h]
 rfl
theorem get_mid {f:α->α} {x:α} (h:l[k]?=some x):((l.take k).map f++l.drop k)[k]?=some x:=by
 have hk:k<l.length:=(Zg h).1;have hl:((l.take k).map f).length=k:=by simp;omega
 rw [List.getElem?_append_right Zi,hl,Nat.sub_self,List.getElem?_drop,Nat.add_zero,h]
theorem Yci {p:α->Prop} {x:α} (h:∀ b∈l.take k,p b) (hx:l[k]?=some x) (hp:p x):∀ b∈l.take (k+1),p b:=by
 rw [List.take_add_one,hx];intro b hb;rcases List.mem_append.1 hb with hb | hb
 ·exact h b hb
 simp at hb;subst hb;exact hp
theorem Yc1 {b:UInt8} (h:¬UpC b.toNat):lowB b=b:=if_neg h
theorem Yez {b:UInt8}:((b.toNat:Int).toNat).toUInt8=b:=by simp [Nat.toUInt8]
theorem YlY:QFn prog 211 [Zy s] fz (.tuple #[Zy (if LowP s then lowS s else Ya5),Zo (decide (LowP s))]):=by
 refine GFn.quiet ?_;have no:¬LowP s->Value.tuple #[Zy Ya5,Zo false]=.tuple #[Zy (if LowP s then lowS s else Ya5),Zo (decide (LowP s))]:=fun h=>by rw [if_neg h,decide_eq_false h]
 refine zF Tryz.func211 Tryz.ntmps211 (fun w0=>?_);refine wC ?_ ?_<;>intro c1
 ·exact wS (h:=by exact no (fun h=>h.1 c1))
 refine wC ?_ ?_<;>intro c2
 ·exact wS (h:=by exact no (fun h=>by have:=h.2.1;omega))
 refine zW ?_;refine Ya (k_bytes (fun g k0=>?_));have hz:s.size<=32:=by omega
 refine zW ?_;refine Yi (fun q σ fz' H'=>∃ k:Nat,k<=s.size/\q=s.size - k/\σ=[(18,Zk k),(17,Zk s.size),(16,Zv g s.size (s.size+k0)),(4,Zv g s.size (s.size+k0))]/\fz=fz'/\
  H'=[(g,YcH 5 ((s.data.toList.take k).map lowB++s.data.toList.drop k) k0)]/\(∀ b∈s.data.toList.take k,AnyC b)) ⟨0,Z0 _,rfl,rfl,rfl,rfl,by simp⟩ Zw Zb ?_
 rintro q σ fz' H' ⟨k,hk,rfl,rfl,rfl,rfl,hh⟩;have hlen:((s.data.toList.take k).map lowB++s.data.toList.drop k).length=s.size:=by
  have:=YbG (s:=s);simp only [List.length_append,List.length_map,List.length_take,List.length_drop];omega
 refine wC ?_ ?_<;>intro c3
 ·obtain ⟨b,hb⟩:∃ b,s.data.toList[k]?=some b:=⟨_,Yjg Zi⟩;have hlt:=b.toNat_lt;have bad:¬AnyC b->¬LowP s:=fun h0 h1=>h0 (h1.2.2 b (Zm hb))
  refine wG ?_;refine XK T Zz Zz Zz Zz Zz Zz Zi Zi ?_;refine zG ?_;refine YlK 0 (get_mid hb) ?_;refine wC ?_ ?_<;>intro d1
  ·refine wC ?_ ?_<;>intro d2
   ·refine wG ?_;refine W4 Zz Zz (Ylw) ?_;refine zG ?_;refine YlH Zz Zz (Ylw) ?_;refine zG ?_;refine XK T Zz Zz Zz Zz Zz Zz Zi Zi ?_;refine Yz (YkM (pre:=[]) (congrArg some (byteV_up ⟨d1,d2⟩)) rfl ?_ (hj:=by rw [hlen];exact (by omega:k<s.size)));exact wP (h:=by exact ⟨k+1,by omega,rfl,rfl,rfl,by rw [<- set_mid hb],Yci hh hb (.inl ⟨d1,d2⟩)⟩)
   have nu:¬UpC b.toNat:=fun h0=>d2 h0.2
   refine wC ?_ ?_<;>intro d3
   ·refine wC ?_ ?_<;>intro d4
    ·exact wP (h:=by exact ⟨k+1,by omega,rfl,rfl,rfl,by rw [<- Yc5 hb (Yc1 nu)],Yci hh hb (.inr (.inl ⟨d3,d4⟩))⟩)
    have nl:¬LetP b.toNat:=fun h0=>d4 h0.2
    refine wb (Yjx (n:=b.toNat)) (fun f1=>?_) (fun f1=>?_)
    ·exact wP (h:=by exact ⟨k+1,by omega,rfl,rfl,rfl,by rw [<- Yc5 hb (Yc1 nu)],Yci hh hb (.inr (.inr (.inl (Zt f1))))⟩)
    refine wc (ibs_q (n:=b.toNat)) ?_;refine zC ?_ ?_<;>intro e1
    ·exact wP (h:=by exact ⟨k+1,by omega,rfl,rfl,rfl,by rw [<- Yc5 hb (Yc1 nu)],Yci hh hb (.inr (.inr (.inr (by rw [XT,Yez] at e1;exact e1))))⟩)
    refine zW ?_;exact ret2 rfl rfl rfl Zb (no (bad (fun h0=>by
     rcases h0 with h0 | h0 | h0 | h0
     ·exact nu h0
     ·exact nl h0
     ·exact Zf f1 h0
     exact e1 (XT.2 (by rw [Yez];exact h0)))))
   have nl:¬LetP b.toNat:=fun h0=>d3 h0.1
   refine wb (Yjx (n:=b.toNat)) (fun f1=>?_) (fun f1=>?_)
   ·exact wP (h:=by exact ⟨k+1,by omega,rfl,rfl,rfl,by rw [<- Yc5 hb (Yc1 nu)],Yci hh hb (.inr (.inr (.inl (Zt f1))))⟩)
   refine wc (ibs_q (n:=b.toNat)) ?_;refine zC ?_ ?_<;>intro e1
   ·exact wP (h:=by exact ⟨k+1,by omega,rfl,rfl,rfl,by rw [<- Yc5 hb (Yc1 nu)],Yci hh hb (.inr (.inr (.inr (by rw [XT,Yez] at e1;exact e1))))⟩)
   refine zW ?_;exact ret2 rfl rfl rfl Zb (no (bad (fun h0=>by
    rcases h0 with h0 | h0 | h0 | h0
    ·exact nu h0
    ·exact nl h0
    ·exact Zf f1 h0
    exact e1 (XT.2 (by rw [Yez];exact h0)))))
  have nu:¬UpC b.toNat:=fun h0=>d1 h0.1
  refine wC ?_ ?_<;>intro d3
  ·exact absurd d3 Zi
  have nl:¬LetP b.toNat:=fun h0=>d3 h0.1
  refine wb (Yjx (n:=b.toNat)) (fun f1=>?_) (fun f1=>?_)
  ·exact wP (h:=by exact ⟨k+1,by omega,rfl,rfl,rfl,by rw [<- Yc5 hb (Yc1 nu)],Yci hh hb (.inr (.inr (.inl (Zt f1))))⟩)
  refine wc (ibs_q (n:=b.toNat)) ?_;refine zC ?_ ?_<;>intro e1
  ·exact wP (h:=by exact ⟨k+1,by omega,rfl,rfl,rfl,by rw [<- Yc5 hb (Yc1 nu)],Yci hh hb (.inr (.inr (.inr (by rw [XT,Yez] at e1;exact e1))))⟩)
  refine zW ?_;exact ret2 rfl rfl rfl Zb (no (bad (fun h0=>by
   rcases h0 with h0 | h0 | h0 | h0
   ·exact nu h0
   ·exact nl h0
   ·exact Zf f1 h0
   exact e1 (XT.2 (by rw [Yez];exact h0)))))
 rw [show s.data.toList.take k=s.data.toList from Zl (by rw [YbG];omega),show s.data.toList.drop k=[] from List.drop_eq_nil_of_le (by rw [YbG];omega),List.append_nil] at*;have hP:LowP s:=⟨c1,by omega,hh⟩;refine wG ?_;refine YlI 0 hlen ?_;exact wS (h:=by exact (by rw [if_pos hP,decide_eq_true hP];rfl))
def Yor (s:Bs):Prop:=s≠Ya5/\s.size<=32/\(∀ b∈s.data.toList,LowC b)/\¬NumP s
def Yh3 (x:Sexpr):Prop:=(x.kind=1/\Yor x.text/\x.value=0/\x.kids=[])\/(x.kind=2/\x.text=Ya5/\x.kids=[]/\Yca x.value)\/(x.kind=3/\x.text=Ya5/\x.value=0)
abbrev XOk (x:Sexpr):Prop:=XAll Yh3 x
def XVal (x:Sexpr):Prop:=XOk x/\xdepth x<=32/\xcount x<=4096
theorem YkH:(lowS s).size=s.size:=by
 have:=YbG (s:=s);simp only [lowS,ByteArray.size,List.size_toArray,List.length_map];exact this
theorem lowB_fix {b:UInt8} (h:lowB b=b):¬UpC b.toNat:=by
 intro hu;rw [lowB,if_pos hu] at h;have h1:=congrArg UInt8.toNat h;unfold UpC at hu;rw [UInt8.toNat_add] at h1;simp at h1;omega
theorem YpG {α:Type} {f:α->α}:∀ {l:List α},l.map f=l->∀ x∈l,f x=x
 | [],_,_,hx=>by cases hx
 | a::r,h,x,hx=>by
  simp only [List.map_cons,List.cons.injEq] at h;rcases List.mem_cons.1 hx with rfl | hx
  ·exact h.1
  exact YpG h.2 x hx
theorem Yp9 {α:Type} {f:α->α}:∀ {l:List α},(∀ x∈l,f x=x)->l.map f=l
 | [],_=>rfl
 | a::r,h=>by rw [List.map_cons,h a (by simp),Yp9 (fun x hx=>h x (by simp [hx]))]
theorem low_upc {b:UInt8} (h:LowC b):¬UpC b.toNat:=by
 unfold LowC LetP DigP SymL at h;unfold UpC;rcases h with h | h | h
 ·omega
 ·omega
 simp only [List.mem_cons,List.not_mem_nil,or_false] at h;rcases h with rfl | rfl | rfl | rfl | rfl | rfl | rfl | rfl | rfl<;>decide
theorem Yjc:LowP s/\lowS s=s↔s≠Ya5/\s.size<=32/\∀ b∈s.data.toList,LowC b:=by
 constructor
 ·rintro ⟨⟨h1,h2,h3⟩,h4⟩;refine ⟨h1,h2,fun b hb=>?_⟩;have h5:s.data.toList.map lowB=s.data.toList:=by
   have:=congrArg (fun t:Bs=>t.data.toList) h4;simpa [lowS] using this
  exact (h3 b hb).resolve_left (lowB_fix (YpG h5 b hb))
 rintro ⟨h1,h2,h3⟩;refine ⟨⟨h1,h2,fun b hb=>.inr (h3 b hb)⟩,?_⟩;have:=Yp9 (f:=lowB) (l:=s.data.toList) (fun b hb=>if_neg (low_upc (h3 b hb)));unfold lowS;rw [this]
def cntO (c:Int):Obj:=Zu #[Zk c] 3
def XBud (g:Nat) (x:Sexpr) (d c:Nat) (v:Value) (H':HP):Prop:=
 ∃ (b:Bool) (c':Int),v=Zo b/\H'=[(g,cntO c')]/\(b=true->c'=((c+xcount x:Nat):Int))/\(b=true↔XOk x/\d+xdepth x<=32/\c+xcount x<=4096)
theorem YiB {x:Sexpr} {d:Nat} {c':Int} (h:¬(XOk x/\d+xdepth x<=32/\c+xcount x<=4096)):XBud g x d c (Zo false) [(g,cntO c')]:=⟨false,c',rfl,rfl,(by simp),iff_of_false (by simp) h⟩
theorem YjZ {g:Nat} {x:Sexpr} {d c:Nat} (h:Yh3 x) (hk:x.kids=[]) (hd:d<=32) (h3:x.kind≠3:=by omega) (hc:c+1<=4096:=by omega):XBud g x d c (Zo true) [(g,cntO (c+1:Nat))]:=by
 have h1:xcount x=1:=by rw [Xj,hk];simp [xcountL]
 have h2:xdepth x=0:=by rw [Ycs,hk,if_neg h3];simp [xdepthL]
 exact ⟨true,_,rfl,rfl,fun _=>by rw [h1],iff_of_true rfl ⟨Xe.2 ⟨h,by rw [hk];simp⟩,by omega,by omega⟩⟩
theorem xnode1 {x:Sexpr} (h:x.kind=1):Yh3 x↔Yor x.text/\x.value=0/\x.kids=[]:=by
 unfold Yh3;rw [h];simp
theorem xnode2 {x:Sexpr} (h:x.kind=2):Yh3 x↔x.text=Ya5/\x.kids=[]/\Yca x.value:=by
 unfold Yh3;rw [h];simp
theorem xnode3 {x:Sexpr} (h:x.kind=3):Yh3 x↔x.text=Ya5/\x.value=0:=by
 unfold Yh3;rw [h];simp
theorem YoA:∀ (s:Nat) {fz:FZ} {x:Sexpr} {vk:Value} {g d c:Nat},SizeOf.sizeOf x<=s->YT fz x vk->d<=32->c<=4096->
 GFn prog 147 [.agg #[Zk x.kind,Zk x.value,Zk x.line,Zk x.column,Zy x.text,vk],Zk d,Zp g] fz [(g,cntO c)] (fun v fz' H'=>Le fz fz'/\XBud g x d c v H')
 | 0,_,x,_,_,_,_,hs,_,_,_=>by cases x;simp at hs
 | s+1,fz,x,vk,g,d,c,hs,h,hd,hc=>by
  obtain ⟨A,n,ca,rfl,hk⟩:=h.kids;have no:∀ {c':Int},¬Yh3 x->XBud g x d c (Zo false) [(g,cntO c')]:=fun h0=>YiB (fun h1=>h0 (Xe.1 h1.1).1)
  have e1:=Xj x;have e2:=Ycs x;unfold cntO;refine zF Tryz.func147 Tryz.ntmps147 (fun w0=>?_);refine pX (fun g0=>?_);refine wC ?_ ?_<;>intro c1
  ·refine zW ?_;exact ret1 rfl rfl (List.Sublist.cons _ (List.Sublist.refl _)) ⟨Zd,YiB (fun h0=>by omega)⟩
  refine wC (fun x1=>?_) (fun y1=>?_)
  ·have hn:=xnode1 x1;by_cases hL:LowP x.text
   ·have hq:=YlY (fz:=fz) (s:=x.text);rw [if_pos hL,decide_eq_true hL] at hq;refine wc hq ?_;refine wC ?_ ?_<;>intro n1
    ·have hw:=(Yjc.1 ⟨hL,n1⟩);refine wG ?_;refine WJ (YkC (s:=lowS x.text) (by unfold Short;rw [YkH];exact h.text)) (fun f1=>?_) (fun f1=>?_)
     ·refine zW ?_;exact ret1 rfl rfl Zb ⟨Zd,no (fun h0=>(hn.1 h0).1.2.2.2 (by rw [<- n1];exact Zt f1))⟩
     refine zW ?_
     (((refine zC (fun n2=>?_) (fun n2=>?_));rotate_left 1;((refine zW ?_);(exact ret1 rfl rfl Zb ⟨Zd,no (fun h0=>n2 (hn.1 h0).2.1)⟩));(refine zW ?_)))
     (((refine zC (fun n3=>?_) (fun n3=>?_));rotate_left 1;((refine zW ?_);(exact ret1 rfl rfl Zb ⟨Zd,no (fun h0=>n3 ((len0 hk.len).2 (hn.1 h0).2.2))⟩));(refine zW ?_)));exact wR (h:=by exact ⟨Zd,YjZ (hn.2 ⟨⟨hw.1,hw.2.1,hw.2.2,by rw [<- n1];exact Zf f1⟩,n2,(len0 hk.len).1 n3⟩) ((len0 hk.len).1 n3) hd⟩)
    refine zW ?_;exact ret1 rfl rfl (List.Sublist.cons _ (List.Sublist.refl _)) ⟨Zd,no (fun h0=>n1 (Yjc.2 ⟨(hn.1 h0).1.1,(hn.1 h0).1.2.1,(hn.1 h0).1.2.2.1⟩).2)⟩
   have hq:=YlY (fz:=fz) (s:=x.text);rw [if_neg hL,decide_eq_false hL] at hq;refine wc hq ?_;refine zW ?_;exact ret1 rfl rfl (List.Sublist.cons _ (List.Sublist.refl _)) ⟨Zd,no (fun h0=>hL (Yjc.2 ⟨(hn.1 h0).1.1,(hn.1 h0).1.2.1,(hn.1 h0).1.2.2.1⟩).1)⟩
  refine wC (fun x2=>?_) (fun y2=>?_)
  ·have hn:=xnode2 x2;refine zW ?_
   (((refine zC (fun n1=>?_) (fun n1=>?_));rotate_left 1;((refine zW ?_);(exact ret1 rfl rfl Zb ⟨Zd,no (fun h0=>n1 (hn.1 h0).1)⟩));(refine zW ?_)))
   (((refine zC (fun n3=>?_) (fun n3=>?_));rotate_left 1;((refine zW ?_);(exact ret1 rfl rfl Zb ⟨Zd,no (fun h0=>n3 ((len0 hk.len).2 (hn.1 h0).2.1))⟩));(refine zW ?_)))
   (((refine zC (fun n4=>?_) (fun n4=>?_));rotate_left 1;((refine zW ?_);(exact ret1 rfl rfl Zb ⟨Zd,no (fun h0=>n4 (hn.1 h0).2.2.1)⟩));(refine zW ?_)))
   (((refine zC (fun n5=>?_) (fun n5=>?_));rotate_left 1;((refine zW ?_);(exact ret1 rfl rfl Zb ⟨Zd,no (fun h0=>n5 (hn.1 h0).2.2.2)⟩));(refine zW ?_)));exact wR (h:=by exact ⟨Zd,YjZ (hn.2 ⟨n1,(len0 hk.len).1 n3,n4,n5⟩) ((len0 hk.len).1 n3) hd⟩)
  refine wC (fun x3=>?_) (fun y3=>?_)
  ·have hn:=xnode3 x3;rw [if_pos x3] at e2;have sk:=hk.short;have lk:=hk.len;refine zW ?_
   (((refine zC (fun n1=>?_) (fun n1=>?_));((refine zW ?_);(exact ret1 rfl rfl Zb ⟨Zd,no (fun h0=>n1 (hn.1 h0).1)⟩));(refine zW ?_)))
   (((refine zC (fun n2=>?_) (fun n2=>?_));((refine zW ?_);(exact ret1 rfl rfl Zb ⟨Zd,no (fun h0=>n2 (hn.1 h0).2)⟩));(refine zW ?_)))
   (((refine zC (fun n3=>?_) (fun n3=>?_));((refine zW ?_);(exact ret1 rfl rfl Zb ⟨Zd,YiB (fun h0=>by omega)⟩));(refine zW ?_)));refine Yi (fun mm σ fz' H'=>∃ k:Nat,k<=n/\mm=n - k/\σ=[(91,Zk k),(90,Zk n),(89,Zc A n ca),(2,Zp g),(1,Zk d)]/\Le fz fz'/\H'=[(g,Zu #[Zk (c+1+xcountL (x.kids.take k):Nat)] 3)]/\(∀ i,i<k->∀ y,x.kids[i]?=some y->XOk y/\d+1+xdepth y<=32)/\c+1+xcountL (x.kids.take k)<=4096) ⟨0,Z0 _,rfl,rfl,Zd,rfl,(fun i hi=>absurd hi Zi),by simp [xcountL];omega⟩ Zw Zb ?_;rintro _ σ fz' H' ⟨k,hkn,rfl,rfl,hle,rfl,hh,hcc⟩;have hk2:=hk.mono hle;refine wC ?_ ?_<;>intro c2
   ·obtain ⟨y,hy⟩:=Ye (l:=x.kids) (k:=k) Zi;have hym:=Zm hy;have hlt:=Sexpr.kids_lt hym;have hst:=YjW hy;have htk:=YfX (l:=x.kids) (k:=k+1);refine zW ?_;refine zI hk2 hy (fun p1 hp1=>?_);refine zL hp1 ?_;intro cs hcs;obtain ⟨wk,rfl,hRy⟩:=Yf hcs;obtain ⟨A1,n6,b1,rfl,_⟩:=hRy.kids;refine zW ?_;intros
    first | refine Wp.perm (List.Perm.swap _ _ _) ?_ | refine Seq.perm (List.Perm.swap _ _ _) ?_
    refine Ya (Ym [_] [_] Zz (YoA s (x:=y) (d:=d+1) (c:=c+1+xcountL (x.kids.take k)) Zi hRy Zi hcc) (fun v5 fz5 H5 hle5 hR5=>?_));obtain ⟨_,b5,c5,rfl,rfl,hc5,hb5⟩:=hR5;cases b5
    ·refine zW ?_;exact ret1 rfl rfl Zb ⟨hle.trans hle5,YiB (fun h0=>absurd (hb5.2 ⟨(Xe.1 h0.1).2 y hym,by have:=(Wq (l:=x.kids)).1 (Zs _) y hym;omega,by omega⟩) (by simp))⟩
    have hc5:=hc5 rfl;have hb5:=hb5.1 rfl;subst hc5;exact wP (h:=by exact ⟨k+1,by omega,rfl,rfl,hle.trans hle5,by rw [hst,<- Nat.add_assoc],YL hh hy ⟨hb5.1,hb5.2.1⟩,by omega⟩)
   rw [show x.kids.take k=x.kids from Zl Zi] at hcc ⊢;have hK:=Xu hh Zi;refine zW ?_;exact ret1 rfl rfl (List.Sublist.refl _) ⟨hle,true,_,rfl,rfl,fun _=>by rw [e1];simp only [Nat.add_assoc],iff_of_true rfl ⟨Xe.2 ⟨hn.2 ⟨n1,n2⟩,fun y hy=>(hK y hy).1⟩,by
    have e3:xdepthL x.kids<=31 - d:=Wq.2 (fun y hy=>by have:=(hK y hy).2;omega);omega,by omega⟩⟩
  refine zW ?_;exact ret1 rfl rfl Zb ⟨Zd,no (fun h0=>by rcases h0 with h0 | h0 | h0;exact y1 h0.1;exact y2 h0.1;exact y3 h0.1)⟩
theorem Yat {x:Sexpr} (h:YT fz x vk):QFn prog 80 [.agg #[Zk x.kind,Zk x.value,Zk x.line,Zk x.column,Zy x.text,vk]] fz (Zo (decide (XVal x))):=by
 obtain ⟨A,n,ca,rfl,hk⟩:=h.kids;refine qF Tryz.func80 Tryz.ntmps80 (fun w0=>?_);refine pX (fun g0=>?_);refine zW ?_;intros;refine Ya (Ym [_] [_] Zz (YoA _ (d:=0) (c:=0) (Zs _) h Zi Zi) (fun v5 fz5 H5 hle5 hR5=>?_));obtain ⟨_,b5,c5,rfl,rfl,hc5,hb5⟩:=hR5;refine zW ?_;have hb:(b5=true)↔XVal x:=by rw [hb5];unfold XVal;simp only [Nat.zero_add]
 have hd:decide (XVal x)=b5:=by cases b5<;>simp_all
 exact zR (h:=by rw [hd])
end Go.Proofs.YtiligkgjcmokbaaGreatDoor
