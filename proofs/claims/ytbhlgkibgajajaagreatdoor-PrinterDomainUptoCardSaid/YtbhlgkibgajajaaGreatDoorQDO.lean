/- The texts PBnd, PSame, PSize, PLines, PLawD, laid together. Conditions: none. -/
import Derived.Test.YtbhlgkibgajajaaGreatDoorQDK
import Derived.Test.YtbhlgkibgajajaaGreatDoorQDL
import Derived.Test.YtbhlgkibgajajaaGreatDoorQDH
import Derived.Test.YtbhlgkibgajajaaGreatDoorQDI
import Derived.Test.YtbhlgkibgajajaaGreatDoorQDE
import Derived.Test.YtbhlgkibgajajaaGreatDoorQDG
import Derived.Test.YtbhlgkibgajajaaGreatDoorQDJ
import Derived.Test.YtbhlgkibgajajaaGreatDoorQDB
import Derived.Test.YtbhlgkibgajajaaGreatDoorQDC
import Derived.Test.YtbhlgkibgajajaaGreatDoorQDD
import Derived.Test.YtbhlgkibgajajaaGreatDoorQDF
import Derived.Test.YtbhlgkibgajajaaGreatDoorQDN
import Derived.Test.YtbhlgkibgajajaaGreatDoorQDM
namespace Go.Proofs.YtbhlgkibgajajaaGreatDoor
open Go.Lx Go.RowKit
attribute [local instance 10] Classical.propDecidable
theorem Yce (l:List Sexpr):xcountL l=(l.map xcount).sum:=by
 induction l with
 | nil=>rfl
 | cons a r ih=>simp [xcountL,ih]
theorem W3 {α:Type} {f:α→Sexpr} {w:α→Nat} {k:Nat} (h:∀ x,xcount (f x)≤k*w x) (l:List α):xcountL (l.map f)≤k*(l.map w).sum:=by
 rw [Yce,List.map_map]
 exact YdQ (n:=xcount ∘ f) h l
theorem XO (s:ByteArray):xcount (Yg s)=1:=by simp [Yg,xcount,xcountL]
theorem YfM (n:Int):xcount (numE n)=1:=by simp [numE,xcount,xcountL]
theorem Xt (l:List Sexpr):xcount (YE l)=1+xcountL l:=by simp [YE,xcount]
theorem YgJ {α:Type} (f:α→ByteArray) (l:List α):xcountL (l.map fun x=>Yg (f x))=l.length:=by
 induction l with
 | nil=>rfl
 | cons a r ih=>simp only [List.map_cons,xcountL,XO,ih,List.length_cons];omega
theorem YaA (f:ByteArray) (l:List ByteArray):xcount (X3 f l)=2+l.length:=by
 have:=YgJ id l
 simp only [id] at this
 rw [X3,Xt,xcountL,XO]
 rw [show l.map Yg=l.map fun x=>Yg x from rfl,this];omega
theorem Ybu (l:List Param):xcountL (Xd l)=3*l.length:=by
 have:=YgJ id (l.flatMap Xw)
 simp only [id,Yb3] at this
 exact this
theorem YfO:∀ (s:Nat) (e:Lx.Expr),SizeOf.sizeOf e≤s→xcount (YO e)≤4*eW e
 | 0,e,h=>by cases e;simp at h
 | s+1,e,h=>by
  rw [YcF,eW_eq]
  split
  ·rw [YfM];omega
  ·split
   ·rw [YaA];omega
   ·have:xcountL (e.kids.map YO)≤4*(e.kids.map eW).sum:=by
     rw [Yce,List.map_map]
     have key:∀ l:List Lx.Expr,(∀ k∈l,k∈e.kids)→(l.map (xcount ∘ YO)).sum≤4*(l.map eW).sum:=by
      intro l
      induction l with
      | nil=>intro _;simp
      | cons a r ih=>
       intro hl
       have h1:=YfO s a (by have:=Lx.Expr.kids_lt (hl a (by simp));omega)
       have h2:=ih (fun k hk=>hl k (by simp [hk]))
       simp only [List.map_cons,List.sum_cons,Function.comp,Nat.mul_add] at h2 ⊢;omega
     exact key _ (fun _ h=>h)
    rw [Xt,xcountL,XO];omega
theorem Yb8:∀ (s:Nat) (f:Formula),SizeOf.sizeOf f≤s→xcount (Y3 f)≤8*fW f
 | 0,e,h=>by cases e;simp at h
 | s+1,f,h=>by
  rw [YaS,Yj0]
  split
  ·rw [YaA];omega
  ·split
   ·rw [YaA];omega
   ·split
    ·have:=W3 (f:=YO) (w:=eW) (k:=4) (fun e=>YfO _ e (Nat.le_refl _)) f.exprs
     rw [Xt,xcountL,XO];omega
    ·have hk:xcountL (f.kids.map Y3)≤8*(f.kids.map fW).sum:=by
      rw [Yce,List.map_map]
      have key:∀ l:List Formula,(∀ k∈l,k∈f.kids)→(l.map (xcount ∘ Y3)).sum≤8*(l.map fW).sum:=by
       intro l
       induction l with
       | nil=>intro _;simp
       | cons a r ih=>
        intro hl
        have h1:=Yb8 s a (by have:=Formula.kids_lt (hl a (by simp));omega)
        have h2:=ih (fun k hk=>hl k (by simp [hk]))
        simp only [List.map_cons,List.sum_cons,Function.comp,Nat.mul_add] at h2 ⊢;omega
      exact key _ (fun _ h=>h)
     have hp:=Ybu f.params
     rw [Xd] at hp
     rw [Xt,Xv,Xv]
     have h1:xcountL (if f.op≠kAnd∨f.kids≠ [] then [Yg f.op] else [])≤1:=by split<;>simp [xcountL,XO]
     have h2:xcountL (if f.op=XC∨f.op=Wo then [YE ((f.params.flatMap Xw).map Yg)] else [])≤1+3*f.params.length:=by
      split
      ·rw [xcountL,xcountL,Xt,hp];omega
      ·simp [xcountL]
     omega
theorem YiJ (c:Change):xcount (chX c)≤16*X1 c:=by
 have he:=YfO _ c.value (Nat.le_refl _)
 have hf:=Yb8 _ c.when_ (Nat.le_refl _)
 have h1:xcount (chX1 c)≤4+c.args.length+4*eW c.value:=by
  unfold chX1
  split
  ·simp only [Xt,xcountL,XO,YaA];omega
  ·split
   ·simp only [Xt,xcountL,XO,YaA];omega
   ·rw [YaA];omega
 have h2:xcount (chX2 c)≤6+c.args.length+4*eW c.value+8*fW c.when_:=by
  unfold chX2
  split
  ·omega
  ·simp only [Xt,xcountL,XO];omega
 have e1:=eW_pos c.value
 have e2:=Ye2 c.when_
 unfold chX X1
 split
 ·omega
 ·have hp:=Ybu c.params
  rw [Xd] at hp
  simp only [Xt,xcountL,XO,hp];omega
theorem Yhu (l:List Change):xcount (effX l)≤2+16*(l.map X1).sum:=by
 have:=W3 (f:=chX) (w:=X1) (k:=16) YiJ l
 unfold effX
 split
 ·simp [Xt,xcountL];omega
 ·rw [Xt,xcountL,XO];omega
theorem YaK (p:Prop) (kw:ByteArray) (x:Sexpr):xcountL (opt p kw x)≤1+xcount x:=by
 unfold opt
 split
 ·simp [xcountL]
 ·simp [xcountL,XO]
theorem YfN (kw:ByteArray) (l:List Sexpr):xcountL (grp kw l)≤2+xcountL l:=by
 unfold grp
 split
 ·simp [xcountL]
 ·simp only [xcountL,Xt,XO];omega
theorem cnt_act (a:Action):xcount (actX a)≤20*actW a:=by
 have h1:=YaK (a.params=[]) YW (WW a.params)
 have h2:=YaK (a.cost=1) Yfw (numE a.cost)
 have h3:=YaK (a.pre=Xr) XN (Y3 a.pre)
 have h4:=YaK (a.changes=[]) Ycl (effX a.changes)
 have h5:=Yb8 _ a.pre (Nat.le_refl _)
 have h6:=Yhu a.changes
 have h7:=Ybu a.params
 have h8:=Ye2 a.pre
 rw [Xd] at h7
 rw [YfM] at h2
 rw [WW,Xt,h7] at h1
 unfold actX actW
 simp only [Xt,Xv,xcountL,XO]
 rw [WW]
 omega
theorem cnt_dur (a:Durative):xcount (durX a)≤20*durW a:=by
 have h1:=YaK (a.params=[]) YW (WW a.params)
 have h2:=YaK (a.duration=1) X7 (numE a.duration)
 have h3:=YaK (a.start=Xr) YbL (Y3 a.start)
 have h4:=YaK (a.over=Xr) YeH (Y3 a.over)
 have h5:=YaK (a.fin=Xr) kEnd (Y3 a.fin)
 have h6:=YaK (a.atStart=[]) YaQ (effX a.atStart)
 have h7:=YaK (a.atEnd=[]) Yd8 (effX a.atEnd)
 have i1:=Yb8 _ a.start (Nat.le_refl _)
 have i2:=Yb8 _ a.over (Nat.le_refl _)
 have i3:=Yb8 _ a.fin (Nat.le_refl _)
 have i4:=Yhu a.atStart
 have i5:=Yhu a.atEnd
 have i6:=Ybu a.params
 have j1:=Ye2 a.start
 have j2:=Ye2 a.over
 have j3:=Ye2 a.fin
 rw [Xd] at i6
 rw [YfM] at h2
 rw [WW,Xt,i6] at h1
 unfold durX durW
 simp only [Xt,Xv,xcountL,XO]
 rw [WW]
 omega
theorem cnt_dom (d:Domain):xcount (domX d)≤20*domW d:=by
 have g1:=YfN Wr (Xd d.types)
 have g2:=YfN Xb (Xd d.constants)
 have g3:=YfN Y6 (d.predicates.map Yan)
 have g4:=YfN Xf (d.functions.map funX)
 have p3:=W3 (f:=Yan) (w:=YeC) (k:=4) (fun p=>by unfold Yan YeC;rw [Xt,xcountL,XO,Ybu];omega) d.predicates
 have p4:=W3 (f:=funX) (w:=funW) (k:=4) (fun p=>by unfold funX funW;simp only [Xt,Xv,xcountL,XO,Ybu,YfM];omega) d.functions
 have p5:=W3 (f:=actX) (w:=actW) (k:=20) cnt_act d.actions
 have p6:=W3 (f:=durX) (w:=durW) (k:=20) cnt_dur d.duratives
 rw [Ybu] at g1 g2
 unfold domX domW
 simp only [Xt,Xv,xcountL,XO]
 omega
mutual
theorem depth_count:∀ x:Sexpr,xdepth x≤xcount x
 | .mk k v l c t ks=>by
  have:=depth_countL ks
  rw [xdepth,xcount]
  split<;>omega
theorem depth_countL:∀ l:List Sexpr,xdepthL l≤xcountL l
 | []=>by simp [xdepthL]
 | x::r=>by
  have h1:=depth_count x
  have h2:=depth_countL r
  rw [xdepthL,xcountL]
  omega
end
theorem Yj3:∀ (s:Nat) {e:Lx.Expr},SizeOf.sizeOf e≤s→eW e≤1000000000→ESm e
 | 0,e,h,_=>by cases e;simp at h
 | s+1,e,h,hw=>by
  rw [eW_eq] at hw
  refine Yaa.2 ⟨by unfold ESmN;omega,fun k hk=>Yj3 s (by have:=Lx.Expr.kids_lt hk;omega) (by have:=Ybb (w:=eW) hk;omega)⟩
theorem YeY:∀ (s:Nat) {f:Formula},SizeOf.sizeOf f≤s→fW f≤1000000000→FSm f
 | 0,e,h,_=>by cases e;simp at h
 | s+1,f,h,hw=>by
  rw [Yj0] at hw
  have hl:=YaC Ye2 f.kids
  refine X2.2 ⟨by unfold FSmN;omega,fun e he=>Yj3 _ (Nat.le_refl _) (by have:=Ybb (w:=eW) he;omega),fun k hk=>YeY s (by have:=Formula.kids_lt hk;omega) (by have:=Ybb (w:=fW) hk;omega)⟩
theorem chsm_of {c:Change} (h:X1 c≤100000000):ChSm c:=by
 unfold X1 at h
 exact ⟨by omega,by omega,YeY _ (Nat.le_refl _) Zi,Yj3 _ (Nat.le_refl _) Zi⟩
theorem YfI {l:List Change} (h:(l.map X1).sum≤100000000):Ykr l:=by
 have:=YaC Yhw l
 exact ⟨by omega,fun c hc=>chsm_of (by have:=Ybb (w:=X1) hc;omega)⟩
theorem Yib {d:Domain} (h:domW d≤100000000):DomTn d:=by
 unfold domW at h
 have l3:=YaC Ygm d.predicates
 have l4:=YaC Yh0 d.functions
 have l5:=YaC actW_pos d.actions
 have l6:=YaC durW_pos d.duratives
 have p3:∀ p∈d.predicates,p.params.length≤100000000:=fun p hp=>by have:=Ybb (w:=YeC) hp;have e:YeC p=1+p.params.length:=rfl;omega
 have p4:∀ p∈d.functions,p.params.length≤100000000:=fun p hp=>by have:=Ybb (w:=funW) hp;have e:funW p=1+p.params.length:=rfl;omega
 have p5:∀ x∈d.actions,actW x≤100000000:=fun p hp=>by have:=Ybb (w:=actW) hp;omega
 have p6:∀ x∈d.duratives,durW x≤100000000:=fun p hp=>by have:=Ybb (w:=durW) hp;omega
 refine ⟨⟨by omega,by omega,by omega,fun p hp=>Nat.le_trans (p3 p hp) Zh,by omega,fun p hp=>Nat.le_trans (p4 p hp) Zh,by omega,fun x hx=>?_,by omega,fun x hx=>?_⟩,by omega,by omega,by omega,p3,by omega,p4,by omega,fun x hx=>?_,by omega,fun x hx=>?_⟩
 ·have:=p5 x hx
  unfold actW at this
  exact ⟨by omega,YeY _ (Nat.le_refl _) Zi,YfI Zi⟩
 ·have:=p6 x hx
  unfold durW at this
  exact ⟨by omega,YeY _ (Nat.le_refl _) Zi,YeY _ (Nat.le_refl _) Zi,YeY _ (Nat.le_refl _) Zi,YfI Zi,YfI Zi⟩
 ·have:=p5 x hx
  unfold actW at this
  omega
 ·have:=p6 x hx
  unfold durW at this
  omega
end Go.Proofs.YtbhlgkibgajajaaGreatDoor
namespace Go.Proofs.YtbhlgkibgajajaaGreatDoor
open Go.Lx Go.RowKit
attribute [local instance 10] Classical.propDecidable
theorem Yhz {x k:Sexpr} (h:XVal x) (hk:k∈x.kids):XVal k:=by
 refine ⟨(Xm.1 h.1).2 k hk,?_,?_⟩
 ·have h1:=h.2.1
  rw [Ya0] at h1
  have:=XD.1 (Nat.le_refl _) k hk
  omega
 ·have h1:=h.2.2
  rw [WQ] at h1
  have:=Wy hk
  omega
theorem Wa {l:List Sexpr} {k:Sexpr} (h:XVal (YE l)) (hk:k∈l):XVal k:=Yhz h hk
theorem YhR {n:Int} (h:XVal (numE n)):YaM n:=by
 have:=(Xm.1 h.1).1
 rcases this with ⟨h1,_⟩ | ⟨_,_,_,h1⟩ | ⟨h1,_⟩
 ·exact absurd (show (2:Int)=1 from h1) Zh
 ·exact h1
 ·exact absurd (show (2:Int)=3 from h1) Zh
theorem YdN:FVal Xr:=by
 have e:Y3 Xr=YE []:=by
  rw [YaS,if_neg (by rw [show Xr.op=kAnd from rfl];exact fun h0=>absurd (congrArg ByteArray.size h0) Zh),if_neg (by rw [show Xr.op=kAnd from rfl];exact fun h0=>absurd (congrArg ByteArray.size h0) Zh),if_neg,if_neg,if_neg]
  ·rfl
  ·rintro (h0 | h0)<;>exact absurd (congrArg ByteArray.size h0) Zh
  ·rintro (h0 | h0)
   ·exact h0 rfl
   ·exact h0 rfl
  ·rintro (h0 | h0 | h0)<;>exact absurd (congrArg ByteArray.size h0) Zh
 refine ⟨X2.2 ⟨⟨⟨fun h0=>absurd (congrArg ByteArray.size h0) Zh,fun h0=>absurd (congrArg ByteArray.size h0) Zh,fun h0=>by rcases h0 with h0 | h0<;>exact absurd (congrArg ByteArray.size h0) Zh⟩,⟨(0,false,0),?_,fun _ _=>⟨rfl,rfl⟩,rfl,rfl,fun _=>rfl⟩,(by intro p hp;cases hp)⟩,(by intro p hp;cases hp),(by intro p hp;cases hp)⟩,?_⟩
 ·unfold Ycm
  rw [if_neg (by rintro (h0 | h0)<;>exact absurd (congrArg ByteArray.size h0) Zh),if_neg (by rintro (h0 | h0 | h0)<;>exact absurd (congrArg ByteArray.size h0) Zh),if_pos (.inl rfl)]
  rfl
 ·rw [e]
  refine ⟨Xm.2 ⟨.inr (.inr ⟨rfl,rfl,rfl⟩),by intro k hk;cases hk⟩,?_,?_⟩
  ·simp [YE,xdepth,xdepthL]
  ·simp [YE,xcount,xcountL]
theorem atomF_ok {name:ByteArray} {args:List ByteArray}:FOk (YfQ name args)↔Yex name args:=by
 rw [show FOk (YfQ name args)=FAll Ycr YcO (YfQ name args) from rfl,X2]
 constructor
 ·rintro ⟨⟨h1,_,_⟩,_⟩
  exact ⟨h1.1 rfl,h1.2.2 (.inl rfl)⟩
 ·rintro ⟨h1,h2⟩
  refine ⟨⟨⟨fun _=>h1,fun h0=>absurd (congrArg (fun s=>WP s 0) (show kAtom=kSame from h0)) Zh,fun _=>h2⟩,⟨(0,false,0),?_,fun h0=>absurd rfl h0,rfl,rfl,fun _=>rfl⟩,(by intro p hp;cases hp)⟩,(by intro p hp;cases hp),(by intro p hp;cases hp)⟩
  unfold Ycm
  rw [if_pos (.inl rfl)]
theorem mem_opt {p:Prop} {kw:ByteArray} {x:Sexpr} (h:¬p):x∈opt p kw x:=by unfold opt;rw [if_neg h];simp
theorem mem_grp {kw:ByteArray} {l:List Sexpr} {x:Sexpr} (h:x∈l):∃ y,y∈grp kw l∧x∈y.kids:=by
 refine ⟨YE (Yg kw::l),?_,?_⟩
 ·unfold grp
  rw [if_neg (by intro h0;rw [h0] at h;cases h)]
  simp
 ·show x∈Yg kw::l
  simp [h]
theorem ch_iff {c:Change} (hx:XVal (chX c)):ChOk c↔ShC c:=by
 -- the parts that are written
 have h2:XVal (chX2 c):=by
  unfold chX at hx
  split at hx
  ·exact hx
  ·exact Wa hx (by simp)
 have h1:XVal (chX1 c)∧(¬c.when_=Xr→XVal (Y3 c.when_)):=by
  unfold chX2 at h2
  split at h2
  ·rename_i h;exact ⟨h2,fun h0=>absurd h h0⟩
  ·exact ⟨Wa h2 (by simp),fun _=>Wa h2 (by simp)⟩
 have h0:Num5 c.kind→XVal (YO c.value):=fun hn=>by
  have h3:=h1.1
  unfold chX1 at h3
  rw [if_neg (by unfold Num5 at hn;omega),if_pos hn] at h3
  exact Wa h3 (by simp)
 unfold ChOk ShC Yal Ykl
 rw [atomF_ok]
 constructor
 ·rintro ⟨a,k,w,p⟩
  refine ⟨?_,?_,p,?_,a,?_,?_⟩
  ·rcases k with ⟨k,_⟩ | ⟨k,_⟩
   ·omega
   ·unfold Num5 at k;omega
  ·rcases k with ⟨k,_⟩ | ⟨k,_⟩
   ·omega
   ·unfold Num5 at k;omega
  ·rcases w with w | w
   ·rw [w];exact YdN.1
   ·exact w.1
  ·intro hk
   rcases k with ⟨_,k⟩ | ⟨k,_⟩
   ·exact k
   ·unfold Num5 at k;omega
  ·intro hk
   rcases k with ⟨k,_⟩ | ⟨_,k⟩
   ·omega
   ·exact k.1
 ·rintro ⟨k1,k5,p,w,a,v2,v3⟩
  refine ⟨a,?_,?_,p⟩
  ·by_cases hk:c.kind≤2
   ·exact .inl ⟨by omega,v2 hk⟩
   ·have hn:Num5 c.kind:=by unfold Num5;omega
    exact .inr ⟨hn,v3 hk,h0 hn⟩
  ·by_cases ht:c.when_=Xr
   ·exact .inl ht
   ·exact .inr ⟨w,h1.2 ht⟩
theorem Yhr {l:List Change} (hx:l=[]∨XVal (effX l)):YcN l↔∀ c∈l,ShC c:=by
 have key:∀ c∈l,XVal (chX c):=fun c hc=>by
  rcases hx with h0 | hx
  ·rw [h0] at hc;cases hc
  ·have hl:l≠ []:=fun h0=>by rw [h0] at hc;cases hc
   unfold effX at hx
   rw [if_neg hl] at hx
   exact Wa hx (by simp only [List.mem_cons,List.mem_map];exact .inr ⟨c,hc,rfl⟩)
 exact ⟨fun h c hc=>(ch_iff (key c hc)).1 (h c hc),fun h c hc=>(ch_iff (key c hc)).2 (h c hc)⟩
theorem Ybh {p:Prop} {kw:ByteArray} {x:Sexpr} {l:List Sexpr} (hX:XVal (YE l)) (hm:∀ y,y∈opt p kw x→y∈l):p∨XVal x:=by
 by_cases h:p
 ·exact .inl h
 ·exact .inr (Wa hX (hm _ (mem_opt h)))
theorem one_ok:YaM 1:=by unfold YaM;omega
theorem act_iff {a:Action} (hx:XVal (actX a)):YgN a↔ShA a:=by
 unfold actX at hx
 have hc:=Ybh (p:=a.cost=1) (kw:=Yfw) (x:=numE a.cost) hx (fun y hy=>by simp only [List.mem_append];exact .inl (.inl (.inr hy)))
 have hp:=Ybh (p:=a.pre=Xr) (kw:=XN) (x:=Y3 a.pre) hx (fun y hy=>by simp only [List.mem_append];exact .inl (.inr hy))
 have he:=Ybh (p:=a.changes=[]) (kw:=Ycl) (x:=effX a.changes) hx (fun y hy=>by simp only [List.mem_append];exact .inr hy)
 have hn:YaM a.cost:=by
  rcases hc with h | h
  ·rw [h];exact one_ok
  ·exact YhR h
 have hf:FVal a.pre↔FOk a.pre:=⟨fun h=>h.1,fun h=>by
  rcases hp with h0 | h0
  ·rw [h0];exact YdN
  ·exact ⟨h,h0⟩⟩
 unfold YgN ShA
 rw [hf,Yhr he]
 exact ⟨fun ⟨h1,h2,h3,h4,h5⟩=>⟨h1,h3,h2,hn,h4,h5⟩,fun ⟨h1,h3,h2,_,h4,h5⟩=>⟨h1,h2,h3,h4,h5⟩⟩
theorem dur_iff {a:Durative} (hx:XVal (durX a)):YgE a↔ShU a:=by
 unfold durX at hx
 have hc:=Ybh (p:=a.duration=1) (kw:=X7) (x:=numE a.duration) hx (fun y hy=>by simp only [List.mem_append];exact .inl (.inl (.inl (.inl (.inl (.inr hy))))))
 have h1:=Ybh (p:=a.start=Xr) (kw:=YbL) (x:=Y3 a.start) hx (fun y hy=>by simp only [List.mem_append];exact .inl (.inl (.inl (.inl (.inr hy)))))
 have h2:=Ybh (p:=a.over=Xr) (kw:=YeH) (x:=Y3 a.over) hx (fun y hy=>by simp only [List.mem_append];exact .inl (.inl (.inl (.inr hy))))
 have h3:=Ybh (p:=a.fin=Xr) (kw:=kEnd) (x:=Y3 a.fin) hx (fun y hy=>by simp only [List.mem_append];exact .inl (.inl (.inr hy)))
 have h4:=Ybh (p:=a.atStart=[]) (kw:=YaQ) (x:=effX a.atStart) hx (fun y hy=>by simp only [List.mem_append];exact .inl (.inr hy))
 have h5:=Ybh (p:=a.atEnd=[]) (kw:=Yd8) (x:=effX a.atEnd) hx (fun y hy=>by simp only [List.mem_append];exact .inr hy)
 have hn:YaM a.duration:=by
  rcases hc with h | h
  ·rw [h];exact one_ok
  ·exact YhR h
 have hf:∀ f:Formula,(f=Xr∨XVal (Y3 f))→(FVal f↔FOk f):=fun f h0=>⟨fun h=>h.1,fun h=>by
  rcases h0 with h0 | h0
  ·rw [h0];exact YdN
  ·exact ⟨h,h0⟩⟩
 unfold YgE ShU
 rw [hf _ h1,hf _ h2,hf _ h3,Yhr h4,Yhr h5]
 exact ⟨fun ⟨a1,a2,a3,a4,a5,a6,a7⟩=>⟨a1,a2,hn,a6,a7,a3,a4,a5⟩,fun ⟨a1,a2,_,a6,a7,a3,a4,a5⟩=>⟨a1,a2,a3,a4,a5,a6,a7⟩⟩
theorem Yj7 {d:Domain} (hx:XVal (domX d)):YcP d↔ShD d:=by
 unfold domX at hx
 have hfun:∀ f∈d.functions,YiO f↔ShF f:=fun f hf=>by
  obtain ⟨y,hy,hk⟩:=mem_grp (kw:=Xf) (l:=d.functions.map funX) (x:=funX f) (List.mem_map.2 ⟨f,hf,rfl⟩)
  have h1:=Yhz (Wa hx (k:=y) (by simp only [List.mem_append];exact .inl (.inl (.inr hy)))) hk
  unfold funX at h1
  have n1:=YhR (Wa h1 (k:=numE f.lo) (by simp))
  have n2:=YhR (Wa h1 (k:=numE f.hi) (by simp))
  exact ⟨fun h=>⟨h.1,h.2,n1,n2⟩,fun h=>⟨h.1,h.2.1⟩⟩
 have hact:∀ x∈d.actions,YgN x↔ShA x:=fun x hm=>act_iff (Wa hx (by simp only [List.mem_append,List.mem_map];exact .inl (.inr ⟨x,hm,rfl⟩)))
 have hdur:∀ x∈d.duratives,YgE x↔ShU x:=fun x hm=>dur_iff (Wa hx (by simp only [List.mem_append,List.mem_map];exact .inr ⟨x,hm,rfl⟩))
 unfold YcP ShD
 exact ⟨fun ⟨a1,a2,a3,a4,a5,a6,a7⟩=>⟨a1,a2,a3,a4,fun f hf=>(hfun f hf).1 (a5 f hf),fun x hm=>(hact x hm).1 (a6 x hm),fun x hm=>(hdur x hm).1 (a7 x hm)⟩,
  fun ⟨a1,a2,a3,a4,a5,a6,a7⟩=>⟨a1,a2,a3,a4,fun f hf=>(hfun f hf).2 (a5 f hf),fun x hm=>(hact x hm).2 (a6 x hm),fun x hm=>(hdur x hm).2 (a7 x hm)⟩⟩
theorem dom_same (d:Domain):(YcP d∧XVal (domX d))↔(ShD d∧XVal (domX d)):=
 ⟨fun h=>⟨(Yj7 h.2).1 h.1,h.2⟩,fun h=>⟨(Yj7 h.2).2 h.1,h.2⟩⟩
end Go.Proofs.YtbhlgkibgajajaaGreatDoor
set_option maxRecDepth 20000
namespace Go.Proofs.YtbhlgkibgajajaaGreatDoor
open Go.Lx Go.RowKit
attribute [local instance 10] Classical.propDecidable
theorem Yfd {α:Type} {w:α→Nat} {l:List α} {k:Nat}:((l.take k).map w).sum≤(l.map w).sum:=by
 conv=>rhs;rw [← List.take_append_drop k l]
 rw [List.map_append,List.sum_append];omega
theorem Yfe {α:Type} {w:α→Nat} {l:List α} {k:Nat} {x:α} (hx:l[k]?=some x):((l.take (k+1)).map w).sum=((l.take k).map w).sum+w x:=by
 rw [List.take_add_one,hx];simp
mutual
theorem ecount_le:∀ e:Lx.Expr,ecount e≤eW e
 | .mk a b c args kids=>by have:=ecountL_le kids;rw [ecount,eW];omega
theorem ecountL_le:∀ l:List Lx.Expr,ecountL l≤eWL l
 | []=>by simp [ecountL]
 | x::r=>by have h1:=ecount_le x;have h2:=ecountL_le r;rw [ecountL,eWL];omega
end
mutual
theorem fcount_le:∀ f:Formula,fcount f≤fW f
 | .mk a b c d exprs kids=>by have h1:=ecountL_le exprs;have h2:=fcountL_le kids;rw [fcount,fW];omega
theorem fcountL_le:∀ l:List Formula,fcountL l≤fWL l
 | []=>by simp [fcountL]
 | x::r=>by have h1:=fcount_le x;have h2:=fcountL_le r;rw [fcountL,fWL];omega
end
set_option maxHeartbeats 1000000 in
theorem Yi3:∀ (s:Nat) {fz:FZ} {e:Lx.Expr} {va vk:Value},SizeOf.sizeOf e≤s→ExprR fz e va vk→ecount e≤1000000000000→
 QFn Tryz.prog 23 [.agg #[.string e.op,.string e.name,.int .i64 e.n,va,vk]] fz (.int .i64 (ecount e))
 | 0,_,e,_,_,hs,_,_=>by cases e;simp at hs
 | s+1,fz,e,va,vk,hs,h,hc=>by
  obtain ⟨A,n,ca,rfl,ha⟩:=h.args
  obtain ⟨B,m,cb,rfl,hk⟩:=h.kids
  refine GFn.quiet ?_
  have lk:=hk.len
  have sk:=hk.short
  have ec:=YbP e
  (refine GFn.of_wp Tryz.func23 rfl Tryz.ntmps23 rfl rfl (fun w0=>?_))
  (refine Yp (Yq (Yc Zz (Xl _ Zz Zz (fun g0=>?_)))))
  ((repeat (first | refine zS ?_ | refine zA fun _=>?_)))
  refine YG (fun q σ fz' H'=>∃ (k:Nat) (c:Int),k≤m∧q=m - k∧σ=[(4,.int .i64 k),(3,.int .i64 c),(1,.pointer (some ⟨g0,0,none⟩))]∧fz=fz'∧H'=[(g0,.cells #[.string e.op,.string e.name,.int .i64 e.n,.slice A n ca,.slice B m cb] 75 (0,0))]∧c=((1+ecountL (e.kids.take k):Nat):Int)) ⟨0,_,Nat.zero_le _,rfl,rfl,rfl,rfl,rfl⟩ (Zw) (Zb) ?_
  rintro q σ fz' H' ⟨k,c,hkm,rfl,rfl,rfl,rfl,hh⟩
  ((repeat (first | refine zS ?_ | refine zA fun _=>?_)))
  ((refine zG ?_;refine zC (fun c1=>?_) (fun c1=>?_)))
  ·obtain ⟨x,hx⟩:=YF (l:=e.kids) (k:=k) Zi
   have hxm:=List.mem_of_getElem? hx
   have hlt:=Lx.Expr.kids_lt hxm
   have hst:=YbR hx
   have htk:=YbQ (l:=e.kids) (k:=k+1)
   ((repeat (first | refine zS ?_ | refine zA fun _=>?_)))
   (((refine zG ?_));refine YB T k Zz Zz Zz Zz Zz Zz hk (by first | rfl | omega) hx (fun p1 hp1=>?_))
   (((refine zG ?_));refine Yz T Zz Zz Zz hp1 Zz ?_)
   intro cs hcs
   obtain ⟨wa,wk,rfl,hRx⟩:=YQ hcs
   ((repeat (first | refine zS ?_ | refine zA fun _=>?_)))
   (((refine zG ?_));refine Yj Zz Zz (Yi3 s Zi hRx Zi) ?_)
   ((repeat (first | refine zS ?_ | refine zA fun _=>?_)))
   exact YP ⟨k+1,c+(ecount x:Nat),by omega,rfl,rfl,rfl,rfl,by omega⟩ Zi (Zw) (Zb)
  ·rw [List.take_of_length_le Zi] at hh
   ((repeat (first | refine zS ?_ | refine zA fun _=>?_)))
   (exact ret1 rfl rfl (Zb) (by rw [hh,ec]))
theorem Yi2 {fz:FZ} {e:Lx.Expr} {va vk:Value} (h:ExprR fz e va vk) (hc:ecount e≤1000000000000):
 QFn Tryz.prog 23 [.agg #[.string e.op,.string e.name,.int .i64 e.n,va,vk]] fz (.int .i64 (ecount e)):=Yi3 _ (Nat.le_refl _) h hc
set_option maxHeartbeats 1000000 in
theorem size_f:∀ (s:Nat) {fz:FZ} {f:Formula} {va vp ve vk:Value},SizeOf.sizeOf f≤s→FormulaR fz f va vp ve vk→fcount f≤1000000000000→
 QFn Tryz.prog 13 [.agg #[.string f.op,.string f.name,va,vp,ve,vk]] fz (.int .i64 (fcount f))
 | 0,_,e,_,_,_,_,hs,_,_=>by cases e;simp at hs
 | s+1,fz,f,va,vp,ve,vk,hs,h,hc=>by
  obtain ⟨A,n,ca,rfl,ha⟩:=h.args
  obtain ⟨B,m,cb,rfl,hp⟩:=h.params
  obtain ⟨C,r,cr,rfl,he⟩:=h.exprs
  obtain ⟨D,q0,cq,rfl,hk⟩:=h.kids
  refine GFn.quiet ?_
  have lk:=hk.len
  have sk:=hk.short
  have le:=he.len
  have se:=he.short
  have ec:=YcE f
  (refine GFn.of_wp Tryz.func13 rfl Tryz.ntmps13 rfl rfl (fun w0=>?_))
  (refine Yp (Yq (Yc Zz (Xl _ Zz Zz (fun g0=>?_)))))
  ((repeat (first | refine zS ?_ | refine zA fun _=>?_)))
  refine YG (fun q σ fz' H'=>∃ (k:Nat) (c:Int),k≤r∧q=r - k∧σ=[(4,.int .i64 k),(3,.int .i64 c),(1,.pointer (some ⟨g0,0,none⟩))]∧fz=fz'∧H'=[(g0,.cells #[.string f.op,.string f.name,.slice A n ca,.slice B m cb,.slice C r cr,.slice D q0 cq] 36 (0,0))]∧c=((1+ecountL (f.exprs.take k):Nat):Int)) ⟨0,_,Nat.zero_le _,rfl,rfl,rfl,rfl,rfl⟩ (Zw) (Zb) ?_
  rintro q σ fz' H' ⟨k,c,hkm,rfl,rfl,rfl,rfl,hh⟩
  ((repeat (first | refine zS ?_ | refine zA fun _=>?_)))
  ((refine zG ?_;refine zC (fun c1=>?_) (fun c1=>?_)))
  ·obtain ⟨x,hx⟩:=YF (l:=f.exprs) (k:=k) Zi
   have hxm:=List.mem_of_getElem? hx
   have hst:=YbR hx
   have htk:=YbQ (l:=f.exprs) (k:=k+1)
   ((repeat (first | refine zS ?_ | refine zA fun _=>?_)))
   (((refine zG ?_));refine YB T k Zz Zz Zz Zz Zz Zz he (by first | rfl | omega) hx (fun p1 hp1=>?_))
   (((refine zG ?_));refine Yz T Zz Zz Zz hp1 Zz ?_)
   intro cs hcs
   obtain ⟨wa,wk,rfl,hRx⟩:=YQ hcs
   ((repeat (first | refine zS ?_ | refine zA fun _=>?_)))
   (((refine zG ?_));refine Yj Zz Zz (Yi2 hRx Zi) ?_)
   ((repeat (first | refine zS ?_ | refine zA fun _=>?_)))
   exact YP ⟨k+1,c+(ecount x:Nat),by omega,rfl,rfl,rfl,rfl,by omega⟩ Zi (Zw) (Zb)
  ·rw [List.take_of_length_le Zi] at hh
   ((repeat (first | refine zS ?_ | refine zA fun _=>?_)))
   refine YG (fun q σ fz' H'=>∃ (k:Nat) (c:Int),k≤q0∧q=q0 - k∧σ=[(5,.int .i64 k),(3,.int .i64 c),(1,.pointer (some ⟨g0,0,none⟩))]∧fz=fz'∧H'=[(g0,.cells #[.string f.op,.string f.name,.slice A n ca,.slice B m cb,.slice C r cr,.slice D q0 cq] 36 (0,0))]∧c=((1+ecountL f.exprs+fcountL (f.kids.take k):Nat):Int)) ⟨0,c,Nat.zero_le _,rfl,rfl,rfl,rfl,by rw [hh];simp [fcountL]⟩ (Zw) (Zb) ?_
   rintro q σ fz' H' ⟨k,c,hkm,rfl,rfl,rfl,rfl,hh⟩
   ((repeat (first | refine zS ?_ | refine zA fun _=>?_)))
   ((refine zG ?_;refine zC (fun c2=>?_) (fun c2=>?_)))
   ·obtain ⟨x,hx⟩:=YF (l:=f.kids) (k:=k) Zi
    have hxm:=List.mem_of_getElem? hx
    have hlt:=Formula.kids_lt hxm
    have hst:=Ydq hx
    have htk:=Ydp (l:=f.kids) (k:=k+1)
    ((repeat (first | refine zS ?_ | refine zA fun _=>?_)))
    (((refine zG ?_));refine YB T k Zz Zz Zz Zz Zz Zz hk (by first | rfl | omega) hx (fun p1 hp1=>?_))
    (((refine zG ?_));refine Yz T Zz Zz Zz hp1 Zz ?_)
    intro cs hcs
    obtain ⟨w1,w2,w3,w4,rfl,hRx⟩:=YY hcs
    ((repeat (first | refine zS ?_ | refine zA fun _=>?_)))
    (((refine zG ?_));refine Yj Zz Zz (size_f s Zi hRx Zi) ?_)
    ((repeat (first | refine zS ?_ | refine zA fun _=>?_)))
    exact YP ⟨k+1,c+(fcount x:Nat),by omega,rfl,rfl,rfl,rfl,by omega⟩ Zi (Zw) (Zb)
   ·rw [List.take_of_length_le Zi] at hh
    ((repeat (first | refine zS ?_ | refine zA fun _=>?_)))
    (exact ret1 rfl rfl (Zb) (by rw [hh,ec]))
theorem YeO {fz:FZ} {f:Formula} {va vp ve vk:Value} (h:FormulaR fz f va vp ve vk) (hc:fcount f≤1000000000000):
 QFn Tryz.prog 13 [.agg #[.string f.op,.string f.name,va,vp,ve,vk]] fz (.int .i64 (fcount f)):=size_f _ (Nat.le_refl _) h hc
def hvC (c:Change):Nat:=1+c.params.length+c.args.length+fcount c.when_+ecount c.value
def YaR (l:List Change):Nat:=(l.map hvC).sum
theorem hvC_le (c:Change):hvC c≤1*X1 c:=by
 have h1:=fcount_le c.when_
 have h2:=ecount_le c.value
 unfold hvC X1;omega
theorem Yea (l:List Change):YaR l≤(l.map X1).sum:=by
 have:=YdQ hvC_le l
 unfold YaR;omega
set_option maxHeartbeats 1000000 in
theorem Yhh {fz:FZ} {A:Option Addr} {n ca:Nat} {l:List Change} (h1:Sl changeL fz A n ca l) (hc:YaR l≤1000000000000):
 QFn Tryz.prog 14 [.slice A n ca] fz (.int .i64 (YaR l)):=by
 refine GFn.quiet ?_
 have l1:=h1.len
 have s1:=h1.short
 (refine GFn.of_wp Tryz.func14 rfl Tryz.ntmps14 rfl rfl (fun w0=>?_))
 ((repeat (first | refine zS ?_ | refine zA fun _=>?_)))
 refine YG (fun q σ fz' H'=>∃ (k:Nat) (c:Int),k≤n∧q=n - k∧σ=[(4,.int .i64 k),(3,.int .i64 c),(0,.slice A n ca)]∧fz=fz'∧H'=[]∧c=((((l.take k).map hvC).sum:Nat):Int)) ⟨0,_,Nat.zero_le _,rfl,rfl,rfl,rfl,rfl⟩ (Zw) (Zb) ?_
 rintro q σ fz' H' ⟨k,c,hkm,rfl,rfl,rfl,rfl,hh⟩
 ((repeat (first | refine zS ?_ | refine zA fun _=>?_)))
 ((refine zG ?_;refine zC (fun c1=>?_) (fun c1=>?_)))
 ·obtain ⟨x,hx⟩:=YF (l:=l) (k:=k) Zi
  have hst:=Yfe (w:=hvC) hx
  have htk:=Yfd (w:=hvC) (l:=l) (k:=k+1)
  unfold YaR at hc
  have hvx:hvC x=1+x.params.length+x.args.length+fcount x.when_+ecount x.value:=rfl
  ((repeat (first | refine zS ?_ | refine zA fun _=>?_)))
  (((refine zG ?_));refine YB T k Zz Zz Zz Zz Zz Zz h1 (by first | rfl | omega) hx (fun p1 hp1=>?_))
  ((repeat (first | refine zS ?_ | refine zA fun _=>?_)))
  (((refine zG ?_));refine YbD T Zz Zz Zz hp1.Change_params (fun P1 pn1 pc1 ip=>?_))
  have lp:=ip.len
  ((repeat (first | refine zS ?_ | refine zA fun _=>?_)))
  (((refine zG ?_));refine YB T k Zz Zz Zz Zz Zz Zz h1 (by first | rfl | omega) hx (fun p2 hp2=>?_))
  ((repeat (first | refine zS ?_ | refine zA fun _=>?_)))
  (((refine zG ?_));refine YbD T Zz Zz Zz hp2.Change_args (fun P2 pn2 pc2 ia=>?_))
  have la:=ia.len
  ((repeat (first | refine zS ?_ | refine zA fun _=>?_)))
  (((refine zG ?_));refine YB T k Zz Zz Zz Zz Zz Zz h1 (by first | rfl | omega) hx (fun p3 hp3=>?_))
  ((repeat (first | refine zS ?_ | refine zA fun _=>?_)))
  (((refine zG ?_));refine Yz T Zz Zz Zz hp3.Change_when_ Zz ?_)
  intro cs3 hcs3
  obtain ⟨w1,w2,w3,w4,rfl,hR3⟩:=YY hcs3
  (((refine zG ?_));refine Yj Zz Zz (YeO hR3 Zi) ?_)
  ((repeat (first | refine zS ?_ | refine zA fun _=>?_)))
  (((refine zG ?_));refine YB T k Zz Zz Zz Zz Zz Zz h1 (by first | rfl | omega) hx (fun p4 hp4=>?_))
  ((repeat (first | refine zS ?_ | refine zA fun _=>?_)))
  (((refine zG ?_));refine Yz T Zz Zz Zz hp4.Change_value Zz ?_)
  intro cs4 hcs4
  obtain ⟨u1,u2,rfl,hR4⟩:=YQ hcs4
  (((refine zG ?_));refine Yj Zz Zz (Yi2 hR4 Zi) ?_)
  ((repeat (first | refine zS ?_ | refine zA fun _=>?_)))
  exact YP ⟨k+1,c+(1+pn1+pn2+(fcount x.when_:Nat)+(ecount x.value:Nat)),by omega,rfl,rfl,rfl,rfl,by omega⟩ Zi (Zw) (Zb)
 ·rw [List.take_of_length_le Zi] at hh
  ((repeat (first | refine zS ?_ | refine zA fun _=>?_)))
  (exact ret1 rfl rfl (Zb) (by rw [hh];rfl))
def laA (a:Action):Nat:=1+fcount a.pre+YaR a.changes
def laU (a:Durative):Nat:=1+fcount a.start+fcount a.over+fcount a.fin+YaR a.atStart+YaR a.atEnd
def Ygu (d:Domain) (p:Problem):Nat:=d.types.length+d.constants.length+d.predicates.length+d.functions.length+p.objects.length+p.init.length+p.values.length+fcount p.goal+(d.actions.map laA).sum+(d.duratives.map laU).sum
theorem laA_le (a:Action):laA a≤1*actW a:=by
 have h1:=fcount_le a.pre
 have h2:=Yea a.changes
 unfold laA actW;omega
theorem laU_le (a:Durative):laU a≤1*durW a:=by
 have h1:=fcount_le a.start
 have h2:=fcount_le a.over
 have h3:=fcount_le a.fin
 have h4:=Yea a.atStart
 have h5:=Yea a.atEnd
 unfold laU durW;omega
theorem YjE (d:Domain) (p:Problem):Ygu d p≤domW d+prbW p:=by
 have h1:=YdQ laA_le d.actions
 have h2:=YdQ laU_le d.duratives
 have h3:=fcount_le p.goal
 have h4:=YaC Ygm d.predicates
 have h5:=YaC Yh0 d.functions
 have h6:=YaC Ykf p.init
 have h7:=YaC Yio p.values
 unfold Ygu domW prbW;omega
set_option maxHeartbeats 4000000 in
theorem large_q {fz:FZ} {d:Domain} {p:Problem} {v1 v2 v3 v4 v5 v6 u1 u2 u3 u4 u5 u6 u7:Value} (h:DomainR fz d v1 v2 v3 v4 v5 v6) (hp:ProblemR fz p u1 u2 u3 u4 u5 u6 u7) (hn:Ygu d p≤1000000000000):
 QFn Tryz.prog 6 [.agg #[.string d.name,v1,v2,v3,v4,v5,v6],.agg #[.string p.name,.string p.domain,u1,u2,u3,.string p.goal.op,.string p.goal.name,u4,u5,u6,u7]] fz (.bool (decide (2000<Ygu d p))):=by
 obtain ⟨A1,n1,b1,rfl,i1⟩:=h.types
 have l1:=i1.len
 obtain ⟨A2,n2,b2,rfl,i2⟩:=h.constants
 have l2:=i2.len
 obtain ⟨A3,n3,b3,rfl,i3⟩:=h.predicates
 have l3:=i3.len
 obtain ⟨A4,n4,b4,rfl,i4⟩:=h.functions
 have l4:=i4.len
 obtain ⟨A5,n5,b5,rfl,i5⟩:=h.actions
 have l5:=i5.len
 obtain ⟨A6,n6,b6,rfl,i6⟩:=h.duratives
 have l6:=i6.len
 have s5:=i5.short
 have s6:=i6.short
 obtain ⟨C1,m1,e1,rfl,j1⟩:=hp.objects
 have k1:=j1.len
 obtain ⟨C2,m2,e2,rfl,j2⟩:=hp.init
 have k2:=j2.len
 obtain ⟨C3,m3,e3,rfl,j3⟩:=hp.values
 have k3:=j3.len
 have hg:=hp.goal
 obtain ⟨U1,w1,z1,rfl,_⟩:=hp.goal.args
 obtain ⟨U2,w2,z2,rfl,_⟩:=hp.goal.params
 obtain ⟨U3,w3,z3,rfl,_⟩:=hp.goal.exprs
 obtain ⟨U4,w4,z4,rfl,_⟩:=hp.goal.kids
 refine GFn.quiet ?_
 have hnn:Ygu d p=d.types.length+d.constants.length+d.predicates.length+d.functions.length+p.objects.length+p.init.length+p.values.length+fcount p.goal+(d.actions.map laA).sum+(d.duratives.map laU).sum:=rfl
 (refine GFn.of_wp Tryz.func6 rfl Tryz.ntmps6 rfl rfl (fun w0=>?_))
 (refine Yp (Yq (Yc Zz (Xl _ Zz Zz (fun g0=>?_)))))
 (refine Yc Zz (Xl _ Zz Zz (fun g1=>?_)))
 ((repeat (first | refine zS ?_ | refine zA fun _=>?_)))
 (((refine zG ?_));refine Yu (vs:=[.string p.goal.op,.string p.goal.name,.slice U1 w1 z1,.slice U2 w2 z2,.slice U3 w3 z3,.slice U4 w4 z4]) T 0 Zz Zz Zz Zz Zz Zz ?_)
 (((refine zG ?_));refine Yj Zz Zz (YeO hg Zi) ?_)
 ((repeat (first | refine zS ?_ | refine zA fun _=>?_)))
 refine YG (fun q σ fz' H'=>∃ (k:Nat) (c:Int),k≤n5∧q=n5 - k∧σ=[(6,.int .i64 k),(5,.int .i64 c),(2,.pointer (some ⟨g0,0,none⟩))]∧fz=fz'∧H'=[(g0,.cells #[.string d.name,.slice A1 n1 b1,.slice A2 n2 b2,.slice A3 n3 b3,.slice A4 n4 b4,.slice A5 n5 b5,.slice A6 n6 b6] 28 (0,0))]∧c=((n1+n2+n3+n4+m1+m2+m3+fcount p.goal+((d.actions.take k).map laA).sum:Nat):Int)) ⟨0,(n1:Int)+n2+n3+n4+m1+m2+m3+(fcount p.goal:Nat),Nat.zero_le _,rfl,rfl,rfl,rfl,by simp⟩ (Zw) (List.Sublist.cons _ (List.Sublist.refl _)) ?_
 rintro q σ fz' H' ⟨k,c,hkm,rfl,rfl,rfl,rfl,hh⟩
 ((repeat (first | refine zS ?_ | refine zA fun _=>?_)))
 ((refine zG ?_;refine zC (fun c1=>?_) (fun c1=>?_)))
 ·obtain ⟨x,hx⟩:=YF (l:=d.actions) (k:=k) Zi
  have hst:=Yfe (w:=laA) hx
  have htk:=Yfd (w:=laA) (l:=d.actions) (k:=k+1)
  have hvx:laA x=1+fcount x.pre+YaR x.changes:=rfl
  ((repeat (first | refine zS ?_ | refine zA fun _=>?_)))
  (((refine zG ?_));refine YB T k Zz Zz Zz Zz Zz Zz i5 (by first | rfl | omega) hx (fun pp1 hp1=>?_))
  ((repeat (first | refine zS ?_ | refine zA fun _=>?_)))
  (((refine zG ?_));refine Yz T Zz Zz Zz hp1.Action_pre Zz ?_)
  intro cs1 hcs1
  obtain ⟨s1,s2,s3,s4,rfl,hR1⟩:=YY hcs1
  (((refine zG ?_));refine Yj Zz Zz (YeO hR1 Zi) ?_)
  ((repeat (first | refine zS ?_ | refine zA fun _=>?_)))
  (((refine zG ?_));refine YB T k Zz Zz Zz Zz Zz Zz i5 (by first | rfl | omega) hx (fun pp2 hp2=>?_))
  ((repeat (first | refine zS ?_ | refine zA fun _=>?_)))
  (((refine zG ?_));refine YbD T Zz Zz Zz hp2.Action_changes (fun P2 pn2 pc2 ic=>?_))
  (((refine zG ?_));refine Yj Zz Zz (Yhh ic Zi) ?_)
  ((repeat (first | refine zS ?_ | refine zA fun _=>?_)))
  exact YP ⟨k+1,c+(1+(fcount x.pre:Nat)+(YaR x.changes:Nat)),by omega,rfl,rfl,rfl,rfl,by omega⟩ Zi (Zw) (Zb)
 ·rw [List.take_of_length_le Zi] at hh
  ((repeat (first | refine zS ?_ | refine zA fun _=>?_)))
  refine YG (fun q σ fz' H'=>∃ (k:Nat) (c:Int),k≤n6∧q=n6 - k∧σ=[(7,.int .i64 k),(5,.int .i64 c),(2,.pointer (some ⟨g0,0,none⟩))]∧fz=fz'∧H'=[(g0,.cells #[.string d.name,.slice A1 n1 b1,.slice A2 n2 b2,.slice A3 n3 b3,.slice A4 n4 b4,.slice A5 n5 b5,.slice A6 n6 b6] 28 (0,0))]∧c=((n1+n2+n3+n4+m1+m2+m3+fcount p.goal+(d.actions.map laA).sum+((d.duratives.take k).map laU).sum:Nat):Int)) ⟨0,c,Nat.zero_le _,rfl,rfl,rfl,rfl,by rw [hh];simp⟩ (Zw) (Zb) ?_
  rintro q σ fz' H' ⟨k,c,hkm,rfl,rfl,rfl,rfl,hh⟩
  ((repeat (first | refine zS ?_ | refine zA fun _=>?_)))
  ((refine zG ?_;refine zC (fun c2=>?_) (fun c2=>?_)))
  ·obtain ⟨x,hx⟩:=YF (l:=d.duratives) (k:=k) Zi
   have hst:=Yfe (w:=laU) hx
   have htk:=Yfd (w:=laU) (l:=d.duratives) (k:=k+1)
   have hvx:laU x=1+fcount x.start+fcount x.over+fcount x.fin+YaR x.atStart+YaR x.atEnd:=rfl
   ((repeat (first | refine zS ?_ | refine zA fun _=>?_)))
   (((refine zG ?_));refine YB T k Zz Zz Zz Zz Zz Zz i6 (by first | rfl | omega) hx (fun pp1 hp1=>?_))
   (((refine zG ?_));refine Yz T Zz Zz Zz hp1 Zz ?_)
   intro cs1 hcs1
   obtain ⟨r0,r1,r2,r3,r4,r5,r6,r7,r8,r9,r10,r11,r12,r13,r14,rfl,hR⟩:=W9 hcs1
   obtain ⟨P,p1,q1,rfl,ip⟩:=hR.params
   have hS1:=hR.start
   have hS2:=hR.over
   have hS3:=hR.fin
   obtain ⟨V1,a1,y1,rfl,_⟩:=hR.start.args
   obtain ⟨V2,a2,y2,rfl,_⟩:=hR.start.params
   obtain ⟨V3,a3,y3,rfl,_⟩:=hR.start.exprs
   obtain ⟨V4,a4,y4,rfl,_⟩:=hR.start.kids
   obtain ⟨V5,a5,y5,rfl,_⟩:=hR.over.args
   obtain ⟨V6,a6,y6,rfl,_⟩:=hR.over.params
   obtain ⟨V7,a7,y7,rfl,_⟩:=hR.over.exprs
   obtain ⟨V8,a8,y8,rfl,_⟩:=hR.over.kids
   obtain ⟨V9,a9,y9,rfl,_⟩:=hR.fin.args
   obtain ⟨V10,a10,y10,rfl,_⟩:=hR.fin.params
   obtain ⟨V11,a11,y11,rfl,_⟩:=hR.fin.exprs
   obtain ⟨V12,a12,y12,rfl,_⟩:=hR.fin.kids
   obtain ⟨V13,a13,y13,rfl,ia⟩:=hR.atStart
   obtain ⟨V14,a14,y14,rfl,ie⟩:=hR.atEnd
   ((repeat (first | refine zS ?_ | refine zA fun _=>?_)))
   (((refine zG ?_));refine Yu (vs:=[.string x.start.op,.string x.start.name,.slice V1 a1 y1,.slice V2 a2 y2,.slice V3 a3 y3,.slice V4 a4 y4]) T 0 Zz Zz Zz Zz Zz Zz ?_)
   ((repeat (first | refine zS ?_ | refine zA fun _=>?_)))
   (((refine zG ?_));refine Yj Zz Zz (YeO hS1 Zi) ?_)
   ((repeat (first | refine zS ?_ | refine zA fun _=>?_)))
   (((refine zG ?_));refine Yu (vs:=[.string x.over.op,.string x.over.name,.slice V5 a5 y5,.slice V6 a6 y6,.slice V7 a7 y7,.slice V8 a8 y8]) T 0 Zz Zz Zz Zz Zz Zz ?_)
   ((repeat (first | refine zS ?_ | refine zA fun _=>?_)))
   (((refine zG ?_));refine Yj Zz Zz (YeO hS2 Zi) ?_)
   ((repeat (first | refine zS ?_ | refine zA fun _=>?_)))
   (((refine zG ?_));refine Yu (vs:=[.string x.fin.op,.string x.fin.name,.slice V9 a9 y9,.slice V10 a10 y10,.slice V11 a11 y11,.slice V12 a12 y12]) T 0 Zz Zz Zz Zz Zz Zz ?_)
   ((repeat (first | refine zS ?_ | refine zA fun _=>?_)))
   (((refine zG ?_));refine Yj Zz Zz (YeO hS3 Zi) ?_)
   ((repeat (first | refine zS ?_ | refine zA fun _=>?_)))
   (((refine zG ?_));refine Yj Zz Zz (Yhh ia Zi) ?_)
   ((repeat (first | refine zS ?_ | refine zA fun _=>?_)))
   (((refine zG ?_));refine Yj Zz Zz (Yhh ie Zi) ?_)
   ((repeat (first | refine zS ?_ | refine zA fun _=>?_)))
   exact YP ⟨k+1,c+(1+(fcount x.start:Nat)+(fcount x.over:Nat)+(fcount x.fin:Nat)+(YaR x.atStart:Nat)+(YaR x.atEnd:Nat)),by omega,rfl,rfl,rfl,rfl,by omega⟩ Zi (Zw) (Zb)
  ·rw [List.take_of_length_le Zi] at hh
   ((repeat (first | refine zS ?_ | refine zA fun _=>?_)))
   ((refine zG ?_;refine zC (fun c3=>?_) (fun c3=>?_)))
   ·((repeat (first | refine zS ?_ | refine zA fun _=>?_)))
    (exact ret1 rfl rfl (Zb) (Yy Zi))
   ·((repeat (first | refine zS ?_ | refine zA fun _=>?_)))
    (exact ret1 rfl rfl (Zb) (Ya Zi))
end Go.Proofs.YtbhlgkibgajajaaGreatDoor
namespace Go.Lx
open Go
def Ln (l:List UInt8):Prop:=∃ (j:Nat) (mid:List UInt8) (m:Nat),l=List.replicate j 32++(mid++List.replicate m 41)∧mid≠ []∧mid.head?≠some 32∧10 ∉ mid∧(j+mid.length≤80∨32 ∉ mid)
inductive Lns:List UInt8→Prop
 | one {l:List UInt8}:Ln l→Lns l
 | more {l t:List UInt8}:Ln l→Lns t→Lns (l++10::t)
theorem Lns.append {a b:List UInt8} (ha:Lns a) (hb:Lns b):Lns (a++10::b):=by
 induction ha with
 | one h=>exact .more h hb
 | more h _ ih=>rw [List.append_assoc];exact .more h ih
theorem Ln.no10 {l:List UInt8} (h:Ln l):10 ∉ l:=by
 obtain ⟨j,mid,m,rfl,_,_,h,_⟩:=h
 simp only [List.mem_append,List.mem_replicate,not_or]
 exact ⟨fun h0=>absurd h0.2 Zh,h,fun h0=>absurd h0.2 Zh⟩
theorem Yi0 {a b c d:List UInt8} (ha:10 ∉ a) (hc:10 ∉ c) (h:a++10::b=c++10::d):a=c∧b=d:=by
 induction a generalizing c with
 | nil=>
  cases c with
  | nil=>simpa using h
  | cons x r=>simp at h;exact absurd h.1 (fun h0=>hc (by simp [h0]))
 | cons x r ih=>
  cases c with
  | nil=>simp at h;exact absurd h.1 (fun h0=>ha (by simp [h0]))
  | cons y s=>
   simp at h
   have:=ih (c:=s) (fun h0=>ha (by simp [h0])) (fun h0=>hc (by simp [h0])) h.2
   exact ⟨by rw [h.1,this.1],this.2⟩
theorem Lns.first {t cur rest:List UInt8} (h:Lns t) (hc:10 ∉ cur) (e:cur++10::rest=t++ [10]):Ln cur∧(rest=[]∨∃ t',Lns t'∧rest=t'++ [10]):=by
 cases h with
 | one h=>
  have:=Yi0 hc h.no10 e
  exact ⟨this.1 ▸ h,.inl this.2⟩
 | more h ht=>
  rename_i l t'
  rw [List.append_assoc,List.cons_append] at e
  have:=Yi0 hc h.no10 e
  exact ⟨this.1 ▸ h,.inr ⟨t',ht,this.2⟩⟩
def XTx (x:Sexpr):Prop:=x.kind=1→x.text.data.toList≠ []∧32 ∉ x.text.data.toList∧10 ∉ x.text.data.toList
theorem dec_no {u:Nat} {c:UInt8} (hc:c.toNat<48):Lib.decDigits u≠ []∧c ∉ Lib.decDigits u:=by
 have key:∀ n:Nat,n<10→c≠UInt8.ofNat (48+n):=fun n hn h=>by
  have:(UInt8.ofNat (48+n)).toNat=48+n:=by simp [UInt8.toNat_ofNat'];omega
  rw [h,this] at hc;omega
 induction u using Nat.strongRecOn with
 | ind u ih=>
  rw [Lib.decDigits]
  split
  ·rename_i h
   exact ⟨by simp,by simpa using key u h⟩
  ·rename_i h
   have:=ih (u / 10) Zi
   refine ⟨by simp,?_⟩
   simp only [List.mem_append,not_or]
   exact ⟨this.2,by simpa using key (u % 10) Zi⟩
theorem itoa_no {n:Int} {c:UInt8} (hc:c.toNat<45):Lib.itoa n≠ []∧c ∉ Lib.itoa n:=by
 unfold Lib.itoa
 split
 ·refine ⟨by simp,?_⟩
  simp only [List.mem_cons,not_or]
  exact ⟨fun h=>by subst h;simp at hc,(dec_no Zi).2⟩
 ·exact dec_no Zi
theorem txt_ne {x:Sexpr} (h:XTx x):txt x≠ []:=by
 rw [Yf3]
 split
 ·rename_i hk;exact (h hk).1
 ·split
  ·exact (itoa_no (c:=32) Zh).1
  ·simp
theorem txt_one {x:Sexpr} (h:XTx x) (hk:x.kind≠3∨x.kids.length=0) (h3:x.kind=1∨x.kind=2∨x.kind=3):32 ∉ txt x:=by
 rw [Yf3]
 split
 ·rename_i h1;exact (h h1).2.1
 ·split
  ·exact (itoa_no (c:=32) Zh).2
  ·rename_i h1 h2
   have h4:x.kids=[]:=List.eq_nil_of_length_eq_zero Zi
   rw [h4]
   decide
theorem mem_join {c:UInt8} {l:List (List UInt8)} (h:c∈Lib.join l [32]):c=32∨∃ t∈l,c∈t:=by
 cases l with
 | nil=>simp [Lib.join_nil] at h
 | cons a r=>
  rw [Lib.join_cons,Lib.joinTail] at h
  rcases List.mem_append.1 h with h | h
  ·exact .inr ⟨a,by simp,h⟩
  ·obtain ⟨t,ht,hc⟩:=List.mem_flatten.1 h
   obtain ⟨u,hu,rfl⟩:=List.mem_map.1 ht
   simp at hc
   rcases hc with hc | hc
   ·exact .inl hc
   ·exact .inr ⟨u,by simp [hu],hc⟩
mutual
theorem txt_no10:∀ {x:Sexpr},XAll XTx x→10 ∉ txt x
 | .mk k v l c t ks,h=>by
  rw [XAll] at h
  have hs:=txtL_no10 h.2
  rw [txt]
  split
  ·rename_i h1;exact (h.1 h1).2.2
  ·split
   ·exact (itoa_no (c:=10) Zh).2
   ·simp only [List.mem_cons,List.mem_append,List.not_mem_nil,or_false,not_or]
    refine ⟨by decide,fun h0=>?_,by decide⟩
    rcases mem_join h0 with h0 | ⟨u,hu,h0⟩
    ·exact absurd h0 Zh
    ·exact hs u hu h0
theorem txtL_no10:∀ {l:List Sexpr},XAllL XTx l→∀ u∈txtL l,10 ∉ u
 | [],_=>by simp [txtL]
 | x::r,h=>by
  rw [XAllL] at h
  have h1:=txt_no10 h.1
  have h2:=txtL_no10 h.2
  simp only [txtL,List.mem_cons,forall_eq_or_imp]
  exact ⟨h1,h2⟩
end
theorem head_no {k:Nat} {l:List UInt8} (h1:l≠ []) (h2:l.head?≠some 32):(List.replicate k 40++l).head?≠some 32:=by
 cases k with
 | zero=>simpa using h2
 | succ k=>simp [List.replicate_succ]
theorem txt_head {x:Sexpr} (h:XTx x):(txt x).head?≠some 32:=by
 rw [Yf3]
 have key:∀ l:List UInt8,32 ∉ l→l.head?≠some 32:=fun l h0 h1=>by
  cases l with
  | nil=>simp at h1
  | cons a r=>simp at h1;subst h1;simp at h0
 split
 ·rename_i h1;exact key _ (h h1).2.1
 ·split
  ·exact key _ (itoa_no (c:=32) Zh).2
  ·simp
def XK (x:Sexpr):Prop:=XTx x∧(x.kind=1∨x.kind=2∨x.kind=3)
mutual
theorem all_tx:∀ {x:Sexpr},XAll XK x→XAll XTx x
 | .mk k v l c t ks,h=>by
  rw [XAll] at h ⊢
  exact ⟨h.1.1,all_txL h.2⟩
theorem all_txL:∀ {l:List Sexpr},XAllL XK l→XAllL XTx l
 | [],_=>by simp [XAllL]
 | x::r,h=>by
  rw [XAllL] at h ⊢
  exact ⟨all_tx h.1,all_txL h.2⟩
end
theorem snoc41 {m:Nat} {a:List UInt8}:a++ [41]++List.replicate m 41=a++List.replicate (m+1) 41:=by
 rw [List.append_assoc];rfl
mutual
theorem lay_lns:∀ {x:Sexpr} {i j k m:Nat},XAll XK x→j+k=i→Lns (List.replicate j 32++(List.replicate k 40++(lay 80 x i++List.replicate m 41)))
 | .mk kd v l c t ks,i,j,k,m,h,hi=>by
  have hT:=all_tx h
  have h0:=h
  rw [XAll] at h0
  by_cases hf:kd≠3∨ks.length=0∨i+(txt (.mk kd v l c t ks)).length≤80
  ·rw [lay,if_pos hf]
   refine .one ⟨j,List.replicate k 40++txt (.mk kd v l c t ks),m,by simp only [List.append_assoc],?_,head_no (txt_ne h0.1.1) (txt_head h0.1.1),?_,?_⟩
   ·intro h1
    exact txt_ne h0.1.1 (List.append_eq_nil_iff.1 h1).2
   ·simp only [List.mem_append,List.mem_replicate,not_or]
    exact ⟨fun h1=>absurd h1.2 Zh,txt_no10 hT⟩
   ·by_cases hw:i+(txt (.mk kd v l c t ks)).length≤80
    ·left;simp only [List.length_append,List.length_replicate];omega
    ·right
     simp only [List.mem_append,List.mem_replicate,not_or]
     refine ⟨fun h1=>absurd h1.2 Zh,txt_one h0.1.1 ?_ h0.1.2⟩
     rcases hf with hf | hf | hf
     ·exact .inl hf
     ·exact .inr hf
     ·exact absurd hf hw
  ·rw [lay,if_neg hf]
   have e:List.replicate k 40++((40:UInt8)::(layH 80 ks i++ [41])++List.replicate m 41)=List.replicate (k+1) 40++(layH 80 ks i++List.replicate (m+1) 41):=by
    rw [List.replicate_succ' (n:=k),List.cons_append,snoc41,List.append_assoc];rfl
   rw [e]
   exact layH_lns h0.2 (fun h1=>hf (.inr (.inl (by rw [h1];rfl)))) Zi
theorem layH_lns:∀ {ks:List Sexpr} {i j k m:Nat},XAllL XK ks→ks≠ []→j+k=i+1→Lns (List.replicate j 32++(List.replicate k 40++(layH 80 ks i++List.replicate m 41)))
 | [],_,_,_,_,_,h,_=>absurd rfl h
 | x::r,i,j,k,m,h,_,hi=>by
  rw [XAllL] at h
  rw [layH]
  cases hr:r with
  | nil=>
   rw [layT,List.append_nil]
   exact lay_lns h.1 hi
  | cons y s=>
   obtain ⟨u,hu,hl⟩:=layT_lns (ks:=r) (i:=i+2) (m:=m) h.2 (by rw [hr];simp)
   have h1:=lay_lns (i:=i+1) (j:=j) (k:=k) (m:=0) h.1 hi
   rw [List.replicate_zero,List.append_nil] at h1
   have:=h1.append hl
   rw [← hr,hu]
   simpa only [List.append_assoc,List.cons_append] using this
theorem layT_lns:∀ {ks:List Sexpr} {i m:Nat},XAllL XK ks→ks≠ []→∃ u,layT 80 ks i=10::u∧Lns (u++List.replicate m 41)
 | [],_,_,_,h=>absurd rfl h
 | x::r,i,m,h,_=>by
  rw [XAllL] at h
  refine ⟨(List.replicate i 32++lay 80 x i)++layT 80 r i,by rw [layT,List.cons_append],?_⟩
  cases hr:r with
  | nil=>
   rw [layT,List.append_nil]
   have:=lay_lns (i:=i) (j:=i) (k:=0) (m:=m) h.1 Zi
   simpa only [List.replicate_zero,List.nil_append,List.append_assoc] using this
  | cons y s=>
   obtain ⟨u,hu,hl⟩:=layT_lns (ks:=r) (i:=i) (m:=m) h.2 (by rw [hr];simp)
   have h1:=lay_lns (i:=i) (j:=i) (k:=0) (m:=0) h.1 Zi
   simp only [List.replicate_zero,List.append_nil,List.nil_append] at h1
   have:=h1.append hl
   rw [← hr,hu]
   simpa only [List.append_assoc,List.cons_append] using this
end
end Go.Lx
set_option maxRecDepth 20000
namespace Go.Proofs.YtbhlgkibgajajaaGreatDoor
open Go.Lx Go.RowKit
attribute [local instance 10] Classical.propDecidable
theorem num_q {fz:FZ} {n:Int}:QFn Tryz.prog 20 [errV n] fz (.int .i64 n):=by
 by_cases h:n=0
 ·subst h
  refine GFn.quiet ?_
  rw [show errV 0=.nilIface from rfl]
  (refine GFn.of_wp Tryz.func20 rfl Tryz.ntmps20 rfl rfl (fun w0=>?_))
  ((repeat (first | refine zS ?_ | refine zA fun _=>?_)))
  (exact ret1 rfl rfl (Zb) rfl)
 ·refine GFn.quiet ?_
  rw [Ybt h]
  (refine GFn.of_wp Tryz.func20 rfl Tryz.ntmps20 rfl rfl (fun w0=>?_))
  ((repeat (first | refine zS ?_ | refine zA fun _=>?_)))
  (exact ret1 rfl rfl (Zb) rfl)
theorem is_q {fz:FZ} {n m:Int} (hm:m≠0):QFn Tryz.prog 10 [errV n,.int .i64 m] fz (.bool (decide (n=m))):=by
 by_cases h:n=0
 ·subst h
  refine GFn.quiet ?_
  rw [show errV 0=.nilIface from rfl]
  (refine GFn.of_wp Tryz.func10 rfl Tryz.ntmps10 rfl rfl (fun w0=>?_))
  ((repeat (first | refine zS ?_ | refine zA fun _=>?_)))
  (exact ret1 rfl rfl (Zb) (Ya (fun h=>hm h.symm)))
 ·refine GFn.quiet ?_
  rw [Ybt h]
  (refine GFn.of_wp Tryz.func10 rfl Tryz.ntmps10 rfl rfl (fun w0=>?_))
  ((repeat (first | refine zS ?_ | refine zA fun _=>?_)))
  (((refine zG ?_));refine Yj Zz Zz (by have:=num_q (fz:=fz) (n:=n);rw [Ybt h] at this;exact this) ?_)
  ((repeat (first | refine zS ?_ | refine zA fun _=>?_)))
  ((refine zG ?_;refine zC (fun c1=>?_) (fun c1=>?_)))
  ·((repeat (first | refine zS ?_ | refine zA fun _=>?_)))
   (exact ret1 rfl rfl (Zb) (Yy c1))
  ·((repeat (first | refine zS ?_ | refine zA fun _=>?_)))
   (exact ret1 rfl rfl (Zb) (Ya c1))
theorem Yiy {fz:FZ} {x:Sexpr} {vk:Value} (h:Y9 fz x vk) (hv:XVal x) (hT:TabF fz):
 QFn Tryz.prog 16 [.agg #[.int .i64 x.kind,.int .i64 x.value,.int .i64 x.line,.int .i64 x.column,.string x.text,vk],.nilIface] fz (.tuple #[.string (strOf (lay 80 x 0++ [10])),.nilIface]):=by
 obtain ⟨A,n,c,rfl,_⟩:=h.kids
 have hL:=YiQ h hT
 rw [if_pos hv] at hL
 have hl:=YcS (w:=80) (i:=0) hv.1 (by have:=hv.2.1;omega)
 have hc:=hv.2.2
 refine GFn.quiet ?_
 (refine GFn.of_wp Tryz.func16 rfl Tryz.ntmps16 rfl rfl (fun w0=>?_))
 (refine Yp (Yq (Yc Zz (Xl _ Zz Zz (fun g0=>?_)))))
 ((repeat (first | refine zS ?_ | refine zA fun _=>?_)))
 (((refine zG ?_));refine Yj Zz Zz hL ?_)
 ((repeat (first | refine zS ?_ | refine zA fun _=>?_)))
 ((refine zG ?_));refine WM (b:=[10]) Zz Zz (by simp;omega) ?_
 ((repeat (first | refine zS ?_ | refine zA fun _=>?_)))
 exact ret2 rfl rfl rfl (Zb) rfl
theorem Yg5 {fz:FZ} {x:Sexpr} {vk:Value} (h:Y9 fz x vk):
 QFn Tryz.prog 16 [.agg #[.int .i64 x.kind,.int .i64 x.value,.int .i64 x.line,.int .i64 x.column,.string x.text,vk],.iface 47 (.int .i64 2)] fz (.tuple #[.string ⟨#[]⟩,.iface 47 (.int .i64 2)]):=by
 obtain ⟨A,n,c,rfl,_⟩:=h.kids
 refine GFn.quiet ?_
 (refine GFn.of_wp Tryz.func16 rfl Tryz.ntmps16 rfl rfl (fun w0=>?_))
 (refine Yp (Yq (Yc Zz (Xl _ Zz Zz (fun g0=>?_)))))
 ((repeat (first | refine zS ?_ | refine zA fun _=>?_)))
 exact ret2 rfl rfl rfl (Zb) rfl
noncomputable def txtV (P:Prop) (l:List UInt8):Value:=.tuple #[.string (if P then strOf l else ⟨#[]⟩),errV (if P then 0 else 2)]
theorem pdom_q {fz:FZ} {d:Domain} {v1 v2 v3 v4 v5 v6:Value} (h:DomainR fz d v1 v2 v3 v4 v5 v6) (hs:DomSm d) (hT:TabF fz):
 QFn Tryz.prog 8 [.agg #[.string d.name,v1,v2,v3,v4,v5,v6]] fz (txtV (YcP d∧XVal (domX d)) (lay 80 (domX d) 0++ [10])):=by
 obtain ⟨A1,n1,b1,rfl,i1⟩:=h.types
 obtain ⟨A2,n2,b2,rfl,i2⟩:=h.constants
 obtain ⟨A3,n3,b3,rfl,i3⟩:=h.predicates
 obtain ⟨A4,n4,b4,rfl,i4⟩:=h.functions
 obtain ⟨A5,n5,b5,rfl,i5⟩:=h.actions
 obtain ⟨A6,n6,b6,rfl,i6⟩:=h.duratives
 refine GFn.quiet ?_
 (refine GFn.of_wp Tryz.func8 rfl Tryz.ntmps8 rfl rfl (fun w0=>?_))
 (refine Yp (Yq (Yc Zz (Xl _ Zz Zz (fun g0=>?_)))))
 ((repeat (first | refine zS ?_ | refine zA fun _=>?_)))
 (refine Yc Zz (Yr [] _ Zz Zz Zz (dWrite_q h hs) (fun v6 fz6 H6 hle6 hR6=>?_)))
 obtain ⟨rfl,u,y,rfl,hy,hyx⟩:=hR6
 obtain ⟨A7,m7,c7,rfl,hX7⟩:=hy.x
 by_cases hP:YcP d∧XVal (domX d)
 ·have e:=hyx hP
  subst e
  rw [if_pos hP,show errV 0=.nilIface from rfl]
  ((repeat (first | refine zS ?_ | refine zA fun _=>?_)))
  (((refine zG ?_));refine Yj Zz Zz (Yiy hX7 hP.2 (hT.mono hle6)) ?_)
  ((repeat (first | refine zS ?_ | refine zA fun _=>?_)))
  exact ret2 rfl rfl rfl (Zb) (by rw [txtV,if_pos hP,if_pos hP];rfl)
 ·rw [if_neg hP,Ybt Zh]
  ((repeat (first | refine zS ?_ | refine zA fun _=>?_)))
  (((refine zG ?_));refine Yj Zz Zz (Yg5 hX7) ?_)
  ((repeat (first | refine zS ?_ | refine zA fun _=>?_)))
  exact ret2 rfl rfl rfl (Zb) (by rw [txtV,if_neg hP,if_neg hP,Ybt Zh];rfl)
theorem write9_q {fz:FZ} {d:Domain} {v1 v2 v3 v4 v5 v6:Value} (h:DomainR fz d v1 v2 v3 v4 v5 v6) (hs:DomTn d) (hW:domW d≤100000000):
 GFn Tryz.prog 18 [.agg #[.string d.name,v1,v2,v3,v4,v5,v6]] fz [] (fun v fz' H'=>H'=[]∧∃ u y,v=.tuple #[u,.bool (decide (ShD d∧XVal (domX d)))]∧SxIs fz' u y∧(ShD d∧XVal (domX d)→y=domX d)):=by
 obtain ⟨A1,n1,b1,rfl,i1⟩:=h.types
 obtain ⟨A2,n2,b2,rfl,i2⟩:=h.constants
 obtain ⟨A3,n3,b3,rfl,i3⟩:=h.predicates
 obtain ⟨A4,n4,b4,rfl,i4⟩:=h.functions
 obtain ⟨A5,n5,b5,rfl,i5⟩:=h.actions
 obtain ⟨A6,n6,b6,rfl,i6⟩:=h.duratives
 have hc:=cnt_dom d
 have hd:=depth_count (domX d)
 (refine GFn.of_wp Tryz.func18 rfl Tryz.ntmps18 rfl rfl (fun w0=>?_))
 (refine Yp (Yq (Yc Zz (Xl _ Zz Zz (fun g0=>?_)))))
 ((repeat (first | refine zS ?_ | refine zA fun _=>?_)))
 rename_i g2
 (((refine zG ?_));refine Yx Zz Zz (Yi6 h) (fun f1=>?_) (fun f1=>?_))
 ·have hS:=of_decide_eq_true f1
  ((repeat (first | refine zS ?_ | refine zA fun _=>?_)))
  (refine Seq.guard_yesK Zz Zz Zz (Yr [] _ Zz Zz Zz (YgG h hs hS) (fun v6 fz6 H6 hle6 hR6=>?_)))
  obtain ⟨rfl,hx6⟩:=hR6
  obtain ⟨A7,m7,c7,rfl,hX7⟩:=hx6.x
  ((repeat (first | refine zS ?_ | refine zA fun _=>?_)))
  (((refine zG ?_));refine Yx Zz Zz (valid1_q hX7 Zi Zi) (fun f2=>?_) (fun f2=>?_))
  ·have hV:=of_decide_eq_true f2
   ((repeat (first | refine zS ?_ | refine zA fun _=>?_)))
   (refine Yc Zz (Yr [] _ Zz Zz Zz (YgG (h.mono hle6) hs hS) (fun v8 fz8 H8 hle8 hR8=>?_)))
   obtain ⟨rfl,hx8⟩:=hR8
   obtain ⟨A9,m9,c9,rfl,hX9⟩:=hx8.x
   ((repeat (first | refine zS ?_ | refine zA fun _=>?_)))
   refine YeA T (vs:=[.agg #[_,_,_,_,_,_],.bool true]) Zz ⟨⟨_,_,0,_,_,_,rfl,rfl,rfl,rfl,rfl,rfl⟩,rfl,trivial⟩ (fun fz3 hle3 hf3=>?_)
   exact ⟨rfl,_,_,by rw [decide_eq_true (show ShD d∧XVal (domX d) from ⟨hS,hV⟩)],SxIs.mono hle3 ⟨_,rfl,Ye hX9⟩,fun _=>rfl⟩
  ·have hV:=of_decide_eq_false f2
   ((repeat (first | refine zS ?_ | refine zA fun _=>?_)))
   refine YeA T (vs:=[.agg #[_,_,_,_,_,_],.bool false]) Zz ⟨⟨_,_,0,_,_,_,rfl,rfl,rfl,rfl,rfl,rfl⟩,rfl,trivial⟩ (fun fz3 hle3 hf3=>?_)
   exact ⟨rfl,_,_,by rw [decide_eq_false (show ¬(ShD d∧XVal (domX d)) from fun h0=>hV h0.2)];rfl,YbY,fun h0=>absurd h0.2 hV⟩
 ·have hS:=of_decide_eq_false f1
  ((repeat (first | refine zS ?_ | refine zA fun _=>?_)))
  refine YeA T (vs:=[.agg #[_,_,_,_,_,_],.bool false]) Zz ⟨⟨_,_,0,_,_,_,rfl,rfl,rfl,rfl,rfl,rfl⟩,rfl,trivial⟩ (fun fz3 hle3 hf3=>?_)
  exact ⟨rfl,_,_,by rw [decide_eq_false (show ¬(ShD d∧XVal (domX d)) from fun h0=>hS h0.1)];rfl,YbY,fun h0=>absurd h0.1 hS⟩
theorem YiI {fz:FZ} {d:Domain} {v1 v2 v3 v4 v5 v6:Value} (h:DomainR fz d v1 v2 v3 v4 v5 v6) (hs:DomTn d) (hW:domW d≤100000000):
 QFn Tryz.prog 9 [.agg #[.string d.name,v1,v2,v3,v4,v5,v6]] fz (.tuple #[.string (if ShD d∧XVal (domX d) then strOf (lay 80 (domX d) 0++ [10]) else ⟨#[]⟩),.bool (decide (ShD d∧XVal (domX d)))]):=by
 obtain ⟨A1,n1,b1,rfl,i1⟩:=h.types
 obtain ⟨A2,n2,b2,rfl,i2⟩:=h.constants
 obtain ⟨A3,n3,b3,rfl,i3⟩:=h.predicates
 obtain ⟨A4,n4,b4,rfl,i4⟩:=h.functions
 obtain ⟨A5,n5,b5,rfl,i5⟩:=h.actions
 obtain ⟨A6,n6,b6,rfl,i6⟩:=h.duratives
 refine GFn.quiet ?_
 (refine GFn.of_wp Tryz.func9 rfl Tryz.ntmps9 rfl rfl (fun w0=>?_))
 (refine Yp (Yq (Yc Zz (Xl _ Zz Zz (fun g0=>?_)))))
 ((repeat (first | refine zS ?_ | refine zA fun _=>?_)))
 (refine Yc Zz (Yr [] _ Zz Zz Zz (write9_q h hs hW) (fun v6 fz6 H6 hle6 hR6=>?_)))
 obtain ⟨rfl,u,y,rfl,hy,hyx⟩:=hR6
 obtain ⟨A7,m7,c7,rfl,hX7⟩:=hy.x
 by_cases hP:ShD d∧XVal (domX d)
 ·have e:=hyx hP
  subst e
  have hl:=YcS (w:=80) (i:=0) hP.2.1 (by have:=hP.2.2.1;omega)
  have hc:=hP.2.2.2
  rw [decide_eq_true hP,if_pos hP]
  ((repeat (first | refine zS ?_ | refine zA fun _=>?_)))
  (((refine zG ?_));refine Yj Zz Zz (YjC hX7 hP.2) ?_)
  ((refine zG ?_));refine WM (b:=[10]) Zz Zz (by simp;omega) ?_
  ((repeat (first | refine zS ?_ | refine zA fun _=>?_)))
  exact ret2 rfl rfl rfl (Zb) rfl
 ·rw [decide_eq_false hP,if_neg hP]
  ((repeat (first | refine zS ?_ | refine zA fun _=>?_)))
  exact ret2 rfl rfl rfl (Zb) rfl
def zeroP:Problem:=⟨⟨#[]⟩,⟨#[]⟩,[],[],[],.mk ⟨#[]⟩ ⟨#[]⟩ [] [] [] []⟩
theorem zeroP_R {fz:FZ}:ProblemR fz zeroP (.slice none 0 0) (.slice none 0 0) (.slice none 0 0) (.slice none 0 0) (.slice none 0 0) (.slice none 0 0) (.slice none 0 0):=
 ⟨YX,YX,IsSl.nil,IsSl.nil,IsSl.nil,⟨YX,YX,IsSl.nil,IsSl.nil,IsSl.nil,IsSl.nil⟩⟩
def AwkP:Prop:=∀ fz,TabF fz→QFn Tryz.prog 7 [] fz (.bool true)
set_option maxHeartbeats 1000000 in
theorem Yhe (awk:AwkP) {fz:FZ} {d:Domain} {v1 v2 v3 v4 v5 v6:Value} (h:DomainR fz d v1 v2 v3 v4 v5 v6) (hW:domW d≤1048576) (hT:TabF fz):
 QFn Tryz.prog 3 [.agg #[.string d.name,v1,v2,v3,v4,v5,v6]] fz (.bool true):=by
 have hs:=Yib (d:=d) Zi
 have hlg:=YjE d zeroP
 have hz:prbW zeroP=2:=by simp [prbW,zeroP,Yj0,Formula.args,Formula.params,Formula.exprs,Formula.kids]
 have hpd:=pdom_q h hs.sm hT
 have hrd:=YiI h hs Zi
 have hiff:=dom_same d
 obtain ⟨A1,n1,b1,rfl,i1⟩:=h.types
 obtain ⟨A2,n2,b2,rfl,i2⟩:=h.constants
 obtain ⟨A3,n3,b3,rfl,i3⟩:=h.predicates
 obtain ⟨A4,n4,b4,rfl,i4⟩:=h.functions
 obtain ⟨A5,n5,b5,rfl,i5⟩:=h.actions
 obtain ⟨A6,n6,b6,rfl,i6⟩:=h.duratives
 refine GFn.quiet ?_
 (refine GFn.of_wp Tryz.func3 rfl Tryz.ntmps3 rfl rfl (fun w0=>?_))
 (refine Yp (Yq (Yc Zz (Xl _ Zz Zz (fun g0=>?_)))))
 ((repeat (first | refine zS ?_ | refine zA fun _=>?_)))
 (((refine zG ?_));refine Yx Zz Zz (large_q h zeroP_R Zi) (fun f1=>?_) (fun f1=>?_))
 ·((repeat (first | refine zS ?_ | refine zA fun _=>?_)))
  (((refine zG ?_));refine Yj Zz Zz (awk _ hT) ?_)
  ((repeat (first | refine zS ?_ | refine zA fun _=>?_)))
  (exact ret1 rfl rfl (Zb) rfl)
 ·((repeat (first | refine zS ?_ | refine zA fun _=>?_)))
  (((refine zG ?_));refine Yj Zz Zz (awk _ hT) ?_)
  ((repeat (first | refine zS ?_ | refine zA fun _=>?_)))
  by_cases hP:ShD d∧XVal (domX d)
  ·have hQ:=hiff.2 hP
   rw [txtV,if_pos hQ,if_pos hQ,show errV 0=.nilIface from rfl] at hpd
   rw [if_pos hP,decide_eq_true hP] at hrd
   (((refine zG ?_));refine Yj Zz Zz hpd ?_)
   ((repeat (first | refine zS ?_ | refine zA fun _=>?_)))
   (((refine zG ?_));refine Yj Zz Zz hrd ?_)
   ((repeat (first | refine zS ?_ | refine zA fun _=>?_)))
   ((refine zG ?_;refine zC (fun e1=>?_) (fun e1=>?_)))
   ·((repeat (first | refine zS ?_ | refine zA fun _=>?_)))
    (exact ret1 rfl rfl (Zb) rfl)
   ·exact absurd rfl e1
  ·have hQ:¬(YcP d∧XVal (domX d)):=fun h0=>hP (hiff.1 h0)
   rw [txtV,if_neg hQ,if_neg hQ] at hpd
   rw [if_neg hP,decide_eq_false hP] at hrd
   (((refine zG ?_));refine Yj Zz Zz hpd ?_)
   ((repeat (first | refine zS ?_ | refine zA fun _=>?_)))
   (((refine zG ?_));refine Yj Zz Zz hrd ?_)
   ((repeat (first | refine zS ?_ | refine zA fun _=>?_)))
   ((refine zG ?_;refine zC (fun e1=>?_) (fun e1=>?_)))
   ·((repeat (first | refine zS ?_ | refine zA fun _=>?_)))
    (((refine zG ?_));refine Yj Zz Zz (is_q (n:=2) (m:=2) Zh) ?_)
    ((repeat (first | refine zS ?_ | refine zA fun _=>?_)))
    (exact ret1 rfl rfl (Zb) rfl)
   ·exact absurd rfl e1
end Go.Proofs.YtbhlgkibgajajaaGreatDoor
