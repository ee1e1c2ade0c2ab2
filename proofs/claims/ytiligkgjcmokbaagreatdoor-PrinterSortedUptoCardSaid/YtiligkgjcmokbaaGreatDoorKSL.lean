/- The texts PWalkM, PWalkN, PWalkO, PWalkP, PWalkQ, PWalkR, PWalkS, PWalkT, PGrp, laid together. Conditions: none. -/
import Derived.Test.YtiligkgjcmokbaaGreatDoorKSK
set_option linter.all false
set_option maxHeartbeats 8000000
noncomputable section
set_option maxRecDepth 20000
open Go.Lx Go.RowKit
attribute [local instance 10] Classical.propDecidable
open Go.Proofs.Tryz (prog)
namespace Go.Proofs.YtiligkgjcmokbaaGreatDoor
variable {α:Type} {A B:Option Addr} {b:Bool} {c g n:Nat} {fz:FZ} {Hs:HP} {v v1 v2 v3 v4 v5 v6 v7 va:Value} {d:Domain} {s:Bs} {a:Atom} {ff:FuncId} {p:Problem} {l:List α}
def effX (l:List Change):Sexpr:=if l=[] then YM [] else YM (Yp kAnd::l.map chX)
def Ycd (l:List Change):Prop:=∀ c∈l,ChOk c
def Ylr (l:List Change):Prop:=l.length<=1000000000/\∀ c∈l,ChSm c
theorem Yo1:Short kAnd:=by unfold Short;decide
theorem YeE {l:List Change} (h1:Sl changeL fz A n c l) (hs:Ylr l):
 GFn prog 146 [Zp g,Zc A n c] fz [(g,wrO b)] (MkR g b (Ycd l) (effX l) fz):=by
 have l1:=h1.len;have hn:=hs.1;refine zF Tryz.func146 Tryz.ntmps146 (fun w0=>?_);refine zW ?_;intros;rename_i g4;refine zC ?_ ?_<;>intro c0
 ·have hl:=(len0 l1).1 c0;refine wc (YaC (A:=none) (n:=0) (c:=0)) ?_;unfold sxV;refine zW ?_;refine YaX (i:=0) (H':=[(g,wrO b)]) rfl Zb ?_;exact ⟨Zd,b,_,rfl,YaJ (Sl.nil),by rw [hl];unfold Ycd;simp,fun _=>by rw [effX,if_pos hl]⟩
 have hl:l≠ []:=fun h0=>c0 ((len0 l1).2 h0)
 refine wc (YaP (s:=kAnd)) ?_;unfold sxV;refine Ya (Yb (cs:=YH kAnd) (fun gb=>?_));refine zc YaC ?_;unfold sxV;refine zW ?_;intros;rename_i g5;refine Wp.perm (YbY [3,0,2,1]) ?_;refine Yi (fun q σ fz' H'=>∃ (k:Nat) (v:Value) (Hs:HP) (b':Bool) (ys:List Sexpr),k<=n/\q=n - k/\σ=[(17,Zk k),(16,Zk n),(15,Zc A n c),(5,Zp g5),(4,Zp g4),(0,Zp g)]/\Le fz fz'/\
  H'=(g,wrO b')::(g5,Zu #[Zk 3,Zk 0,Zk 0,Zk 0,Ze,v] 86)::(g4,Zu #[Zk 0,Zk 0,Zk 0,Zk 0,Ze,Zn] 86)::Hs/\Grow YE 86 fz' v (k+1) Hs (Yp kAnd::ys)/\(b'=false↔b=false/\∀ i,i<k->∀ a,l[i]?=some a->ChOk a)/\(b'=false->ys=(l.take k).map chX))
  ⟨0,_,[_],b,[],Z0 _,rfl,rfl,Zd,rfl,Grow.block (ys:=[(Yp kAnd,YH kAnd)]) rfl rfl (by simpa using YO Yo1) rfl,⟨fun h=>⟨h,fun i hi=>absurd hi Zi⟩,fun h=>h.1⟩,by simp⟩ Zw Zb ?_
 rintro q σ fz' H' ⟨k,v,Hs,b',ys,hk,rfl,rfl,hle,rfl,hG,hb,hys⟩;obtain ⟨Av,cv,rfl,_,_⟩:=hG.form;have h2:=h1.mono hle;refine wC ?_ ?_<;>intro c1
 ·obtain ⟨x,hx⟩:=Ye (l:=l) (k:=k) Zi;refine wI h2 hx (fun p hp=>?_);refine zL hp ?_;intro cs hcs;obtain ⟨v1,v2,v3,v4,v5,v6,v7,v8,rfl,hRx⟩:=Y8 hcs;obtain ⟨A1,n1,b1,rfl,_⟩:=hRx.params;obtain ⟨⟨A2,n2,b2,rfl,_⟩,⟨A3,n3,b3,rfl,_⟩,⟨A4,n4,b4,rfl,_⟩,⟨A5,n5,b5,rfl,_⟩⟩:=hRx.when_.sls;obtain ⟨A6,n6,b6,rfl,_⟩:=hRx.args;obtain ⟨⟨A7,n7,b7,rfl,_⟩,⟨A8,n8,b8,rfl,_⟩⟩:=hRx.value.sls;refine zW ?_;intros;rename_i g7;refine XF [(g7,_),(g5,_),(g4,_)] ?_;refine zW ?_;refine Yk (Yk (Yk ?_));refine zW ?_;refine pU ?_;refine Yj (Does.perm (List.Perm.swap _ _ _) (Ym [_] _ Zz (Yoy hRx (hs.2 x (Zm hx))) (fun v9 fz6 H6 hle6 hR6=>?_)));obtain ⟨_,b9,y6,rfl,⟨cs6,rfl,hr6⟩,hb6,hy6⟩:=hR6;obtain ⟨vk6,rfl,hX6⟩:=Yf hr6;refine ⟨⟨hle6,Zx⟩,?_⟩;refine Yj (Yb (cs:=[Zk y6.kind,Zk y6.value,Zk y6.line,Zk y6.column,Zy y6.text,vk6]) (fun gb=>⟨⟨hle6,Zx⟩,?_⟩));refine Yj (YN (Hr:=[_,_,_,_,_]) (Zr _) (hG.mono hle6) YP (.head _) (Ys hX6) (fun v' Hs' hO'=>⟨⟨hle6,Zx⟩,?_⟩));obtain ⟨Av',cv',rfl,_,_⟩:=hO'.form;refine Ch.hard0 (WS ?_);refine Ch.done ?_;refine zW ?_;refine Wj ⟨k+1,_,Hs',b9,ys++ [y6],by omega,rfl,rfl,hle.trans hle6,rfl,hO',?_,fun h0=>?_⟩ Zi Zw Zb
  ·rw [hb6,hb];exact ⟨fun h0=>⟨h0.1.1,YL h0.1.2 hx h0.2⟩,fun h0=>⟨⟨h0.1,fun i hi=>h0.2 i Zi⟩,h0.2 k Zi x hx⟩⟩
  rw [hys (hb6.1 h0).1,hy6 h0,List.take_add_one,hx];simp
 have hk1:k=n:=by omega
 subst hk1;refine zW ?_;refine YeM (i:=2) (H':=[(g,wrO b')]) rfl (Zr _) (fun fz3 hle3 hf3=>?_);obtain ⟨A',c',he,hsl⟩:=hG.sl hle3 (fun p hp=>hf3 p (by simp [hp])) Zi;injection he with he1 he2 he3
 subst he1 he3;refine ⟨hle.trans hle3,b',_,rfl,YaJ hsl,by rw [hb];exact ⟨fun h=>⟨h.1,Xu h.2 Zi⟩,fun h=>⟨h.1,fun i _ a ha=>h.2 a (Zm ha)⟩⟩,fun h0=>?_⟩;rw [effX,if_neg hl,hys h0,Zl Zi]
def lsO (v:Value):Obj:=Zu #[Zk 3,Zk 0,Zk 0,Zk 0,Ze,v] 86
def Yec:List Value:=[Zk 0,Zk 0,Zk 0,Zk 0,Ze,Zn]
theorem YbK:YE.rep fz YjU Yec:=Ys (x:=YjU) ⟨Yae,Yae,Yae,Yae,XI,IsSl.nil⟩
theorem set2 {z w y:α} (hn:l.length=n):((l++ [z,z]).set n w).set (n+1) y=l++ [w,y]:=by
 subst hn;rw [List.set_append_right _ _ (Zs _),Nat.sub_self,List.set_append_right _ _ Zi,Nat.add_sub_cancel_left];rfl
theorem set1 {z w:α} (hn:l.length=n):(l++ [z]).set n w=l++ [w]:=by
 subst hn;rw [List.set_append_right _ _ (Zs _),Nat.sub_self];rfl
def PartR (gx n:Nat) (l:List Sexpr) (fz:FZ) (v:Value) (fz':FZ) (H':HP):Prop:=v=.tuple #[]/\Le fz fz'/\∃ (v':Value) (n':Nat) (Hs':HP),H'=(gx,lsO v')::Hs'/\Grow YE 86 fz' v' n' Hs' l/\n'<=n+2
theorem YdB {gx:Nat} {vy:Value} {l:List Sexpr} {mi:Bool} {kw:Bs} {y:Sexpr} (hG:Grow YE 86 fz v n Hs l) (hY:YT fz y vy) (hkw:Short kw) (hn:n<=100000000000:=by omega):
 GFn prog 142 [Zp gx,Zo mi,Zy kw,.agg #[Zk y.kind,Zk y.value,Zk y.line,Zk y.column,Zy y.text,vy]] fz ((gx,lsO v)::Hs) (PartR gx n (l++if mi=true then [] else [Yp kw,y]) fz):=by
 obtain ⟨Ay,ny,cy,rfl,_⟩:=hY.kids;have hlen:=hG.len;obtain ⟨Av,cv,rfl,_,_⟩:=hG.form;unfold lsO;refine zF Tryz.func142 Tryz.ntmps142 (fun w0=>?_);cases mi
 ·refine pX (fun g7=>?_);refine zW ?_;refine WP [12,15,16] [(g7,_),(gx,_)] ?_;refine wc (YaP (s:=kw)) ?_;refine zW ?_;refine Yn (Yn (Yn (Yn ?_)));refine PK.p Zz (fun fz'=>by first | exact XC rfl | exact YU Zz rfl | exact Yt rfl | exact W4 Zz Zz (YQ Zi) rfl | exact Yw rfl) ?_;refine Yn (Yn ?_);refine PK.p Zz (fun fz'=>by first | exact XC rfl | exact YU Zz rfl | exact Yt rfl | exact W4 Zz Zz (YQ Zi) rfl | exact Yw rfl) ?_;refine PK.p Zz (fun fz'=>by first | exact XC rfl | exact YU Zz rfl | exact Yt rfl | exact W4 Zz Zz (YQ Zi) rfl | exact Yw rfl) ?_;refine pT ?_;refine Yh ?_;refine Yd (Yb (cs:=Yec++Yec) (fun gb=>⟨⟨Zd,Zx⟩,?_⟩));refine Yh ?_;refine Yd (YkN (Hr:=[_,_,_]) (ys:=[(YjU,Yec),(YjU,Yec)]) (l2:=[YjU,YjU]) (m:=2) (Zr _) hG YP (.head _) rfl rfl rfl (fun v' Hs' hO'=>⟨⟨Zd,Zx⟩,?_⟩) (hys:=by intro p hp;simp at hp;subst hp;exact YbK));obtain ⟨gk,cap,cur,rfl,rfl,hB⟩:=hO'.b Zi
  repeat' first
   | refine Po.done ?_
   | (refine Yh ?_)
   | (refine XD ?_ ?_)
   | refine PoS.hard (DoesQ.does (Yq rfl ?_))
   | refine PoS.hard0 (YI (pre:=[_,_,_]) (L:=YE) (j:=n) rfl rfl YP (YO hkw) hB (fun cur1 hB1=>?_))
   | refine PoS.hard0 (YI (pre:=[_,_,_]) (L:=YE) (j:=n+1) rfl rfl YP (Ys hY) hB1 (fun cur2 hB2=>?_))
   | refine PoS.hard0 (WT ?_)
  all_goals
   refine zW ?_;exact Ycc rfl (H':=[(gx,lsO _),(gk,Zu (List.toArray cur2) 86)]) Zb ⟨rfl,Zd,_,_,[_],rfl,hB2.grow.of (by rw [set2 hlen];rfl) rfl,by omega⟩
 refine pX (fun g7=>?_);refine zW ?_;exact Ycc rfl (H':=(gx,lsO _)::Hs) Zb ⟨rfl,Zd,_,_,Hs,rfl,hG.of (by simp) rfl,by omega⟩
theorem Yjf {gx m:Nat} {l ks:List Sexpr} {kw:Bs} (hG:Grow YE 86 fz v n Hs l) (hK:Sl YE fz B m c ks) (hkw:Short kw) (hn:n<=100000000000:=by omega) (hm:m<=100000000000:=by omega):
 GFn prog 75 [Zp gx,Zy kw,Zc B m c] fz ((gx,lsO v)::Hs) (PartR gx n (l++if ks=[] then [] else [YM (Yp kw::ks)]) fz):=by
 have hlen:=hG.len;obtain ⟨Av,cv,rfl,_,_⟩:=hG.form;unfold lsO;refine zF Tryz.func75 Tryz.ntmps75 (fun w0=>?_);refine wC ?_ ?_<;>intro c0
 ·have hks:ks≠ []:=(Ya7 hK.len).1 c0;refine zW ?_;refine WP [15,16] [(gx,_)] ?_;refine wc (YaP (s:=kw)) ?_;refine Yn ?_;refine zW ?_;refine Yn (Yn ?_);refine zW ?_;refine Yn (Yn (Yn (Yn ?_)));refine PK.p Zz (fun fz'=>by first | exact XC rfl | exact YU Zz rfl | exact Yt rfl | exact W4 Zz Zz (YQ Zi) rfl | exact Yw rfl) ?_;refine PK.p Zz (fun fz'=>by first | exact XC rfl | exact YU Zz rfl | exact Yt rfl | exact W4 Zz Zz (YQ Zi) rfl | exact Yw rfl) ?_;refine pT ?_
  repeat' first
   | refine Po.done ?_
   | (refine Yh ?_)
   | (refine XD ?_ ?_)
   | refine Yd (Yb (cs:=YH kw) (fun gb1=>⟨⟨Zd,Zx⟩,?_⟩))
   | (refine Yd (WZ T (n:=1) (l:=[Yp kw]) (Hr:=(gx,_)::Hs) (Hs:=[(gb1,_)]) Zz Zz Zz Zz Zz Zz Zz Zz (List.perm_append_singleton _ _).symm (Grow.block (ys:=[(Yp kw,YH kw)]) rfl rfl (by simpa using YO hkw) rfl) YP hK (by show _*72<=_;omega) Zi (fun v1 Hs1 hO1=>⟨⟨Zd,Zx⟩,?_⟩));obtain ⟨A1,c1,rfl,_,_⟩:=hO1.form)
   | (refine PoS.qk ⟨Zd,Zx⟩ (YF YaC ?_);unfold sxV)
   | refine Yd (Yb (cs:=Yec) (fun gz=>⟨⟨Zd,Zx⟩,?_⟩))
   | (refine PoS.hard (Does.freezeAll (H1:=(gz,_)::(gx,_)::Hs) (H2:=Hs1) (Zr _) (fun fz2 hl2 hf2=>YN (Hr:=[_,_]) (Zr _) (hG.mono hl2) YP (.head _) YbK (fun v' Hs' hO'=>?_)));obtain ⟨gk,cap,cur,rfl,rfl,hB⟩:=hO'.b Zi;obtain ⟨A2,c2,he2,hsl⟩:=hO1.sl hl2 hf2 Zi;injection he2 with e1 e2 e3;subst e1 e3;have hX:YT fz2 (YM (Yp kw::ks)) (.slice A1 (1+m) c1):=⟨YkQ,Yae,Yae,Yae,XI,hsl.is⟩)
   | refine PoS.hard (DoesQ.does (Yq rfl ?_))
   | refine PoS.hard0 (YI (pre:=[_,_]) (L:=YE) (j:=n) rfl rfl YP (Ys (x:=YM (Yp kw::ks)) hX) hB (fun cur1 hB1=>?_))
   | refine PoS.hard0 (Y9 ?_)
   | (refine Yd (WZ T (n:=1) (l:=[Yp kw]) (Hr:=(gz,_)::(gx,_)::Hs) (Hs:=[(gb1,_)]) Zz Zz Zz Zz Zz Zz Zz Zz (List.Perm.cons _ (List.perm_append_singleton _ _).symm) (Grow.block (ys:=[(Yp kw,YH kw)]) rfl rfl (by simpa using YO hkw) rfl) YP hK (by show _*72<=_;omega) Zi (fun v1 Hs1 hO1=>⟨⟨Zd,Zx⟩,?_⟩));obtain ⟨A1,c1,rfl,_,_⟩:=hO1.form)
   | (refine Yd (WZ T (n:=1) (l:=[Yp kw]) (Hr:=(gz,_)::(gx,_)::Hs) (Hs:=[(gb1,_)]) Zz Zz Zz Zz Zz Zz Zz Zz (List.perm_append_singleton _ _).symm (Grow.block (ys:=[(Yp kw,YH kw)]) rfl rfl (by simpa using YO hkw) rfl) YP hK (by show _*72<=_;omega) Zi (fun v1 Hs1 hO1=>⟨⟨Zd,Zx⟩,?_⟩));obtain ⟨A1,c1,rfl,_,_⟩:=hO1.form)
  all_goals
   refine zW ?_;exact Ycc rfl (H':=[(gx,lsO _),(gk,Zu (List.toArray cur1) 86)]) Zb ⟨rfl,hl2,_,_,[_],rfl,hB1.grow.of (by rw [set1 hlen,if_neg hks]) rfl,by omega⟩
 have hks:ks=[]:=Classical.byContradiction fun h0=>c0 ((Ya7 hK.len).2 h0)
 refine zW ?_;exact Ycc rfl (H':=(gx,lsO _)::Hs) Zb ⟨rfl,Zd,_,_,Hs,rfl,hG.of (by rw [if_pos hks,List.append_nil]) rfl,by omega⟩
def Yad:Bs:=⟨#[58,97,99,116,105,111,110]⟩
def XO:Bs:=⟨#[58,100,117,114,97,116,105,118,101,45,97,99,116,105,111,110]⟩
def YB:Bs:=⟨#[58,112,97,114,97,109,101,116,101,114,115]⟩
def YeV:Bs:=⟨#[58,99,111,115,116]⟩
def Xl:Bs:=⟨#[58,112,114,101,99,111,110,100,105,116,105,111,110]⟩
def Yc9:Bs:=⟨#[58,101,102,102,101,99,116]⟩
def Wd:Bs:=⟨#[58,100,117,114,97,116,105,111,110]⟩
def Ybq:Bs:=⟨#[58,115,116,97,114,116]⟩
def Yea:Bs:=⟨#[58,111,118,101,114]⟩
def kEnd:Bs:=⟨#[58,101,110,100]⟩
def Yai:Bs:=⟨#[58,97,116,45,115,116,97,114,116]⟩
def YeW:Bs:=⟨#[58,97,116,45,101,110,100]⟩
theorem Xr {o:Bs} (h:o.size<=100:=by decide):Short o:=by unfold Short;omega
theorem YkD {n:Int} (h:I64 n):YT fz (numE n) Zn:=⟨i64_2,h,Yae,Yae,XI,IsSl.nil⟩
theorem Ya0 {l:List Sexpr} (h:Sl YE fz A n c l):YT fz (YM l) (Zc A n c):=⟨YkQ,Yae,Yae,Yae,XI,h.is⟩
def opt (p:Prop) (kw:Bs) (x:Sexpr):List Sexpr:=if p then [] else [Yp kw,x]
theorem Yg6 {α:Type} {l:List α} {n:Nat} {kw:Bs} {x:Sexpr} (h:l.length=n):(if decide ((n:Int)=0)=true then ([]:List Sexpr) else [Yp kw,x])=opt (l=[]) kw x:=by
 unfold opt;by_cases hl:l=[]
 ·rw [if_pos hl,if_pos (decide_eq_true ((len0 h).2 hl))]
 rw [if_neg hl,if_neg (by simpa using fun h0=>hl ((len0 h).1 h0))]
theorem YfE {p:Prop} {d:Decidable p} {kw:Bs} {x:Sexpr}:(if @decide p d=true then ([]:List Sexpr) else [Yp kw,x])=opt p kw x:=by
 unfold opt;by_cases hp:p
 ·rw [if_pos hp,if_pos (by simpa using hp)]
 rw [if_neg hp,if_neg (by simpa using hp)]
def YbZ (l:List Param):Sexpr:=YM ((l.flatMap YaS).map Yp)
def actX (a:Action):Sexpr:=YM ([Yp Yad,Yp a.name]++opt (a.params=[]) YB (YbZ a.params)++opt (a.cost=1) YeV (numE a.cost)++opt (a.pre=XV) Xl (Xm a.pre)++opt (a.changes=[]) Yc9 (effX a.changes))
def Yoq (a:Action):Prop:=Xc a.name/\0<=a.cost/\(∀ p∈a.params,Yag true p)/\FVal a.pre/\Ycd a.changes
def actSm (a:Action):Prop:=a.params.length<=1000000000/\FSm a.pre/\Ylr a.changes
theorem Yj1 {a:Action} (h:ActionR fz a v1 v2 v3 v4 v5 v6) (hs:actSm a):
 GFn prog 78 [Zp g,.agg #[Zy a.name,v1,Zk a.cost,Zy a.pre.op,Zy a.pre.name,v2,v3,v4,v5,v6]] fz [(g,wrO b)] (MkR g b (Yoq a) (actX a) fz):=by
 obtain ⟨P1,p1,q1,rfl,ip⟩:=h.params;obtain ⟨⟨S2,s2,r2,rfl,_⟩,⟨S3,s3,r3,rfl,_⟩,⟨S4,s4,r4,rfl,_⟩,⟨S5,s5,r5,rfl,_⟩⟩:=h.pre.sls;obtain ⟨S6,s6,r6,rfl,ichanges⟩:=h.changes;obtain ⟨hs0,hs1,hs2⟩:=hs;refine zF Tryz.func78 Tryz.ntmps78 (fun w0=>?_);refine pX (fun g3=>?_);refine zWO ?_;intros;rename_i g4;refine Yr (YY (fun σ fz' H'=>∃ (b1:Bool) (g5:Nat) (v:Value) (Hs:HP),σ=[(5,Zp g5),(4,Zp g4),(3,Zp g3),(0,Zp g)]/\Le fz fz'/\H'=(g,wrO b1)::(g4,Zu #[Zk 0,Zk 0,Zk 0,Zk 0,Ze,Zn] 86)::(g3,Zu #[Zy a.name,Zc P1 p1 q1,Zk a.cost,Zy a.pre.op,Zy a.pre.name,Zc S2 s2 r2,Zc S3 s3 r3,Zc S4 s4 r4,Zc S5 s5 r5,Zc S6 s6 r6] 52)::(g5,lsO v)::Hs/\Grow YE 86 fz' v 2 Hs [Yp Yad,Yp a.name]/\(b1=false↔b=false/\Xc a.name)) ?_ ?_)
 ·refine WP [] [(g4,_),(g3,_)] ?_;refine zc (YaP (s:=Yad)) ?_;refine zW ?_;refine pT ?_
  repeat' first
   | refine Po.done ?_
   | (refine Yh ?_)
   | (refine XD ?_ ?_)
   | (refine Yd (Does.perm (@List.perm_middle _ _ [_,_] []).symm (Ym [_] _ Zz (YcM h.name) (fun v6 fz6 H6 hle6 hR6=>?_)));obtain ⟨_,rfl,b1,rfl,hb1⟩:=hR6;refine ⟨⟨hle6,Zx⟩,?_⟩;unfold sxV)
   | refine Yd (Yb (cs:=YH Yad++YH a.name) (fun gb=>⟨⟨hle6,Zx⟩,?_⟩))
   | (refine PoS.qk ⟨hle6,Zx⟩ (YF YaC ?_);unfold sxV)
   | refine Yd (Y7 (fun g5=>⟨⟨hle6,Zx⟩,?_⟩))
   | refine PoS.hard0 (Does.perm (YbY [0,2,3,4,1]) (YG ?_))
   | refine PoS.hard0 (Does.perm (YbY [1,2,3,4,0]) (YG ?_))
   | refine Yd (Y7 (fun g5=>⟨⟨Zd,Zx⟩,?_⟩))
   | (refine Yd (Does.perm (@List.perm_middle _ _ [_,_,_] []).symm (Ym [_] _ Zz (YcM h.name) (fun v6 fz6 H6 hle6 hR6=>?_)));obtain ⟨_,rfl,b1,rfl,hb1⟩:=hR6;refine ⟨⟨hle6,Zx⟩,?_⟩;unfold sxV)
   | refine PoS.hard0 (Does.perm (YbY [2,1,3,4,0]) (YG ?_))
  all_goals
   refine zW ?_;exact midP (YbY [1,2,3,0,4]) ⟨b1,g5,_,[_],rfl,hle6,rfl,Grow.block (m:=2) (ys:=[(Yp Yad,YH Yad),(Yp a.name,YH a.name)]) rfl rfl (by intro p hp;simp only [List.mem_cons,List.not_mem_nil,or_false] at hp;rcases hp with rfl | rfl;exact YO (Xr);exact YO h.name) rfl,hb1⟩ Zw Zb
 rintro σ fz1 H' ⟨b1,g5,v1,Hs1,rfl,hle1,rfl,hG1,hb1⟩;have hys1:b1=false->[Yp Yad,Yp a.name]=[Yp Yad,Yp a.name]:=fun _=>rfl
 have hn1:2<=2:=Zs _;refine Yr (YY (fun σ fz' H'=>∃ bb:Bool,σ=[(5,Zp g5),(4,Zp g4),(3,Zp g3),(0,Zp g)]/\fz1=fz'/\H'=(g,wrO bb)::(g4,Zu #[Zk 0,Zk 0,Zk 0,Zk 0,Ze,Zn] 86)::(g3,Zu #[Zy a.name,Zc P1 p1 q1,Zk a.cost,Zy a.pre.op,Zy a.pre.name,Zc S2 s2 r2,Zc S3 s3 r3,Zc S4 s4 r4,Zc S5 s5 r5,Zc S6 s6 r6] 52)::(g5,lsO v1)::Hs1/\(bb=false↔b1=false/\0<=a.cost)) ?_ ?_)
 ·cases b1
  ·refine wC ?_ ?_<;>intro c1
   ·exact wN (h:=by exact ⟨true,rfl,rfl,rfl,iff_of_false (by simp) (fun h0=>by have:=h0.2;omega)⟩)
   exact wN (h:=by exact ⟨false,rfl,rfl,rfl,iff_of_true rfl ⟨rfl,by omega⟩⟩)
  exact wN (h:=by exact ⟨true,rfl,rfl,rfl,iff_of_false (by simp) (fun h0=>by cases h0.1)⟩)
 rintro σ fz' H' ⟨bz,rfl,rfl,rfl,hbz⟩;have hbz2:bz=false↔b=false/\Xc a.name/\0<=a.cost:=by rw [hbz,hb1,and_assoc]
 have hysz:bz=false->[Yp Yad,Yp a.name]=[Yp Yad,Yp a.name]:=fun _=>rfl
 have hle_2:=hle1;refine Yr ?_;refine XF [(g4,_),(g3,_)] ?_;refine wG ?_;refine Ykp ?_;refine zW ?_;refine pU ?_;refine Yj (Ym [_] _ Zz (YaW (vars:=true) (ip.mono hle_2) (by rw [<- ip.len];exact hs0)) (fun v6 fy2 H6 hly2 hR6=>?_));obtain ⟨_,⟨B6,cc6,rfl,hsl6⟩,c2,rfl,hc2⟩:=hR6;refine ⟨⟨hly2,Zx⟩,?_⟩;refine Ch.qk ⟨hly2,Zx⟩ (YF YaC ?_);unfold sxV;have hY2:YT fy2 (YbZ a.params) (Zc B6 (3*p1) cc6):=Ya0 hsl6;have hy2:c2=false->YbZ a.params=YbZ a.params:=fun _=>rfl
 refine Yj (Does.perm (H':=((g5,_)::Hs1)++ [_,_,_]) Zq (Does.after (Ym ((g5,_)::Hs1) _ Zz (YdB (kw:=YB) (hG1.mono hly2) hY2 (Xr)) (fun v7 fz_2 H7 hlz2 hR7=>?_))));obtain ⟨_,_,v_2,n_2,Hs_2,rfl,hG_2,hn_2⟩:=hR7;refine ⟨(g,wrO c2)::(g4,_)::(g3,_)::(g5,lsO v_2)::Hs_2,Zq (l₁:=[_,_,_]) (l₂:=(g5,lsO v_2)::Hs_2),⟨hly2.trans hlz2,Zx⟩,?_⟩;refine Ch.done ?_;refine zWO ?_;have hd2:c2=false↔(b=false/\Xc a.name/\0<=a.cost)/\(∀ p∈a.params,Yag true p):=by rw [hc2,hbz2]
 have hb_2:c2=false↔b=false/\Xc a.name/\0<=a.cost/\(∀ p∈a.params,Yag true p):=by rw [hd2];simp only [and_assoc]
 have hkeep2:c2=false->bz=false:=fun h0=>(hc2.1 h0).1
 rw [Yg6 ip.len] at hG_2;obtain ⟨l_2,hl2⟩:∃ l',l'=[Yp Yad,Yp a.name]++opt (a.params=[]) YB (YbZ a.params):=⟨_,rfl⟩;rw [<- hl2] at hG_2;have hys_2:c2=false->l_2=[Yp Yad,Yp a.name]++opt (a.params=[]) YB (YbZ a.params):=fun h0=>by rw [hl2]
 have hle_n2:=((hle_2.trans hly2).trans hlz2);have hle_3:=hle_n2;refine Yr ?_;refine XF [(g4,_),(g3,_)] ?_;refine wG ?_;refine Ykp ?_;refine wc YgA ?_;unfold sxV;refine pU ?_;have hly3:=Le.refl fz_2;have hY3:YT fz_2 (numE a.cost) Zn:=YkD h.cost;refine Yj (Does.perm (H':=((g5,_)::Hs_2)++ [_,_,_]) Zq (Does.after (Ym ((g5,_)::Hs_2) _ Zz (YdB (kw:=YeV) (hG_2.mono hly3) hY3 (Xr)) (fun v7 fz_3 H7 hlz3 hR7=>?_))));obtain ⟨_,_,v_3,n_3,Hs_3,rfl,hG_3,hn_3⟩:=hR7;refine ⟨(g,wrO c2)::(g4,_)::(g3,_)::(g5,lsO v_3)::Hs_3,Zq (l₁:=[_,_,_]) (l₂:=(g5,lsO v_3)::Hs_3),⟨hly3.trans hlz3,Zx⟩,?_⟩;refine Ch.done ?_;refine zWO ?_;have hb_3:=hb_2;have hkeep3:c2=false->c2=false:=fun h0=>h0
 have hy3:c2=false->numE a.cost=numE a.cost:=fun _=>rfl
 rw [YfE] at hG_3;obtain ⟨l_3,hl3⟩:∃ l',l'=l_2++opt (a.cost=1) YeV (numE a.cost):=⟨_,rfl⟩;rw [<- hl3] at hG_3;have hys_3:c2=false->l_3=[Yp Yad,Yp a.name]++opt (a.params=[]) YB (YbZ a.params)++opt (a.cost=1) YeV (numE a.cost):=fun h0=>by rw [hl3,hys_2 (hkeep3 h0)]
 have hle_n3:=((hle_3.trans hly3).trans hlz3);have hle_4:=hle_n3;refine Yr ?_;refine XF [(g4,_),(g3,_)] ?_;refine wG ?_;refine Yc (vs:=[Zy a.pre.op,Zy a.pre.name,Zc S2 s2 r2,Zc S3 s3 r3,Zc S4 s4 r4,Zc S5 s5 r5]) 1 ?_;refine zc YaK ?_;unfold Yd7;refine zc (YgK (b:=XV) (h.pre.mono hle_4) Ydr) ?_;refine wG ?_;refine Yc (vs:=[Zy a.pre.op,Zy a.pre.name,Zc S2 s2 r2,Zc S3 s3 r3,Zc S4 s4 r4,Zc S5 s5 r5]) 1 ?_;refine pU ?_;refine Yj (Ym [_] _ Zz (Yct (h.pre.mono hle_4) hs1) (fun v6 fy4 H6 hly4 hR6=>?_));obtain ⟨_,c4,y4,rfl,⟨cs6,rfl,hr6⟩,hc4,hy4⟩:=hR6;obtain ⟨vk6,rfl,hY4⟩:=Yf hr6;refine ⟨⟨hly4,Zx⟩,?_⟩;refine Yj (Does.perm (H':=((g5,_)::Hs_3)++ [_,_,_]) Zq (Does.after (Ym ((g5,_)::Hs_3) _ Zz (YdB (kw:=Xl) (hG_3.mono hly4) hY4 (Xr)) (fun v7 fz_4 H7 hlz4 hR7=>?_))));obtain ⟨_,_,v_4,n_4,Hs_4,rfl,hG_4,hn_4⟩:=hR7;refine ⟨(g,wrO c4)::(g4,_)::(g3,_)::(g5,lsO v_4)::Hs_4,Zq (l₁:=[_,_,_]) (l₂:=(g5,lsO v_4)::Hs_4),⟨hly4.trans hlz4,Zx⟩,?_⟩;refine Ch.done ?_;refine zWO ?_;have hd4:c4=false↔(b=false/\Xc a.name/\0<=a.cost/\(∀ p∈a.params,Yag true p))/\FVal a.pre:=by rw [hc4,hb_3]
 have hb_4:c4=false↔b=false/\Xc a.name/\0<=a.cost/\(∀ p∈a.params,Yag true p)/\FVal a.pre:=by rw [hd4];simp only [and_assoc]
 have hkeep4:c4=false->c2=false:=fun h0=>(hc4.1 h0).1
 rw [YfE] at hG_4;obtain ⟨l_4,hl4⟩:∃ l',l'=l_3++opt (a.pre=XV) Xl (y4):=⟨_,rfl⟩;rw [<- hl4] at hG_4;have hys_4:c4=false->l_4=[Yp Yad,Yp a.name]++opt (a.params=[]) YB (YbZ a.params)++opt (a.cost=1) YeV (numE a.cost)++opt (a.pre=XV) Xl (Xm a.pre):=fun h0=>by rw [hl4,hys_3 (hkeep4 h0),hy4 h0]
 have hle_n4:=((hle_4.trans hly4).trans hlz4);have hle_5:=hle_n4;refine Yr ?_;refine XF [(g4,_),(g3,_)] ?_;refine wG ?_;refine Ykp ?_;refine zW ?_;refine pU ?_;refine Yj (Ym [_] _ Zz (YeE (ichanges.mono hle_5) hs2) (fun v6 fy5 H6 hly5 hR6=>?_));obtain ⟨_,c5,y5,rfl,⟨cs6,rfl,hr6⟩,hc5,hy5⟩:=hR6;obtain ⟨vk6,rfl,hY5⟩:=Yf hr6;refine ⟨⟨hly5,Zx⟩,?_⟩;refine Yj (Does.perm (H':=((g5,_)::Hs_4)++ [_,_,_]) Zq (Does.after (Ym ((g5,_)::Hs_4) _ Zz (YdB (kw:=Yc9) (hG_4.mono hly5) hY5 (Xr)) (fun v7 fz_5 H7 hlz5 hR7=>?_))));obtain ⟨_,_,v_5,n_5,Hs_5,rfl,hG_5,hn_5⟩:=hR7;refine ⟨(g,wrO c5)::(g4,_)::(g3,_)::(g5,lsO v_5)::Hs_5,Zq (l₁:=[_,_,_]) (l₂:=(g5,lsO v_5)::Hs_5),⟨hly5.trans hlz5,Zx⟩,?_⟩;refine Ch.done ?_;refine zWO ?_;have hd5:c5=false↔(b=false/\Xc a.name/\0<=a.cost/\(∀ p∈a.params,Yag true p)/\FVal a.pre)/\Ycd a.changes:=by rw [hc5,hb_4]
 have hb_5:c5=false↔b=false/\Xc a.name/\0<=a.cost/\(∀ p∈a.params,Yag true p)/\FVal a.pre/\Ycd a.changes:=by rw [hd5];simp only [and_assoc]
 have hkeep5:c5=false->c4=false:=fun h0=>(hc5.1 h0).1
 rw [Yg6 ichanges.len] at hG_5;obtain ⟨l_5,hl5⟩:∃ l',l'=l_4++opt (a.changes=[]) Yc9 (y5):=⟨_,rfl⟩;rw [<- hl5] at hG_5;have hys_5:c5=false->l_5=[Yp Yad,Yp a.name]++opt (a.params=[]) YB (YbZ a.params)++opt (a.cost=1) YeV (numE a.cost)++opt (a.pre=XV) Xl (Xm a.pre)++opt (a.changes=[]) Yc9 (effX a.changes):=fun h0=>by rw [hl5,hys_4 (hkeep5 h0),hy5 h0]
 have hle_n5:=((hle_5.trans hly5).trans hlz5);obtain ⟨Av,cv,rfl,_,_⟩:=hG_5.form;refine zW ?_;refine YeM (i:=1) (H':=[(g,wrO c5)]) rfl (Zr _) (fun fz3 hle3 hf3=>?_);obtain ⟨A',c',he,hsl⟩:=hG_5.sl hle3 (fun p hp=>hf3 p (by simp [hp])) Zi;injection he with he1 he2 he3
 subst he1 he3;exact ⟨hle_n5.trans hle3,c5,_,rfl,YaJ hsl,hb_5,fun h0=>by rw [hys_5 h0];simp only [actX,List.append_assoc]⟩
def durX (a:Durative):Sexpr:=YM ([Yp XO,Yp a.name]++opt (a.params=[]) YB (YbZ a.params)++opt (a.duration=1) Wd (numE a.duration)++opt (a.start=XV) Ybq (Xm a.start)++opt (a.over=XV) Yea (Xm a.over)++opt (a.fin=XV) kEnd (Xm a.fin)++opt (a.atStart=[]) Yai (effX a.atStart)++opt (a.atEnd=[]) YeW (effX a.atEnd))
def Yog (a:Durative):Prop:=Xc a.name/\(∀ p∈a.params,Yag true p)/\FVal a.start/\FVal a.over/\FVal a.fin/\Ycd a.atStart/\Ycd a.atEnd
def durSm (a:Durative):Prop:=a.params.length<=1000000000/\FSm a.start/\FSm a.over/\FSm a.fin/\Ylr a.atStart/\Ylr a.atEnd
theorem YgD {a:Durative} {v8 v9 v10 v11 v12 v13 v14 v15:Value} (h:DurativeR fz a v1 v2 v3 v4 v5 v6 v7 v8 v9 v10 v11 v12 v13 v14 v15) (hs:durSm a):
 GFn prog 79 [Zp g,.agg #[Zy a.name,v1,Zk a.duration,Zy a.start.op,Zy a.start.name,v2,v3,v4,v5,Zy a.over.op,Zy a.over.name,v6,v7,v8,v9,Zy a.fin.op,Zy a.fin.name,v10,v11,v12,v13,v14,v15]] fz [(g,wrO b)] (MkR g b (Yog a) (durX a) fz):=by
 obtain ⟨P1,p1,q1,rfl,ip⟩:=h.params;obtain ⟨⟨S2,s2,r2,rfl,_⟩,⟨S3,s3,r3,rfl,_⟩,⟨S4,s4,r4,rfl,_⟩,⟨S5,s5,r5,rfl,_⟩⟩:=h.start.sls;obtain ⟨⟨S6,s6,r6,rfl,_⟩,⟨S7,s7,r7,rfl,_⟩,⟨S8,s8,r8,rfl,_⟩,⟨S9,s9,r9,rfl,_⟩⟩:=h.over.sls;obtain ⟨⟨S10,s10,r10,rfl,_⟩,⟨S11,s11,r11,rfl,_⟩,⟨S12,s12,r12,rfl,_⟩,⟨S13,s13,r13,rfl,_⟩⟩:=h.fin.sls;obtain ⟨S14,s14,r14,rfl,iatStart⟩:=h.atStart;obtain ⟨S15,s15,r15,rfl,iatEnd⟩:=h.atEnd;obtain ⟨hs0,hs1,hs2,hs3,hs4,hs5⟩:=hs;refine zF Tryz.func79 Tryz.ntmps79 (fun w0=>?_);refine pX (fun g3=>?_);refine zWO ?_;intros;rename_i g4;refine Yr (YY (fun σ fz' H'=>∃ (b1:Bool) (g5:Nat) (v:Value) (Hs:HP),σ=[(5,Zp g5),(4,Zp g4),(3,Zp g3),(0,Zp g)]/\Le fz fz'/\H'=(g,wrO b1)::(g4,Zu #[Zk 0,Zk 0,Zk 0,Zk 0,Ze,Zn] 86)::(g3,Zu #[Zy a.name,Zc P1 p1 q1,Zk a.duration,Zy a.start.op,Zy a.start.name,Zc S2 s2 r2,Zc S3 s3 r3,Zc S4 s4 r4,Zc S5 s5 r5,Zy a.over.op,Zy a.over.name,Zc S6 s6 r6,Zc S7 s7 r7,Zc S8 s8 r8,Zc S9 s9 r9,Zy a.fin.op,Zy a.fin.name,Zc S10 s10 r10,Zc S11 s11 r11,Zc S12 s12 r12,Zc S13 s13 r13,Zc S14 s14 r14,Zc S15 s15 r15] 55)::(g5,lsO v)::Hs/\Grow YE 86 fz' v 2 Hs [Yp XO,Yp a.name]/\(b1=false↔b=false/\Xc a.name)) ?_ ?_)
 ·refine WP [] [(g4,_),(g3,_)] ?_;refine zc (YaP (s:=XO)) ?_;refine zW ?_;refine pT ?_
  repeat' first
   | refine Po.done ?_
   | (refine Yh ?_)
   | (refine XD ?_ ?_)
   | (refine Yd (Does.perm (@List.perm_middle _ _ [_,_] []).symm (Ym [_] _ Zz (YcM h.name) (fun v6 fz6 H6 hle6 hR6=>?_)));obtain ⟨_,rfl,b1,rfl,hb1⟩:=hR6;refine ⟨⟨hle6,Zx⟩,?_⟩;unfold sxV)
   | refine Yd (Yb (cs:=YH XO++YH a.name) (fun gb=>⟨⟨hle6,Zx⟩,?_⟩))
   | (refine PoS.qk ⟨hle6,Zx⟩ (YF YaC ?_);unfold sxV)
   | refine Yd (Y7 (fun g5=>⟨⟨hle6,Zx⟩,?_⟩))
   | refine PoS.hard0 (Does.perm (YbY [0,2,3,4,1]) (YG ?_))
   | refine PoS.hard0 (Does.perm (YbY [1,2,3,4,0]) (YG ?_))
   | refine Yd (Y7 (fun g5=>⟨⟨Zd,Zx⟩,?_⟩))
   | (refine Yd (Does.perm (@List.perm_middle _ _ [_,_,_] []).symm (Ym [_] _ Zz (YcM h.name) (fun v6 fz6 H6 hle6 hR6=>?_)));obtain ⟨_,rfl,b1,rfl,hb1⟩:=hR6;refine ⟨⟨hle6,Zx⟩,?_⟩;unfold sxV)
   | refine PoS.hard0 (Does.perm (YbY [2,1,3,4,0]) (YG ?_))
  all_goals
   refine zW ?_;exact midP (YbY [1,2,3,0,4]) ⟨b1,g5,_,[_],rfl,hle6,rfl,Grow.block (m:=2) (ys:=[(Yp XO,YH XO),(Yp a.name,YH a.name)]) rfl rfl (by intro p hp;simp only [List.mem_cons,List.not_mem_nil,or_false] at hp;rcases hp with rfl | rfl;exact YO (Xr);exact YO h.name) rfl,hb1⟩ Zw Zb
 rintro σ fz1 H' ⟨b1,g5,v1,Hs1,rfl,hle1,rfl,hG1,hb1⟩;have hys1:b1=false->[Yp XO,Yp a.name]=[Yp XO,Yp a.name]:=fun _=>rfl
 have hn1:2<=2:=Zs _;have hle_2:=hle1;refine Yr ?_;refine XF [(g4,_),(g3,_)] ?_;refine wG ?_;refine Ykp ?_;refine zW ?_;refine pU ?_;refine Yj (Ym [_] _ Zz (YaW (vars:=true) (ip.mono hle_2) (by rw [<- ip.len];exact hs0)) (fun v6 fy2 H6 hly2 hR6=>?_));obtain ⟨_,⟨B6,cc6,rfl,hsl6⟩,c2,rfl,hc2⟩:=hR6;refine ⟨⟨hly2,Zx⟩,?_⟩;refine Ch.qk ⟨hly2,Zx⟩ (YF YaC ?_);unfold sxV;have hY2:YT fy2 (YbZ a.params) (Zc B6 (3*p1) cc6):=Ya0 hsl6;have hy2:c2=false->YbZ a.params=YbZ a.params:=fun _=>rfl
 refine Yj (Does.perm (H':=((g5,_)::Hs1)++ [_,_,_]) Zq (Does.after (Ym ((g5,_)::Hs1) _ Zz (YdB (kw:=YB) (hG1.mono hly2) hY2 (Xr)) (fun v7 fz_2 H7 hlz2 hR7=>?_))));obtain ⟨_,_,v_2,n_2,Hs_2,rfl,hG_2,hn_2⟩:=hR7;refine ⟨(g,wrO c2)::(g4,_)::(g3,_)::(g5,lsO v_2)::Hs_2,Zq (l₁:=[_,_,_]) (l₂:=(g5,lsO v_2)::Hs_2),⟨hly2.trans hlz2,Zx⟩,?_⟩;refine Ch.done ?_;refine zWO ?_;have hd2:c2=false↔(b=false/\Xc a.name)/\(∀ p∈a.params,Yag true p):=by rw [hc2,hb1]
 have hb_2:c2=false↔b=false/\Xc a.name/\(∀ p∈a.params,Yag true p):=by rw [hd2];simp only [and_assoc]
 have hkeep2:c2=false->b1=false:=fun h0=>(hc2.1 h0).1
 rw [Yg6 ip.len] at hG_2;obtain ⟨l_2,hl2⟩:∃ l',l'=[Yp XO,Yp a.name]++opt (a.params=[]) YB (YbZ a.params):=⟨_,rfl⟩;rw [<- hl2] at hG_2;have hys_2:c2=false->l_2=[Yp XO,Yp a.name]++opt (a.params=[]) YB (YbZ a.params):=fun h0=>by rw [hl2]
 have hle_n2:=((hle_2.trans hly2).trans hlz2);have hle_3:=hle_n2;refine Yr ?_;refine XF [(g4,_),(g3,_)] ?_;refine wG ?_;refine Ykp ?_;refine wc YgA ?_;unfold sxV;refine pU ?_;have hly3:=Le.refl fz_2;have hY3:YT fz_2 (numE a.duration) Zn:=YkD h.duration;refine Yj (Does.perm (H':=((g5,_)::Hs_2)++ [_,_,_]) Zq (Does.after (Ym ((g5,_)::Hs_2) _ Zz (YdB (kw:=Wd) (hG_2.mono hly3) hY3 (Xr)) (fun v7 fz_3 H7 hlz3 hR7=>?_))));obtain ⟨_,_,v_3,n_3,Hs_3,rfl,hG_3,hn_3⟩:=hR7;refine ⟨(g,wrO c2)::(g4,_)::(g3,_)::(g5,lsO v_3)::Hs_3,Zq (l₁:=[_,_,_]) (l₂:=(g5,lsO v_3)::Hs_3),⟨hly3.trans hlz3,Zx⟩,?_⟩;refine Ch.done ?_;refine zWO ?_;have hb_3:=hb_2;have hkeep3:c2=false->c2=false:=fun h0=>h0
 have hy3:c2=false->numE a.duration=numE a.duration:=fun _=>rfl
 rw [YfE] at hG_3;obtain ⟨l_3,hl3⟩:∃ l',l'=l_2++opt (a.duration=1) Wd (numE a.duration):=⟨_,rfl⟩;rw [<- hl3] at hG_3;have hys_3:c2=false->l_3=[Yp XO,Yp a.name]++opt (a.params=[]) YB (YbZ a.params)++opt (a.duration=1) Wd (numE a.duration):=fun h0=>by rw [hl3,hys_2 (hkeep3 h0)]
 have hle_n3:=((hle_3.trans hly3).trans hlz3);have hle_4:=hle_n3;refine Yr ?_;refine XF [(g4,_),(g3,_)] ?_;refine wG ?_;refine Yc (vs:=[Zy a.start.op,Zy a.start.name,Zc S2 s2 r2,Zc S3 s3 r3,Zc S4 s4 r4,Zc S5 s5 r5]) 1 ?_;refine zc YaK ?_;unfold Yd7;refine zc (YgK (b:=XV) (h.start.mono hle_4) Ydr) ?_;refine wG ?_;refine Yc (vs:=[Zy a.start.op,Zy a.start.name,Zc S2 s2 r2,Zc S3 s3 r3,Zc S4 s4 r4,Zc S5 s5 r5]) 1 ?_;refine pU ?_;refine Yj (Ym [_] _ Zz (Yct (h.start.mono hle_4) hs1) (fun v6 fy4 H6 hly4 hR6=>?_));obtain ⟨_,c4,y4,rfl,⟨cs6,rfl,hr6⟩,hc4,hy4⟩:=hR6;obtain ⟨vk6,rfl,hY4⟩:=Yf hr6;refine ⟨⟨hly4,Zx⟩,?_⟩;refine Yj (Does.perm (H':=((g5,_)::Hs_3)++ [_,_,_]) Zq (Does.after (Ym ((g5,_)::Hs_3) _ Zz (YdB (kw:=Ybq) (hG_3.mono hly4) hY4 (Xr)) (fun v7 fz_4 H7 hlz4 hR7=>?_))));obtain ⟨_,_,v_4,n_4,Hs_4,rfl,hG_4,hn_4⟩:=hR7;refine ⟨(g,wrO c4)::(g4,_)::(g3,_)::(g5,lsO v_4)::Hs_4,Zq (l₁:=[_,_,_]) (l₂:=(g5,lsO v_4)::Hs_4),⟨hly4.trans hlz4,Zx⟩,?_⟩;refine Ch.done ?_;refine zWO ?_;have hd4:c4=false↔(b=false/\Xc a.name/\(∀ p∈a.params,Yag true p))/\FVal a.start:=by rw [hc4,hb_3]
 have hb_4:c4=false↔b=false/\Xc a.name/\(∀ p∈a.params,Yag true p)/\FVal a.start:=by rw [hd4];simp only [and_assoc]
 have hkeep4:c4=false->c2=false:=fun h0=>(hc4.1 h0).1
 rw [YfE] at hG_4;obtain ⟨l_4,hl4⟩:∃ l',l'=l_3++opt (a.start=XV) Ybq (y4):=⟨_,rfl⟩;rw [<- hl4] at hG_4;have hys_4:c4=false->l_4=[Yp XO,Yp a.name]++opt (a.params=[]) YB (YbZ a.params)++opt (a.duration=1) Wd (numE a.duration)++opt (a.start=XV) Ybq (Xm a.start):=fun h0=>by rw [hl4,hys_3 (hkeep4 h0),hy4 h0]
 have hle_n4:=((hle_4.trans hly4).trans hlz4);have hle_5:=hle_n4;refine Yr ?_;refine XF [(g4,_),(g3,_)] ?_;refine wG ?_;refine Yc (vs:=[Zy a.over.op,Zy a.over.name,Zc S6 s6 r6,Zc S7 s7 r7,Zc S8 s8 r8,Zc S9 s9 r9]) 1 ?_;refine zc YaK ?_;unfold Yd7;refine zc (YgK (b:=XV) (h.over.mono hle_5) Ydr) ?_;refine wG ?_;refine Yc (vs:=[Zy a.over.op,Zy a.over.name,Zc S6 s6 r6,Zc S7 s7 r7,Zc S8 s8 r8,Zc S9 s9 r9]) 1 ?_;refine pU ?_;refine Yj (Ym [_] _ Zz (Yct (h.over.mono hle_5) hs2) (fun v6 fy5 H6 hly5 hR6=>?_));obtain ⟨_,c5,y5,rfl,⟨cs6,rfl,hr6⟩,hc5,hy5⟩:=hR6;obtain ⟨vk6,rfl,hY5⟩:=Yf hr6;refine ⟨⟨hly5,Zx⟩,?_⟩;refine Yj (Does.perm (H':=((g5,_)::Hs_4)++ [_,_,_]) Zq (Does.after (Ym ((g5,_)::Hs_4) _ Zz (YdB (kw:=Yea) (hG_4.mono hly5) hY5 (Xr)) (fun v7 fz_5 H7 hlz5 hR7=>?_))));obtain ⟨_,_,v_5,n_5,Hs_5,rfl,hG_5,hn_5⟩:=hR7;refine ⟨(g,wrO c5)::(g4,_)::(g3,_)::(g5,lsO v_5)::Hs_5,Zq (l₁:=[_,_,_]) (l₂:=(g5,lsO v_5)::Hs_5),⟨hly5.trans hlz5,Zx⟩,?_⟩;refine Ch.done ?_;refine zWO ?_;have hd5:c5=false↔(b=false/\Xc a.name/\(∀ p∈a.params,Yag true p)/\FVal a.start)/\FVal a.over:=by rw [hc5,hb_4]
 have hb_5:c5=false↔b=false/\Xc a.name/\(∀ p∈a.params,Yag true p)/\FVal a.start/\FVal a.over:=by rw [hd5];simp only [and_assoc]
 have hkeep5:c5=false->c4=false:=fun h0=>(hc5.1 h0).1
 rw [YfE] at hG_5;obtain ⟨l_5,hl5⟩:∃ l',l'=l_4++opt (a.over=XV) Yea (y5):=⟨_,rfl⟩;rw [<- hl5] at hG_5;have hys_5:c5=false->l_5=[Yp XO,Yp a.name]++opt (a.params=[]) YB (YbZ a.params)++opt (a.duration=1) Wd (numE a.duration)++opt (a.start=XV) Ybq (Xm a.start)++opt (a.over=XV) Yea (Xm a.over):=fun h0=>by rw [hl5,hys_4 (hkeep5 h0),hy5 h0]
 have hle_n5:=((hle_5.trans hly5).trans hlz5);have hle_6:=hle_n5;refine Yr ?_;refine XF [(g4,_),(g3,_)] ?_;refine wG ?_;refine Yc (vs:=[Zy a.fin.op,Zy a.fin.name,Zc S10 s10 r10,Zc S11 s11 r11,Zc S12 s12 r12,Zc S13 s13 r13]) 1 ?_;refine zc YaK ?_;unfold Yd7;refine zc (YgK (b:=XV) (h.fin.mono hle_6) Ydr) ?_;refine wG ?_;refine Yc (vs:=[Zy a.fin.op,Zy a.fin.name,Zc S10 s10 r10,Zc S11 s11 r11,Zc S12 s12 r12,Zc S13 s13 r13]) 1 ?_;refine pU ?_;refine Yj (Ym [_] _ Zz (Yct (h.fin.mono hle_6) hs3) (fun v6 fy6 H6 hly6 hR6=>?_));obtain ⟨_,c6,y6,rfl,⟨cs6,rfl,hr6⟩,hc6,hy6⟩:=hR6;obtain ⟨vk6,rfl,hY6⟩:=Yf hr6;refine ⟨⟨hly6,Zx⟩,?_⟩;refine Yj (Does.perm (H':=((g5,_)::Hs_5)++ [_,_,_]) Zq (Does.after (Ym ((g5,_)::Hs_5) _ Zz (YdB (kw:=kEnd) (hG_5.mono hly6) hY6 (Xr)) (fun v7 fz_6 H7 hlz6 hR7=>?_))));obtain ⟨_,_,v_6,n_6,Hs_6,rfl,hG_6,hn_6⟩:=hR7;refine ⟨(g,wrO c6)::(g4,_)::(g3,_)::(g5,lsO v_6)::Hs_6,Zq (l₁:=[_,_,_]) (l₂:=(g5,lsO v_6)::Hs_6),⟨hly6.trans hlz6,Zx⟩,?_⟩;refine Ch.done ?_;refine zWO ?_;have hd6:c6=false↔(b=false/\Xc a.name/\(∀ p∈a.params,Yag true p)/\FVal a.start/\FVal a.over)/\FVal a.fin:=by rw [hc6,hb_5]
 have hb_6:c6=false↔b=false/\Xc a.name/\(∀ p∈a.params,Yag true p)/\FVal a.start/\FVal a.over/\FVal a.fin:=by rw [hd6];simp only [and_assoc]
 have hkeep6:c6=false->c5=false:=fun h0=>(hc6.1 h0).1
 rw [YfE] at hG_6;obtain ⟨l_6,hl6⟩:∃ l',l'=l_5++opt (a.fin=XV) kEnd (y6):=⟨_,rfl⟩;rw [<- hl6] at hG_6;have hys_6:c6=false->l_6=[Yp XO,Yp a.name]++opt (a.params=[]) YB (YbZ a.params)++opt (a.duration=1) Wd (numE a.duration)++opt (a.start=XV) Ybq (Xm a.start)++opt (a.over=XV) Yea (Xm a.over)++opt (a.fin=XV) kEnd (Xm a.fin):=fun h0=>by rw [hl6,hys_5 (hkeep6 h0),hy6 h0]
 have hle_n6:=((hle_6.trans hly6).trans hlz6);have hle_7:=hle_n6;refine Yr ?_;refine XF [(g4,_),(g3,_)] ?_;refine wG ?_;refine Ykp ?_;refine zW ?_;refine pU ?_;refine Yj (Ym [_] _ Zz (YeE (iatStart.mono hle_7) hs4) (fun v6 fy7 H6 hly7 hR6=>?_));obtain ⟨_,c7,y7,rfl,⟨cs6,rfl,hr6⟩,hc7,hy7⟩:=hR6;obtain ⟨vk6,rfl,hY7⟩:=Yf hr6;refine ⟨⟨hly7,Zx⟩,?_⟩;refine Yj (Does.perm (H':=((g5,_)::Hs_6)++ [_,_,_]) Zq (Does.after (Ym ((g5,_)::Hs_6) _ Zz (YdB (kw:=Yai) (hG_6.mono hly7) hY7 (Xr)) (fun v7 fz_7 H7 hlz7 hR7=>?_))));obtain ⟨_,_,v_7,n_7,Hs_7,rfl,hG_7,hn_7⟩:=hR7;refine ⟨(g,wrO c7)::(g4,_)::(g3,_)::(g5,lsO v_7)::Hs_7,Zq (l₁:=[_,_,_]) (l₂:=(g5,lsO v_7)::Hs_7),⟨hly7.trans hlz7,Zx⟩,?_⟩;refine Ch.done ?_;refine zWO ?_;have hd7:c7=false↔(b=false/\Xc a.name/\(∀ p∈a.params,Yag true p)/\FVal a.start/\FVal a.over/\FVal a.fin)/\Ycd a.atStart:=by rw [hc7,hb_6]
 have hb_7:c7=false↔b=false/\Xc a.name/\(∀ p∈a.params,Yag true p)/\FVal a.start/\FVal a.over/\FVal a.fin/\Ycd a.atStart:=by rw [hd7];simp only [and_assoc]
 have hkeep7:c7=false->c6=false:=fun h0=>(hc7.1 h0).1
 rw [Yg6 iatStart.len] at hG_7;obtain ⟨l_7,hl7⟩:∃ l',l'=l_6++opt (a.atStart=[]) Yai (y7):=⟨_,rfl⟩;rw [<- hl7] at hG_7;have hys_7:c7=false->l_7=[Yp XO,Yp a.name]++opt (a.params=[]) YB (YbZ a.params)++opt (a.duration=1) Wd (numE a.duration)++opt (a.start=XV) Ybq (Xm a.start)++opt (a.over=XV) Yea (Xm a.over)++opt (a.fin=XV) kEnd (Xm a.fin)++opt (a.atStart=[]) Yai (effX a.atStart):=fun h0=>by rw [hl7,hys_6 (hkeep7 h0),hy7 h0]
 have hle_n7:=((hle_7.trans hly7).trans hlz7);have hle_8:=hle_n7;refine Yr ?_;refine XF [(g4,_),(g3,_)] ?_;refine wG ?_;refine Ykp ?_;refine zW ?_;refine pU ?_;refine Yj (Ym [_] _ Zz (YeE (iatEnd.mono hle_8) hs5) (fun v6 fy8 H6 hly8 hR6=>?_));obtain ⟨_,c8,y8,rfl,⟨cs6,rfl,hr6⟩,hc8,hy8⟩:=hR6;obtain ⟨vk6,rfl,hY8⟩:=Yf hr6;refine ⟨⟨hly8,Zx⟩,?_⟩;refine Yj (Does.perm (H':=((g5,_)::Hs_7)++ [_,_,_]) Zq (Does.after (Ym ((g5,_)::Hs_7) _ Zz (YdB (kw:=YeW) (hG_7.mono hly8) hY8 (Xr)) (fun v7 fz_8 H7 hlz8 hR7=>?_))));obtain ⟨_,_,v_8,n_8,Hs_8,rfl,hG_8,hn_8⟩:=hR7;refine ⟨(g,wrO c8)::(g4,_)::(g3,_)::(g5,lsO v_8)::Hs_8,Zq (l₁:=[_,_,_]) (l₂:=(g5,lsO v_8)::Hs_8),⟨hly8.trans hlz8,Zx⟩,?_⟩;refine Ch.done ?_;refine zWO ?_;have hd8:c8=false↔(b=false/\Xc a.name/\(∀ p∈a.params,Yag true p)/\FVal a.start/\FVal a.over/\FVal a.fin/\Ycd a.atStart)/\Ycd a.atEnd:=by rw [hc8,hb_7]
 have hb_8:c8=false↔b=false/\Xc a.name/\(∀ p∈a.params,Yag true p)/\FVal a.start/\FVal a.over/\FVal a.fin/\Ycd a.atStart/\Ycd a.atEnd:=by rw [hd8];simp only [and_assoc]
 have hkeep8:c8=false->c7=false:=fun h0=>(hc8.1 h0).1
 rw [Yg6 iatEnd.len] at hG_8;obtain ⟨l_8,hl8⟩:∃ l',l'=l_7++opt (a.atEnd=[]) YeW (y8):=⟨_,rfl⟩;rw [<- hl8] at hG_8;have hys_8:c8=false->l_8=[Yp XO,Yp a.name]++opt (a.params=[]) YB (YbZ a.params)++opt (a.duration=1) Wd (numE a.duration)++opt (a.start=XV) Ybq (Xm a.start)++opt (a.over=XV) Yea (Xm a.over)++opt (a.fin=XV) kEnd (Xm a.fin)++opt (a.atStart=[]) Yai (effX a.atStart)++opt (a.atEnd=[]) YeW (effX a.atEnd):=fun h0=>by rw [hl8,hys_7 (hkeep8 h0),hy8 h0]
 have hle_n8:=((hle_8.trans hly8).trans hlz8);obtain ⟨Av,cv,rfl,_,_⟩:=hG_8.form;refine zW ?_;refine YeM (i:=1) (H':=[(g,wrO c8)]) rfl (Zr _) (fun fz3 hle3 hf3=>?_);obtain ⟨A',c',he,hsl⟩:=hG_8.sl hle3 (fun p hp=>hf3 p (by simp [hp])) Zi;injection he with he1 he2 he3
 subst he1 he3;exact ⟨hle_n8.trans hle3,c8,_,rfl,YaJ hsl,hb_8,fun h0=>by rw [hys_8 h0];simp only [durX,List.append_assoc]⟩
def Xg:Bs:=⟨#[100,101,102,105,110,101]⟩
def Wo:Bs:=⟨#[100,111,109,97,105,110]⟩
def Ybz:Bs:=⟨#[58,116,121,112,101,115]⟩
def XZ:Bs:=⟨#[58,99,111,110,115,116,97,110,116,115]⟩
def XN:Bs:=⟨#[58,112,114,101,100,105,99,97,116,101,115]⟩
def XY:Bs:=⟨#[58,102,117,110,99,116,105,111,110,115]⟩
def grp (kw:Bs) (ks:List Sexpr):List Sexpr:=if ks=[] then [] else [YM (Yp kw::ks)]
def Yap (l:List Param):List Sexpr:=(l.flatMap YaS).map Yp
def YlP (p:Predicate):Sexpr:=YM (Yp p.name::Yap p.params)
def funX (f:Function):Sexpr:=YM (Yp f.name::Yap f.params++ [numE f.lo,numE f.hi])
def YnJ (p:Predicate):Prop:=Xc p.name/\∀ q∈p.params,Yag true q
def YqZ (f:Function):Prop:=Xc f.name/\∀ q∈f.params,Yag true q
def domX (d:Domain):Sexpr:=YM ([Yp Xg,YM [Yp Wo,Yp d.name]]++grp Ybz (Yap d.types)++grp XZ (Yap d.constants)++grp XN (d.predicates.map YlP)++grp XY (d.functions.map funX)++d.actions.map actX++d.duratives.map durX)
def Ycq (d:Domain):Prop:=Xc d.name/\(∀ p∈d.types,Yag false p)/\(∀ p∈d.constants,Yag false p)/\(∀ p∈d.predicates,YnJ p)/\(∀ f∈d.functions,YqZ f)/\(∀ x∈d.actions,Yoq x)/\(∀ x∈d.duratives,Yog x)
structure DomSm (d:Domain):Prop where
 types:d.types.length<=1000000000
 constants:d.constants.length<=1000000000
 predicates:d.predicates.length<=1000000000
 predp:∀ p∈d.predicates,p.params.length<=1000000000
 functions:d.functions.length<=1000000000
 funp:∀ f∈d.functions,f.params.length<=1000000000
 actions:d.actions.length<=1000000000
 acts:∀ x∈d.actions,actSm x
 duratives:d.duratives.length<=1000000000
 durs:∀ x∈d.duratives,durSm x
theorem Ykt {l:List Param}:(Yap l).length=3*l.length:=by simp only [Yap,List.length_map,YdY]
theorem Yjz (h:DomainR fz d v1 v2 v3 v4 v5 v6) (hs:DomSm d):
 GFn prog 34 [ZD d v1 v2 v3 v4 v5 v6] fz [] (WrR (Ycq d/\XVal (domX d)) (domX d)):=by
 obtain ⟨⟨A1,n1,c1,rfl,i1⟩,⟨A2,n2,c2,rfl,i2⟩,⟨A3,n3,c3,rfl,i3⟩,⟨A4,n4,c4,rfl,i4⟩,⟨A5,n5,c5,rfl,i5⟩,⟨A6,n6,c6,rfl,i6⟩⟩:=h.sls;have k1:=i1.len;have k2:=i2.len;have k3:=i3.len;have k4:=i4.len;have k5:=i5.len;have k6:=i6.len;have m1:=hs.types;have m2:=hs.constants;have m3:=hs.predicates;have m4:=hs.functions;have m5:=hs.actions;have m6:=hs.duratives;refine zF Tryz.func34 Tryz.ntmps34 (fun w0=>?_);refine pX (fun g1=>?_);refine zWO ?_;intros;rename_i g2;refine Yr (W3 ?_);refine zWO ?_;intros;rename_i g;refine Yr (YY (fun σ fz' H'=>∃ (bb:Bool) (g5:Nat) (v:Value) (Hs:HP),σ=[(5,Zp g5),(4,Zp g),(2,Zp g2),(1,Zp g1)]/\Le fz fz'/\H'=(g,wrO bb)::(g1,Zu #[Zy d.name,Zc A1 n1 c1,Zc A2 n2 c2,Zc A3 n3 c3,Zc A4 n4 c4,Zc A5 n5 c5,Zc A6 n6 c6] 28)::(g2,Zu #[Zk 0,Zk 0,Zk 0,Zk 0,Ze,Zn] 86)::(g5,lsO v)::Hs/\Grow YE 86 fz' v 2 Hs [Yp Xg,YM [Yp Wo,Yp d.name]]/\(bb=false↔Xc d.name)) ?_ ?_)
 ·refine WP [] [(g2,_),(g1,_)] ?_;refine zc (YaP (s:=Xg)) ?_;refine zc (YaP (s:=Wo)) ?_;unfold sxV;refine zW ?_;refine pT ?_
  repeat' first
   | refine Po.done ?_
   | (refine Yh ?_)
   | (refine XD ?_ ?_)
   | (refine Yd (Does.perm (YbY [0,1,2]) (Ym [_] _ Zz (YcM (b:=false) h.name) (fun v6 fz6 H6 hle6 hR6=>?_)));obtain ⟨_,rfl,b1,rfl,hb1⟩:=hR6;refine ⟨⟨hle6,Zx⟩,?_⟩;unfold sxV)
   | refine Yd (Yb (cs:=YH Wo++YH d.name) (fun gb=>⟨⟨hle6,Zx⟩,?_⟩))
   | (refine PoS.qk ⟨hle6,Zx⟩ (YF YaC ?_);unfold sxV)
   | refine Yd (Yb (cs:=YH Xg++ [.int .i64 3,.int .i64 0,.int .i64 0,.int .i64 0,.string ⟨#[]⟩,.slice (some ⟨gb,0,none⟩) 2 2]) (fun gc=>⟨⟨hle6,Zx⟩,?_⟩))
   | refine Yd (Y7 (fun g5=>⟨⟨hle6,Zx⟩,?_⟩))
   | refine Yd (Y7 (fun g5=>⟨⟨Zd,Zx⟩,?_⟩))
   | (refine Yd (Does.perm (YbY [1,0,2,3]) (Ym [_] _ Zz (YcM (b:=false) h.name) (fun v6 fz6 H6 hle6 hR6=>?_)));obtain ⟨_,rfl,b1,rfl,hb1⟩:=hR6;refine ⟨⟨hle6,Zx⟩,?_⟩;unfold sxV)
   | refine PoS.hard0 (Does.perm (YbY [0,3,5,4,1,2]) (YG ?_))
   | refine PoS.hard0 (Does.perm (YbY [1,3,5,4,0,2]) (YG ?_))
   | refine PoS.hard0 (Does.perm (YbY [2,3,5,4,0,1]) (YG ?_))
   | refine PoS.hard0 (Does.perm (YbY [3,2,5,4,0,1]) (YG ?_))
  all_goals
   refine zW ?_;refine midF (H':=[(g,wrO b1),(g1,_),(g2,_),(g5,_),(gc,_)]) (H2:=[(gb,_)]) (YbY [1,2,3,0,4,5]) (fun fz3 hl3 hf3=>⟨b1,g5,_,[(gc,_)],rfl,hle6.trans hl3,rfl,Grow.block (m:=2) (ys:=[(Yp Xg,YH Xg),(YM [Yp Wo,Yp d.name],[Zk 3,Zk 0,Zk 0,Zk 0,Ze,Zv gb 2 2])]) rfl rfl ?_ rfl,by rw [hb1];simp⟩) Zw;have hg:=hf3 _ (.head _);intro p hp;simp only [List.mem_cons,List.not_mem_nil,or_false] at hp;rcases hp with rfl | rfl
   ·exact YO (Xr)
   exact Ys (Ya0 (Wb (ys:=[(Yp Wo,YH Wo),(Yp d.name,YH d.name)]) hg rfl rfl (by intro p hp;simp only [List.mem_cons,List.not_mem_nil,or_false] at hp;rcases hp with rfl | rfl;exact YO (Xr);exact YO h.name) rfl Zh))
 rintro σ fz1 H' ⟨b0,g5,w0',Hs0,rfl,hle0,rfl,hG0,hb0⟩;have hys0:b0=false->[Yp Xg,YM [Yp Wo,Yp d.name]]=[Yp Xg,YM [Yp Wo,Yp d.name]]:=fun _=>rfl
 refine zW ?_;refine Ya (Ym [_] _ Zz (YaW (vars:=false) (i1.mono hle0) Zi) (fun v6 fy3 H6 hly3 hR6=>?_));obtain ⟨_,⟨B3,cc3,rfl,hsl3⟩,bb3,rfl,hc3⟩:=hR6;refine Ya (Does.perm (H':=((g5,_)::Hs0)++ [_,_,_]) Zq (Does.after (Ym ((g5,_)::Hs0) _ Zz (Yjf (kw:=Ybz) (hG0.mono hly3) hsl3 (Xr)) (fun v7 fz_3 H7 hlz3 hR7=>?_))));obtain ⟨_,_,v_3,n_3,Hs_3,rfl,hG_3,hn_3⟩:=hR7;refine ⟨(g,wrO bb3)::(g1,_)::(g2,_)::(g5,lsO v_3)::Hs_3,Zq (l₁:=[_,_,_]) (l₂:=(g5,lsO v_3)::Hs_3),?_⟩;replace hG_3:Grow YE 86 fz_3 v_3 n_3 Hs_3 ([Yp Xg,YM [Yp Wo,Yp d.name]]++grp Ybz (Yap d.types)):=hG_3;obtain ⟨l_3,hl3⟩:∃ l',l'=[Yp Xg,YM [Yp Wo,Yp d.name]]++grp Ybz (Yap d.types):=⟨_,rfl⟩;rw [<- hl3] at hG_3;have hle_3:=(hle0.trans hly3).trans hlz3;have hb_3:bb3=false↔Xc d.name/\(∀ p∈d.types,Yag false p):=by rw [hc3,hb0]<;>simp only [and_assoc]
 have hys_3:bb3=false->l_3=[Yp Xg,YM [Yp Wo,Yp d.name]]++grp Ybz (Yap d.types):=fun h0=>by rw [hl3]
 refine zW ?_;refine Ya (Ym [_] _ Zz (YaW (vars:=false) (i2.mono hle_3) Zi) (fun v6 fy4 H6 hly4 hR6=>?_));obtain ⟨_,⟨B4,cc4,rfl,hsl4⟩,bb4,rfl,hc4⟩:=hR6;refine Ya (Does.perm (H':=((g5,_)::Hs_3)++ [_,_,_]) Zq (Does.after (Ym ((g5,_)::Hs_3) _ Zz (Yjf (kw:=XZ) (hG_3.mono hly4) hsl4 (Xr)) (fun v7 fz_4 H7 hlz4 hR7=>?_))));obtain ⟨_,_,v_4,n_4,Hs_4,rfl,hG_4,hn_4⟩:=hR7;refine ⟨(g,wrO bb4)::(g1,_)::(g2,_)::(g5,lsO v_4)::Hs_4,Zq (l₁:=[_,_,_]) (l₂:=(g5,lsO v_4)::Hs_4),?_⟩;replace hG_4:Grow YE 86 fz_4 v_4 n_4 Hs_4 (l_3++grp XZ (Yap d.constants)):=hG_4;obtain ⟨l_4,hl4⟩:∃ l',l'=l_3++grp XZ (Yap d.constants):=⟨_,rfl⟩;rw [<- hl4] at hG_4;have hle_4:=(hle_3.trans hly4).trans hlz4;have hb_4:bb4=false↔Xc d.name/\(∀ p∈d.types,Yag false p)/\(∀ p∈d.constants,Yag false p):=by rw [hc4,hb_3]<;>simp only [and_assoc]
 have hys_4:bb4=false->l_4=[Yp Xg,YM [Yp Wo,Yp d.name]]++grp Ybz (Yap d.types)++grp XZ (Yap d.constants):=fun h0=>by rw [hl4,hys_3 (hc4.1 h0).1]
 refine zW ?_;refine Yi (fun q σ fz' H'=>∃ (k:Nat) (b':Bool) (vp:Value) (Hp:HP) (ys:List Sexpr),k<=n3/\q=n3 - k/\σ=[(42,Zk k),(41,Zk n3),(40,Zc A3 n3 c3),(7,Zn),(6,vp),(5,Zp g5),(4,Zp g),(2,Zp g2),(1,Zp g1)]/\Le fz_4 fz'/\H'=(g,wrO b')::(g1,Zu #[Zy d.name,Zc A1 n1 c1,Zc A2 n2 c2,Zc A3 n3 c3,Zc A4 n4 c4,Zc A5 n5 c5,Zc A6 n6 c6] 28)::(g2,Zu #[Zk 0,Zk 0,Zk 0,Zk 0,Ze,Zn] 86)::(g5,lsO v_4)::(Hs_4++Hp)/\Grow YE 86 fz' vp k Hp ys/\(b'=false↔bb4=false/\∀ i,i<k->∀ x,d.predicates[i]?=some x->YnJ x)/\(b'=false->ys=(d.predicates.take k).map YlP)) (H0:=(g,wrO bb4)::(g1,Zu #[Zy d.name,Zc A1 n1 c1,Zc A2 n2 c2,Zc A3 n3 c3,Zc A4 n4 c4,Zc A5 n5 c5,Zc A6 n6 c6] 28)::(g2,Zu #[Zk 0,Zk 0,Zk 0,Zk 0,Ze,Zn] 86)::(g5,lsO v_4)::(Hs_4++ [])) ⟨0,bb4,_,[],[],Z0 _,rfl,rfl,Zd,rfl,Grow.nil _ _ _,⟨fun h=>⟨h,fun i hi=>absurd hi Zi⟩,fun h=>h.1⟩,by simp⟩ Zw (by simp) ?_;rintro q σ fz' H' ⟨k,b',vp,Hp,ys,hk,rfl,rfl,hle,rfl,hP,hb,hys⟩;obtain ⟨Ap,cp,rfl,_,_⟩:=hP.form;have i3m:=i3.mono (hle_4.trans hle);refine wC ?_ ?_<;>intro e1
 ·obtain ⟨x,hx⟩:=Ye (l:=d.predicates) (k:=k) Zi;have hxm:=Zm hx;refine wI i3m hx (fun p hp=>?_);refine zL hp ?_;intro cs hcs;obtain ⟨vpp,rfl,hRx⟩:=Xo hcs;obtain ⟨P1,p1,q1,rfl,ip⟩:=hRx.params;have hpm:=hs.predp x hxm;have hpl:=ip.len;refine zW ?_;intros;rename_i g9;refine WP [] [(g9,_)] ?_;refine zW ?_;refine Yn (Yn ?_);refine zW ?_;refine pT ?_;refine Yh ?_;refine Yd (Does.perm (List.Perm.swap _ _ _) (Ym [_] _ Zz (YcM hRx.name) (fun v6 fz6 H6 hle6 hR6=>?_)));obtain ⟨_,rfl,b6,rfl,hb6⟩:=hR6;refine ⟨⟨hle6,Zx⟩,?_⟩;unfold sxV
  repeat' first
   | refine Po.done ?_
   | (refine Yh ?_)
   | (refine XD ?_ ?_)
   | refine Yd (Yb (cs:=YH x.name) (fun gb=>⟨⟨hle6,Zx⟩,?_⟩))
   | (refine Yd (Does.perm (List.Perm.swap _ _ _) (Ym [_] _ Zz (YaW (vars:=true) (ip.mono hle6) Zi) (fun v7 fz7 H7 hle7 hR7=>?_)));obtain ⟨_,⟨B7,cc7,rfl,hsl7⟩,b7,rfl,hb7⟩:=hR7;refine ⟨⟨hle6.trans hle7,Zx⟩,?_⟩)
   | (refine Yd (WZ T (n:=1) (l:=[Yp x.name]) (Hr:=(g,_)::(g9,_)::(g1,_)::(g2,_)::(g5,_)::(Hs_4++Hp)) (Hs:=[(gb,_)]) Zz Zz Zz Zz Zz Zz Zz Zz (List.Perm.cons _ (List.perm_append_singleton _ _).symm) (Grow.block (ys:=[(Yp x.name,YH x.name)]) rfl rfl (by simpa using YO hRx.name) rfl) YP hsl7 (by show _*72<=_;omega) Zi (fun v8 Hs1 hO1=>⟨⟨hle6.trans hle7,Zx⟩,?_⟩));obtain ⟨A8,c8,rfl,_,_⟩:=hO1.form)
   | (refine PoS.qk ⟨hle6.trans hle7,Zx⟩ (YF YaC ?_);unfold sxV)
   | refine Yd (Yb (cs:=[.int .i64 3,.int .i64 0,.int .i64 0,.int .i64 0,.string ⟨#[]⟩,.slice A8 (1+3*p1) c8]) (fun gc=>⟨⟨hle6.trans hle7,Zx⟩,?_⟩))
   | (refine Yd (Does.freezeAll (H1:=(gc,_)::(g,_)::(g9,_)::(g1,_)::(g2,_)::(g5,_)::(Hs_4++Hp)) (H2:=Hs1) (Zr _) (fun fz9 hle9 hf9=>?_));obtain ⟨A2x,c2x,he2,hsl9⟩:=hO1.sl hle9 hf9 Zi;injection he2 with x1 x2 x3;subst x1 x3;refine YN (Hr:=(gc,_)::(g,_)::(g9,_)::(g1,_)::(g2,_)::(g5,_)::Hs_4) (d:=YlP x) (Zr _) (hP.mono ((hle6.trans hle7).trans hle9)) YP (.head _) (Ys (Ya0 hsl9)) (fun v9 Hp9 hO9=>⟨⟨(hle6.trans hle7).trans hle9,Zx⟩,?_⟩);obtain ⟨A9,c9,rfl,_,_⟩:=hO9.form)
   | refine PoS.qk ⟨(hle6.trans hle7).trans hle9,Zx⟩ (YV ?_)
   | (refine Yd (Ym [_] _ Zz (YaW (vars:=true) (ip.mono hle6) Zi) (fun v7 fz7 H7 hle7 hR7=>?_));obtain ⟨_,⟨B7,cc7,rfl,hsl7⟩,b7,rfl,hb7⟩:=hR7;refine ⟨⟨hle6.trans hle7,Zx⟩,?_⟩)
   | refine Yd (Yb (cs:=YH x.name) (fun gb=>⟨⟨hle6.trans hle7,Zx⟩,?_⟩))
   | (refine Yd (WZ T (n:=1) (l:=[Yp x.name]) (Hr:=(g,_)::(g9,_)::(g1,_)::(g2,_)::(g5,_)::(Hs_4++Hp)) (Hs:=[(gb,_)]) Zz Zz Zz Zz Zz Zz Zz Zz (List.perm_append_singleton _ _).symm (Grow.block (ys:=[(Yp x.name,YH x.name)]) rfl rfl (by simpa using YO hRx.name) rfl) YP hsl7 (by show _*72<=_;omega) Zi (fun v8 Hs1 hO1=>⟨⟨hle6.trans hle7,Zx⟩,?_⟩));obtain ⟨A8,c8,rfl,_,_⟩:=hO1.form)
   | fail
  all_goals
   refine zW ?_;refine Wj ⟨k+1,b7,_,Hp9,ys++ [YlP x],by omega,rfl,rfl,hle.trans ((hle6.trans hle7).trans hle9),rfl,hO9,?_,fun h0=>?_⟩ Zi Zw Zb
   ·rw [hb7,hb6,hb];exact ⟨fun h0=>⟨h0.1.1.1,YL h0.1.1.2 hx ⟨h0.1.2,h0.2⟩⟩,fun h0=>⟨⟨⟨h0.1,fun i hi=>h0.2 i Zi⟩,(h0.2 k Zi x hx).1⟩,(h0.2 k Zi x hx).2⟩⟩
   rw [hys (hb6.1 (hb7.1 h0).1).1,List.take_add_one,hx];simp
 have hkn:n3=k:=by omega
 subst hkn;rw [show d.predicates.take n3=d.predicates from Zl Zi] at hys;have hbp:b'=false↔bb4=false/\∀ x∈d.predicates,YnJ x:=by rw [hb];exact ⟨fun h0=>⟨h0.1,Xu h0.2 Zi⟩,fun h0=>⟨h0.1,fun i _ x hx=>h0.2 x (Zm hx)⟩⟩
 refine Seq.freezeAll (H1:=(g,_)::(g1,_)::(g2,_)::(g5,_)::Hs_4) (H2:=Hp) (Zr _) (fun fzp hlp hfp=>?_);obtain ⟨A2x,c2x,he2,hslp⟩:=hP.sl hlp hfp Zi;injection he2 with x1 x2 x3
 subst x1 x3;have hG5:=hG_4.mono (hle.trans hlp);have hle5:=(hle_4.trans hle).trans hlp;refine zW ?_;refine Yi (fun q σ fz' H'=>∃ (j:Nat) (b2:Bool) (vf:Value) (Hf:HP) (zs:List Sexpr),j<=n4/\q=n4 - j/\σ=[(64,Zk j),(63,Zk n4),(62,Zc A4 n4 c4),(7,vf),(6,Zc Ap n3 cp),(5,Zp g5),(4,Zp g),(2,Zp g2),(1,Zp g1)]/\Le fzp fz'/\H'=(g,wrO b2)::(g1,Zu #[Zy d.name,Zc A1 n1 c1,Zc A2 n2 c2,Zc A3 n3 c3,Zc A4 n4 c4,Zc A5 n5 c5,Zc A6 n6 c6] 28)::(g2,Zu #[Zk 0,Zk 0,Zk 0,Zk 0,Ze,Zn] 86)::(g5,lsO v_4)::(Hs_4++Hf)/\Grow YE 86 fz' vf j Hf zs/\(b2=false↔b'=false/\∀ i,i<j->∀ x,d.functions[i]?=some x->YqZ x)/\(b2=false->zs=(d.functions.take j).map funX)) (H0:=(g,wrO b')::(g1,Zu #[Zy d.name,Zc A1 n1 c1,Zc A2 n2 c2,Zc A3 n3 c3,Zc A4 n4 c4,Zc A5 n5 c5,Zc A6 n6 c6] 28)::(g2,Zu #[Zk 0,Zk 0,Zk 0,Zk 0,Ze,Zn] 86)::(g5,lsO v_4)::(Hs_4++ [])) ⟨0,b',_,[],[],Z0 _,rfl,rfl,Zd,rfl,Grow.nil _ _ _,⟨fun h=>⟨h,fun i hi=>absurd hi Zi⟩,fun h=>h.1⟩,by simp⟩ Zw (by simp) ?_;rintro q σ fz' H' ⟨j,b2,vf,Hf,zs,hj,rfl,rfl,hle6f,rfl,hF,hb2,hzs⟩;obtain ⟨Af,cf,rfl,_,_⟩:=hF.form;have i4m:=i4.mono (hle5.trans hle6f);refine wC ?_ ?_<;>intro e2
 ·obtain ⟨x,hx⟩:=Ye (l:=d.functions) (k:=j) Zi;have hxm:=Zm hx;refine wI i4m hx (fun p hp=>?_);refine zL hp ?_;intro cs hcs;obtain ⟨vpp,rfl,hRx⟩:=YW hcs;obtain ⟨P1,p1,q1,rfl,ip⟩:=hRx.params;have hpm:=hs.funp x hxm;have hpl:=ip.len;refine zWO ?_;intros;rename_i g9;refine Yr (YY (fun σ fz7 H'=>∃ (b7:Bool) (v1:Value) (Hs1:HP),σ=[(12,v1),(64,Zk j),(63,Zk n4),(62,Zc A4 n4 c4),(11,Zp g9),(7,Zc Af j cf),(6,Zc Ap n3 cp),(5,Zp g5),(4,Zp g),(2,Zp g2),(1,Zp g1)]/\Le fz' fz7/\H'=((g,wrO b7)::(g9,Zu #[Zy x.name,Zc P1 p1 q1,Zk x.lo,Zk x.hi] 63)::(g1,Zu #[Zy d.name,Zc A1 n1 c1,Zc A2 n2 c2,Zc A3 n3 c3,Zc A4 n4 c4,Zc A5 n5 c5,Zc A6 n6 c6] 28)::(g2,Zu #[Zk 0,Zk 0,Zk 0,Zk 0,Ze,Zn] 86)::(g5,lsO v_4)::(Hs_4++Hf))++Hs1/\Grow YE 86 fz7 v1 (1+3*p1) Hs1 (Yp x.name::Yap x.params)/\(b7=false↔b2=false/\YqZ x)) ?_ ?_)
  ·refine WP [] [(g9,_)] ?_;refine zW ?_;refine Yn (Yn ?_);refine zW ?_;refine pT ?_;refine Yh ?_;refine Yd (Does.perm (List.Perm.swap _ _ _) (Ym [_] _ Zz (YcM hRx.name) (fun v6 fz6 H6 hle6 hR6=>?_)));obtain ⟨_,rfl,b6,rfl,hb6⟩:=hR6;refine ⟨⟨hle6,Zx⟩,?_⟩;unfold sxV
   repeat' first
    | refine Po.done ?_
    | (refine Yh ?_)
    | (refine XD ?_ ?_)
    | refine Yd (Yb (cs:=YH x.name) (fun gb=>⟨⟨hle6,Zx⟩,?_⟩))
    | (refine Yd (Does.perm (List.Perm.swap _ _ _) (Ym [_] _ Zz (YaW (vars:=true) (ip.mono hle6) Zi) (fun v7 fz7 H7 hle7 hR7=>?_)));obtain ⟨_,⟨B7,cc7,rfl,hsl7⟩,b7,rfl,hb7⟩:=hR7;refine ⟨⟨hle6.trans hle7,Zx⟩,?_⟩)
    | (refine Yd (WZ T (n:=1) (l:=[Yp x.name]) (Hr:=(g,_)::(g9,_)::(g1,_)::(g2,_)::(g5,_)::(Hs_4++Hf)) (Hs:=[(gb,_)]) Zz Zz Zz Zz Zz Zz Zz Zz (List.Perm.cons _ (List.perm_append_singleton _ _).symm) (Grow.block (ys:=[(Yp x.name,YH x.name)]) rfl rfl (by simpa using YO hRx.name) rfl) YP hsl7 (by show _*72<=_;omega) Zi (fun v8 Hs1 hO1=>⟨⟨hle6.trans hle7,Zx⟩,?_⟩));obtain ⟨A8,c8,rfl,_,_⟩:=hO1.form)
    | refine PoS.qk ⟨hle6.trans hle7,Zx⟩ (YV ?_)
    | (refine Yd (Ym [_] _ Zz (YaW (vars:=true) (ip.mono hle6) Zi) (fun v7 fz7 H7 hle7 hR7=>?_));obtain ⟨_,⟨B7,cc7,rfl,hsl7⟩,b7,rfl,hb7⟩:=hR7;refine ⟨⟨hle6.trans hle7,Zx⟩,?_⟩)
    | refine Yd (Yb (cs:=YH x.name) (fun gb=>⟨⟨hle6.trans hle7,Zx⟩,?_⟩))
    | (refine Yd (WZ T (n:=1) (l:=[Yp x.name]) (Hr:=(g,_)::(g9,_)::(g1,_)::(g2,_)::(g5,_)::(Hs_4++Hf)) (Hs:=[(gb,_)]) Zz Zz Zz Zz Zz Zz Zz Zz (List.perm_append_singleton _ _).symm (Grow.block (ys:=[(Yp x.name,YH x.name)]) rfl rfl (by simpa using YO hRx.name) rfl) YP hsl7 (by show _*72<=_;omega) Zi (fun v8 Hs1 hO1=>⟨⟨hle6.trans hle7,Zx⟩,?_⟩));obtain ⟨A8,c8,rfl,_,_⟩:=hO1.form)
    | fail
   all_goals
    exact wN (h:=by exact ⟨b7,_,Hs1,rfl,hle6.trans hle7,rfl,hO1,by rw [hb7,hb6,and_assoc];rfl⟩)
  rintro σ fz7 H' ⟨b7,v1,Hs1,rfl,hle7,rfl,hO1,hb7⟩;obtain ⟨A8,c8,rfl,_,_⟩:=hO1.form;refine YnI (Hq:=[(g9,_)]) T.mixed Zj Zj (List.Sublist.cons _ (List.Sublist.cons_cons _ (List.nil_sublist _))) ?_;refine wc YgA ?_;refine wc YgA ?_;unfold sxV;refine pU ?_;refine Yj (Yb (cs:=[Zk 2,Zk x.lo,Zk 0,Zk 0,Ze,Zn,Zk 2,Zk x.hi,Zk 0,Zk 0,Ze,Zn]) (fun gb=>⟨⟨Zd,Zx⟩,?_⟩));refine Yj (YkN (Hr:=(gb,_)::(g,_)::(g9,_)::(g1,_)::(g2,_)::(g5,_)::(Hs_4++Hf)) (ys:=[(numE x.lo,[Zk 2,Zk x.lo,Zk 0,Zk 0,Ze,Zn]),(numE x.hi,[Zk 2,Zk x.hi,Zk 0,Zk 0,Ze,Zn])]) (l2:=[numE x.lo,numE x.hi]) (m:=2) (Zr _) hO1 YP (.head _) rfl rfl rfl (fun v8 Hs2 hO2=>⟨⟨Zd,Zx⟩,?_⟩) (hys:=by intro p hp;simp only [List.mem_cons,List.not_mem_nil,or_false] at hp;rcases hp with rfl | rfl;exact Ys (YkD hRx.lo);exact Ys (YkD hRx.hi)));obtain ⟨A9,c9,rfl,_,_⟩:=hO2.form;refine Ch.qk ⟨Zd,Zx⟩ (YF YaC ?_);unfold sxV;refine Yj (Yb (cs:=[Zk 3,Zk 0,Zk 0,Zk 0,Ze,Zc A9 (1+3*p1+2) c9]) (fun gc=>⟨⟨Zd,Zx⟩,?_⟩));refine Yj (Does.freezeAll (H1:=(gc,_)::(gb,_)::(g,_)::(g9,_)::(g1,_)::(g2,_)::(g5,_)::(Hs_4++Hf)) (H2:=Hs2) (Zr _) (fun fz9 hle9 hf9=>?_));obtain ⟨A2y,c2y,he3,hsl9⟩:=hO2.sl hle9 hf9 Zi;injection he3 with x1 x2 x3
  subst x1 x3;refine YN (Hr:=(gc,_)::(gb,_)::(g,_)::(g9,_)::(g1,_)::(g2,_)::(g5,_)::Hs_4) (d:=funX x) (Zr _) (hF.mono (hle7.trans hle9)) YP (.head _) (Ys (Ya0 hsl9)) (fun v9 Hf9 hO9=>⟨⟨hle9,Zx⟩,?_⟩);obtain ⟨A9f,c9f,rfl,_,_⟩:=hO9.form;refine Ch.qk ⟨hle9,Zx⟩ (YV ?_);refine Ch.done ?_;refine zW ?_;refine Wj ⟨j+1,b7,_,Hf9,zs++ [funX x],by omega,rfl,rfl,hle6f.trans (hle7.trans hle9),rfl,hO9,?_,fun h0=>?_⟩ Zi Zw Zb
  ·rw [hb7,hb2];exact ⟨fun h0=>⟨h0.1.1,YL h0.1.2 hx h0.2⟩,fun h0=>⟨⟨h0.1,fun i hi=>h0.2 i Zi⟩,h0.2 j Zi x hx⟩⟩
  rw [hzs (hb7.1 h0).1,List.take_add_one,hx];simp
 have hjn:n4=j:=by omega
 subst hjn;rw [show d.functions.take n4=d.functions from Zl Zi] at hzs;have hbf:b2=false↔b'=false/\∀ x∈d.functions,YqZ x:=by rw [hb2];exact ⟨fun h0=>⟨h0.1,Xu h0.2 Zi⟩,fun h0=>⟨h0.1,fun i _ x hx=>h0.2 x (Zm hx)⟩⟩
 refine Seq.freezeAll (H1:=(g,_)::(g1,_)::(g2,_)::(g5,_)::Hs_4) (H2:=Hf) (Zr _) (fun fzq hlq hfq=>?_);obtain ⟨A2z,c2z,he4,hslf⟩:=hF.sl hlq hfq Zi;injection he4 with x1 x2 x3
 subst x1 x3;have hG6:=hG5.mono (hle6f.trans hlq);have hslp2:=hslp.mono (hle6f.trans hlq);have hle7:=(hle5.trans hle6f).trans hlq;refine zW ?_;refine Ya (Does.perm (H':=((g5,_)::Hs_4)++ [_,_,_]) Zq (Does.after (Ym ((g5,_)::Hs_4) _ Zz (Yjf (kw:=XN) hG6 hslp2 (Xr)) (fun v7 fz_5 H7 hlz5 hR7=>?_))));obtain ⟨_,_,v_5,n_5,Hs_5,rfl,hG_5,hn_5⟩:=hR7;refine ⟨(g,wrO b2)::(g1,_)::(g2,_)::(g5,lsO v_5)::Hs_5,Zq (l₁:=[_,_,_]) (l₂:=(g5,lsO v_5)::Hs_5),?_⟩;replace hG_5:Grow YE 86 fz_5 v_5 n_5 Hs_5 (l_4++grp XN (ys)):=hG_5;obtain ⟨l_5,hl5⟩:∃ l',l'=l_4++grp XN (ys):=⟨_,rfl⟩;rw [<- hl5] at hG_5;refine zW ?_;refine Ya (Does.perm (H':=((g5,_)::Hs_5)++ [_,_,_]) Zq (Does.after (Ym ((g5,_)::Hs_5) _ Zz (Yjf (kw:=XY) hG_5 (hslf.mono hlz5) (Xr)) (fun v7 fz_6 H7 hlz6 hR7=>?_))));obtain ⟨_,_,v_6,n_6,Hs_6,rfl,hG_6,hn_6⟩:=hR7;refine ⟨(g,wrO b2)::(g1,_)::(g2,_)::(g5,lsO v_6)::Hs_6,Zq (l₁:=[_,_,_]) (l₂:=(g5,lsO v_6)::Hs_6),?_⟩;replace hG_6:Grow YE 86 fz_6 v_6 n_6 Hs_6 (l_5++grp XY (zs)):=hG_6;obtain ⟨l_6,hl6⟩:∃ l',l'=l_5++grp XY (zs):=⟨_,rfl⟩;rw [<- hl6] at hG_6;have hle_6:=(hle7.trans hlz5).trans hlz6;have hb_6:b2=false↔Xc d.name/\(∀ p∈d.types,Yag false p)/\(∀ p∈d.constants,Yag false p)/\(∀ p∈d.predicates,YnJ p)/\(∀ f∈d.functions,YqZ f):=by rw [hbf,hbp,hb_4];simp only [and_assoc]
 have hys_6:b2=false->l_6=[Yp Xg,YM [Yp Wo,Yp d.name]]++grp Ybz (Yap d.types)++grp XZ (Yap d.constants)++grp XN (d.predicates.map YlP)++grp XY (d.functions.map funX):=fun h0=>by rw [hl6,hl5,hys_4 (hbp.1 (hbf.1 h0).1).1,hys (hbf.1 h0).1,hzs h0]
 refine zW ?_;refine Yi (fun q σ fz' H'=>∃ (k2:Nat) (bb:Bool) (v:Value) (nn:Nat) (Hs:HP) (us:List Sexpr),k2<=n5/\q=n5 - k2/\σ=[(99,Zk k2),(98,Zk n5),(97,Zc A5 n5 c5),(5,Zp g5),(4,Zp g),(2,Zp g2),(1,Zp g1)]/\Le fz_6 fz'/\H'=(g,wrO bb)::(g1,Zu #[Zy d.name,Zc A1 n1 c1,Zc A2 n2 c2,Zc A3 n3 c3,Zc A4 n4 c4,Zc A5 n5 c5,Zc A6 n6 c6] 28)::(g2,Zu #[Zk 0,Zk 0,Zk 0,Zk 0,Ze,Zn] 86)::(g5,lsO v)::Hs/\Grow YE 86 fz' v nn Hs (l_6++us)/\nn<=10+k2/\(bb=false↔b2=false/\∀ i,i<k2->∀ x,d.actions[i]?=some x->Yoq x)/\(bb=false->us=(d.actions.take k2).map actX)) ⟨0,b2,_,_,Hs_6,[],Z0 _,rfl,rfl,Zd,rfl,by rw [List.append_nil];exact hG_6,by omega,⟨fun h=>⟨h,fun i hi=>absurd hi Zi⟩,fun h=>h.1⟩,by simp⟩ Zw Zb ?_;rintro q σ fzx H' ⟨k2,bbx,vx,nnx,Hsx,usx,hkx,rfl,rfl,hlex,rfl,hGx,hnnx,hbx,husx⟩;obtain ⟨Avx,cvx,rfl,_,_⟩:=hGx.form;have imx:=i5.mono (hle_6.trans hlex);refine wC ?_ ?_<;>intro ecx
 ·obtain ⟨x,hx⟩:=Ye (l:=d.actions) (k:=k2) Zi;have hxm:=Zm hx;refine zWO ?_;refine Yr ?_;refine WD ?_;refine Ycj ?_;refine Yds ?_;refine Yr (YY (fun σ fz' H'=>∃ (b6:Bool) (y6:Sexpr) (v:Value) (Hs:HP),σ=[(99,Zk k2),(98,Zk n5),(97,Zc A5 n5 c5),(5,Zp g5),(4,Zp g),(2,Zp g2),(1,Zp g1)]/\Le fzx fz'/\H'=(g,wrO b6)::(g1,Zu #[Zy d.name,Zc A1 n1 c1,Zc A2 n2 c2,Zc A3 n3 c3,Zc A4 n4 c4,Zc A5 n5 c5,Zc A6 n6 c6] 28)::(g2,Zu #[Zk 0,Zk 0,Zk 0,Zk 0,Ze,Zn] 86)::(g5,lsO v)::Hs/\Grow YE 86 fz' v (nnx+1) Hs (l_6++(usx++ [y6]))/\(b6=false↔bbx=false/\Yoq x)/\(b6=false->y6=actX x)) ?_ ?_)
  ·refine wI imx hx (fun p hp=>?_);refine zL hp ?_;intro cs hcs;obtain ⟨u0,u1,u2,u3,u4,u5,rfl,hRx⟩:=Xh hcs;obtain ⟨U0,w0,z0,rfl,_⟩:=hRx.params;obtain ⟨⟨U1,w1,z1,rfl,_⟩,⟨U2,w2,z2,rfl,_⟩,⟨U3,w3,z3,rfl,_⟩,⟨U4,w4,z4,rfl,_⟩⟩:=hRx.pre.sls;obtain ⟨U5,w5,z5,rfl,_⟩:=hRx.changes;refine zW ?_;intros;rename_i g14;refine WP [] [(g14,_),(g5,_)] ?_;refine zW ?_;refine Yn ?_;refine zW ?_;refine Yn (Yn (Yn (Yn ?_)));refine zW ?_;refine pT ?_
   repeat' first
    | refine Po.done ?_
    | (refine Yh ?_)
    | (refine XD ?_ ?_)
    | (refine Yd (Does.perm (List.Perm.swap _ _ _) (Ym [_] _ Zz (Yj1 hRx (hs.acts x hxm)) (fun v6 fz6 H6 hle6 hR6=>?_)));obtain ⟨_,b6,y6,rfl,⟨cs6,rfl,hr6⟩,hb6,hy6⟩:=hR6;obtain ⟨vk6,rfl,hX6⟩:=Yf hr6;refine ⟨⟨hle6,Zkx⟩,?_⟩)
    | refine Yd (Yb (cs:=Yec) (fun gz=>⟨⟨hle6,Zkx⟩,?_⟩))
    | (refine Yd (YN (Hr:=[_,_,_,_,_,_]) (Zr _) (hGx.mono hle6) YP (.head _) YbK (fun v' Hs' hO'=>⟨⟨hle6,Zkx⟩,?_⟩));obtain ⟨gk,cap,cur,rfl,rfl,hB⟩:=hO'.b Zi)
    | refine PoS.qk ⟨hle6,Zkx⟩ (Yq rfl ?_)
    | refine Yas (YI (pre:=[_,_,_,_,_,_]) (L:=YE) (j:=nnx) rfl rfl YP (Ys hX6) hB (fun cur1 hB1=>⟨⟨hle6,Zkx⟩,?_⟩))
    | refine Yd (Yb (cs:=Yec) (fun gz=>⟨⟨Zd,Zkx⟩,?_⟩))
    | (refine Yd (Does.perm (@List.perm_middle _ _ [_,_] _).symm (Ym [_] _ Zz (Yj1 hRx (hs.acts x hxm)) (fun v6 fz6 H6 hle6 hR6=>?_)));obtain ⟨_,b6,y6,rfl,⟨cs6,rfl,hr6⟩,hb6,hy6⟩:=hR6;obtain ⟨vk6,rfl,hX6⟩:=Yf hr6;refine ⟨⟨hle6,Zkx⟩,?_⟩)
    | (refine Yd (YN (Hr:=[_,_,_,_,_,_]) (Zr _) (hGx.mono hle6) YP (.tail _ (.head _)) YbK (fun v' Hs' hO'=>⟨⟨hle6,Zkx⟩,?_⟩));obtain ⟨gk,cap,cur,rfl,rfl,hB⟩:=hO'.b Zi)
    | refine PoS.hard0 (Yaz (pre:=[_,_,_,_,_]) rfl ?_)
    | refine PoS.hard0 (YI (pre:=[_,_,_,_,_,_]) (L:=YE) (j:=nnx) rfl rfl YP (Ys hX6) hB (fun cur1 hB1=>?_))
    | refine PoS.hard (DoesQ.does (Yq rfl ?_))
   all_goals
    exact wN (h:=by exact ⟨b6,y6,_,[_],rfl,hle6,rfl,hB1.grow.of (by rw [set1 hGx.len,List.append_assoc]) rfl,hb6,hy6⟩)
  rintro σ fz' H' ⟨b6,y6,v6,Hs6,rfl,hle6,rfl,hG6,hb6,hy6⟩;refine zW ?_;refine Wj ⟨k2+1,b6,v6,nnx+1,Hs6,usx++ [y6],by omega,rfl,rfl,hlex.trans hle6,rfl,hG6,by omega,?_,fun h0=>?_⟩ Zi Zw Zb
  ·rw [hb6,hbx];exact ⟨fun h0=>⟨h0.1.1,YL h0.1.2 hx h0.2⟩,fun h0=>⟨⟨h0.1,fun i hi=>h0.2 i Zi⟩,h0.2 k2 Zi x hx⟩⟩
  rw [husx (hb6.1 h0).1,hy6 h0,List.take_add_one,hx];simp
 have hknx:n5=k2:=by omega
 subst hknx;rw [show d.actions.take n5=d.actions from Zl Zi] at husx;have hbxx:bbx=false↔b2=false/\∀ x∈d.actions,Yoq x:=by rw [hbx];exact ⟨fun h0=>⟨h0.1,Xu h0.2 Zi⟩,fun h0=>⟨h0.1,fun i _ x hx=>h0.2 x (Zm hx)⟩⟩
 refine zW ?_;refine Yi (fun q σ fz' H'=>∃ (k7:Nat) (bb:Bool) (v:Value) (nn:Nat) (Hs:HP) (us:List Sexpr),k7<=n6/\q=n6 - k7/\σ=[(117,Zk k7),(116,Zk n6),(115,Zc A6 n6 c6),(5,Zp g5),(4,Zp g),(2,Zp g2),(1,Zp g1)]/\Le fzx fz'/\H'=(g,wrO bb)::(g1,Zu #[Zy d.name,Zc A1 n1 c1,Zc A2 n2 c2,Zc A3 n3 c3,Zc A4 n4 c4,Zc A5 n5 c5,Zc A6 n6 c6] 28)::(g2,Zu #[Zk 0,Zk 0,Zk 0,Zk 0,Ze,Zn] 86)::(g5,lsO v)::Hs/\Grow YE 86 fz' v nn Hs ((l_6++usx)++us)/\nn<=nnx+k7/\(bb=false↔bbx=false/\∀ i,i<k7->∀ x,d.duratives[i]?=some x->Yog x)/\(bb=false->us=(d.duratives.take k7).map durX)) ⟨0,bbx,_,_,Hsx,[],Z0 _,rfl,rfl,Zd,rfl,by rw [List.append_nil];exact hGx,by omega,⟨fun h=>⟨h,fun i hi=>absurd hi Zi⟩,fun h=>h.1⟩,by simp⟩ Zw Zb ?_;rintro q σ fzy H' ⟨k7,bby,vy,nny,Hsy,usy,hky,rfl,rfl,hley,rfl,hGy,hnny,hby,husy⟩;obtain ⟨Avy,cvy,rfl,_,_⟩:=hGy.form;have imy:=i6.mono ((hle_6.trans hlex).trans hley);refine wC ?_ ?_<;>intro ecy
 ·obtain ⟨x,hx⟩:=Ye (l:=d.duratives) (k:=k7) Zi;have hxm:=Zm hx;refine zWO ?_;refine Yr ?_;refine WD ?_;refine Ycj ?_;refine Yds ?_;refine Yr (YY (fun σ fz' H'=>∃ (b6:Bool) (y6:Sexpr) (v:Value) (Hs:HP),σ=[(117,Zk k7),(116,Zk n6),(115,Zc A6 n6 c6),(5,Zp g5),(4,Zp g),(2,Zp g2),(1,Zp g1)]/\Le fzy fz'/\H'=(g,wrO b6)::(g1,Zu #[Zy d.name,Zc A1 n1 c1,Zc A2 n2 c2,Zc A3 n3 c3,Zc A4 n4 c4,Zc A5 n5 c5,Zc A6 n6 c6] 28)::(g2,Zu #[Zk 0,Zk 0,Zk 0,Zk 0,Ze,Zn] 86)::(g5,lsO v)::Hs/\Grow YE 86 fz' v (nny+1) Hs ((l_6++usx)++(usy++ [y6]))/\(b6=false↔bby=false/\Yog x)/\(b6=false->y6=durX x)) ?_ ?_)
  ·refine wI imy hx (fun p hp=>?_);refine zL hp ?_;intro cs hcs;obtain ⟨u0,u1,u2,u3,u4,u5,u6,u7,u8,u9,u10,u11,u12,u13,u14,rfl,hRx⟩:=YZ hcs;obtain ⟨U0,w0,z0,rfl,_⟩:=hRx.params;obtain ⟨⟨U1,w1,z1,rfl,_⟩,⟨U2,w2,z2,rfl,_⟩,⟨U3,w3,z3,rfl,_⟩,⟨U4,w4,z4,rfl,_⟩⟩:=hRx.start.sls;obtain ⟨⟨U5,w5,z5,rfl,_⟩,⟨U6,w6,z6,rfl,_⟩,⟨U7,w7,z7,rfl,_⟩,⟨U8,w8,z8,rfl,_⟩⟩:=hRx.over.sls;obtain ⟨⟨U9,w9,z9,rfl,_⟩,⟨U10,w10,z10,rfl,_⟩,⟨U11,w11,z11,rfl,_⟩,⟨U12,w12,z12,rfl,_⟩⟩:=hRx.fin.sls;obtain ⟨U13,w13,z13,rfl,_⟩:=hRx.atStart;obtain ⟨U14,w14,z14,rfl,_⟩:=hRx.atEnd;refine zW ?_;intros;rename_i g14;refine WP [] [(g14,_),(g5,_)] ?_;refine zW ?_;refine Yn ?_;refine zW ?_;refine Yn (Yn (Yn (Yn ?_)));refine zW ?_;refine pT ?_
   repeat' first
    | refine Po.done ?_
    | (refine Yh ?_)
    | (refine XD ?_ ?_)
    | (refine Yd (Does.perm (List.Perm.swap _ _ _) (Ym [_] _ Zz (YgD hRx (hs.durs x hxm)) (fun v6 fz6 H6 hle6 hR6=>?_)));obtain ⟨_,b6,y6,rfl,⟨cs6,rfl,hr6⟩,hb6,hy6⟩:=hR6;obtain ⟨vk6,rfl,hX6⟩:=Yf hr6;refine ⟨⟨hle6,Zkx⟩,?_⟩)
    | refine Yd (Yb (cs:=Yec) (fun gz=>⟨⟨hle6,Zkx⟩,?_⟩))
    | (refine Yd (YN (Hr:=[_,_,_,_,_,_]) (Zr _) (hGy.mono hle6) YP (.head _) YbK (fun v' Hs' hO'=>⟨⟨hle6,Zkx⟩,?_⟩));obtain ⟨gk,cap,cur,rfl,rfl,hB⟩:=hO'.b Zi)
    | refine PoS.qk ⟨hle6,Zkx⟩ (Yq rfl ?_)
    | refine Yas (YI (pre:=[_,_,_,_,_,_]) (L:=YE) (j:=nny) rfl rfl YP (Ys hX6) hB (fun cur1 hB1=>⟨⟨hle6,Zkx⟩,?_⟩))
    | refine Yd (Yb (cs:=Yec) (fun gz=>⟨⟨Zd,Zkx⟩,?_⟩))
    | (refine Yd (Does.perm (@List.perm_middle _ _ [_,_] _).symm (Ym [_] _ Zz (YgD hRx (hs.durs x hxm)) (fun v6 fz6 H6 hle6 hR6=>?_)));obtain ⟨_,b6,y6,rfl,⟨cs6,rfl,hr6⟩,hb6,hy6⟩:=hR6;obtain ⟨vk6,rfl,hX6⟩:=Yf hr6;refine ⟨⟨hle6,Zkx⟩,?_⟩)
    | (refine Yd (YN (Hr:=[_,_,_,_,_,_]) (Zr _) (hGy.mono hle6) YP (.tail _ (.head _)) YbK (fun v' Hs' hO'=>⟨⟨hle6,Zkx⟩,?_⟩));obtain ⟨gk,cap,cur,rfl,rfl,hB⟩:=hO'.b Zi)
    | refine PoS.hard0 (Yaz (pre:=[_,_,_,_,_]) rfl ?_)
    | refine PoS.hard0 (YI (pre:=[_,_,_,_,_,_]) (L:=YE) (j:=nny) rfl rfl YP (Ys hX6) hB (fun cur1 hB1=>?_))
    | refine PoS.hard (DoesQ.does (Yq rfl ?_))
   all_goals
    exact wN (h:=by exact ⟨b6,y6,_,[_],rfl,hle6,rfl,hB1.grow.of (by rw [set1 hGy.len,List.append_assoc]) rfl,hb6,hy6⟩)
  rintro σ fz' H' ⟨b6,y6,v6,Hs6,rfl,hle6,rfl,hG6,hb6,hy6⟩;refine zW ?_;refine Wj ⟨k7+1,b6,v6,nny+1,Hs6,usy++ [y6],by omega,rfl,rfl,hley.trans hle6,rfl,hG6,by omega,?_,fun h0=>?_⟩ Zi Zw Zb
  ·rw [hb6,hby];exact ⟨fun h0=>⟨h0.1.1,YL h0.1.2 hx h0.2⟩,fun h0=>⟨⟨h0.1,fun i hi=>h0.2 i Zi⟩,h0.2 k7 Zi x hx⟩⟩
  rw [husy (hb6.1 h0).1,hy6 h0,List.take_add_one,hx];simp
 have hkny:n6=k7:=by omega
 subst hkny;rw [show d.duratives.take n6=d.duratives from Zl Zi] at husy;have hbxy:bby=false↔bbx=false/\∀ x∈d.duratives,Yog x:=by rw [hby];exact ⟨fun h0=>⟨h0.1,Xu h0.2 Zi⟩,fun h0=>⟨h0.1,fun i _ x hx=>h0.2 x (Zm hx)⟩⟩
 refine Seq.freezeAll (H1:=[(g,_),(g1,_),(g2,_),(g5,_)]) (H2:=Hsy) (Zr _) (fun fzr hlr hfr=>?_);obtain ⟨A2w,c2w,he5,hsl⟩:=hGy.sl hlr hfr Zi;injection he5 with x1 x2 x3
 subst x1 x3;have hX:=Ya0 hsl;have hOk:bby=false↔Ycq d:=by rw [hbxy,hbxx,hb_6];unfold Ycq;simp only [and_assoc]
 have hEq:bby=false->YM ((l_6++usx)++usy)=domX d:=fun h0=>by rw [domX,hys_6 (hbxx.1 (hbxy.1 h0).1).1,husx (hbxy.1 h0).1,husy h0]
 unfold lsO wrO;cases bby
 ·refine wb (Yat (x:=YM ((l_6++usx)++usy)) hX) (fun f1=>?_) (fun f1=>?_)
  ·have hP:Ycq d/\XVal (domX d):=⟨hOk.1 rfl,by rw [<- hEq rfl];exact Zt f1⟩;refine zW ?_;refine YS T (vs:=[.agg #[_,_,_,_,_,_],.nilIface]) ⟨⟨_,_,2,_,_,_,rfl,rfl,rfl,rfl,rfl,rfl⟩,rfl,trivial⟩ (fun fz3 hle3 hf3=>?_);exact ⟨rfl,_,_,by rw [if_pos hP];rfl,SxIs.mono hle3 ⟨_,rfl,Ys hX⟩,fun _=>hEq rfl⟩
  have hP:¬(Ycq d/\XVal (domX d)):=fun h0=>Zf f1 (by rw [hEq rfl];exact h0.2)
  refine zW ?_;refine YS T (vs:=[.agg #[_,_,_,_,_,_],_]) ⟨⟨_,_,2,_,_,_,rfl,rfl,rfl,rfl,rfl,rfl⟩,rfl,trivial⟩ (fun fz3 hle3 hf3=>?_);exact ⟨rfl,_,_,by rw [if_neg hP,Yg Zh];rfl,YbC,fun h0=>absurd h0 hP⟩
 have hP:¬(Ycq d/\XVal (domX d)):=fun h0=>by simpa using hOk.2 h0.1
 refine zW ?_;refine YS T (vs:=[.agg #[_,_,_,_,_,_],_]) ⟨⟨_,_,2,_,_,_,rfl,rfl,rfl,rfl,rfl,rfl⟩,rfl,trivial⟩ (fun fz3 hle3 hf3=>?_);exact ⟨rfl,_,_,by rw [if_neg hP,Yg Zh];rfl,YbC,fun h0=>absurd h0 hP⟩
theorem right1_q (hs:Short s):QFn prog 218 [Zy s] fz (Zo (decide (¬Xc s))):=by
 refine qF Tryz.func218 Tryz.ntmps218 (fun w0=>?_);refine wb (WN hs) (fun f1=>?_) (fun f1=>?_)
 ·exact wR (h:=by exact Yl (fun h0=>h0 (Zt f1)))
 exact wR (h:=by exact Yu (Zf f1))
theorem Yo9 (h:AtomR fz a va):QFn prog 150 [.agg #[Zy a.name,va]] fz (Zo (decide (GrdA a))):=by
 obtain ⟨A,n,c,rfl,ia⟩:=h.args;refine qF Tryz.func150 Tryz.ntmps150 (fun w0=>?_);refine pX (fun g0=>?_);refine wb (WN h.name) (fun f1=>?_) (fun f1=>?_)
 ·refine wG ?_;refine WJ (Yde ia (fun x hx=>right1_q hx)) (fun f2=>?_) (fun f2=>?_)
  ·refine zW ?_
   (exact ret1 rfl rfl Zb (Yl (fun h0=>by
    obtain ⟨x,hx,hx2⟩:=Zt f2;exact hx2 (h0.2 x hx))))
  exact wR (h:=by exact (Yu ⟨Zt f1,fun x hx=>Classical.byContradiction fun h0=>Zf f2 ⟨x,hx,h0⟩⟩))
 exact wR (h:=by exact Yl (fun h0=>Zf f1 h0.1))
theorem YgC (h:AtomR fz a va) (hn:a.args.length<=1000000000):
 GFn prog 86 [.agg #[Zy a.name,va]] fz [] (fun v fz' H'=>H'=[]/\SxIs fz' v (YaR a.name a.args)):=by
 obtain ⟨A,n,c,rfl,h1⟩:=h.args;have l1:=h1.len;refine zF Tryz.func86 Tryz.ntmps86 (fun w0=>?_);refine pX (fun g0=>?_);refine zW ?_;intros;rename_i g4;refine zc (Ybv (s:=a.name)) ?_;refine Ya (Yb (cs:=YH a.name) (fun gb=>?_));refine zc Yen ?_;refine zW ?_;intros;rename_i g5;refine Wp.perm (YbY [0,2,1,3] (h:=rfl) (e:=rfl)) ?_;refine Yi (fun q σ fz' H'=>∃ (k:Nat) (v:Value) (Hs:HP),k<=n/\q=n - k/\σ=[(14,Zk k),(13,Zk n),(12,Zc A n c),(3,Zp g5),(2,Zp g4)]/\fz=fz'/\
  H'=(g5,Zu #[Zk 3,Zk 0,Zk 0,Zk 0,Ze,v] 86)::(g4,Zu #[Zk 0,Zk 0,Zk 0,Zk 0,Ze,Zn] 86)::Hs/\Grow YE 86 fz' v (k+1) Hs (Yp a.name::(a.args.take k).map Yp))
  ⟨0,_,[_],Z0 _,rfl,rfl,rfl,rfl,Grow.block (ys:=[(Yp a.name,YH a.name)]) rfl rfl (by simpa using YO h.name) rfl⟩ Zw Zb ?_
 rintro q σ fz' H' ⟨k,v,Hs,hk,rfl,rfl,rfl,rfl,hO⟩;refine wC ?_ ?_<;>intro c1
 ·obtain ⟨x,hx⟩:=Ye (l:=a.args) (k:=k) Zi;obtain ⟨Av,cv,rfl,_,_⟩:=hO.form;refine wI h1 hx (fun p hp=>?_);refine zH hp (fun ix=>?_);refine zW ?_;refine XF [_,_] ?_;refine wc (Ybv (s:=x)) ?_;unfold sxV;refine Yk (Yk ?_);refine zW ?_;refine pU ?_;refine Yj (Yb (cs:=YH x) (fun gb=>⟨⟨Zd,Zx⟩,?_⟩));refine Yj (YN (Hr:=[_,_,_]) (d:=Yp x) (Zr _) hO YP (.head _) (YO ix) (fun v' Hs' hO'=>⟨⟨Zd,Zx⟩,?_⟩));obtain ⟨Av',cv',rfl,_,_⟩:=hO'.form;refine Ch.hard0 (Y9 ?_);refine Ch.done ?_;exact wP (h:=by exact ⟨k+1,_,Hs',by omega,rfl,rfl,rfl,rfl,hO'.of (by rw [List.take_add_one,hx];simp) rfl⟩)
 have hk1:k=n:=by omega
 subst hk1;obtain ⟨Av,cv,rfl,_,_⟩:=hO.form;rw [Zl Zi] at hO;refine zW ?_;refine XJ (i:=1) rfl (fun fz3 hle3 hf3=>⟨rfl,?_⟩);obtain ⟨A',c',he,hsl⟩:=hO.sl hle3 (fun p hp=>hf3 p (by simp [hp])) Zi;injection he with he1 he2 he3
 subst he1 he3;exact YaJ hsl
theorem YpX {l:List Atom} {p:Atom->Prop} [DecidablePred p] (h1:Sl atomL fz A n c l) (hq:∀ x va,AtomR fz x va->QFn prog ff [.agg #[Zy x.name,va]] fz (Zo (decide (p x)))):
 QFn prog 219 [Zc A n c,.func (.func ff) #[] #[]] fz (Zk (W6 p l 0)):=by
 refine qF Tryz.func219 Tryz.ntmps219 (fun w0=>?_);have l1:=h1.len;have hm:=h1.short;refine zW ?_;refine Yav n (fun k=>[(8,Zk k),(7,Zk n),(0,Zc A n c),(1,.func (.func ff) #[] #[])]) [] (fun k=>(∀ i,i<k->∀ x,l[i]?=some x->¬p x)) (fun i hi=>absurd hi Zi) ?_;intro k hk hh;refine wC (fun hlt=>?_) (fun hge=>?_)
 ·refine zW ?_;obtain ⟨x,hx⟩:=Ye (l:=l) (k:=k) Zi;refine zI h1 hx (fun a ha=>?_);refine zL ha ?_;intro cs hcs;obtain ⟨va,rfl,hR⟩:=XA hcs;refine wG ?_;refine Yah Zz Zz Zz (hq x va hR) (fun c1=>?_) (fun c1=>?_)
  ·exact wR (h:=by rw [YaG hh hx c1,Int.zero_add])
  exact wM (h:=by exact YL hh hx c1)
 exact wR (h:=by rw [WL (Xu hh Zi)])
theorem Yle {l:List Atom} {p:Atom->Prop} [DecidablePred p] (h1:Sl atomL fz A n c l) (hq:∀ x va,AtomR fz x va->QFn prog ff [.agg #[Zy x.name,va]] fz (Zo (decide (p x)))):
 QFn prog 151 [Zc A n c,.func (.func ff) #[] #[]] fz (Zo (decide (∃ x∈l,p x))):=by
 refine qF Tryz.func151 Tryz.ntmps151 (fun w0=>?_);refine wc (YpX h1 hq) ?_;refine zC ?_ ?_<;>intro c1
 ·exact wR (h:=by exact Yu ((Xt (Int.le_refl 0)).1 c1))
 exact wR (h:=by exact Yl (fun h=>c1 ((Xt (Int.le_refl 0)).2 h)))
theorem expr1_q (h:AtomR fz a va):QFn prog 152 [.agg #[Zy a.name,va]] fz (Zo (decide (¬GrdA a))):=by
 have h0:=h;obtain ⟨A,n,c,rfl,ia⟩:=h.args;refine qF Tryz.func152 Tryz.ntmps152 (fun w0=>?_);refine pX (fun g0=>?_);refine wb (Yo9 h0) (fun f1=>?_) (fun f1=>?_)
 ·exact wR (h:=by exact Yl (fun h0=>h0 (Zt f1)))
 exact wR (h:=by exact Yu (Zf f1))
def ValOk (v:Value_):Prop:=GrdA v.fluent/\Yca v.n
def YbJ (p:Problem):Prop:=Xc p.name/\Xc p.domain/\(∀ o∈p.objects,Yag false o)/\(∀ v∈p.values,ValOk v)/\∀ a∈p.init,GrdA a
theorem Yjs (h:ProblemR fz p v1 v2 v3 v4 v5 v6 v7):
 QFn prog 82 [ZP p v1 v2 v3 v4 v5 v6 v7] fz (Zo (decide (YbJ p))):=by
 obtain ⟨⟨A1,n1,b1,rfl,io⟩,⟨A2,n2,b2,rfl,ii⟩,⟨A3,n3,b3,rfl,iv⟩⟩:=h.sls;obtain ⟨⟨A4,n4,b4,rfl,_⟩,⟨A5,n5,b5,rfl,_⟩,⟨A6,n6,b6,rfl,_⟩,⟨A7,n7,b7,rfl,_⟩⟩:=h.goal.sls;have lo:=io.len;have lv:=iv.len;have so:=io.short;have sv:=iv.short;refine qF Tryz.func82 Tryz.ntmps82 (fun w0=>?_);refine pX (fun g0=>?_);refine wb (WN h.name) (fun f1=>?_) (fun f1=>?_)
 ·refine wb (WN h.domain) (fun f2=>?_) (fun f2=>?_)
  ·refine zW ?_;refine Yav n1 (fun k=>[(20,Zk k),(19,Zk n1),(18,Zc A1 n1 b1),(1,Zp g0)]) [(g0,Zu #[Zy p.name,Zy p.domain,Zc A1 n1 b1,Zc A2 n2 b2,Zc A3 n3 b3,Zy p.goal.op,Zy p.goal.name,Zc A4 n4 b4,Zc A5 n5 b5,Zc A6 n6 b6,Zc A7 n7 b7] 37)] (fun k=>(∀ i,i<k->∀ x,p.objects[i]?=some x->Yag false x)) (fun i hi=>absurd hi Zi) ?_;intro k hk hh;refine wC ?_ ?_<;>intro c1
   ·obtain ⟨x,hx⟩:=Ye (l:=p.objects) (k:=k) Zi;have bad:¬Yag false x->¬YbJ p:=fun h0 h=>h0 (h.2.2.1 x (Zm hx))
    refine wI io hx (fun a ha=>?_);refine zL ha ?_;intro cs hcs;obtain ⟨rfl,hR⟩:=YJ hcs;refine zW ?_;intros;refine zb (WN hR.name) (fun f3=>?_) (fun f3=>?_)
    ·refine wb (WN hR.typ) (fun f4=>?_) (fun f4=>?_)
     ·exact wM (h:=by exact YL hh hx ⟨Zt f3,.inl (Zt f4)⟩)
     refine wC ?_ ?_<;>intro e1
     ·exact wR (h:=by exact Yl (bad (fun h0=>h0.2.elim (Zf f4) e1)))
     exact wM (h:=by exact YL hh hx ⟨Zt f3,.inr e1⟩)
    exact wR (h:=by exact Yl (bad (fun h0=>Zf f3 h0.1)))
   have hO:=Xu hh Zi;refine zW ?_;refine Yi (fun q σ fz' H'=>∃ k:Nat,k<=n3/\q=n3 - k/\σ=[(43,Zk k),(42,Zk n3),(41,Zc A3 n3 b3),(1,Zp g0)]/\fz=fz'/\H'=[(g0,Zu #[Zy p.name,Zy p.domain,Zc A1 n1 b1,Zc A2 n2 b2,Zc A3 n3 b3,Zy p.goal.op,Zy p.goal.name,Zc A4 n4 b4,Zc A5 n5 b5,Zc A6 n6 b6,Zc A7 n7 b7] 37)]/\(∀ i,i<k->∀ x,p.values[i]?=some x->ValOk x)) ⟨0,Z0 _,rfl,rfl,rfl,rfl,fun i hi=>absurd hi Zi⟩ Zw Zb ?_;rintro q σ fz' H' ⟨k2,hk2,rfl,rfl,rfl,rfl,hh2⟩;refine wC ?_ ?_<;>intro c2
   ·obtain ⟨x,hx⟩:=Ye (l:=p.values) (k:=k2) Zi;have bad:¬ValOk x->¬YbJ p:=fun h0 h=>h0 (h.2.2.2.1 x (Zm hx))
    refine wI iv hx (fun a ha=>?_);refine zL ha ?_;intro cs hcs;obtain ⟨w1,rfl,hR⟩:=Yam hcs;have hA:=hR.fluent;obtain ⟨U,w,z,rfl,_⟩:=hR.fluent.args;refine zW ?_;intros
    ((refine zG ?_);refine Yc (vs:=[Zy x.fluent.name,Zc U w z]) 0 ?_);refine zb (Yo9 hA) (fun f3=>?_) (fun f3=>?_)
    ·refine zW ?_
     (((refine zC (fun m1=>?_) (fun m1=>?_));((refine zW ?_);(exact ret1 rfl rfl Zb (Yl (bad (fun h0=>by have:=h0.2.1;omega)))));(refine zW ?_)))
     (((refine zC (fun m2=>?_) (fun m2=>?_));((refine zW ?_);(exact ret1 rfl rfl Zb (Yl (bad (fun h0=>by have:=h0.2.2;omega)))));(refine zW ?_)));exact wP (h:=by exact ⟨k2+1,by omega,rfl,rfl,rfl,rfl,YL hh2 hx ⟨Zt f3,by omega,by omega⟩⟩)
    exact wR (h:=by exact Yl (bad (fun h0=>Zf f3 h0.1)))
   have hV:=Xu hh2 Zi;refine wG ?_;refine WJ (Yle ii (fun x va hx=>expr1_q hx)) (fun f3=>?_) (fun f3=>?_)
   ·refine zW ?_
    (exact ret1 rfl rfl Zb (Yl (fun h0=>by
     obtain ⟨x,hx,hx2⟩:=Zt f3;exact hx2 (h0.2.2.2.2 x hx))))
   exact wR (h:=by exact (Yu ⟨Zt f1,Zt f2,hO,hV,fun x hx=>Classical.byContradiction fun h0=>Zf f3 ⟨x,hx,h0⟩⟩))
  exact wR (h:=by exact Yl (fun h0=>Zf f2 h0.2.1))
 exact wR (h:=by exact Yl (fun h0=>Zf f1 h0.1))
end Go.Proofs.YtiligkgjcmokbaaGreatDoor
namespace Go.Proofs.YtiligkgjcmokbaaGreatDoor
theorem Yp1 {kw:Bs} {ks:List Sexpr} (h:ks≠ []):grp kw ks=[YM (Yp kw::ks)]:=if_neg h
theorem Yp2 {kw:Bs}:grp kw []=[]:=if_pos rfl
end Go.Proofs.YtiligkgjcmokbaaGreatDoor
