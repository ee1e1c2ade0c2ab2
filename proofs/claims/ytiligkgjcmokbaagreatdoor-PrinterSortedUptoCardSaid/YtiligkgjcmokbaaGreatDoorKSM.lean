/- The texts PWalkW, PCX, QU, QN, PEag, QP, QT, QL, QLB, QV, QW, QY, QX, QZ, QLn, UJ, UN, Rg, NA, NO, Gat, laid together. Conditions: none. -/
import Derived.Test.YtiligkgjcmokbaaGreatDoorKSL
import Derived.RangeFuncIn
import Derived.RangeFuncRecord
import Derived.RangeFuncLeaves
set_option linter.all false
set_option maxHeartbeats 16000000
noncomputable section
set_option maxRecDepth 20000
open Go.Lx Go.RowKit
attribute [local instance 10] Classical.propDecidable
open Go.Proofs.Tryz (prog)
namespace Go.Proofs.YtiligkgjcmokbaaGreatDoor
variable {α:Type} {fz:FZ} {p:Problem} {v1 v2 v3 v4 v5 v6 v7 u1 u2 u3 u4 u5 u6 u7 vp:Value} {all:List Param} {d:Domain} {s:Bs} {l:List α}
def XU:Bs:=⟨#[112,114,111,98,108,101,109]⟩
def Xk:Bs:=⟨#[58,100,111,109,97,105,110]⟩
def Wu:Bs:=⟨#[58,111,98,106,101,99,116,115]⟩
def YdI:Bs:=⟨#[58,105,110,105,116]⟩
def Yc8:Bs:=⟨#[58,103,111,97,108]⟩
def Ybc (a:Atom):Sexpr:=YaR a.name a.args
def valX (v:Value_):Sexpr:=YM [Yp kEq,Ybc v.fluent,numE v.n]
def Yn8 (f:Formula):List Sexpr:=if f.op=kAnd/\f.kids=[] then [] else [YM [Yp Yc8,Xm f]]
def prbX (p:Problem):Sexpr:=YM ([Yp Xg,YM [Yp XU,Yp p.name],YM [Yp Xk,Yp p.domain]]++grp Wu (Yap p.objects)++grp YdI (p.init.map Ybc++p.values.map valX)++Yn8 p.goal)
structure PrbSm (p:Problem):Prop where
 objects:p.objects.length<=1000000000
 init:p.init.length<=1000000000
 inits:∀ a∈p.init,a.args.length<=1000000000
 values:p.values.length<=1000000000
 vals:∀ v∈p.values,v.fluent.args.length<=1000000000
 goal:FSm p.goal
def glO (x:Sexpr) (vk:Value):Obj:=Zu #[Zk x.kind,Zk x.value,Zk x.line,Zk x.column,Zy x.text,vk] 86
theorem head_rep {a b:Bs} {gb gc:Nat} (ha:Short a) (hb:Short b)
 (h1:fz gb=some (.cells (YH XU++YH a).toArray 86 (0,0)))
 (h2:fz gc=some (.cells (YH Xk++YH b).toArray 86 (0,0))):
 ∀ p∈ [(Yp Xg,YH Xg),(YM [Yp XU,Yp a],[Zk 3,Zk 0,Zk 0,Zk 0,Ze,Zv gb 2 2]),(YM [Yp Xk,Yp b],[Zk 3,Zk 0,Zk 0,Zk 0,Ze,Zv gc 2 2])],YE.rep fz p.1 p.2:=by
 intro p hp;simp only [List.mem_cons,List.not_mem_nil,or_false] at hp;rcases hp with rfl | rfl | rfl
 ·exact YO (Xr)
 ·exact Ys (Ya0 (Wb (ys:=[(Yp XU,YH XU),(Yp a,YH a)]) h1 rfl rfl (by intro p hp;simp only [List.mem_cons,List.not_mem_nil,or_false] at hp;rcases hp with rfl | rfl;exact YO (Xr);exact YO ha) rfl Zh))
 exact Ys (Ya0 (Wb (ys:=[(Yp Xk,YH Xk),(Yp b,YH b)]) h2 rfl rfl (by intro p hp;simp only [List.mem_cons,List.not_mem_nil,or_false] at hp;rcases hp with rfl | rfl;exact YO (Xr);exact YO hb) rfl Zh))
theorem Yi5 (h:ProblemR fz p v1 v2 v3 v4 v5 v6 v7) (hs:PrbSm p):
 GFn prog 35 [ZP p v1 v2 v3 v4 v5 v6 v7] fz [] (WrR (FVal p.goal/\YbJ p/\XVal (prbX p)) (prbX p)):=by
 obtain ⟨⟨A1,n1,b1,rfl,io⟩,⟨A2,n2,b2,rfl,ii⟩,⟨A3,n3,b3,rfl,iv⟩⟩:=h.sls;obtain ⟨⟨A4,n4,b4,rfl,_⟩,⟨A5,n5,b5,rfl,_⟩,⟨A6,n6,b6,rfl,_⟩,⟨A7,n7,b7,rfl,i7⟩⟩:=h.goal.sls;have lo:=io.len;have li:=ii.len;have lv:=iv.len;have mo:=hs.objects;have mi:=hs.init;have mv:=hs.values;refine zF Tryz.func35 Tryz.ntmps35 (fun w0=>?_);refine pX (fun g1=>?_);refine zWO ?_;intros;rename_i g2;refine wG ?_;refine Yc (vs:=[Zy p.goal.op,Zy p.goal.name,Zc A4 n4 b4,Zc A5 n5 b5,Zc A6 n6 b6,Zc A7 n7 b7]) 1 ?_;refine wK (q:=Ynt h.goal hs.goal) (h:=fun v8 fz8 H8 hle8 hR8=>?_);obtain ⟨rfl,u,y,rfl,⟨cs,rfl,hr⟩,hyx⟩:=hR8;obtain ⟨vk6,rfl,hX⟩:=Yf hr;obtain ⟨A8,n8,b8,rfl,i8⟩:=hX.kids;by_cases hP:FVal p.goal
 ·obtain rfl:=hyx hP;rw [if_pos hP];refine zW ?_;intros;rename_i g4;refine zb (Yjs (h.mono hle8)) (fun f1=>?_) (fun f1=>?_)
  ·have hE:=Zt f1;refine zWX ?_;refine Yr (YY (fun σ fz' H'=>∃ (g6:Nat) (v:Value) (Hs:HP),σ=[(6,Zp g6),(4,Zp g4),(2,Zp g2),(1,Zp g1)]/\Le fz8 fz'/\H'=(g6,lsO v)::(g1,Zu #[Zy p.name,Zy p.domain,Zc A1 n1 b1,Zc A2 n2 b2,Zc A3 n3 b3,Zy p.goal.op,Zy p.goal.name,Zc A4 n4 b4,Zc A5 n5 b5,Zc A6 n6 b6,Zc A7 n7 b7] 37)::(g2,Zu #[Zk 0,Zk 0,Zk 0,Zk 0,Ze,Zn] 86)::(g4,glO (Xm p.goal) (Zc A8 n8 b8))::Hs/\Grow YE 86 fz' v 3 Hs [Yp Xg,YM [Yp XU,Yp p.name],YM [Yp Xk,Yp p.domain]]) ?_ ?_)
   ·have hnm:=h.name;have hdm:=h.domain;refine WP [] [(g1,_)] ?_;refine wc (Ybv (s:=Xg)) ?_;refine wc (Ybv (s:=XU)) ?_;refine wc (Ybv (s:=p.name)) ?_;refine zW ?_;refine Yn (Yn (Yn ?_));refine wc (Ybv (s:=p.domain)) ?_;unfold sxV;refine pT ?_
    repeat' first
     | refine Po.done ?_
     | (refine Yh ?_)
     | (refine XD ?_ ?_)
     | refine Yd (Yb (cs:=YH XU++YH p.name) (fun gb=>⟨⟨Zd,Zx⟩,?_⟩))
     | (refine PoS.qk ⟨Zd,Zx⟩ (YF Yen ?_);unfold sxV)
     | (refine PoS.qk ⟨Zd,Zx⟩ (YF (Ybv (s:=Xk)) ?_);unfold sxV)
     | refine Yd (Yb (cs:=YH Xk++YH p.domain) (fun gc=>⟨⟨Zd,Zx⟩,?_⟩))
     | refine Yd (Yb (cs:=YH Xg++([.int .i64 3,.int .i64 0,.int .i64 0,.int .i64 0,.string ⟨#[]⟩,.slice (some ⟨gb,0,none⟩) 2 2]++ [.int .i64 3,.int .i64 0,.int .i64 0,.int .i64 0,.string ⟨#[]⟩,.slice (some ⟨gc,0,none⟩) 2 2])) (fun gd=>⟨⟨Zd,Zx⟩,?_⟩))
     | refine Yd (Y7 (fun g6=>⟨⟨Zd,Zx⟩,?_⟩))
     | refine PoS.hard0 (Does.perm (YbY [0,6,5,4,1,2,3]) (YG ?_))
     | refine PoS.hard0 (Does.perm (YbY [1,6,5,4,0,2,3]) (YG ?_))
     | refine PoS.hard0 (Does.perm (YbY [2,6,5,4,0,1,3]) (YG ?_))
     | refine PoS.hard0 (Does.perm (YbY [3,6,5,4,0,1,2]) (YG ?_))
    all_goals
     refine zW ?_;refine midF (H':=[(g6,_),(g1,_),(g2,_),(g4,_),(gd,_)]) (H2:=[(gb,_),(gc,_)]) (YbY [0,1,2,3,4,6,5]) (fun fz3 hl3 hf3=>⟨g6,_,[(gd,_)],rfl,hl3,rfl,Grow.block (m:=3) (ys:=[(Yp Xg,YH Xg),(YM [Yp XU,Yp p.name],[Zk 3,Zk 0,Zk 0,Zk 0,Ze,Zv gb 2 2]),(YM [Yp Xk,Yp p.domain],[Zk 3,Zk 0,Zk 0,Zk 0,Ze,Zv gc 2 2])]) rfl rfl ?_ rfl⟩) Zw;exact head_rep hnm hdm (hf3 _ (.head _)) (hf3 _ (.tail _ (.head _)))
   rintro σ fz9 H' ⟨g6,v,Hs,rfl,hle9,rfl,hG⟩;obtain ⟨Av,cv,rfl,_,_⟩:=hG.form;refine zWX ?_;refine Yr (YY (fun σ fz' H'=>∃ (m:Nat) (v:Value) (Hs:HP),σ=[(6,Zp g6),(4,Zp g4),(2,Zp g2),(1,Zp g1)]/\Le fz9 fz'/\H'=(g6,lsO v)::(g1,Zu #[Zy p.name,Zy p.domain,Zc A1 n1 b1,Zc A2 n2 b2,Zc A3 n3 b3,Zy p.goal.op,Zy p.goal.name,Zc A4 n4 b4,Zc A5 n5 b5,Zc A6 n6 b6,Zc A7 n7 b7] 37)::(g2,Zu #[Zk 0,Zk 0,Zk 0,Zk 0,Ze,Zn] 86)::(g4,glO (Xm p.goal) (Zc A8 n8 b8))::Hs/\m<=4/\Grow YE 86 fz' v m Hs ([Yp Xg,YM [Yp XU,Yp p.name],YM [Yp Xk,Yp p.domain]]++grp Wu (Yap p.objects))) ?_ ?_)
   ·have i1m:=io.mono (hle8.trans hle9);refine wC ?_ ?_<;>intro c1
    ·have hne:Yap p.objects≠ []:=fun h0=>by have:=Ykt (l:=p.objects);rw [h0] at this;simp at this;omega
     refine zW ?_;refine WP [] [(g6,_),(g1,_)] ?_;refine wc (Ybv (s:=Wu)) ?_;refine Yn ?_;refine zW ?_;unfold sxV;refine Yn (Yn (Yn (Yn (Yn ?_))));refine zW ?_;refine pT ?_
     repeat' first
      | refine Po.done ?_
      | (refine Yh ?_)
      | (refine XD ?_ ?_)
      | refine Yd (Yb (cs:=YH Wu) (fun gb=>⟨⟨Zd,Zx⟩,?_⟩))
      | (refine Yd (Ym [] _ Zz (Ygr i1m Zi) (fun v7 fz7 H7 hle7 hR7=>?_));obtain ⟨rfl,B7,cc7,rfl,hsl7⟩:=hR7;refine ⟨⟨hle7,Zx⟩,?_⟩)
      | (refine Yd (WZ T (n:=1) (l:=[Yp Wu]) (Hr:=(g6,_)::(g1,_)::(g2,_)::(g4,_)::Hs) (Hs:=[(gb,_)]) Zz Zz Zz Zz Zz Zz Zz Zz ((List.perm_append_singleton _ _).symm) (Grow.block (ys:=[(Yp Wu,YH Wu)]) rfl rfl (by simpa using YO (Xr)) rfl) YP hsl7 (by show _*72<=_;omega) Zi (fun v8 Hs1 hO1=>⟨⟨hle7,Zx⟩,?_⟩));obtain ⟨Ao,co,rfl,_,_⟩:=hO1.form)
      | (refine PoS.qk ⟨hle7,Zx⟩ (YF Yen ?_);unfold sxV)
      | refine Yd (Yb (cs:=[.int .i64 3,.int .i64 0,.int .i64 0,.int .i64 0,.string ⟨#[]⟩,.slice Ao (1+3*n1) co]) (fun gc=>⟨⟨hle7,Zx⟩,?_⟩))
      | (refine Yd (Does.freezeAll (H1:=(gc,_)::(g6,_)::(g1,_)::(g2,_)::(g4,_)::Hs) (H2:=Hs1) (Zr _) (fun fzb hle10 hf10=>?_));obtain ⟨A2x,c2x,he2,hsl9⟩:=hO1.sl hle10 hf10 Zi;injection he2 with x1 x2 x3;subst x1 x3;refine YN (Hr:=(gc,_)::(g6,_)::(g1,_)::(g2,_):: [(g4,_)]) (d:=YM (Yp Wu::Yap p.objects)) (Zr _) (hG.mono (hle7.trans hle10)) YP (.head _) (Ys (Ya0 hsl9)) (fun v9 Hp9 hO9=>⟨⟨hle7.trans hle10,Zx⟩,?_⟩);obtain ⟨A9,c9,rfl,_,_⟩:=hO9.form)
      | refine PoS.hard0 (Y9 ?_)
      | refine Yd (Yb (cs:=YH Wu) (fun gb=>⟨⟨hle7,Zx⟩,?_⟩))
     all_goals
      exact wN (h:=by exact ⟨4,_,Hp9,rfl,hle7.trans hle10,rfl,by omega,hO9.of (by rw [Yp1 hne]) rfl⟩)
    have hnil:Yap p.objects=[]:=List.eq_nil_of_length_eq_zero (by rw [Ykt];omega);exact wN (h:=by exact ⟨3,_,Hs,rfl,Zd,rfl,by omega,hG.of (by rw [hnil,Yp2];simp) rfl⟩)
   rintro σ fz10 H' ⟨m1,v,Hs,rfl,hle10,rfl,hm1,hG⟩;obtain ⟨Av,cv,rfl,_,_⟩:=hG.form;refine zWX ?_;refine Yr (YY (fun σ fz' H'=>∃ (m:Nat) (v:Value) (Hs:HP),σ=[(6,Zp g6),(4,Zp g4),(2,Zp g2),(1,Zp g1)]/\Le fz10 fz'/\H'=(g6,lsO v)::(g1,Zu #[Zy p.name,Zy p.domain,Zc A1 n1 b1,Zc A2 n2 b2,Zc A3 n3 b3,Zy p.goal.op,Zy p.goal.name,Zc A4 n4 b4,Zc A5 n5 b5,Zc A6 n6 b6,Zc A7 n7 b7] 37)::(g2,Zu #[Zk 0,Zk 0,Zk 0,Zk 0,Ze,Zn] 86)::(g4,glO (Xm p.goal) (Zc A8 n8 b8))::Hs/\m<=5/\Grow YE 86 fz' v m Hs ([Yp Xg,YM [Yp XU,Yp p.name],YM [Yp Xk,Yp p.domain]]++grp Wu (Yap p.objects)++grp YdI (p.init.map Ybc++p.values.map valX))) ?_ ?_)
   ·have hleA:=(hle8.trans hle9).trans hle10;have i2m:=ii.mono hleA;have i3m:=iv.mono hleA;refine wC ?_ ?_<;>intro c2
    ·refine wc (Ybv (s:=YdI)) ?_;refine Ya (Yb (cs:=YH YdI) (fun gb=>?_));refine zc Yen ?_;refine zW ?_;intros;rename_i g7;refine Wp.perm (List.Perm.cons _ (List.perm_append_singleton _ ((g6,_)::(g1,_)::(g2,_)::(g4,_)::Hs))) ?_;refine Yi (fun q σ fz' H'=>∃ (k:Nat) (v7:Value) (Hi:HP),k<=n2/\q=n2 - k/\σ=[(72,Zk k),(71,Zk n2),(70,Zc A2 n2 b2),(7,Zp g7),(6,Zp g6),(4,Zp g4),(2,Zp g2),(1,Zp g1)]/\Le fz10 fz'/\H'=(g7,lsO v7)::(g6,lsO (Zc Av m1 cv))::(g1,Zu #[Zy p.name,Zy p.domain,Zc A1 n1 b1,Zc A2 n2 b2,Zc A3 n3 b3,Zy p.goal.op,Zy p.goal.name,Zc A4 n4 b4,Zc A5 n5 b5,Zc A6 n6 b6,Zc A7 n7 b7] 37)::(g2,Zu #[Zk 0,Zk 0,Zk 0,Zk 0,Ze,Zn] 86)::(g4,glO (Xm p.goal) (Zc A8 n8 b8))::(Hs++Hi)/\Grow YE 86 fz' v7 (k+1) Hi (Yp YdI::(p.init.take k).map Ybc)) ⟨0,_,[_],Z0 _,rfl,rfl,Zd,rfl,Grow.block (ys:=[(Yp YdI,YH YdI)]) rfl rfl (by simpa using YO (Xr)) rfl⟩ Zw Zb ?_;rintro q σ fz' H' ⟨k,v7,Hi,hk,rfl,rfl,hle,rfl,hO⟩;obtain ⟨Ai,ci,rfl,_,_⟩:=hO.form;refine wC ?_ ?_<;>intro e1
     ·obtain ⟨x,hx⟩:=Ye (l:=p.init) (k:=k) Zi;have hxm:=Zm hx;have i2k:=i2m.mono hle;refine wI i2k hx (fun a ha=>?_);refine zL ha ?_;intro cs hcs;obtain ⟨va,rfl,hRx⟩:=XA hcs;obtain ⟨Aa,na,ca,rfl,ia⟩:=hRx.args;refine zW ?_;intros;rename_i g9;refine WP [] [(g9,_),(g7,_)] ?_;refine zW ?_;refine Yn (Yn (Yn ?_));refine zW ?_;refine pT ?_;refine Yh ?_;refine Yd (Ym [] _ Zz (YgC hRx (hs.inits x hxm)) (fun v7 fz7 H7 hle7 hR7=>?_));obtain ⟨rfl,cs7,rfl,hr7⟩:=hR7;obtain ⟨vk7,rfl,hX7⟩:=Yf (x:=Ybc x) hr7;refine ⟨⟨hle7,Zx⟩,?_⟩;refine Yh ?_;refine Yd (Yb (cs:=[Zk (Ybc x).kind,Zk (Ybc x).value,Zk (Ybc x).line,Zk (Ybc x).column,Zy (Ybc x).text,vk7]) (fun gc=>⟨⟨hle7,Zx⟩,?_⟩));refine Yh ?_;refine Yd (YN (Hr:=(gc,_)::(g9,_)::(g7,_)::(g6,_)::(g1,_)::(g2,_)::(g4,_)::Hs) (d:=Ybc x) (Zr _) (hO.mono hle7) YP (.head _) (Ys hX7) (fun v9 Hi9 hO9=>⟨⟨hle7,Zx⟩,?_⟩));obtain ⟨A9,c9,rfl,_,_⟩:=hO9.form;refine Yh ?_;refine PoS.hard0 (WT ?_);refine Po.done ?_;exact wP (h:=by exact ⟨k+1,_,Hi9,by omega,rfl,rfl,hle.trans hle7,rfl,hO9.of (by rw [List.take_add_one,hx];simp) rfl⟩)
     have hkn:n2=k:=by omega
     subst hkn;rw [Zl Zi] at hO;refine zW ?_;refine Yi (fun q σ fz'' H'=>∃ (j:Nat) (v7:Value) (Hi:HP),j<=n3/\q=n3 - j/\σ=[(87,Zk j),(86,Zk n3),(85,Zc A3 n3 b3),(7,Zp g7),(6,Zp g6),(4,Zp g4),(2,Zp g2),(1,Zp g1)]/\Le fz' fz''/\H'=(g7,lsO v7)::(g6,lsO (Zc Av m1 cv))::(g1,Zu #[Zy p.name,Zy p.domain,Zc A1 n1 b1,Zc A2 n2 b2,Zc A3 n3 b3,Zy p.goal.op,Zy p.goal.name,Zc A4 n4 b4,Zc A5 n5 b5,Zc A6 n6 b6,Zc A7 n7 b7] 37)::(g2,Zu #[Zk 0,Zk 0,Zk 0,Zk 0,Ze,Zn] 86)::(g4,glO (Xm p.goal) (Zc A8 n8 b8))::(Hs++Hi)/\Grow YE 86 fz'' v7 (n2+1+j) Hi (Yp YdI::p.init.map Ybc++(p.values.take j).map valX)) ⟨0,_,Hi,Z0 _,rfl,rfl,Zd,rfl,hO.of (by simp) rfl⟩ Zw Zb ?_;rintro q σ fz'' H' ⟨j,v7,Hi,hj,rfl,rfl,hle5,rfl,hO⟩;obtain ⟨Ai,ci,rfl,_,_⟩:=hO.form;refine wC ?_ ?_<;>intro e2
     ·obtain ⟨x,hx⟩:=Ye (l:=p.values) (k:=j) Zi;have hxm:=Zm hx;have i3k:=i3m.mono (hle.trans hle5);refine wI i3k hx (fun a ha=>?_);refine zL ha ?_;intro cs hcs;obtain ⟨va,rfl,hRx⟩:=Yam hcs;obtain ⟨Aa,na,ca,rfl,ia⟩:=hRx.fluent.args;refine zW ?_;intros;rename_i g9;refine WP [] [(g9,_),(g7,_)] ?_;refine wc (Ybv (s:=kEq)) ?_;refine wG ?_;refine Yc (vs:=[Zy x.fluent.name,Zc Aa na ca]) 0 ?_;refine Yn ?_;refine zW ?_;unfold sxV;refine Yn (Yn (Yn (Yn ?_)));refine zW ?_;refine pT ?_;refine Yh ?_;refine Yd (Ym [] _ Zz (YgC hRx.fluent (hs.vals x hxm)) (fun v7 fz7 H7 hle7 hR7=>?_));obtain ⟨rfl,cs7,rfl,hr7⟩:=hR7;obtain ⟨vk7,rfl,hX7⟩:=Yf (x:=Ybc x.fluent) hr7;refine ⟨⟨hle7,Zx⟩,?_⟩;refine Yh ?_;refine Yd (Yb (cs:=YH kEq++([Zk (Ybc x.fluent).kind,Zk (Ybc x.fluent).value,Zk (Ybc x.fluent).line,Zk (Ybc x.fluent).column,Zy (Ybc x.fluent).text,vk7]++ [Zk 2,Zk x.n,Zk 0,Zk 0,Ze,Zn])) (fun gb=>⟨⟨hle7,Zx⟩,?_⟩));refine Yh ?_;refine PoS.qk ⟨hle7,Zx⟩ (YF Yen ?_);unfold sxV;refine Yh ?_;refine Yd (Yb (cs:=[Zk 3,Zk 0,Zk 0,Zk 0,Ze,Zv gb 3 3]) (fun gc=>⟨⟨hle7,Zx⟩,?_⟩));refine Yh ?_;refine Yd (Does.freezeAll (H1:=(gc,_)::(g9,_)::(g7,_)::(g6,_)::(g1,_)::(g2,_)::(g4,_)::(Hs++Hi)) (H2:=[(gb,_)]) (List.Perm.cons _ (List.perm_append_singleton _ _).symm) (fun fzb hle10' hf10=>?_));have hrep:YE.rep fzb (valX x) [Zk 3,Zk 0,Zk 0,Zk 0,Ze,Zv gb 3 3]:=Ys (Ya0 (Wb (ys:=[(Yp kEq,YH kEq),(Ybc x.fluent,[Zk (Ybc x.fluent).kind,Zk (Ybc x.fluent).value,Zk (Ybc x.fluent).line,Zk (Ybc x.fluent).column,Zy (Ybc x.fluent).text,vk7]),(numE x.n,[Zk 2,Zk x.n,Zk 0,Zk 0,Ze,Zn])]) (hf10 _ (.head _)) rfl rfl (by intro p hp;simp only [List.mem_cons,List.not_mem_nil,or_false] at hp;rcases hp with rfl | rfl | rfl;exact YO (Xr);exact Ys (hX7.mono hle10');exact Ys (YkD hRx.n)) rfl Zh));refine YN (Hr:=(gc,_)::(g9,_)::(g7,_)::(g6,_)::(g1,_)::(g2,_)::(g4,_)::Hs) (d:=valX x) (Zr _) (hO.mono (hle7.trans hle10')) YP (.head _) hrep (fun v9 Hi9 hO9=>⟨⟨hle7.trans hle10',Zx⟩,?_⟩);obtain ⟨A9,c9,rfl,_,_⟩:=hO9.form;refine Yh ?_;refine PoS.hard0 (WT ?_);refine Po.done ?_;exact wP (h:=by exact ⟨j+1,_,Hi9,by omega,rfl,rfl,hle5.trans (hle7.trans hle10'),rfl,hO9.of (by rw [List.take_add_one,hx];simp) rfl⟩)
     have hjn:n3=j:=by omega
     subst hjn;rw [Zl Zi] at hO;refine Seq.freezeAll (H1:=(g7,_)::(g6,_)::(g1,_)::(g2,_)::(g4,_)::Hs) (H2:=Hi) (Zr _) (fun fzp hlp hfp=>?_);obtain ⟨A2x,c2x,he2,hslp⟩:=hO.sl hlp hfp Zi;injection he2 with x1 x2 x3
     subst x1 x3;have hleB:=(hle.trans hle5).trans hlp;have hne:p.init.map Ybc++p.values.map valX≠ []:=fun h0=>by have:=congrArg List.length h0;simp only [List.length_append,List.length_map,List.length_nil] at this;omega
     refine zW ?_;refine Ya (Yb (cs:=[Zk 3,Zk 0,Zk 0,Zk 0,Ze,Zc Ai (n2+1+n3) ci]) (fun gc=>?_));refine Ya (YN (Hr:=(gc,_)::(g7,_)::(g6,_)::(g1,_)::(g2,_):: [(g4,_)]) (d:=YM (Yp YdI::p.init.map Ybc++p.values.map valX)) (Zr _) (hG.mono hleB) YP (.head _) (Ys (Ya0 hslp)) (fun v9 Hs9 hO9=>?_));obtain ⟨A9,c9,rfl,_,_⟩:=hO9.form;exact wN (h:=by exact ⟨m1+1,_,Hs9,rfl,hleB,rfl,by omega,hO9.of (by rw [Yp1 hne];simp) rfl⟩)
    have hi0:p.init=[]:=List.eq_nil_of_length_eq_zero Zi;have hv0:p.values=[]:=List.eq_nil_of_length_eq_zero Zi;exact wN (h:=by exact ⟨m1,_,Hs,rfl,Zd,rfl,by omega,hG.of (by rw [hi0,hv0];simp [Yp2]) rfl⟩)
   rintro σ fz11 H' ⟨m2,v,Hs,rfl,hle11,rfl,hm2,hG⟩;obtain ⟨Av,cv,rfl,_,_⟩:=hG.form;have hleC:=(hle9.trans hle10).trans hle11;refine zWX ?_;refine Yr (YY (fun σ fz' H'=>∃ (m:Nat) (v:Value) (Hs:HP),σ=[(6,Zp g6),(4,Zp g4),(2,Zp g2),(1,Zp g1)]/\Le fz11 fz'/\H'=(g6,lsO v)::(g1,Zu #[Zy p.name,Zy p.domain,Zc A1 n1 b1,Zc A2 n2 b2,Zc A3 n3 b3,Zy p.goal.op,Zy p.goal.name,Zc A4 n4 b4,Zc A5 n5 b5,Zc A6 n6 b6,Zc A7 n7 b7] 37)::(g2,Zu #[Zk 0,Zk 0,Zk 0,Zk 0,Ze,Zn] 86)::(g4,glO (Xm p.goal) (Zc A8 n8 b8))::Hs/\m<=6/\Grow YE 86 fz' v m Hs ([Yp Xg,YM [Yp XU,Yp p.name],YM [Yp Xk,Yp p.domain]]++grp Wu (Yap p.objects)++grp YdI (p.init.map Ybc++p.values.map valX)++Yn8 p.goal)) ?_ ?_)
   ·refine wC ?_ ?_<;>intro e1
    ·have hgo:Yn8 p.goal=[YM [Yp Yc8,Xm p.goal]]:=if_neg (fun h0=>e1 h0.1);refine zW ?_;refine WP [] [(g6,_),(g4,_)] ?_;refine wc (Ybv (s:=Yc8)) ?_;refine zW ?_;unfold sxV;refine Yn (Yn (Yn (Yn ?_)));refine zW ?_;refine pT ?_;refine Yh ?_;refine Yd (Yb (cs:=YH Yc8++ [Zk (Xm p.goal).kind,Zk (Xm p.goal).value,Zk (Xm p.goal).line,Zk (Xm p.goal).column,Zy (Xm p.goal).text,Zc A8 n8 b8]) (fun gb=>⟨⟨Zd,Zx⟩,?_⟩));refine Yh ?_;refine PoS.qk ⟨Zd,Zx⟩ (YF Yen ?_);unfold sxV;refine Yh ?_;refine Yd (Yb (cs:=[Zk 3,Zk 0,Zk 0,Zk 0,Ze,Zv gb 2 2]) (fun gc=>⟨⟨Zd,Zx⟩,?_⟩));refine Yh ?_;refine Yd (Does.freezeAll (H1:=(gc,_)::(g6,_)::(g1,_)::(g2,_)::(g4,_)::Hs) (H2:=[(gb,_)]) (List.Perm.cons _ (List.perm_append_singleton _ _).symm) (fun fzb hlb hfb=>?_));have hrep:YE.rep fzb (YM [Yp Yc8,Xm p.goal]) [Zk 3,Zk 0,Zk 0,Zk 0,Ze,Zv gb 2 2]:=Ys (Ya0 (Wb (ys:=[(Yp Yc8,YH Yc8),(Xm p.goal,[Zk (Xm p.goal).kind,Zk (Xm p.goal).value,Zk (Xm p.goal).line,Zk (Xm p.goal).column,Zy (Xm p.goal).text,Zc A8 n8 b8])]) (hfb _ (.head _)) rfl rfl (by intro p hp;simp only [List.mem_cons,List.not_mem_nil,or_false] at hp;rcases hp with rfl | rfl;exact YO (Xr);exact Ys (hX.mono (hleC.trans hlb))) rfl Zh));refine YN (Hr:=(gc,_)::(g6,_)::(g1,_)::(g2,_):: [(g4,_)]) (d:=YM [Yp Yc8,Xm p.goal]) (Zr _) (hG.mono hlb) YP (.head _) hrep (fun v9 Hs9 hO9=>⟨⟨hlb,Zx⟩,?_⟩);obtain ⟨A9,c9,rfl,_,_⟩:=hO9.form;refine Yh ?_;refine PoS.hard0 (Y9 ?_);refine Po.done ?_;exact wN (h:=by exact ⟨m2+1,_,Hs9,rfl,hlb,rfl,by omega,hO9.of (by rw [hgo]) rfl⟩)
    refine wC ?_ ?_<;>intro e2
    ·have hgo:Yn8 p.goal=[YM [Yp Yc8,Xm p.goal]]:=if_neg (fun h0=>by have:=i7.len;rw [h0.2] at this;simp at this;omega);refine zW ?_;refine WP [] [(g6,_),(g4,_)] ?_;refine wc (Ybv (s:=Yc8)) ?_;refine zW ?_;unfold sxV;refine Yn (Yn (Yn (Yn ?_)));refine zW ?_;refine pT ?_;refine Yh ?_;refine Yd (Yb (cs:=YH Yc8++ [Zk (Xm p.goal).kind,Zk (Xm p.goal).value,Zk (Xm p.goal).line,Zk (Xm p.goal).column,Zy (Xm p.goal).text,Zc A8 n8 b8]) (fun gb=>⟨⟨Zd,Zx⟩,?_⟩));refine Yh ?_;refine PoS.qk ⟨Zd,Zx⟩ (YF Yen ?_);unfold sxV;refine Yh ?_;refine Yd (Yb (cs:=[Zk 3,Zk 0,Zk 0,Zk 0,Ze,Zv gb 2 2]) (fun gc=>⟨⟨Zd,Zx⟩,?_⟩));refine Yh ?_;refine Yd (Does.freezeAll (H1:=(gc,_)::(g6,_)::(g1,_)::(g2,_)::(g4,_)::Hs) (H2:=[(gb,_)]) (List.Perm.cons _ (List.perm_append_singleton _ _).symm) (fun fzb hlb hfb=>?_));have hrep:YE.rep fzb (YM [Yp Yc8,Xm p.goal]) [Zk 3,Zk 0,Zk 0,Zk 0,Ze,Zv gb 2 2]:=Ys (Ya0 (Wb (ys:=[(Yp Yc8,YH Yc8),(Xm p.goal,[Zk (Xm p.goal).kind,Zk (Xm p.goal).value,Zk (Xm p.goal).line,Zk (Xm p.goal).column,Zy (Xm p.goal).text,Zc A8 n8 b8])]) (hfb _ (.head _)) rfl rfl (by intro p hp;simp only [List.mem_cons,List.not_mem_nil,or_false] at hp;rcases hp with rfl | rfl;exact YO (Xr);exact Ys (hX.mono (hleC.trans hlb))) rfl Zh));refine YN (Hr:=(gc,_)::(g6,_)::(g1,_)::(g2,_):: [(g4,_)]) (d:=YM [Yp Yc8,Xm p.goal]) (Zr _) (hG.mono hlb) YP (.head _) hrep (fun v9 Hs9 hO9=>⟨⟨hlb,Zx⟩,?_⟩);obtain ⟨A9,c9,rfl,_,_⟩:=hO9.form;refine Yh ?_;refine PoS.hard0 (Y9 ?_);refine Po.done ?_;exact wN (h:=by exact ⟨m2+1,_,Hs9,rfl,hlb,rfl,by omega,hO9.of (by rw [hgo]) rfl⟩)
    have hgo:Yn8 p.goal=[]:=if_pos ⟨e1,List.eq_nil_of_length_eq_zero (by have:=i7.len;omega)⟩;exact wN (h:=by exact ⟨m2,_,Hs,rfl,Zd,rfl,by omega,hG.of (by rw [hgo];simp) rfl⟩)
   rintro σ fz12 H' ⟨m3,v,Hs,rfl,hle12,rfl,hm3,hG⟩;obtain ⟨Av,cv,rfl,_,_⟩:=hG.form;refine zW ?_;refine Seq.freezeAll (H1:=[(g6,_),(g1,_),(g2,_),(g4,_)]) (H2:=Hs) (Zr _) (fun fzr hlr hfr=>?_);obtain ⟨A2w,c2w,he5,hsl⟩:=hG.sl hlr hfr Zi;injection he5 with x1 x2 x3
   subst x1 x3;have hXX:=Ya0 hsl;refine zb (Yat (x:=prbX p) hXX) (fun f2=>?_) (fun f2=>?_)
   ·have hY:FVal p.goal/\YbJ p/\XVal (prbX p):=⟨hP,hE,Zt f2⟩;refine zW ?_;refine YS T (vs:=[.agg #[_,_,_,_,_,_],.nilIface]) ⟨⟨_,_,2,_,_,_,rfl,rfl,rfl,rfl,rfl,rfl⟩,rfl,trivial⟩ (fun fz3 hle3 hf3=>?_);exact ⟨rfl,_,_,by rw [if_pos hY];rfl,SxIs.mono hle3 ⟨_,rfl,Ys hXX⟩,fun _=>rfl⟩
   have hN:¬(FVal p.goal/\YbJ p/\XVal (prbX p)):=fun h0=>Zf f2 h0.2.2
   refine zW ?_;refine YS T (vs:=[.agg #[_,_,_,_,_,_],_]) ⟨⟨_,_,2,_,_,_,rfl,rfl,rfl,rfl,rfl,rfl⟩,rfl,trivial⟩ (fun fz3 hle3 hf3=>?_);exact ⟨rfl,_,_,by rw [if_neg hN,Yg Zh];rfl,YbC,fun h0=>absurd h0 hN⟩
  have hN:¬(FVal p.goal/\YbJ p/\XVal (prbX p)):=fun h0=>Zf f1 h0.2.1
  refine zW ?_;refine YS T (vs:=[.agg #[_,_,_,_,_,_],_]) ⟨⟨_,_,1,_,_,_,rfl,rfl,rfl,rfl,rfl,rfl⟩,rfl,trivial⟩ (fun fz3 hle3 hf3=>?_);exact ⟨rfl,_,_,by rw [if_neg hN,Yg Zh];rfl,YbC,fun h0=>absurd h0 hN⟩
 rw [if_neg hP];have hN:¬(FVal p.goal/\YbJ p/\XVal (prbX p)):=fun h0=>hP h0.1
 refine zW ?_;intros;refine YS T (vs:=[.agg #[_,_,_,_,_,_],_]) ⟨⟨_,_,1,_,_,_,rfl,rfl,rfl,rfl,rfl,rfl⟩,rfl,trivial⟩ (fun fz3 hle3 hf3=>?_);exact ⟨rfl,_,_,by rw [if_neg hN,Yg Zh];rfl,YbC,fun h0=>absurd h0 hN⟩
theorem Ygp:∀ {l:List Param} {seen:List Bs},repM seen l=none->(∀ x∈l,x.name ∉ seen)/\Once (fun q:Param=>q.name) l
 | [],_,_=>⟨by simp,fun i j x y _ h=>by simp at h⟩
 | x::r,seen,h=>by
  rw [repM] at h;by_cases hx:x.name∈seen
  ·rw [if_pos hx] at h;cases h
  rw [if_neg hx] at h;obtain ⟨h1,h2⟩:=Ygp h;refine ⟨fun y hy=>?_,fun i j a b hij ha hb=>?_⟩
  ·rcases List.mem_cons.1 hy with rfl | hy
   ·exact hx
   exact fun h0=>h1 y hy (by simp [h0])
  cases j with
  | zero=>omega
  | succ j=>
   have hb':r[j]?=some b:=by simpa using hb
   cases i with
   | zero=>
    simp at ha;subst ha;have:=h1 b (Zm hb');exact fun e=>this (by simp [e])
   | succ i=>exact h2 i j a b Zi (by simpa using ha) hb'
theorem Yg3 {f:α->Param} {nm:α->Bs} (hf:∀ x,(f x).name=nm x) {r:List Param} (h:Once (fun q:Param=>q.name) (l.map f++r)):Once nm l:=fun i j x y hij hx hy=>by
 have h1:=(Zg hx).1;have h2:=(Zg hy).1;have:=h i j (f x) (f y) hij (by rw [List.getElem?_append_left (by simpa using h1),List.getElem?_map,hx];rfl) (by rw [List.getElem?_append_left (by simpa using h2),List.getElem?_map,hy];rfl);rw [<- hf x,<- hf y];exact this
theorem Yik {f:α->Param} {nm:α->Bs} (hf:∀ x,(f x).name=nm x) {r:List Param} (h:Once (fun q:Param=>q.name) (r++l.map f)):Once nm l:=fun i j x y hij hx hy=>by
 have:=h (r.length+i) (r.length+j) (f x) (f y) Zi (by rw [List.getElem?_append_right Zi,Nat.add_sub_cancel_left,List.getElem?_map,hx];rfl) (by rw [List.getElem?_append_right Zi,Nat.add_sub_cancel_left,List.getElem?_map,hy];rfl);rw [<- hf x,<- hf y];exact this
theorem Yn3 (h:Yar d all=none):Once (·.name) d.predicates/\Once (·.name) d.functions/\Once (·.name) all/\Once (·.name) d.actions/\Once (·.name) d.duratives:=by
 unfold Yar at h;cases h0:repM [] (Yb1 d) with
 | some s=>rw [h0] at h;cases h
 | none=>
  rw [h0] at h;cases h1:repM [] (Ybx all) with
  | some s=>rw [h1] at h;cases h
  | none=>
   rw [h1] at h;have o0:=(Ygp h0).2;have o1:=(Ygp h1).2;have o2:=(Ygp h).2;exact ⟨Yg3 (f:=fun x:Predicate=>nmd Wr x.name) (fun _=>rfl) o0,Yik (f:=fun x:Function=>nmd XG x.name) (fun _=>rfl) o0,
    Yg3 (r:=[]) (f:=fun x:Param=>nmd YcN x.name) (fun _=>rfl) (by simpa [Ybx] using o1),Yg3 (f:=fun x:Action=>nmd Yac x.name) (fun _=>rfl) o2,Yik (f:=fun x:Durative=>nmd XH x.name) (fun _=>rfl) o2⟩
def Yef (f:Nat->Bs × Int):Nat->Nat->Bs × Int
 | 0,_=>(⟨#[]⟩,0)
 | n+1,k=>if (f k).2=0 then Yef f n (k+1) else f k
def Yak (d:Domain) (p:Problem):Bs × Int:=
 if ¬(Ycq d/\XVal (domX d)) then (wDomainP,2)
 else if ¬(FVal p.goal/\YbJ p/\XVal (prbX p)) then (Yj2,2)
 else if YcL d p (Yaq d p) then (wLimitsP,5)
 else if newM d.types≠0 then (wTypesP,newM d.types)
 else Yef (Wi d (Yaq d p) p) 8 0
structure ChkS (d:Domain) (p:Problem):Prop where
 dsm:DomSm d
 psm:PrbSm p
 wa:∀ a∈d.actions,actW a<=1000000000
 wd:∀ a∈d.duratives,durW a<=1000000000
 wg:fW p.goal<=1000000000
theorem Ycf (h:Xc s):s.size<=1000:=Nat.le_trans h.2.2.1 Zh
theorem nms_of (h1:Ycq d) (h2:YbJ p):NmS d (Yaq d p) where
 p:=fun x hx=>Ycf (h1.2.2.2.1 x hx).1
 f:=fun x hx=>Ycf (h1.2.2.2.2.1 x hx).1
 o:=fun x hx=>by
  rcases List.mem_append.1 hx with hx | hx
  ·have:=(h1.2.2.1 x hx).1;exact Ycf (by simpa using this)
  have:=(h2.2.2.1 x hx).1;exact Ycf (by simpa using this)
 a:=fun x hx=>Ycf (h1.2.2.2.2.2.1 x hx).1
 u:=fun x hx=>Ycf (h1.2.2.2.2.2.2 x hx).1
theorem nums_of (h:XVal (domX d)):∀ f∈d.functions,Yca f.lo/\Yca f.hi:=fun f hf=>by
 have h1:YM (Yp XY::d.functions.map funX)∈(domX d).kids:=by
  have hne:d.functions.map funX≠ []:=by intro h0;rw [List.map_eq_nil_iff] at h0;rw [h0] at hf;cases hf
  show _∈([Yp Xg,YM [Yp Wo,Yp d.name]]++grp Ybz (Yap d.types)++grp XZ (Yap d.constants)++grp XN (d.predicates.map YlP)++grp XY (d.functions.map funX)++d.actions.map actX++d.duratives.map durX);simp only [List.mem_append];refine .inl (.inl (.inr ?_));unfold grp;rw [if_neg hne];simp
 have h2:=YmC h h1;have h3:=YgB (k:=funX f) h2 (by simp;exact .inr ⟨f,hf,rfl⟩);exact ⟨num_ok (YgB h3 (by simp)),num_ok (YgB h3 (by simp))⟩
theorem lens_of (h:¬YcL d p (Yaq d p)):LenS d (Yaq d p)/\d.types.length<=64/\∀ f∈d.functions,f.params.length<=6:=by
 unfold YcL at h;refine ⟨⟨?_,?_,?_,?_,?_⟩,?_,fun f hf=>?_⟩
 ·exact Classical.byContradiction fun h0=>h (.inr (.inr (.inl Zi)))
 ·exact Classical.byContradiction fun h0=>h (.inr (.inr (.inr (.inl Zi))))
 ·exact Classical.byContradiction fun h0=>h (.inl Zi)
 ·exact Classical.byContradiction fun h0=>h (.inr (.inr (.inr (.inr (.inl Zi)))))
 ·exact Classical.byContradiction fun h0=>h (.inr (.inr (.inr (.inr (.inr (.inl Zi))))))
 ·exact Classical.byContradiction fun h0=>h (.inr (.inl Zi))
 exact Classical.byContradiction fun h0=>h (.inr (.inr (.inr (.inr (.inr (.inr (.inr (.inr (.inl ⟨f,hf,by omega⟩)))))))))
theorem forest_f (hM:MaxF fz) (hD:DomainR fz d v1 v2 v3 v4 v5 v6) (hl:d.types.length<=64) (hok:∀ p∈d.types,Xc p.name/\Yei p.typ):
 GFn prog 38 [ZD d v1 v2 v3 v4 v5 v6] fz [] (fun v fz' H'=>H'=[]/\∃ vf,v=.tuple #[vf,errV (newM d.types)]/\(newM d.types=0->ForR fz' vf d.types)):=by
 obtain ⟨⟨A1,n1,b1,rfl,i1⟩,⟨A2,n2,b2,rfl,i2⟩,⟨A3,n3,b3,rfl,i3⟩,⟨A4,n4,b4,rfl,i4⟩,⟨A5,n5,b5,rfl,i5⟩,⟨A6,n6,b6,rfl,i6⟩⟩:=hD.sls;refine zF Tryz.func38 Tryz.ntmps38 (fun w0=>?_);refine pX (fun g2=>?_);refine vK (q:=tnew_q hM i1 hl hok) (h:=fun v6 fz6 H6 hle6 hR6=>?_);obtain ⟨rfl,vf,z,rfl,hv⟩:=hR6;exact vS (h:=by exact ⟨rfl,vf,rfl,hv⟩)
theorem ckR_mk {gc:Nat} {vf vg vo:Value} {Aa:Option Addr} {na ca:Nat} (hc:fz gc=some (ckO d p v1 v2 v3 v4 v5 v6 u1 u2 u3 u4 u5 u6 u7 vf vp vg vo (Zc Aa na ca))) (hD:DomainR fz d v1 v2 v3 v4 v5 v6) (hP:ProblemR fz p u1 u2 u3 u4 u5 u6 u7) (hall:Sl paramL fz Aa na ca all):
 CkR fz (Zp gc) d p all vf vp vg vo:=⟨gc,v1,v2,v3,v4,v5,v6,u1,u2,u3,u4,u5,u6,u7,Aa,na,ca,rfl,hc,hD,hP,hall⟩
theorem Ymo (hM:MaxF fz) (hD:DomainR fz d v1 v2 v3 v4 v5 v6) (hP:ProblemR fz p u1 u2 u3 u4 u5 u6 u7) (hS:ChkS d p):
 QFn prog 8 [ZD d v1 v2 v3 v4 v5 v6,ZP p u1 u2 u3 u4 u5 u6 u7] fz (resV (Yak d p)):=by
 obtain ⟨⟨A1,n1,b1,rfl,i1⟩,⟨A2,n2,b2,rfl,i2⟩,⟨A3,n3,b3,rfl,i3⟩,⟨A4,n4,b4,rfl,i4⟩,⟨A5,n5,b5,rfl,i5⟩,⟨A6,n6,b6,rfl,i6⟩⟩:=hD.sls;obtain ⟨⟨B1,m1,d1,rfl,j1⟩,⟨B2,m2,d2,rfl,j2⟩,⟨B3,m3,d3,rfl,j3⟩⟩:=hP.sls;obtain ⟨⟨B4,m4,d4,rfl,_⟩,⟨B5,m5,d5,rfl,_⟩,⟨B6,m6,d6,rfl,_⟩,⟨B7,m7,d7,rfl,_⟩⟩:=hP.goal.sls;refine qF Tryz.func8 Tryz.ntmps8 (fun w0=>?_);refine pX (fun g2=>?_);refine pY (fun g3=>?_);refine zWO ?_;refine vK (q:=Yjz hD hS.dsm) (h:=fun v6' fz6 H6 hle6 hR6=>?_);obtain ⟨rfl,u,y,rfl,⟨cs6,rfl,hr6⟩,_⟩:=hR6;obtain ⟨vk6,rfl,hx6⟩:=Yf hr6;obtain ⟨Ak6,nk6,ck6,rfl,_⟩:=hx6.kids;by_cases hdo:Ycq d/\XVal (domX d)
 ·rw [if_pos hdo,show errV 0=.nilIface from rfl];refine zV ?_;intros;refine wK (q:=Yi5 (hP.mono hle6) hS.psm) (h:=fun v7' fz7 H7 hle7 hR7=>?_);obtain ⟨rfl,u',y',rfl,⟨cs7,rfl,hr7⟩,_⟩:=hR7;obtain ⟨vk7,rfl,hx7⟩:=Yf hr7;obtain ⟨Ak7,nk7,ck7,rfl,_⟩:=hx7.kids;by_cases hpo:FVal p.goal/\YbJ p/\XVal (prbX p)
  ·rw [if_pos hpo,show errV 0=.nilIface from rfl];have hle67:=hle6.trans hle7;have hD7:=hD.mono hle67;have hP7:=hP.mono hle67;refine zWN ?_;intros;refine XF [_,_,_,_] ?_;refine zW ?_;refine pU ?_;refine Yj (Ym [] [_,_,_,_] Zz (Ypx hD7 hP7 hS.dsm.constants hS.psm.objects) (fun v8' fz8 H8 hle8 hR8=>⟨⟨hle8,Zx⟩,?_⟩));obtain ⟨Aa,ca,rfl,_,_⟩:=hR8.form;refine Ch.qk ⟨hle8,Zx⟩ (YaY ?_);refine Yj (YhX _ (fun gc=>⟨⟨hle8,Zx⟩,?_⟩));refine Ch.qk ⟨hle8,Zx⟩ (YV ?_);refine Ch.done ?_;refine Yds ?_;refine Wp.freezeAll (H1:=(gc,_):: [_,_,_,_]) (H2:=H8) (List.Perm.cons _ Zq) (fun fz9 hle9 hf9=>?_);obtain ⟨Aa',ca',ea,hall⟩:=hR8.sl hle9 hf9 (by have:=hS.dsm.constants;have:=hS.psm.objects;omega);injection ea with ea1 ea2 ea3
   subst ea1;subst ea3;have hle89:=hle8.trans hle9;have hD9:=hD7.mono hle89;have hP9:=hP7.mono hle89;have hS9:∀ {vf:Value} {fz':FZ},Le fz9 fz'->fz' gc=some (ckO d p (Zc A1 n1 b1) (Zc A2 n2 b2) (Zc A3 n3 b3) (Zc A4 n4 b4) (Zc A5 n5 b5) (Zc A6 n6 b6) (Zc B1 m1 d1) (Zc B2 m2 d2) (Zc B3 m3 d3) (Zc B4 m4 d4) (Zc B5 m5 d5) (Zc B6 m6 d6) (Zc B7 m7 d7) vf (.map none) (.map none) (.map none) (Zc Aa (d.constants.length+p.objects.length) ca))->CkR fz' (Zp gc) d p (Yaq d p) vf (.map none) (.map none) (.map none):=fun hl hg=>ckR_mk hg (hD9.mono hl) (hP9.mono hl) (hall.mono hl)
   refine vG ?_;refine q_callBU (b:=decide (YcL d p (Yaq d p))) (fun fz' hl hf=>large_q (hS9 (vf:=.pointer none) hl (hf (gc,_) (by simp)))) (fun f1=>?_) (fun f1=>?_)
   ·have hlg:=Zt f1;exact vS (h:=by exact (by rw [Yak,if_neg (by simpa using hdo),if_neg (by simpa using hpo),if_pos hlg];rfl))
   have hlg:=Zf f1;obtain ⟨hL,hT64,hp6⟩:=lens_of hlg;have hns:=nms_of hdo.1 hpo.2.1;have hM9:=hM.mono (hle67.trans hle89);have htok:∀ q∈d.types,Xc q.name/\Yei q.typ:=fun q hq=>by have:=hdo.1.2.1 q hq;exact ⟨by simpa using this.1,this.2⟩
   refine vK (q:=forest_f hM9 hD9 hT64 htok) (h:=fun v10' fz10 H10 hle10 hR10=>?_);obtain ⟨rfl,vf,rfl,hvf⟩:=hR10;by_cases hn0:newM d.types=0
   ·obtain ⟨gf,gm,evf,hf1,hf2⟩:=hvf hn0;subst evf;have hF:ForR fz10 (Zp gf) d.types:=⟨gf,gm,rfl,hf1,hf2⟩;have hle910:=hle10;rw [hn0,show errV 0=.nilIface from rfl];have hW:WFT d.types:=newM_wft hn0 (fun q hq=>(YdC i1 q hq).2) hT64;have hck:Yak d p=Yef (Wi d (Yaq d p) p) 8 0:=by rw [Yak,if_neg (by simpa using hdo),if_neg (by simpa using hpo),if_neg hlg,if_neg (by simpa using hn0)]
    refine zV ?_;refine Ya (Yb (cs:=[Zk 0,Zk 1,Zk 2,Zk 3,Zk 4,Zk 5,Zk 6,Zk 7]) (fun gs=>?_));refine zV ?_;refine Yi (fun q σ fz' H'=>∃ k:Nat,k<=8/\q=8 - k/\σ=[(57,Zk k),(56,Zk 8),(55,Zv gs 8 8),(10,Zp gc)]/\((k<=5/\fz10=fz'/\H'=[(gs,Zu #[Zk 0,Zk 1,Zk 2,Zk 3,Zk 4,Zk 5,Zk 6,Zk 7] 3),(gc,ckO d p (Zc A1 n1 b1) (Zc A2 n2 b2) (Zc A3 n3 b3) (Zc A4 n4 b4) (Zc A5 n5 b5) (Zc A6 n6 b6) (Zc B1 m1 d1) (Zc B2 m2 d2) (Zc B3 m3 d3) (Zc B4 m4 d4) (Zc B5 m5 d5) (Zc B6 m6 d6) (Zc B7 m7 d7) (Zp gf) (.map none) (.map none) (.map none) (Zc Aa (d.constants.length+p.objects.length) ca))])\/(6<=k/\Le fz10 fz'/\H'=[(gs,Zu #[Zk 0,Zk 1,Zk 2,Zk 3,Zk 4,Zk 5,Zk 6,Zk 7] 3)]/\CkG fz' (Zp gc) d p (Yaq d p)))/\(∀ i,i<k->(Wi d (Yaq d p) p i).2=0)/\Yak d p=Yef (Wi d (Yaq d p) p) (8 - k) k) ⟨0,by omega,rfl,rfl,.inl ⟨by omega,rfl,rfl⟩,fun i hi=>absurd hi Zi,hck⟩ Zw Zb ?_;rintro q σ fz1 H' ⟨k,hk,rfl,rfl,hph,hst,hcm⟩;rcases hph with ⟨hk5,rfl,rfl⟩ | ⟨hk6,hl1,rfl,hG⟩
    ·refine vC ?_ ?_<;>intro c1
     ·rw [show 8 - k=(8 - (k+1))+1 from by omega,Yef] at hcm;refine zV ?_;obtain rfl | rfl | rfl | rfl | rfl | rfl:k=0\/k=1\/k=2\/k=3\/k=4\/k=5:=by omega
      ·refine zG ?_;refine XK T Zz Zz Zz Zz Zz Zz Zi Zi ?_;refine zG ?_;refine Yx 0 ?_ (hv:=by exact rfl);refine vG ?_;refine YcW (v:=resV (Wi d (Yaq d p) p 0)) (fun fz' hl hf=>stepA0_q (hS9 (vf:=Zp gf) (hle10.trans hl) (hf (gc,_) (by simp [ckO]))) hns hL) ?_;generalize hgs:Wi d (Yaq d p) p 0=st at hcm;obtain ⟨pl,ec⟩:=st;rw [show resV (pl,ec)=.tuple #[Zy pl,errV ec] from rfl];by_cases hz:ec=0
       ·subst hz;rw [show errV 0=.nilIface from rfl];refine zV ?_;exact Wj ⟨0+1,by omega,rfl,rfl,.inl ⟨by omega,rfl,rfl⟩,fun i hi=>by
         by_cases hi2:i=0
         ·subst hi2;rw [hgs]
         exact hst i Zi,by rw [hcm,if_pos rfl]⟩ Zi Zw Zb
       rw [Yg hz];exact vS (h:=by exact (by rw [hcm,if_neg hz,resV,Yg hz];rfl))
      ·refine zG ?_;refine XK T Zz Zz Zz Zz Zz Zz Zi Zi ?_;refine zG ?_;refine Yx 0 ?_ (hv:=by exact rfl);refine vG ?_;refine YcW (v:=resV (Wi d (Yaq d p) p 1)) (fun fz' hl hf=>stepA1_q (hS9 (vf:=Zp gf) (hle10.trans hl) (hf (gc,_) (by simp [ckO]))) hns) ?_;generalize hgs:Wi d (Yaq d p) p 1=st at hcm;obtain ⟨pl,ec⟩:=st;rw [show resV (pl,ec)=.tuple #[Zy pl,errV ec] from rfl];by_cases hz:ec=0
       ·subst hz;rw [show errV 0=.nilIface from rfl];refine zV ?_;exact Wj ⟨1+1,by omega,rfl,rfl,.inl ⟨by omega,rfl,rfl⟩,fun i hi=>by
         by_cases hi2:i=1
         ·subst hi2;rw [hgs]
         exact hst i Zi,by rw [hcm,if_pos rfl]⟩ Zi Zw Zb
       rw [Yg hz];exact vS (h:=by exact (by rw [hcm,if_neg hz,resV,Yg hz];rfl))
      ·refine zG ?_;refine XK T Zz Zz Zz Zz Zz Zz Zi Zi ?_;refine zG ?_;refine Yx 0 ?_ (hv:=by exact rfl);refine vG ?_;refine YcW (v:=resV (Wi d (Yaq d p) p 2)) (fun fz' hl hf=>stepA2_q (hS9 (vf:=Zp gf) (hle10.trans hl) (hf (gc,_) (by simp [ckO]))) (hF.mono hl) hns) ?_;generalize hgs:Wi d (Yaq d p) p 2=st at hcm;obtain ⟨pl,ec⟩:=st;rw [show resV (pl,ec)=.tuple #[Zy pl,errV ec] from rfl];by_cases hz:ec=0
       ·subst hz;rw [show errV 0=.nilIface from rfl];refine zV ?_;exact Wj ⟨2+1,by omega,rfl,rfl,.inl ⟨by omega,rfl,rfl⟩,fun i hi=>by
         by_cases hi2:i=2
         ·subst hi2;rw [hgs]
         exact hst i Zi,by rw [hcm,if_pos rfl]⟩ Zi Zw Zb
       rw [Yg hz];exact vS (h:=by exact (by rw [hcm,if_neg hz,resV,Yg hz];rfl))
      ·refine zG ?_;refine XK T Zz Zz Zz Zz Zz Zz Zi Zi ?_;refine zG ?_;refine Yx 0 ?_ (hv:=by exact rfl);refine vG ?_;refine YcW (v:=resV (Wi d (Yaq d p) p 3)) (fun fz' hl hf=>stepA3_q (hS9 (vf:=Zp gf) (hle10.trans hl) (hf (gc,_) (by simp [ckO]))) hns) ?_;generalize hgs:Wi d (Yaq d p) p 3=st at hcm;obtain ⟨pl,ec⟩:=st;rw [show resV (pl,ec)=.tuple #[Zy pl,errV ec] from rfl];by_cases hz:ec=0
       ·subst hz;rw [show errV 0=.nilIface from rfl];refine zV ?_;exact Wj ⟨3+1,by omega,rfl,rfl,.inl ⟨by omega,rfl,rfl⟩,fun i hi=>by
         by_cases hi2:i=3
         ·subst hi2;rw [hgs]
         exact hst i Zi,by rw [hcm,if_pos rfl]⟩ Zi Zw Zb
       rw [Yg hz];exact vS (h:=by exact (by rw [hcm,if_neg hz,resV,Yg hz];rfl))
      ·refine zG ?_;refine XK T Zz Zz Zz Zz Zz Zz Zi Zi ?_;refine zG ?_;refine Yx 0 ?_ (hv:=by exact rfl);refine vG ?_;refine YcW (v:=resV (Wi d (Yaq d p) p 4)) (fun fz' hl hf=>stepA4_q (hS9 (vf:=Zp gf) (hle10.trans hl) (hf (gc,_) (by simp [ckO]))) hns (nums_of hdo.2)) ?_;generalize hgs:Wi d (Yaq d p) p 4=st at hcm;obtain ⟨pl,ec⟩:=st;rw [show resV (pl,ec)=.tuple #[Zy pl,errV ec] from rfl];by_cases hz:ec=0
       ·subst hz;rw [show errV 0=.nilIface from rfl];refine zV ?_;exact Wj ⟨4+1,by omega,rfl,rfl,.inl ⟨by omega,rfl,rfl⟩,fun i hi=>by
         by_cases hi2:i=4
         ·subst hi2;rw [hgs]
         exact hst i Zi,by rw [hcm,if_pos rfl]⟩ Zi Zw Zb
       rw [Yg hz];exact vS (h:=by exact (by rw [hcm,if_neg hz,resV,Yg hz];rfl))
      have hno:Yar d (Yaq d p)=none:=by
       have:=hst 0 Zi;unfold Wi at this;cases hn9:Yar d (Yaq d p) with
       | none=>rfl
       | some s=>rw [hn9] at this;cases this
      obtain ⟨o1,o2,o3,_,_⟩:=Yn3 hno;refine zG ?_;refine XK T Zz Zz Zz Zz Zz Zz Zi Zi ?_;refine zG ?_;refine Yx 0 ?_ (hv:=by exact rfl);refine zV ?_
      first | refine Wp.perm (List.Perm.swap _ _ _) ?_ | refine Seq.perm (List.Perm.swap _ _ _) ?_
      refine Ya (Ym [_] [_] Zz (stepA5_f (hD9.mono hle10) (hP9.mono hle10) (hall.mono hle10) hF hW o1 o2 o3 hns hS.wa hS.wd) (fun v11' fz11 H11 hle11 hR11=>?_));obtain ⟨rfl,rfl,hG⟩:=hR11;generalize hgs:Wi d (Yaq d p) p 5=st at hcm;obtain ⟨pl,ec⟩:=st;rw [show resV (pl,ec)=.tuple #[Zy pl,errV ec] from rfl];by_cases hz:ec=0
      ·subst hz;rw [show errV 0=.nilIface from rfl];refine zV ?_;exact Wj ⟨5+1,by omega,rfl,rfl,.inr ⟨by omega,hle11,rfl,hG⟩,fun i hi=>by
        by_cases hi2:i=5
        ·subst hi2;rw [hgs]
        exact hst i Zi,by rw [hcm,if_pos rfl]⟩ Zi Zw Zb
      rw [Yg hz];exact vS (h:=by exact (by rw [hcm,if_neg hz,resV,Yg hz];rfl))
     omega
    refine vC ?_ ?_<;>intro c1
    ·rw [show 8 - k=(8 - (k+1))+1 from by omega,Yef] at hcm;refine zV ?_;obtain rfl | rfl:k=6\/k=7:=by omega
     ·refine zG ?_;refine XK T Zz Zz Zz Zz Zz Zz Zi Zi ?_;refine zG ?_;refine Yx 0 ?_ (hv:=by exact rfl);refine vG ?_;refine YF (stepA6_q hG hns (fun f hf=>by have:=hp6 f hf;omega) (fun x hx=>by have:=(hpo.2.1.2.2.2.1 x hx).1;exact ⟨Ycf this.1,fun a ha=>Ycf (this.2 a ha)⟩) (by have:=hL.o;omega)) ?_;generalize hgs:Wi d (Yaq d p) p 6=st at hcm;obtain ⟨pl,ec⟩:=st;rw [show resV (pl,ec)=.tuple #[Zy pl,errV ec] from rfl];by_cases hz:ec=0
      ·subst hz;rw [show errV 0=.nilIface from rfl];refine zV ?_;exact Wj ⟨6+1,by omega,rfl,rfl,.inr ⟨by omega,hl1,rfl,hG⟩,fun i hi=>by
        by_cases hi2:i=6
        ·subst hi2;rw [hgs]
        exact hst i Zi,by rw [hcm,if_pos rfl]⟩ Zi Zw Zb
      rw [Yg hz];exact vS (h:=by exact (by rw [hcm,if_neg hz,resV,Yg hz];rfl))
     refine zG ?_;refine XK T Zz Zz Zz Zz Zz Zz Zi Zi ?_;refine zG ?_;refine Yx 0 ?_ (hv:=by exact rfl);refine vc (stepA7_q hG hS.wg) ?_;generalize hgs:Wi d (Yaq d p) p 7=st at hcm;obtain ⟨pl,ec⟩:=st;rw [show resV (pl,ec)=.tuple #[Zy pl,errV ec] from rfl];by_cases hz:ec=0
     ·subst hz;rw [show errV 0=.nilIface from rfl];refine zV ?_;exact Wj ⟨7+1,by omega,rfl,rfl,.inr ⟨by omega,hl1,rfl,hG⟩,fun i hi=>by
       by_cases hi2:i=7
       ·subst hi2;rw [hgs]
       exact hst i Zi,by rw [hcm,if_pos rfl]⟩ Zi Zw Zb
     rw [Yg hz];exact vS (h:=by exact (by rw [hcm,if_neg hz,resV,Yg hz];rfl))
    have hk8:k=8:=by omega
    subst hk8;exact vS (h:=by rw [hcm];rfl)
   rw [Yg hn0];exact vS (h:=by exact (by rw [Yak,if_neg (by simpa using hdo),if_neg (by simpa using hpo),if_neg hlg,if_pos hn0,resV,Yg hn0];rfl))
  rw [if_neg hpo,show errV 2=.iface 89 (Zk 2) from rfl];refine zV ?_;intros;exact wS (h:=by exact (by rw [Yak,if_neg (by simpa using hdo),if_pos hpo];rfl))
 rw [if_neg hdo,show errV 2=.iface 89 (Zk 2) from rfl];refine zV ?_;intros;exact wS (h:=by exact (by rw [Yak,if_pos hdo];rfl))
end Go.Proofs.YtiligkgjcmokbaaGreatDoor
namespace Go.Proofs.YtiligkgjcmokbaaGreatDoor
def YqX (nm:Bs) (c:Change):Prop:=(c.kind=1\/c.kind=2)/\c.name=nm
def TouchA (nm:Bs) (a:Action):Prop:=∃ c∈a.changes,YqX nm c
def TouchD (nm:Bs) (a:Durative):Prop:=(∃ c∈a.atStart,YqX nm c)\/∃ c∈a.atEnd,YqX nm c
def chgM (d:Domain) (nm:Bs):Bool:=decide ((∃ a∈d.actions,TouchA nm a)\/∃ a∈d.duratives,TouchD nm a)
mutual
def holdsM (K:Kn) (S:List Atom):EnvM->Formula->Bool
 | E,.mk op name args params _ kids=>
  if op=kAtom then decide (bndA E name args∈S)
  else if op=kSame then decide (valE E ((args[0]?).getD ⟨#[]⟩)=valE E ((args[1]?).getD ⟨#[]⟩))
  else if op=kNot then notH K S E kids
  else if op=kAnd then allH K S E kids
  else if op=kOr then anyH K S E kids
  else if QuF op then quantV K (decide (op=kForall)) (fun E'=>headH K S E' kids) params E
  else true
def notH (K:Kn) (S:List Atom):EnvM->List Formula->Bool
 | _,[]=>true
 | E,g::_=>if g.op=kSame then !holdsM K S E g else K.chg g.name || !decide (bndA E g.name g.args∈K.init)
def allH (K:Kn) (S:List Atom):EnvM->List Formula->Bool
 | _,[]=>true
 | E,g::r=>holdsM K S E g && allH K S E r
def anyH (K:Kn) (S:List Atom):EnvM->List Formula->Bool
 | _,[]=>false
 | E,g::r=>holdsM K S E g || anyH K S E r
def headH (K:Kn) (S:List Atom):EnvM->List Formula->Bool
 | _,[]=>true
 | E,g::_=>holdsM K S E g
end
end Go.Proofs.YtiligkgjcmokbaaGreatDoor
namespace Go.Lx
open Go.RowKit
variable {H:HP} {fz:FZ} {j:Nat} {o:Oper}
theorem Po.three {P:Program} {cx:Cx} {l:List Oper} {pu:List Nat} {σ' ve cv τ:Env} {fz0:FZ} {Hq:HP} {Q:QQ} {all rest r1 r2 r3:List (Nat × Oper)} {m i k:Nat} {dn:Bool} {o2 o3:Oper}
 (a:PoS P cx l pu σ' ve fz0 Hq Q all m r1 dn cv τ fz H i o) (b:PoS P cx l pu σ' ve fz0 Hq Q all m r2 dn cv τ fz H j o2) (c:PoS P cx l pu σ' ve fz0 Hq Q all m r3 dn cv τ fz H k o3) (hr:YmT rest=[(i,o),(j,o2),(k,o3)]:=by exact rfl) (h1:(rest.filter fun q=>!Nat.beq q.1 i)=r1:=by exact rfl) (h2:(rest.filter fun q=>!Nat.beq q.1 j)=r2:=by exact rfl) (h3:(rest.filter fun q=>!Nat.beq q.1 k)=r3:=by exact rfl):Po P cx l pu σ' ve fz0 Hq Q all (m+1) rest dn cv τ fz H:=by
 unfold PoS at a b c;unfold Po;intro p hp hfree;have:=Go.Lx.mem_ready hp hfree;rw [hr,List.mem_cons,List.mem_cons,List.mem_singleton] at this;rcases this with this | this | this
 ·subst this;rw [h1];exact a
 ·subst this;rw [h2];exact b
 subst this;rw [h3];exact c
end Go.Lx
namespace Go.Proofs.YtiligkgjcmokbaaGreatDoor
end Go.Proofs.YtiligkgjcmokbaaGreatDoor
namespace Go.Lx
open Go.RowKit
end Go.Lx
namespace Go.Proofs.YtiligkgjcmokbaaGreatDoor
def addM (K:Kn) (c:Change):List Param->EnvM->List Atom->List Atom × Bool
 | [],E,S=>if bndA E c.name c.args ∉ S/\holdsM K S E c.when_=true then (S++ [bndA E c.name c.args],true) else (S,false)
 | p::ps,E,S=>(ofK K p.typ).foldl (fun r o=>if 4096<r.1.length then r else ((addM K c ps (setE E p.name o) r.1).1,(addM K c ps (setE E p.name o) r.1).2 || r.2)) (S,false)
end Go.Proofs.YtiligkgjcmokbaaGreatDoor
namespace Go.Lx
open Go.RowKit
end Go.Lx
namespace Go.Proofs.YtiligkgjcmokbaaGreatDoor
structure RowS where
 S:List Atom
 bs:List Bool
 ds:List Bool
 n:Bool
end Go.Proofs.YtiligkgjcmokbaaGreatDoor
namespace Go.Lx
open Go.RowKit
end Go.Lx
namespace Go.Proofs.YtiligkgjcmokbaaGreatDoor
def tr (b:Bool):Nat:=if b=true then 1 else 0
end Go.Proofs.YtiligkgjcmokbaaGreatDoor
namespace Go.Lx
end Go.Lx
namespace Go.Proofs.YtiligkgjcmokbaaGreatDoor
end Go.Proofs.YtiligkgjcmokbaaGreatDoor
namespace Go.Proofs.YtiligkgjcmokbaaGreatDoor
variable {fz:FZ}
section
variable [Dr]
theorem Ydx {P:Program} {cx:Cx} {r:Operand->Option Value} {fz:FZ} {H:HP} {V:Value->Prop} {dst:Option Nat} {ty:TypeId} {pos:String} {af:Array Edge} {gd:Option (Nat × Bool)} {t:TypeId} {x:Operand} {t2:TypeId} {X:Ty} {g j:Nat} {cs vs:List Value} {f:Nat × Nat} (i:Nat)
 (h:V (.agg vs.toArray)) (T:Tab P:=by exact T) (hT:T.inf t=some X:=by exact rfl) (hd:W5 X.desc=true:=by exact rfl) (hx:r x=some (.pointer (some ⟨g,j,none⟩)):=by exact rfl) (hi:H[i]?=some (g,.cells cs.toArray t2 f):=by exact rfl) (hv:(cs.drop j).take X.size=vs:=by exact rfl) (hs:X.size=vs.length:=by exact rfl):DoesQ P cx ⟨dst,.load t x,ty,pos,af,gd⟩ r fz H V:=
  DoesQ.of h fun ρ w hr hw=>by
   have hc:∀ m v,vs[m]?=some v->w.cell? ((⟨g,j,none⟩:Addr).add m)=some v:=fun m v hm=>by
    rw [addr_add,hw.cellOwn hi];rw [<- hv,List.getElem?_take] at hm;split at hm
    ·rw [List.getElem?_drop] at hm;simpa using hm
    cases hm
   simp only [execOp,hr _ _ hx,Instr.loadAt,Instr.sureAddr,Sem.run_bind,Sem.run_pure,Result.andThen_ok,Ycx T hT hd hs hc];exact ⟨rfl,Fr.refl _ _⟩
end
theorem sort0A_q {fv:Value}:QFn prog 65 [Zn,fv] fz (.tuple #[]):=by
 unfold QFn;refine ⟨⟨_,Tryz.func65,by decide,by decide⟩,fun w hw=>?_⟩;exact (AnyF.slices_SortFunc_none Yfa none 0 fv w).mono fun e w' ⟨he,hb⟩=>⟨he,by subst hb;exact Fr.refl _ _⟩
end Go.Proofs.YtiligkgjcmokbaaGreatDoor
namespace Go.Lx
open Go.RowKit
variable {w:World}
def fAt (ro:Option Nat):Fence:={Fence.wide with round:=ro}
theorem YqR {ro:Option Nat} {m:Nat} {P:Program} {f:FuncId} {args:Array Value} {R:Ending->World->Prop} (h:Calls P f args w R):CallsIn (fAt ro) m P f args w R:=(callsIn_wide (n:=m)).2 h
section
variable {P:Program} {cx:Cx} {n:Nat} {fz:FZ} {H:HP}
structure SatR (n:Nat) (σ:Env) (a:Act):Prop where
 size:a.tmps.size=n
 slot:∀ i v,lk σ i=some v->a.tmps[i]?=some v
theorem SatR.reads {σ:Env} {a:Act} (h:SatR n σ a):Reads (rd σ) a.eval:=by
 intro x v hv;cases x with
 | tmp t=>have:=h.slot t v hv;simp [Act.eval,this]
 | const u=>injection hv
 | global g=>injection hv
 | func f=>injection hv
theorem SatR.put {σ:Env} {a:Act} (h:SatR n σ a) (d:Nat) (hd:d<n) (v:Value):SatR n ((d,v)::σ) (a.put (some d) v):=by
 refine ⟨by simp [Act.put,h.size],fun i u hu=>?_⟩;by_cases hi:d=i
 ·subst hi;rw [Wy] at hu;injection hu with hu
  subst hu;simp [Act.put,h.size,hd]
 rw [XR v σ hi] at hu;have:=h.slot i u hu;simp only [Act.put];rw [Array.getElem?_setIfInBounds_ne hi];exact this
def Yco (P:Program) (R:Value->World->Prop):Result Next->Prop
 | .ok (.value v) w'=>R v w'
 | .ok .skip w'=>R undef w'
 | .ok (.enter f args) w'=>Calls P f args w' fun e w''=>∃ v,e=.returned v/\R v w''
 | .ok (.round l f T asg bd) w'=>RoundIn Fence.wide 0 P l f T asg bd w' fun e w''=>∃ v,e=.returned v/\R v w''
 | _=>False
theorem Yay.toI {R:Value->World->Prop} {r:Result Next} (h:Yay P R r):Yco P R r:=by
 unfold Yay at h;unfold Yco;split at h
 ·exact h
 ·exact h
 ·exact h
 exact h.elim
variable {o:Oper}
theorem Yco.up {ro:Option Nat} {m:Nat} {a:Act} {next:Act->World->Prop} {Q:Exit->Act->World->Prop} {r:Result Next} (h:Yco P (fun v w'=>next (a.put o.dst v) w') r):o.uponIn (fAt ro) m P a next Q r:=by
 unfold Yco at h;split at h
 ·exact h
 ·exact h
 ·exact ⟨fun h=>(by cases h),YqR (h.mono fun e w' ⟨v,he,hv⟩=>by subst he;exact hv)⟩
 ·exact ⟨fun h=>(by cases h),RoundIn.mono (F:=fAt ro) (n:=m - 1) ⟨trivial,fun c cs _=>h.2 c cs (fun d hd=>by cases hd)⟩ fun e w' ⟨v,he,hv⟩=>by subst he;exact hv⟩
 exact h.elim
def Yos (P:Program) (cx:Cx) (o:Oper) (r:Operand->Option Value) (fz:FZ) (H:HP) (K:Value->FZ->HP->Prop):Prop:=
 ∀ ρ w,Reads r ρ->Inv cx fz H w->Yco P (fun v w'=>∃ fz' H',Inv cx fz' H' w'/\K v fz' H') ((execOp ρ o).run P w)
theorem Does.toI {r:Operand->Option Value} {K:Value->FZ->HP->Prop} (h:Does P cx o r fz H K):Yos P cx o r fz H K:=by
 intro ρ w hr hi;unfold Does at h;exact (h ρ w hr hi).toI
def CI (P:Program) (cx:Cx) (n:Nat) (K:Env->FZ->HP->Prop):List Oper->Env->FZ->HP->Prop
 | [],σ,fz,H=>K σ fz H
 | ⟨dst,op,ty,pos,af,gd⟩::r,σ,fz,H=>gd=none/\(∀ c,op≠ .defer c)/\match dst with
  | some d=>d<n/\Yos P cx ⟨dst,op,ty,pos,af,gd⟩ (rd σ) fz H fun v fz' H'=>CI P cx n K r ((d,v)::σ) fz' H'
  | none=>Yos P cx ⟨dst,op,ty,pos,af,gd⟩ (rd σ) fz H fun _ fz' H'=>CI P cx n K r σ fz' H'
section
variable {K:Env->FZ->HP->Prop} {r:List Oper} {σ:Env} {d:Nat} {op:Op} {ty:TypeId} {pos:String} {af:Array Edge}
theorem CI.i (h:Yos P cx ⟨some d,op,ty,pos,af,none⟩ (rd σ) fz H fun v fz' H'=>CI P cx n K r ((d,v)::σ) fz' H') (hd:Nat.blt d n=true:=by exact rfl) (hn:∀ c,op≠ .defer c:=by intro c h;cases h):CI P cx n K (⟨some d,op,ty,pos,af,none⟩::r) σ fz H:=
 ⟨rfl,hn,by simpa [Nat.blt_eq] using hd,h⟩
theorem CI.k (h:Does P cx ⟨some d,op,ty,pos,af,none⟩ (rd σ) fz H fun v fz' H'=>CI P cx n K r ((d,v)::σ) fz' H') (hd:Nat.blt d n=true:=by exact rfl) (hn:∀ c,op≠ .defer c:=by intro c h;cases h):CI P cx n K (⟨some d,op,ty,pos,af,none⟩::r) σ fz H:=
 CI.i h.toI hd hn
theorem CI.q (h:DoesQ P cx ⟨some d,op,ty,pos,af,none⟩ (rd σ) fz H fun v=>CI P cx n K r ((d,v)::σ) fz H) (hd:Nat.blt d n=true:=by exact rfl) (hn:∀ c,op≠ .defer c:=by intro c h;cases h):CI P cx n K (⟨some d,op,ty,pos,af,none⟩::r) σ fz H:=
 CI.k h.does hd hn
theorem CI.k0 (h:Does P cx ⟨none,op,ty,pos,af,none⟩ (rd σ) fz H fun _ fz' H'=>CI P cx n K r σ fz' H') (hn:∀ c,op≠ .defer c:=by intro c h;cases h):CI P cx n K (⟨none,op,ty,pos,af,none⟩::r) σ fz H:=
 ⟨rfl,hn,h.toI⟩
end
theorem CI.ops {ro:Option Nat} {m:Nat} {K:Env->FZ->HP->Prop} {ops:Array Oper} {Q:Exit->Act->World->Prop} {A:List Deferred} (hq:∀ σ' fz' H' a' w',K σ' fz' H'->SatR n σ' a'->a'.defers=A->Inv cx fz' H' w'->Q .normal a' w'):
 ∀ (l2 l1:List Oper) {σ:Env} {fz:FZ} {H:HP} {a:Act} {w:World},ops=(l1++l2).toArray->CI P cx n K l2 σ fz H->SatR n σ a->a.defers=A->Inv cx fz H w->wpOpsIn (fAt ro) m P ops Q (List.range' l1.length l2.length) a w
 | [],l1,σ,fz,H,a,w,_,h,hs,hA,hi=>hq σ fz H a w h hs hA hi
 | ⟨dst,op,ty,pos,af,gd⟩::l2,l1,σ,fz,H,a,w,ho,h,hs,hA,hi=>by
  obtain ⟨rfl,hn,h⟩:=h;have hat:ops[l1.length]?=some ⟨dst,op,ty,pos,af,none⟩:=by rw [ho];simp
  rw [List.length_cons,List.range'_succ];unfold wpOpsIn;simp only [hat];rw [if_pos (by simp [Region.wanted])];refine ⟨fun _ _=>trivial,?_⟩;rw [Oper.semAt_eq _ _ _ hn];have next:∀ {σ:Env} {fz:FZ} {H:HP} {a:Act} {w:World},CI P cx n K l2 σ fz H->SatR n σ a->a.defers=A->Inv cx fz H w->wpOpsIn (fAt ro) m P ops Q (List.range' (l1.length+1) l2.length) a w:=fun h hs hA hi=>by
   have:=CI.ops (ro:=ro) (m:=m) (ops:=ops) hq l2 (l1++ [⟨dst,op,ty,pos,af,none⟩]) (by rw [ho];simp) h hs hA hi
   rwa [List.length_append] at this
  cases dst with
  | some d=>
   refine Yco.up ?_;have h1:=h.2 a.eval w hs.reads hi;unfold Yco at h1 ⊢;split at h1
   ·obtain ⟨fz',H',i1,k1⟩:=h1;exact next k1 (hs.put d h.1 _) hA i1
   ·obtain ⟨fz',H',i1,k1⟩:=h1;exact next k1 (hs.put d h.1 _) hA i1
   ·exact h1.mono fun e w' ⟨v,he,fz',H',i1,k1⟩=>⟨v,he,next k1 (hs.put d h.1 _) hA i1⟩
   ·exact h1.mono fun e w' ⟨v,he,fz',H',i1,k1⟩=>⟨v,he,next k1 (hs.put d h.1 _) hA i1⟩
   exact h1.elim
  | none=>
   refine Yco.up ?_;have h1:=h a.eval w hs.reads hi;unfold Yco at h1 ⊢;split at h1
   ·obtain ⟨fz',H',i1,k1⟩:=h1;exact next k1 hs hA i1
   ·obtain ⟨fz',H',i1,k1⟩:=h1;exact next k1 hs hA i1
   ·exact h1.mono fun e w' ⟨v,he,fz',H',i1,k1⟩=>⟨v,he,next k1 hs hA i1⟩
   ·exact h1.mono fun e w' ⟨v,he,fz',H',i1,k1⟩=>⟨v,he,next k1 hs hA i1⟩
   exact h1.elim
theorem CI.region {ro:Option Nat} {m id:Nat} {K:Env->FZ->HP->Prop} {l:List Oper} {Q:Exit->Act->World->Prop} {σ:Env} {a:Act} (h:CI P cx n K l σ fz H) (hs:SatR n σ a) (hi:Inv cx fz H w) (hq:∀ σ' fz' H' a' w',K σ' fz' H'->SatR n σ' a'->a'.defers=a.defers->Inv cx fz' H' w'->Q .normal a' w'):
 (Code.region id l.toArray false).wpIn (fAt ro) m P Q a w:=by
 refine wpIn_region ?_;rw [List.range_eq_range',List.size_toArray];exact CI.ops hq l [] rfl h hs rfl hi
theorem Wp.ofCI {id:Nat} {l:List Oper} {σ:Env} {Q:QQ} (h:CI P cx n (fun σ' fz' H'=>Q .normal σ' fz' H') l σ fz H):Wp P cx n (.region id l.toArray false) σ fz H Q:=by
 unfold Wp;intro a w hs hi;exact (wpIn_wide (n:=0)).1 (CI.region (ro:=none) h ⟨hs.size,hs.slot⟩ hi (fun σ' fz' H' a' w' hk hs' hd hi'=>⟨σ',fz',H',⟨hs'.size,hd.trans hs.defers,hs'.slot⟩,hi',hk⟩))
def recL (st:LoopState) (T:Array Value) (fnA D:Nat) (ps:Array Tmp) (asg bd:Code):Loop:={state:=st,pending:=none,fn:=fnA,tmps:=T,params:=ps,assign:=asg,body:=bd,defers:=D}
theorem YnK {nA D L p fnA ia ib bid:Nat} {T:Array Value} {σ2:Env} {la lb:List Oper} {ff x:Operand} {ats:Array TypeId} {v:Value} {r:Operand->Option Value} {H0:HP} {K:Value->FZ->HP->Prop} {dst:Option Nat} {ty:TypeId} {pos:String} {af:Array Edge} {gd:Option (Nat × Bool)}
 (hT:SatR nA σ2 {tmps:=T,defers:=[]}) (hf:r ff=some (.func (.yield L) #[] #[])) (hx:r x=some v)
 (h:CI P cx nA (fun σ fz1 H1=>∃ H2,H1.Perm ((L,.loop (recL .ready T fnA D #[p] (.region ia la.toArray false) (.block bid (.region ib lb.toArray false))))::H2)/\
  CI P cx nA (fun _ fz3 H3=>∃ H4,H3.Perm ((L,.loop (recL .busy T fnA D #[p] (.region ia la.toArray false) (.block bid (.region ib lb.toArray false))))::H4)/\K (Zo true) fz3 ((L,.loop (recL .ready T fnA D #[p] (.region ia la.toArray false) (.block bid (.region ib lb.toArray false))))::H4))
   lb σ fz1 ((L,.loop (recL .busy T fnA D #[p] (.region ia la.toArray false) (.block bid (.region ib lb.toArray false))))::H2)) la ((p,v)::σ2) fz ((L,.loop (recL .ready T fnA D #[p] (.region ia la.toArray false) (.block bid (.region ib lb.toArray false))))::H0)) (hp:Nat.blt p nA=true:=by exact rfl):
 Yos P cx ⟨dst,.call {callee:=.value ff,args:=#[x],argTypes:=ats},ty,pos,af,gd⟩ r fz ((L,.loop (recL .ready T fnA D #[p] (.region ia la.toArray false) (.block bid (.region ib lb.toArray false))))::H0) K:=by
 intro ρ w hr hi;have hL:w.heap[L]?=some (.loop (recL .ready T fnA D #[p] (.region ia la.toArray false) (.block bid (.region ib lb.toArray false)))):=(hi.hp.own _ (.head _)).1;have e:(execOp ρ ⟨dst,.call {callee:=.value ff,args:=#[x],argTypes:=ats},ty,pos,af,gd⟩).run P w=.ok (.round L fnA (T.setIfInBounds p v) (.region ia la.toArray false) (.block bid (.region ib lb.toArray false))) w:=by
  have hy:=run_yield (P:=P) (args:=#[v]) hL rfl;simp [execOp,resolve,Deferred.ofValue,invoke,hr _ _ hf,hr _ _ hx];rw [hy];simp [recL]
 rw [e];have hp':p<nA:=by simpa [Nat.blt_eq] using hp
 refine roundIn_of_wpIn (F:=Fence.wide) trivial ?_;refine CI.region (ro:=some L) h (SatR.put hT p hp' v) hi (fun σ1 fz1 H1 a1 w1 hk hs1 hd1 hi1=>?_);obtain ⟨H2,hpm,hci⟩:=hk;have hi2:=hi1.perm hpm.symm;have hL1:=(hi2.hp.own _ (.head _)).1;refine ⟨_,run_beginRound hL1 rfl,?_⟩;have hi3:=Inv.setObj (pre:=[]) (o':=.loop (recL .busy T fnA D #[p] (.region ia la.toArray false) (.block bid (.region ib lb.toArray false)))) hi2;refine wpIn_block (CI.region (ro:=some L) hci hs1 hi3 (fun σ3 fz3 H3 a3 w3 hk3 hs3 hd3 hi4=>?_));obtain ⟨H4,hpm4,hk4⟩:=hk3;have hi5:=hi4.perm hpm4.symm;have hL3:=(hi5.hp.own _ (.head _)).1;exact ⟨_,_,run_endRound none hL3,_,rfl,fz3,_,Inv.setObj (pre:=[]) (o':=.loop (recL .ready T fnA D #[p] (.region ia la.toArray false) (.block bid (.region ib lb.toArray false)))) hi5,hk4⟩
variable {g:Nat}
theorem YjT {f:FuncId} {fn:Func} {A B asg bd:Code} {bid rid p t:Nat} {l:List Oper} {args:List Value} {gf:FuncId} {lb:List Value} {R:Value->FZ->HP->Prop}
 (hf:P.funcs[f]?=some fn) (hb:fn.body=some (A.seq ((B.seq (.block bid (.rangeFunc (.tmp g) #[p] asg bd))).seq ((Code.region rid l.toArray false).seq .ret)))) (hn:fn.ntmps=n) (ha:Nat.ble args.length n=true)
 (hname:(fn.name== "runtime.NumGoroutine")=false) (hres:fn.results=#[.tmp t]) (hgc:Ya4 P gf)
 (hpre:∀ w0,Wp P ⟨w0,H.map Prod.fst,fz⟩ n A (Yod args 0) fz H fun e σ fz1 H1=>e=.normal/\Wp P ⟨w0,H.map Prod.fst,fz⟩ n B σ fz1 H1 fun e σ fz2 H2=>e=.normal/\lk σ g=some (.func (.func gf) #[] lb.toArray)/\
  ∀ (L D fnA:Nat) (T:Array Value),SatR n σ {tmps:=T,defers:=[]}->∃ RI,GFn P gf (.func (.yield L) #[] #[]::lb) fz2 ((L,.loop (recL .ready T fnA D #[p] asg bd))::(D,.deferred (some []))::H2) RI/\
   ∀ u fz3 H3,RI u fz3 H3->∃ H4,H3.Perm ((L,.loop (recL .ready T fnA D #[p] asg bd))::(D,.deferred (some []))::H4)/\
    CI P ⟨w0,H.map Prod.fst,fz⟩ n (fun σ' fz5 H5=>∃ v H6 H7,lk σ' t=some v/\H5.Perm ((D,.deferred (some []))::H6)/\H7.Sublist H6/\R v fz5 H7) l σ fz3 ((L,.loop (recL .exhausted T fnA D #[p] asg bd))::(D,.deferred (some []))::H4)):
 GFn P f args fz H R:=by
 refine GFn.of ⟨fn,hf,hname,by simp [hb]⟩ fun w hw=>(callsIn_wide (n:=0)).1 (callsIn_of_wp_marks hf hb trivial (wpIn_wide.2 ?_))
 have ha':=Nat.le_of_ble_eq_true ha;have hs:Sat n (Yod args 0) {tmps:=args.toArray++Array.replicate (fn.ntmps - args.toArray.size) undef,defers:=[]}:=⟨by simp [hn];omega,rfl,fun i v hv=>by
  have h1:=(Yjd args 0 i v hv).2;simp only [Nat.sub_zero] at h1;have h2:i<args.length:=(Zg h1).1;rw [Array.getElem?_append_left (by simpa using h2)];simpa using h1⟩
 have hi:Inv ⟨w,H.map Prod.fst,fz⟩ fz H w:=⟨hw,Fr.refl _ _,⟨fun _ _ h=>h,fun _ _ _=>rfl,fun p hp=>.inl (List.mem_map.2 ⟨p,hp,rfl⟩)⟩⟩;refine wp_seq (wp_mono ((hpre w).run _ w hs hi) fun e a1 w1 hh=>?_);obtain ⟨σ1,fz1,H1,s1,i1,rfl,hB⟩:=hh;show (Code.seq _ _).wp P _ a1 w1;refine wp_seq (wp_seq (wp_mono (hB.run a1 w1 s1 i1) fun e a2 w2 hh=>?_));obtain ⟨σ2,fz2,H2,s2,i2,rfl,hg,hq⟩:=hh;show (Code.block _ _).wp P _ a2 w2;refine wp_block ((wpIn_wide (n:=1)).1 (wpIn_rangeFunc (fun fn' _=>?_)));have hev:a2.eval (.tmp g)=.func (.func gf) #[] lb.toArray:=s2.reads _ _ hg;obtain ⟨RI,hit,hq⟩:=hq (w2.heap.size+1) w2.heap.size fn' a2.tmps ⟨s2.size,s2.slot⟩;obtain ⟨W1,hW1⟩:∃ W1,(w2.alloc (.deferred (some []))).alloc (.loop (recL .ready a2.tmps fn' w2.heap.size #[p] asg bd))=W1:=⟨_,rfl⟩;have hsz:(w2.alloc (.deferred (some []))).heap.size=w2.heap.size+1:=World.size_alloc _ _;have iW:Inv ⟨w,H.map Prod.fst,fz⟩ fz2 ((w2.heap.size+1,.loop (recL .ready a2.tmps fn' w2.heap.size #[p] asg bd))::(w2.heap.size,.deferred (some []))::H2) W1:=by
  have h1:=(i2.alloc (.deferred (some []))).alloc (.loop (recL .ready a2.tmps fn' w2.heap.size #[p] asg bd));rw [hW1,hsz] at h1;exact h1
 refine ⟨w2.heap.size+1,[{target:=.collected w2.heap.size,args:=#[]}],W1,{target:=.fn (.func gf) lb.toArray,args:=#[.func (.yield (w2.heap.size+1)) #[] #[]]},W1,gf,#[.func (.yield (w2.heap.size+1)) #[] #[]]++lb.toArray,W1,?_,?_,fun _ _=>trivial,?_,fun _=>Zs 1,?_⟩
 ·rw [<- hW1];exact run_enterLoop_outer _ _ _ _ _
 ·simp only [resolve,hev];simp [go_sem]
 ·simp [invoke,go_sem,hgc.run]
 have hcall:=hit.out W1 iW.hp;rw [show #[Value.func (.yield (w2.heap.size+1)) #[] #[]]++lb.toArray=(Value.func (.yield (w2.heap.size+1)) #[] #[]::lb).toArray from by simp];refine callsIn_wide.2 (hcall.mono fun e W2 hh=>?_);obtain ⟨u,fz3,H3,rfl,hRI,h1,h2,h3⟩:=hh;have i3:=Inv.called (Hr:=[]) (by rw [List.append_nil];exact iW) h1 h2 h3;rw [List.append_nil] at i3;obtain ⟨H4,hpm,hci⟩:=hq u fz3 H3 hRI;have i4:=i3.perm hpm.symm;have hL:W2.heap[w2.heap.size+1]?=some (.loop (recL .ready a2.tmps fn' w2.heap.size #[p] asg bd)):=(i4.hp.own _ (.head _)).1;refine ⟨none,_,run_endLoop hL (by simp [recL]),?_⟩;have i5:=Inv.setObj (pre:=[]) (o':=.loop (recL .exhausted a2.tmps fn' w2.heap.size #[p] asg bd)) i4;show (Code.seq _ _).wp P _ {a2 with defers:=[{target:=.collected w2.heap.size,args:=#[]}]++a2.defers} _;refine wp_seq ((wpIn_wide (n:=0)).1 (CI.region (ro:=none) hci ⟨s2.size,s2.slot⟩ i5 (fun σ5 fz5 H5 a5 w5 hk s5 hd5 i6=>?_)));obtain ⟨v,H6,H7,hv,hpm6,hsub,hR⟩:=hk;show Code.ret.wp P _ a5 w5;refine wp_ret ?_;show LeavesInM Fence.wide 0 P fn a5.tmps _ a5.defers .returning w5;have hdf:a5.defers=[{target:=.collected w2.heap.size,args:=#[]}]:=by rw [hd5];simp [s2.defers]
 rw [hdf];have i7:=i6.perm hpm6.symm;have hD:w5.heap[w2.heap.size]?=some (.deferred (some [])):=(i7.hp.own _ (.head _)).1;have i8:=Inv.setObj (pre:=[]) (o':=.deferred none) i7;refine ⟨by simp,.inl ⟨w2.heap.size,_,rfl,run_takeDeferred hD,?_⟩⟩;show LeavesIn Fence.wide 0 P fn a5.tmps _ [] .returning _;have i9:=i8.forget (hsub.cons _);exact ⟨v,by simp [results,hres,s5.slot t v hv],v,fz5,H7,rfl,hR,i9.hp,i9.fr,i9.nw⟩
end
end Go.Lx
namespace Go.Lx
variable {α:Type} {j:Nat} {fz:FZ} {v:Value} {l:List α} {L:Lay α}
structure SWk {α:Type} (lt:α->α->Prop):Prop where
 as_:∀ x y,lt x y->¬lt y x
 nt:∀ x y z,¬lt y x->¬lt z y->¬lt z x
theorem SWk.tr {lt:α->α->Prop} (w:SWk lt) (x y z:α) (h:lt x y) (k:¬lt z y):lt x z:=Classical.byContradiction fun hn=>w.nt y z x k hn h
theorem SWk.tl {lt:α->α->Prop} (w:SWk lt) (x y z:α) (h:¬lt y x) (k:lt y z):lt x z:=Classical.byContradiction fun hn=>w.nt z x y hn h k
theorem SWk.trans {lt:α->α->Prop} (w:SWk lt) (x y z:α) (h:lt x y) (k:lt y z):lt x z:=w.tr x y z h (w.as_ y z k)
def SrtS {α:Type} (lt:α->α->Prop) (l:List α):Prop:=l.Pairwise fun x y=>¬lt y x
theorem YmO {lt:α->α->Prop} (h:SrtS lt l) {i:Nat} {x y:α} (hx:l[i]?=some x) (hy:l[j]?=some y) (w:SWk lt) (hij:i<=j:=by omega):¬lt y x:=by
 obtain ⟨h1,h2⟩:=Zg hx;obtain ⟨h3,h4⟩:=Zg hy;rcases Nat.lt_or_ge i j with h0 | h0
 ·have:=List.pairwise_iff_getElem.1 h i j h1 h3 h0
  rwa [h2,h4] at this
 have e:i=j:=by omega
 subst e;rw [hx] at hy;injection hy with hy
 subst hy;exact fun h=>w.as_ _ _ h h
section
variable {α:Type} {lt:α->α->Prop} [DecidableRel lt]
def XB (lt:α->α->Prop) [DecidableRel lt]:List α->List α->List α
 | [],r=>r
 | x::l,[]=>x::l
 | x::l,y::r=>if lt y x then y::XB lt (x::l) r else x::XB lt l (y::r)
theorem Xw (r:List α):XB lt [] r=r:=by rw [XB]
theorem XX (l:List α):XB lt l []=l:=by cases l<;>rw [XB]
theorem YR (x y:α) (l r:List α):XB lt (x::l) (y::r)=if lt y x then y::XB lt (x::l) r else x::XB lt l (y::r):=by rw [XB]
theorem Yd1:∀ (l r:List α),(XB lt l r).length=l.length+r.length
 | [],r=>by simp [XB]
 | x::l,[]=>by simp [XB]
 | x::l,y::r=>by
  rw [YR];split
  ·rw [List.length_cons,Yd1 (x::l) r];simp only [List.length_cons];omega
  rw [List.length_cons,Yd1 l (y::r)];simp only [List.length_cons];omega
theorem Ybo:∀ (l1 r1:List α) {l2 r2:List α},(∀ x∈l1,∀ y∈r2,¬lt y x)->(∀ x∈l2,∀ y∈r1,lt y x)->XB lt (l1++l2) (r1++r2)=XB lt l1 r1++XB lt l2 r2
 | [],[],l2,r2,_,_=>by rw [Xw];rfl
 | [],y::r1,l2,r2,h1,h2=>by
  cases l2 with
  | nil=>rw [List.append_nil,Xw,Xw,Xw]
  | cons x l2=>
   have:=Ybo [] r1 (l2:=x::l2) (r2:=r2) (by simp) (fun z hz w hw=>h2 z hz w (by simp [hw]));show XB lt (x::l2) (y::(r1++r2))=_;rw [YR,if_pos (h2 x (by simp) y (by simp))];show y::XB lt ([]++x::l2) (r1++r2)=_;rw [this,Xw,Xw];rfl
 | x::l1,[],l2,r2,h1,h2=>by
  cases r2 with
  | nil=>rw [XX,XX,List.append_nil,XX]
  | cons y r2=>
   have:=Ybo l1 [] (l2:=l2) (r2:=y::r2) (fun z hz w hw=>h1 z (by simp [hz]) w hw) (by simp);show XB lt (x::(l1++l2)) (y::r2)=_;rw [YR,if_neg (h1 x (by simp) y (by simp))];show x::XB lt (l1++l2) ([]++y::r2)=_;rw [this,XX,XX];rfl
 | x::l1,y::r1,l2,r2,h1,h2=>by
  show XB lt (x::(l1++l2)) (y::(r1++r2))=_;rw [YR,YR];split
  ·have:=Ybo (x::l1) r1 (l2:=l2) (r2:=r2) h1 (fun z hz w hw=>h2 z hz w (by simp [hw]));show y::XB lt (x::l1++l2) (r1++r2)=_;rw [this];rfl
  have:=Ybo l1 (y::r1) (l2:=l2) (r2:=r2) (fun z hz w hw=>h1 z (by simp [hz]) w hw) h2;show x::XB lt (l1++l2) (y::r1++r2)=_;rw [this];rfl
termination_by l1 r1=>l1.length+r1.length
theorem YaT (w:SWk lt):∀ (a b c:List α),XB lt (XB lt a b) c=XB lt a (XB lt b c)
 | [],b,c=>by rw [Xw,Xw]
 | x::a,[],c=>by rw [XX,Xw]
 | x::a,y::b,[]=>by rw [XX,XX]
 | x::a,y::b,z::c=>by
  by_cases h1:lt y x
  ·rw [YR x y,if_pos h1];by_cases h2:lt z y
   ·have h3:lt z x:=w.trans z y x h2 h1;rw [YR y z,if_pos h2,YR y z,if_pos h2,YR x z,if_pos h3];have:=YaT w (x::a) (y::b) c;rw [YR x y,if_pos h1] at this;rw [this]
   rw [YR y z,if_neg h2,YR y z,if_neg h2,YR x y,if_pos h1,YaT w (x::a) b (z::c)]
  rw [YR x y,if_neg h1];by_cases h2:lt z x
  ·have h3:lt z y:=w.tr z x y h2 h1;rw [YR x z,if_pos h2,YR y z,if_pos h3,YR x z,if_pos h2];have:=YaT w (x::a) (y::b) c;rw [YR x y,if_neg h1] at this;rw [this]
  rw [YR x z,if_neg h2];by_cases h3:lt z y
  ·rw [YR y z,if_pos h3,YR x z,if_neg h2,YaT w a (y::b) (z::c),YR y z,if_pos h3]
  rw [YR y z,if_neg h3,YR x y,if_neg h1,YaT w a (y::b) (z::c),YR y z,if_neg h3]
termination_by a b c=>a.length+b.length+c.length
def YdJ (lt:α->α->Prop) [DecidableRel lt] (l:List α):List α:=l.foldl (fun s x=>XB lt s [x]) []
theorem Yda (l:List α) (x:α):YdJ lt (l++ [x])=XB lt (YdJ lt l) [x]:=by
 unfold YdJ;rw [List.foldl_append];rfl
theorem YeX (w:SWk lt) (u:List α):∀ (n:Nat) (v:List α),v.length=n->YdJ lt (u++v)=XB lt (YdJ lt u) (YdJ lt v)
 | 0,v,h=>by
  have:v=[]:=List.eq_nil_of_length_eq_zero h;subst this;rw [List.append_nil];exact (XX _).symm
 | n+1,v,h=>by
  have hne:v≠ []:=fun e=>by subst e;cases h
  obtain ⟨v',x,rfl⟩:∃ v' x,v=v'++ [x]:=⟨v.dropLast,v.getLast hne,(List.dropLast_concat_getLast hne).symm⟩;rw [<- List.append_assoc,Yda,YeX w u n v' (by simpa using h),Yda,YaT w]
theorem Yio:∀ (n:Nat) (v:List α),v.length=n->(YdJ lt v).length=n
 | 0,v,h=>by
  have:v=[]:=List.eq_nil_of_length_eq_zero h;subst this;rfl
 | n+1,v,h=>by
  have hne:v≠ []:=fun e=>by subst e;cases h
  obtain ⟨v',x,rfl⟩:∃ v' x,v=v'++ [x]:=⟨v.dropLast,v.getLast hne,(List.dropLast_concat_getLast hne).symm⟩;rw [Yda,Yd1,Yio n v' (by simpa using h)];rfl
theorem Yd0:∀ (l r:List α) {z:α},z∈XB lt l r↔z∈l\/z∈r
 | [],r,z=>by simp [XB]
 | x::l,[],z=>by simp [XB]
 | x::l,y::r,z=>by
  rw [YR];split
  ·rw [List.mem_cons,Yd0 (x::l) r];simp only [List.mem_cons];constructor
   ·rintro (h | h | h);exact .inr (.inl h);exact .inl h;exact .inr (.inr h)
   rintro (h | h | h);exact .inr (.inl h);exact .inl h;exact .inr (.inr h)
  rw [List.mem_cons,Yd0 l (y::r)];simp only [List.mem_cons,or_assoc]
theorem YfB (w:SWk lt):∀ (l r:List α),SrtS lt l->SrtS lt r->SrtS lt (XB lt l r)
 | [],r,_,h=>by rw [Xw];exact h
 | x::l,[],h,_=>by rw [XX];exact h
 | x::l,y::r,h,k=>by
  have h':=List.pairwise_cons.1 h;have k':=List.pairwise_cons.1 k;rw [YR];split
  ·rename_i c;refine List.pairwise_cons.2 ⟨fun z hz=>?_,YfB w (x::l) r h k'.2⟩;rcases (Yd0 _ _).1 hz with hz | hz
   ·rcases List.mem_cons.1 hz with rfl | hz
    ·exact w.as_ _ _ c
    exact fun hc=>h'.1 z hz (w.trans z y x hc c)
   exact k'.1 z hz
  rename_i c;refine List.pairwise_cons.2 ⟨fun z hz=>?_,YfB w l (y::r) h'.2 k⟩;rcases (Yd0 _ _).1 hz with hz | hz
  ·exact h'.1 z hz
  rcases List.mem_cons.1 hz with rfl | hz
  ·exact c
  exact fun hc=>c (w.tl y z x (k'.1 z hz) hc)
theorem Yn7 (w:SWk lt) (l:List α):SrtS lt (YdJ lt l):=by
 unfold YdJ;have:∀ (l s:List α),SrtS lt s->SrtS lt (l.foldl (fun s x=>XB lt s [x]) s):=fun l=>by
  induction l with
  | nil=>exact fun s h=>h
  | cons x l ih=>exact fun s h=>ih _ (YfB w s [x] h (List.pairwise_cons.2 ⟨by simp,List.Pairwise.nil⟩))
 exact this l [] List.Pairwise.nil
variable {c:Nat}
theorem YcC (w:SWk lt) {L R:List α} {e:Nat} (hL:SrtS lt L) (hR:SrtS lt R)
 (hA:∀ c',c=c'+1->∀ x y,L[c']?=some x->R[e]?=some y->¬lt y x) (hB:∀ e',e=e'+1->∀ x y,L[c]?=some x->R[e']?=some y->lt y x) (hc:c<=L.length) (he:e<=R.length):
 XB lt L R=XB lt (L.take c) (R.take e)++XB lt (L.drop c) (R.drop e):=by
 have h:=Ybo (lt:=lt) (L.take c) (R.take e) (l2:=L.drop c) (r2:=R.drop e) (fun x hx y hy=>?_) (fun x hx y hy=>?_)
 ·rw [List.take_append_drop,List.take_append_drop] at h;exact h
 ·obtain ⟨i,hi⟩:=List.getElem?_of_mem hx;obtain ⟨j,hj⟩:=List.getElem?_of_mem hy;have hic:i<c:=by have:=(Zg hi).1;rw [List.length_take] at this;omega
  rw [List.getElem?_take_of_lt hic] at hi;rw [List.getElem?_drop] at hj;have hej:=(Zg hj).1;obtain ⟨c',rfl⟩:∃ c',c=c'+1:=⟨c - 1,by omega⟩;have hx':L[c']?=some (L[c']'Zi):=List.getElem?_eq_getElem _;have hy':R[e]?=some (R[e]'Zi):=List.getElem?_eq_getElem _;have h1:=hA c' rfl _ _ hx' hy';exact w.nt _ _ _ (YmO hL hi hx' w) (w.nt _ _ _ h1 (YmO hR hy' hj w))
 obtain ⟨i,hi⟩:=List.getElem?_of_mem hx;obtain ⟨j,hj⟩:=List.getElem?_of_mem hy;have hje:j<e:=by have:=(Zg hj).1;rw [List.length_take] at this;omega
 rw [List.getElem?_take_of_lt hje] at hj;rw [List.getElem?_drop] at hi;have hci:=(Zg hi).1;obtain ⟨e',rfl⟩:∃ e',e=e'+1:=⟨e - 1,by omega⟩;have hx':L[c]?=some (L[c]'Zi):=List.getElem?_eq_getElem _;have hy':R[e']?=some (R[e']'Zi):=List.getElem?_eq_getElem _;have h1:=hB e' rfl _ _ hx' hy';exact w.tl _ _ _ (YmO hR hj hy' w) (w.tr _ _ _ h1 (YmO hL hx' hi w))
theorem YkP (w:SWk lt) {s1 s2:List α} {x:α} (hs:SrtS lt (s1++s2)) (h1:∀ y,s2[0]?=some y->lt x y) (h2:∀ k,s1.length=k+1->∀ z,s1[k]?=some z->¬lt x z):XB lt (s1++s2) [x]=s1++x::s2:=by
 have hr:SrtS lt [x]:=List.pairwise_cons.2 ⟨by simp,List.Pairwise.nil⟩;have e1:=YcC w (L:=s1++s2) (R:=[x]) (c:=s1.length) (e:=0) hs hr (fun c' hc u v hu hv=>by
  have:v=x:=by simpa using hv.symm
  subst this;rw [List.getElem?_append_left Zi] at hu;exact h2 c' hc u hu) (fun e' he=>by omega) (by simp) (by simp)
 have hs2:SrtS lt s2:=(List.pairwise_append.1 hs).2.1;have e2:=YcC w (L:=s2) (R:=[x]) (c:=0) (e:=1) hs2 hr (fun c' hc=>by omega) (fun e' he u v hu hv=>by
  have:e'=0:=by omega
  subst this;have:v=x:=by simpa using hv.symm
  subst this;exact h1 u hu) (by simp) (by simp)
 rw [e1,List.take_left' rfl,List.drop_left' rfl,List.take_zero,List.drop_zero,XX,e2];simp [XX,Xw]
end
theorem XM {xs:List α} (h:IsSl L fz v xs):v.oneCell'=true:=by
 obtain ⟨A,n,c,rfl,_⟩:=h;rfl
theorem Ym5:OneC atomL:=by
 intro fz d cs h;obtain ⟨_,rfl,hR⟩:=XA h;simp only [List.forall_mem_cons];exact ⟨rfl,XM hR.args,by simp⟩
theorem YkB:OneC valueL:=by
 intro fz d cs h;obtain ⟨_,rfl,hR⟩:=Yam h;simp only [List.forall_mem_cons];exact ⟨rfl,XM hR.fluent.args,rfl,by simp⟩
theorem YeS:OneC predicateL:=by
 intro fz d cs h;obtain ⟨_,rfl,hR⟩:=Xo h;simp only [List.forall_mem_cons];exact ⟨rfl,XM hR.params,by simp⟩
theorem Yf2:OneC functionL:=by
 intro fz d cs h;obtain ⟨_,rfl,hR⟩:=YW h;simp only [List.forall_mem_cons];exact ⟨rfl,XM hR.params,rfl,rfl,by simp⟩
theorem Ym4:OneC exprL:=by
 intro fz d cs h;obtain ⟨_,_,rfl,hR⟩:=YD h;simp only [List.forall_mem_cons];exact ⟨rfl,rfl,rfl,XM hR.args,XM hR.kids,by simp⟩
theorem YlU:OneC YK:=by
 intro fz d cs h;obtain ⟨_,_,_,_,rfl,hR⟩:=Yv h;simp only [List.forall_mem_cons];exact ⟨rfl,rfl,XM hR.args,XM hR.params,XM hR.exprs,XM hR.kids,by simp⟩
theorem Yii:OneC changeL:=by
 intro fz d cs h;obtain ⟨_,_,_,_,_,_,_,_,rfl,hR⟩:=Y8 h;simp only [List.forall_mem_cons];exact ⟨rfl,XM hR.params,rfl,rfl,XM hR.when_.args,XM hR.when_.params,XM hR.when_.exprs,XM hR.when_.kids,rfl,XM hR.args,rfl,rfl,rfl,XM hR.value.args,XM hR.value.kids,by simp⟩
theorem Yij:OneC actionL:=by
 intro fz d cs h;obtain ⟨_,_,_,_,_,_,rfl,hR⟩:=Xh h;simp only [List.forall_mem_cons];exact ⟨rfl,XM hR.params,rfl,rfl,rfl,XM hR.pre.args,XM hR.pre.params,XM hR.pre.exprs,XM hR.pre.kids,XM hR.changes,by simp⟩
theorem Yf3:OneC durativeL:=by
 intro fz d cs h;obtain ⟨_,_,_,_,_,_,_,_,_,_,_,_,_,_,_,rfl,hR⟩:=YZ h;simp only [List.forall_mem_cons];exact ⟨rfl,XM hR.params,rfl,rfl,rfl,XM hR.start.args,XM hR.start.params,XM hR.start.exprs,XM hR.start.kids,rfl,rfl,XM hR.over.args,XM hR.over.params,XM hR.over.exprs,XM hR.over.kids,rfl,rfl,XM hR.fin.args,XM hR.fin.params,XM hR.fin.exprs,XM hR.fin.kids,XM hR.atStart,XM hR.atEnd,by simp⟩
end Go.Lx
namespace Go.Lx
open Go.RowKit
variable {α:Type} {fz:FZ} {g j:Nat} {L:Lay α} {l:List α}
theorem Ye2 {α:Type} {z:Nat}:∀ {xs:List (α × List Value)} {j:Nat} {p:α × List Value},(∀ p∈xs,p.2.length=z)->xs[j]?=some p->((xs.flatMap Prod.snd).drop (j*z)).take z=p.2
 | [],j,p,_,h=>by simp at h
 | x::r,0,p,h,hj=>by
  simp at hj;subst hj;have hx:=h x (by simp);rw [List.flatMap_cons,Nat.zero_mul,List.drop_zero,<- hx,List.take_left]
 | x::r,j+1,p,h,hj=>by
  have hx:=h x (by simp);have ih:=Ye2 (xs:=r) (j:=j) (fun p hp=>h p (by simp [hp])) (by simpa using hj);have e:(j+1)*z=x.2.length+j*z:=by rw [Nat.succ_mul];omega
  rw [List.flatMap_cons,e,List.drop_append,List.drop_eq_nil_of_le Zi,List.nil_append,Nat.add_sub_cancel_left];exact ih
theorem Wf {e:Nat} {n cap:Nat} {cur:List Value} (h:GrowB L e fz g n cap cur l) {d:α} (hj:l[j]?=some d):∃ cs,L.rep fz d cs/\(cur.drop (j*L.size)).take L.size=cs:=by
 obtain ⟨xs,h1,h2,h3⟩:=h.pairs;have hl:=h.len;have hjl:j<n:=by have:=(Zg hj).1;omega
 rw [<- h1,List.getElem?_map] at hj;cases hx:xs[j]? with
 | none=>rw [hx] at hj;cases hj
 | some p=>
  rw [hx] at hj;simp at hj;subst hj;refine ⟨p.2,h2 p (Zm hx),?_⟩;rw [<- Ye2 (fun p hp=>L.len (h2 p hp)) hx,<- h3,List.drop_take,List.take_take];have:j*L.size+L.size<=n*L.size:=by rw [<- Nat.succ_mul];exact Nat.mul_le_mul_right _ hjl
  rw [Nat.min_eq_left Zi]
end Go.Lx
