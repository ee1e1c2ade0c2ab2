/- The texts PWalkW, PCX, QU, ShelfS, QSo, QSp, QN, PEag, laid together. Conditions: none. -/
import Derived.Test.YtacfpcbladaohaaGreatDoorSAO
import Derived.Sort.Walk0
import Derived.Shelf.SlSortCmp.NoneTotal
set_option linter.all false
set_option maxHeartbeats 16000000
noncomputable section
set_option maxRecDepth 20000
open Go.Lx Go.RowKit
attribute [local instance 10] Classical.propDecidable
open Go.Proofs.Tryz (prog)
namespace Go.Proofs.YtacfpcbladaohaaGreatDoor
variable {α:Type} {fz:FZ} {p:Problem} {v1 v2 v3 v4 v5 v6 v7 u1 u2 u3 u4 u5 u6 u7 vp v:Value} {all:List Param} {d:Domain} {s:Bs} {cs:List Value} {l:List α}
def WN:Bs:=⟨#[112,114,111,98,108,101,109]⟩
def XP:Bs:=⟨#[58,100,111,109,97,105,110]⟩
def Yas:Bs:=⟨#[58,111,98,106,101,99,116,115]⟩
def Yhn:Bs:=⟨#[58,105,110,105,116]⟩
def Ydq:Bs:=⟨#[58,103,111,97,108]⟩
def YaP (a:Atom):Sexpr:=Wg a.name a.args
def valX (v:Value_):Sexpr:=YJ [Yl kEq,YaP v.fluent,numE v.n]
def YnE (f:Formula):List Sexpr:=if f.op=kAnd/\f.kids=[] then [] else [YJ [Yl Ydq,YY f]]
def prbX (p:Problem):Sexpr:=YJ ([Yl Xw,YJ [Yl WN,Yl p.name],YJ [Yl XP,Yl p.domain]]++grp Yas (YaH p.objects)++grp Yhn (p.init.map YaP++p.values.map valX)++YnE p.goal)
structure PrbSm (p:Problem):Prop where
 objects:p.objects.length<=1000000000
 init:p.init.length<=1000000000
 inits:∀ a∈p.init,a.args.length<=1000000000
 values:p.values.length<=1000000000
 vals:∀ v∈p.values,v.fluent.args.length<=1000000000
 goal:FSm p.goal
def glO (x:Sexpr) (vk:Value):Obj:=Zu #[Zk x.kind,Zk x.value,Zk x.line,Zk x.column,Zy x.text,vk] 146
theorem head_rep {a b:Bs} {gb gc:Nat} (ha:Short a) (hb:Short b)
 (h1:fz gb=some (.cells (YF WN++YF a).toArray 146 (0,0)))
 (h2:fz gc=some (.cells (YF XP++YF b).toArray 146 (0,0))):
 ∀ p∈ [(Yl Xw,YF Xw),(YJ [Yl WN,Yl a],[Zk 3,Zk 0,Zk 0,Zk 0,Ze,Zv gb 2 2]),(YJ [Yl XP,Yl b],[Zk 3,Zk 0,Zk 0,Zk 0,Ze,Zv gc 2 2])],YM.rep fz p.1 p.2:=by
 intro p hp;simp only [List.mem_cons,List.not_mem_nil,or_false] at hp;rcases hp with rfl | rfl | rfl
 ·exact YH (Y8)
 ·exact Ys (Yap (XI (ys:=[(Yl WN,YF WN),(Yl a,YF a)]) h1 rfl rfl (by intro p hp;simp only [List.mem_cons,List.not_mem_nil,or_false] at hp;rcases hp with rfl | rfl;exact YH (Y8);exact YH ha) rfl Zh))
 exact Ys (Yap (XI (ys:=[(Yl XP,YF XP),(Yl b,YF b)]) h2 rfl rfl (by intro p hp;simp only [List.mem_cons,List.not_mem_nil,or_false] at hp;rcases hp with rfl | rfl;exact YH (Y8);exact YH hb) rfl Zh))
theorem pWrite_q (h:ProblemR fz p v1 v2 v3 v4 v5 v6 v7) (hs:PrbSm p):
 GFn prog 85 [ZP p v1 v2 v3 v4 v5 v6 v7] fz [] (WrR (FVal p.goal/\PrbOk p/\XVal (prbX p)) (prbX p)):=by
 obtain ⟨⟨A1,n1,b1,rfl,io⟩,⟨A2,n2,b2,rfl,ii⟩,⟨A3,n3,b3,rfl,iv⟩⟩:=h.sls;obtain ⟨⟨A4,n4,b4,rfl,_⟩,⟨A5,n5,b5,rfl,_⟩,⟨A6,n6,b6,rfl,_⟩,⟨A7,n7,b7,rfl,i7⟩⟩:=h.goal.sls;have lo:=io.len;have li:=ii.len;have lv:=iv.len;have mo:=hs.objects;have mi:=hs.init;have mv:=hs.values;refine zF Tryz.func85 Tryz.ntmps85 (fun w0=>?_);refine pX (fun g1=>?_);refine zWO ?_;intros;rename_i g2;refine wG ?_;refine Ye (vs:=[Zy p.goal.op,Zy p.goal.name,Zc A4 n4 b4,Zc A5 n5 b5,Zc A6 n6 b6,Zc A7 n7 b7]) 1 ?_;refine wK (q:=YmJ h.goal hs.goal) (h:=fun v8 fz8 H8 hle8 hR8=>?_);obtain ⟨rfl,u,y,rfl,⟨cs,rfl,hr⟩,hyx⟩:=hR8;obtain ⟨vk6,rfl,hX⟩:=YB hr;obtain ⟨A8,n8,b8,rfl,i8⟩:=hX.kids;by_cases hP:FVal p.goal
 ·obtain rfl:=hyx hP;rw [if_pos hP];refine zW ?_;intros;rename_i g4;refine zb (Yi8 (h.mono hle8)) (fun f1=>?_) (fun f1=>?_)
  ·have hE:=Zt f1;refine zWX ?_;refine Yy (YV (fun σ fz' H'=>∃ (g6:Nat) (v:Value) (Hs:HP),σ=[(6,Zp g6),(4,Zp g4),(2,Zp g2),(1,Zp g1)]/\Le fz8 fz'/\H'=(g6,lsO v)::(g1,Zu #[Zy p.name,Zy p.domain,Zc A1 n1 b1,Zc A2 n2 b2,Zc A3 n3 b3,Zy p.goal.op,Zy p.goal.name,Zc A4 n4 b4,Zc A5 n5 b5,Zc A6 n6 b6,Zc A7 n7 b7] 37)::(g2,Zu #[Zk 0,Zk 0,Zk 0,Zk 0,Ze,Zn] 146)::(g4,glO (YY p.goal) (Zc A8 n8 b8))::Hs/\Grow YM 146 fz' v 3 Hs [Yl Xw,YJ [Yl WN,Yl p.name],YJ [Yl XP,Yl p.domain]]) ?_ ?_)
   ·have hnm:=h.name;have hdm:=h.domain;refine W9 [] [(g1,_)] ?_;refine wc (Ya5 (s:=Xw)) ?_;refine wc (Ya5 (s:=WN)) ?_;refine wc (Ya5 (s:=p.name)) ?_;refine zW ?_;refine Yo (Yo (Yo ?_));refine wc (Ya5 (s:=p.domain)) ?_;unfold sxV;refine pT ?_
    repeat' first
     | refine Po.done ?_
     | (refine Yr ?_)
     | (refine XL ?_ ?_)
     | refine Yd (Yb (cs:=YF WN++YF p.name) (fun gb=>⟨⟨Zd,Zx⟩,?_⟩))
     | (refine PoS.qk ⟨Zd,Zx⟩ (Yu YdK ?_);unfold sxV)
     | (refine PoS.qk ⟨Zd,Zx⟩ (Yu (Ya5 (s:=XP)) ?_);unfold sxV)
     | refine Yd (Yb (cs:=YF XP++YF p.domain) (fun gc=>⟨⟨Zd,Zx⟩,?_⟩))
     | refine Yd (Yb (cs:=YF Xw++([.int .i64 3,.int .i64 0,.int .i64 0,.int .i64 0,.string ⟨#[]⟩,.slice (some ⟨gb,0,none⟩) 2 2]++ [.int .i64 3,.int .i64 0,.int .i64 0,.int .i64 0,.string ⟨#[]⟩,.slice (some ⟨gc,0,none⟩) 2 2])) (fun gd=>⟨⟨Zd,Zx⟩,?_⟩))
     | refine Yd (XR (fun g6=>⟨⟨Zd,Zx⟩,?_⟩))
     | refine PoS.hard0 (Does.perm (Ybt [0,6,5,4,1,2,3]) (YP ?_))
     | refine PoS.hard0 (Does.perm (Ybt [1,6,5,4,0,2,3]) (YP ?_))
     | refine PoS.hard0 (Does.perm (Ybt [2,6,5,4,0,1,3]) (YP ?_))
     | refine PoS.hard0 (Does.perm (Ybt [3,6,5,4,0,1,2]) (YP ?_))
    all_goals
     refine zW ?_;refine midF (H':=[(g6,_),(g1,_),(g2,_),(g4,_),(gd,_)]) (H2:=[(gb,_),(gc,_)]) (Ybt [0,1,2,3,4,6,5]) (fun fz3 hl3 hf3=>⟨g6,_,[(gd,_)],rfl,hl3,rfl,Grow.block (m:=3) (ys:=[(Yl Xw,YF Xw),(YJ [Yl WN,Yl p.name],[Zk 3,Zk 0,Zk 0,Zk 0,Ze,Zv gb 2 2]),(YJ [Yl XP,Yl p.domain],[Zk 3,Zk 0,Zk 0,Zk 0,Ze,Zv gc 2 2])]) rfl rfl ?_ rfl⟩) Zw;exact head_rep hnm hdm (hf3 _ (.head _)) (hf3 _ (.tail _ (.head _)))
   rintro σ fz9 H' ⟨g6,v,Hs,rfl,hle9,rfl,hG⟩;obtain ⟨Av,cv,rfl,_,_⟩:=hG.form;refine zWX ?_;refine Yy (YV (fun σ fz' H'=>∃ (m:Nat) (v:Value) (Hs:HP),σ=[(6,Zp g6),(4,Zp g4),(2,Zp g2),(1,Zp g1)]/\Le fz9 fz'/\H'=(g6,lsO v)::(g1,Zu #[Zy p.name,Zy p.domain,Zc A1 n1 b1,Zc A2 n2 b2,Zc A3 n3 b3,Zy p.goal.op,Zy p.goal.name,Zc A4 n4 b4,Zc A5 n5 b5,Zc A6 n6 b6,Zc A7 n7 b7] 37)::(g2,Zu #[Zk 0,Zk 0,Zk 0,Zk 0,Ze,Zn] 146)::(g4,glO (YY p.goal) (Zc A8 n8 b8))::Hs/\m<=4/\Grow YM 146 fz' v m Hs ([Yl Xw,YJ [Yl WN,Yl p.name],YJ [Yl XP,Yl p.domain]]++grp Yas (YaH p.objects))) ?_ ?_)
   ·have i1m:=io.mono (hle8.trans hle9);refine wC ?_ ?_<;>intro c1
    ·have hne:YaH p.objects≠ []:=fun h0=>by have:=Yj5 (l:=p.objects);rw [h0] at this;simp at this;omega
     refine zW ?_;refine W9 [] [(g6,_),(g1,_)] ?_;refine wc (Ya5 (s:=Yas)) ?_;refine Yo ?_;refine zW ?_;unfold sxV;refine Yo (Yo (Yo (Yo (Yo ?_))));refine zW ?_;refine pT ?_
     repeat' first
      | refine Po.done ?_
      | (refine Yr ?_)
      | (refine XL ?_ ?_)
      | refine Yd (Yb (cs:=YF Yas) (fun gb=>⟨⟨Zd,Zx⟩,?_⟩))
      | (refine Yd (Yh [] _ Zz (YfJ i1m Zi) (fun v7 fz7 H7 hle7 hR7=>?_));obtain ⟨rfl,B7,cc7,rfl,hsl7⟩:=hR7;refine ⟨⟨hle7,Zx⟩,?_⟩)
      | (refine Yd (XF T (n:=1) (l:=[Yl Yas]) (Hr:=(g6,_)::(g1,_)::(g2,_)::(g4,_)::Hs) (Hs:=[(gb,_)]) Zz Zz Zz Zz Zz Zz Zz Zz ((List.perm_append_singleton _ _).symm) (Grow.block (ys:=[(Yl Yas,YF Yas)]) rfl rfl (by simpa using YH (Y8)) rfl) YI hsl7 (by show _*72<=_;omega) Zi (fun v8 Hs1 hO1=>⟨⟨hle7,Zx⟩,?_⟩));obtain ⟨Ao,co,rfl,_,_⟩:=hO1.form)
      | (refine PoS.qk ⟨hle7,Zx⟩ (Yu YdK ?_);unfold sxV)
      | refine Yd (Yb (cs:=[.int .i64 3,.int .i64 0,.int .i64 0,.int .i64 0,.string ⟨#[]⟩,.slice Ao (1+3*n1) co]) (fun gc=>⟨⟨hle7,Zx⟩,?_⟩))
      | (refine Yd (Does.freezeAll (H1:=(gc,_)::(g6,_)::(g1,_)::(g2,_)::(g4,_)::Hs) (H2:=Hs1) (Zr _) (fun fzb hle10 hf10=>?_));obtain ⟨A2x,c2x,he2,hsl9⟩:=hO1.sl hle10 hf10 Zi;injection he2 with x1 x2 x3;subst x1 x3;refine YD (Hr:=(gc,_)::(g6,_)::(g1,_)::(g2,_):: [(g4,_)]) (d:=YJ (Yl Yas::YaH p.objects)) (Zr _) (hG.mono (hle7.trans hle10)) YI (.head _) (Ys (Yap hsl9)) (fun v9 Hp9 hO9=>⟨⟨hle7.trans hle10,Zx⟩,?_⟩);obtain ⟨A9,c9,rfl,_,_⟩:=hO9.form)
      | refine PoS.hard0 (Y1 ?_)
      | refine Yd (Yb (cs:=YF Yas) (fun gb=>⟨⟨hle7,Zx⟩,?_⟩))
     all_goals
      exact wN (h:=by exact ⟨4,_,Hp9,rfl,hle7.trans hle10,rfl,by omega,hO9.of (by rw [YpI hne]) rfl⟩)
    have hnil:YaH p.objects=[]:=List.eq_nil_of_length_eq_zero (by rw [Yj5];omega);exact wN (h:=by exact ⟨3,_,Hs,rfl,Zd,rfl,by omega,hG.of (by rw [hnil,YpJ];simp) rfl⟩)
   rintro σ fz10 H' ⟨m1,v,Hs,rfl,hle10,rfl,hm1,hG⟩;obtain ⟨Av,cv,rfl,_,_⟩:=hG.form;refine zWX ?_;refine Yy (YV (fun σ fz' H'=>∃ (m:Nat) (v:Value) (Hs:HP),σ=[(6,Zp g6),(4,Zp g4),(2,Zp g2),(1,Zp g1)]/\Le fz10 fz'/\H'=(g6,lsO v)::(g1,Zu #[Zy p.name,Zy p.domain,Zc A1 n1 b1,Zc A2 n2 b2,Zc A3 n3 b3,Zy p.goal.op,Zy p.goal.name,Zc A4 n4 b4,Zc A5 n5 b5,Zc A6 n6 b6,Zc A7 n7 b7] 37)::(g2,Zu #[Zk 0,Zk 0,Zk 0,Zk 0,Ze,Zn] 146)::(g4,glO (YY p.goal) (Zc A8 n8 b8))::Hs/\m<=5/\Grow YM 146 fz' v m Hs ([Yl Xw,YJ [Yl WN,Yl p.name],YJ [Yl XP,Yl p.domain]]++grp Yas (YaH p.objects)++grp Yhn (p.init.map YaP++p.values.map valX))) ?_ ?_)
   ·have hleA:=(hle8.trans hle9).trans hle10;have i2m:=ii.mono hleA;have i3m:=iv.mono hleA;refine wC ?_ ?_<;>intro c2
    ·refine wc (Ya5 (s:=Yhn)) ?_;refine Ya (Yb (cs:=YF Yhn) (fun gb=>?_));refine zc YdK ?_;refine zW ?_;intros;rename_i g7;refine Wp.perm (List.Perm.cons _ (List.perm_append_singleton _ ((g6,_)::(g1,_)::(g2,_)::(g4,_)::Hs))) ?_;refine Yi (fun q σ fz' H'=>∃ (k:Nat) (v7:Value) (Hi:HP),k<=n2/\q=n2 - k/\σ=[(72,Zk k),(71,Zk n2),(70,Zc A2 n2 b2),(7,Zp g7),(6,Zp g6),(4,Zp g4),(2,Zp g2),(1,Zp g1)]/\Le fz10 fz'/\H'=(g7,lsO v7)::(g6,lsO (Zc Av m1 cv))::(g1,Zu #[Zy p.name,Zy p.domain,Zc A1 n1 b1,Zc A2 n2 b2,Zc A3 n3 b3,Zy p.goal.op,Zy p.goal.name,Zc A4 n4 b4,Zc A5 n5 b5,Zc A6 n6 b6,Zc A7 n7 b7] 37)::(g2,Zu #[Zk 0,Zk 0,Zk 0,Zk 0,Ze,Zn] 146)::(g4,glO (YY p.goal) (Zc A8 n8 b8))::(Hs++Hi)/\Grow YM 146 fz' v7 (k+1) Hi (Yl Yhn::(p.init.take k).map YaP)) ⟨0,_,[_],Z0 _,rfl,rfl,Zd,rfl,Grow.block (ys:=[(Yl Yhn,YF Yhn)]) rfl rfl (by simpa using YH (Y8)) rfl⟩ Zw Zb ?_;rintro q σ fz' H' ⟨k,v7,Hi,hk,rfl,rfl,hle,rfl,hO⟩;obtain ⟨Ai,ci,rfl,_,_⟩:=hO.form;refine wC ?_ ?_<;>intro e1
     ·obtain ⟨x,hx⟩:=Yc (l:=p.init) (k:=k) Zi;have hxm:=Zm hx;have i2k:=i2m.mono hle;refine wI i2k hx (fun a ha=>?_);refine zL ha ?_;intro cs hcs;obtain ⟨va,rfl,hRx⟩:=Xp hcs;obtain ⟨Aa,na,ca,rfl,ia⟩:=hRx.args;refine zW ?_;intros;rename_i g9;refine W9 [] [(g9,_),(g7,_)] ?_;refine zW ?_;refine Yo (Yo (Yo ?_));refine zW ?_;refine pT ?_;refine Yr ?_;refine Yd (Yh [] _ Zz (YfZ hRx (hs.inits x hxm)) (fun v7 fz7 H7 hle7 hR7=>?_));obtain ⟨rfl,cs7,rfl,hr7⟩:=hR7;obtain ⟨vk7,rfl,hX7⟩:=YB (x:=YaP x) hr7;refine ⟨⟨hle7,Zx⟩,?_⟩;refine Yr ?_;refine Yd (Yb (cs:=[Zk (YaP x).kind,Zk (YaP x).value,Zk (YaP x).line,Zk (YaP x).column,Zy (YaP x).text,vk7]) (fun gc=>⟨⟨hle7,Zx⟩,?_⟩));refine Yr ?_;refine Yd (YD (Hr:=(gc,_)::(g9,_)::(g7,_)::(g6,_)::(g1,_)::(g2,_)::(g4,_)::Hs) (d:=YaP x) (Zr _) (hO.mono hle7) YI (.head _) (Ys hX7) (fun v9 Hi9 hO9=>⟨⟨hle7,Zx⟩,?_⟩));obtain ⟨A9,c9,rfl,_,_⟩:=hO9.form;refine Yr ?_;refine PoS.hard0 (Wk ?_);refine Po.done ?_;exact wP (h:=by exact ⟨k+1,_,Hi9,by omega,rfl,rfl,hle.trans hle7,rfl,hO9.of (by rw [List.take_add_one,hx];simp) rfl⟩)
     have hkn:n2=k:=by omega
     subst hkn;rw [Zl Zi] at hO;refine zW ?_;refine Yi (fun q σ fz'' H'=>∃ (j:Nat) (v7:Value) (Hi:HP),j<=n3/\q=n3 - j/\σ=[(87,Zk j),(86,Zk n3),(85,Zc A3 n3 b3),(7,Zp g7),(6,Zp g6),(4,Zp g4),(2,Zp g2),(1,Zp g1)]/\Le fz' fz''/\H'=(g7,lsO v7)::(g6,lsO (Zc Av m1 cv))::(g1,Zu #[Zy p.name,Zy p.domain,Zc A1 n1 b1,Zc A2 n2 b2,Zc A3 n3 b3,Zy p.goal.op,Zy p.goal.name,Zc A4 n4 b4,Zc A5 n5 b5,Zc A6 n6 b6,Zc A7 n7 b7] 37)::(g2,Zu #[Zk 0,Zk 0,Zk 0,Zk 0,Ze,Zn] 146)::(g4,glO (YY p.goal) (Zc A8 n8 b8))::(Hs++Hi)/\Grow YM 146 fz'' v7 (n2+1+j) Hi (Yl Yhn::p.init.map YaP++(p.values.take j).map valX)) ⟨0,_,Hi,Z0 _,rfl,rfl,Zd,rfl,hO.of (by simp) rfl⟩ Zw Zb ?_;rintro q σ fz'' H' ⟨j,v7,Hi,hj,rfl,rfl,hle5,rfl,hO⟩;obtain ⟨Ai,ci,rfl,_,_⟩:=hO.form;refine wC ?_ ?_<;>intro e2
     ·obtain ⟨x,hx⟩:=Yc (l:=p.values) (k:=j) Zi;have hxm:=Zm hx;have i3k:=i3m.mono (hle.trans hle5);refine wI i3k hx (fun a ha=>?_);refine zL ha ?_;intro cs hcs;obtain ⟨va,rfl,hRx⟩:=XE hcs;obtain ⟨Aa,na,ca,rfl,ia⟩:=hRx.fluent.args;refine zW ?_;intros;rename_i g9;refine W9 [] [(g9,_),(g7,_)] ?_;refine wc (Ya5 (s:=kEq)) ?_;refine wG ?_;refine Ye (vs:=[Zy x.fluent.name,Zc Aa na ca]) 0 ?_;refine Yo ?_;refine zW ?_;unfold sxV;refine Yo (Yo (Yo (Yo ?_)));refine zW ?_;refine pT ?_;refine Yr ?_;refine Yd (Yh [] _ Zz (YfZ hRx.fluent (hs.vals x hxm)) (fun v7 fz7 H7 hle7 hR7=>?_));obtain ⟨rfl,cs7,rfl,hr7⟩:=hR7;obtain ⟨vk7,rfl,hX7⟩:=YB (x:=YaP x.fluent) hr7;refine ⟨⟨hle7,Zx⟩,?_⟩;refine Yr ?_;refine Yd (Yb (cs:=YF kEq++([Zk (YaP x.fluent).kind,Zk (YaP x.fluent).value,Zk (YaP x.fluent).line,Zk (YaP x.fluent).column,Zy (YaP x.fluent).text,vk7]++ [Zk 2,Zk x.n,Zk 0,Zk 0,Ze,Zn])) (fun gb=>⟨⟨hle7,Zx⟩,?_⟩));refine Yr ?_;refine PoS.qk ⟨hle7,Zx⟩ (Yu YdK ?_);unfold sxV;refine Yr ?_;refine Yd (Yb (cs:=[Zk 3,Zk 0,Zk 0,Zk 0,Ze,Zv gb 3 3]) (fun gc=>⟨⟨hle7,Zx⟩,?_⟩));refine Yr ?_;refine Yd (Does.freezeAll (H1:=(gc,_)::(g9,_)::(g7,_)::(g6,_)::(g1,_)::(g2,_)::(g4,_)::(Hs++Hi)) (H2:=[(gb,_)]) (List.Perm.cons _ (List.perm_append_singleton _ _).symm) (fun fzb hle10' hf10=>?_));have hrep:YM.rep fzb (valX x) [Zk 3,Zk 0,Zk 0,Zk 0,Ze,Zv gb 3 3]:=Ys (Yap (XI (ys:=[(Yl kEq,YF kEq),(YaP x.fluent,[Zk (YaP x.fluent).kind,Zk (YaP x.fluent).value,Zk (YaP x.fluent).line,Zk (YaP x.fluent).column,Zy (YaP x.fluent).text,vk7]),(numE x.n,[Zk 2,Zk x.n,Zk 0,Zk 0,Ze,Zn])]) (hf10 _ (.head _)) rfl rfl (by intro p hp;simp only [List.mem_cons,List.not_mem_nil,or_false] at hp;rcases hp with rfl | rfl | rfl;exact YH (Y8);exact Ys (hX7.mono hle10');exact Ys (Ykc hRx.n)) rfl Zh));refine YD (Hr:=(gc,_)::(g9,_)::(g7,_)::(g6,_)::(g1,_)::(g2,_)::(g4,_)::Hs) (d:=valX x) (Zr _) (hO.mono (hle7.trans hle10')) YI (.head _) hrep (fun v9 Hi9 hO9=>⟨⟨hle7.trans hle10',Zx⟩,?_⟩);obtain ⟨A9,c9,rfl,_,_⟩:=hO9.form;refine Yr ?_;refine PoS.hard0 (Wk ?_);refine Po.done ?_;exact wP (h:=by exact ⟨j+1,_,Hi9,by omega,rfl,rfl,hle5.trans (hle7.trans hle10'),rfl,hO9.of (by rw [List.take_add_one,hx];simp) rfl⟩)
     have hjn:n3=j:=by omega
     subst hjn;rw [Zl Zi] at hO;refine Seq.freezeAll (H1:=(g7,_)::(g6,_)::(g1,_)::(g2,_)::(g4,_)::Hs) (H2:=Hi) (Zr _) (fun fzp hlp hfp=>?_);obtain ⟨A2x,c2x,he2,hslp⟩:=hO.sl hlp hfp Zi;injection he2 with x1 x2 x3
     subst x1 x3;have hleB:=(hle.trans hle5).trans hlp;have hne:p.init.map YaP++p.values.map valX≠ []:=fun h0=>by have:=congrArg List.length h0;simp only [List.length_append,List.length_map,List.length_nil] at this;omega
     refine zW ?_;refine Ya (Yb (cs:=[Zk 3,Zk 0,Zk 0,Zk 0,Ze,Zc Ai (n2+1+n3) ci]) (fun gc=>?_));refine Ya (YD (Hr:=(gc,_)::(g7,_)::(g6,_)::(g1,_)::(g2,_):: [(g4,_)]) (d:=YJ (Yl Yhn::p.init.map YaP++p.values.map valX)) (Zr _) (hG.mono hleB) YI (.head _) (Ys (Yap hslp)) (fun v9 Hs9 hO9=>?_));obtain ⟨A9,c9,rfl,_,_⟩:=hO9.form;exact wN (h:=by exact ⟨m1+1,_,Hs9,rfl,hleB,rfl,by omega,hO9.of (by rw [YpI hne];simp) rfl⟩)
    have hi0:p.init=[]:=List.eq_nil_of_length_eq_zero Zi;have hv0:p.values=[]:=List.eq_nil_of_length_eq_zero Zi;exact wN (h:=by exact ⟨m1,_,Hs,rfl,Zd,rfl,by omega,hG.of (by rw [hi0,hv0];simp [YpJ]) rfl⟩)
   rintro σ fz11 H' ⟨m2,v,Hs,rfl,hle11,rfl,hm2,hG⟩;obtain ⟨Av,cv,rfl,_,_⟩:=hG.form;have hleC:=(hle9.trans hle10).trans hle11;refine zWX ?_;refine Yy (YV (fun σ fz' H'=>∃ (m:Nat) (v:Value) (Hs:HP),σ=[(6,Zp g6),(4,Zp g4),(2,Zp g2),(1,Zp g1)]/\Le fz11 fz'/\H'=(g6,lsO v)::(g1,Zu #[Zy p.name,Zy p.domain,Zc A1 n1 b1,Zc A2 n2 b2,Zc A3 n3 b3,Zy p.goal.op,Zy p.goal.name,Zc A4 n4 b4,Zc A5 n5 b5,Zc A6 n6 b6,Zc A7 n7 b7] 37)::(g2,Zu #[Zk 0,Zk 0,Zk 0,Zk 0,Ze,Zn] 146)::(g4,glO (YY p.goal) (Zc A8 n8 b8))::Hs/\m<=6/\Grow YM 146 fz' v m Hs ([Yl Xw,YJ [Yl WN,Yl p.name],YJ [Yl XP,Yl p.domain]]++grp Yas (YaH p.objects)++grp Yhn (p.init.map YaP++p.values.map valX)++YnE p.goal)) ?_ ?_)
   ·refine wC ?_ ?_<;>intro e1
    ·have hgo:YnE p.goal=[YJ [Yl Ydq,YY p.goal]]:=if_neg (fun h0=>e1 h0.1);refine zW ?_;refine W9 [] [(g6,_),(g4,_)] ?_;refine wc (Ya5 (s:=Ydq)) ?_;refine zW ?_;unfold sxV;refine Yo (Yo (Yo (Yo ?_)));refine zW ?_;refine pT ?_;refine Yr ?_;refine Yd (Yb (cs:=YF Ydq++ [Zk (YY p.goal).kind,Zk (YY p.goal).value,Zk (YY p.goal).line,Zk (YY p.goal).column,Zy (YY p.goal).text,Zc A8 n8 b8]) (fun gb=>⟨⟨Zd,Zx⟩,?_⟩));refine Yr ?_;refine PoS.qk ⟨Zd,Zx⟩ (Yu YdK ?_);unfold sxV;refine Yr ?_;refine Yd (Yb (cs:=[Zk 3,Zk 0,Zk 0,Zk 0,Ze,Zv gb 2 2]) (fun gc=>⟨⟨Zd,Zx⟩,?_⟩));refine Yr ?_;refine Yd (Does.freezeAll (H1:=(gc,_)::(g6,_)::(g1,_)::(g2,_)::(g4,_)::Hs) (H2:=[(gb,_)]) (List.Perm.cons _ (List.perm_append_singleton _ _).symm) (fun fzb hlb hfb=>?_));have hrep:YM.rep fzb (YJ [Yl Ydq,YY p.goal]) [Zk 3,Zk 0,Zk 0,Zk 0,Ze,Zv gb 2 2]:=Ys (Yap (XI (ys:=[(Yl Ydq,YF Ydq),(YY p.goal,[Zk (YY p.goal).kind,Zk (YY p.goal).value,Zk (YY p.goal).line,Zk (YY p.goal).column,Zy (YY p.goal).text,Zc A8 n8 b8])]) (hfb _ (.head _)) rfl rfl (by intro p hp;simp only [List.mem_cons,List.not_mem_nil,or_false] at hp;rcases hp with rfl | rfl;exact YH (Y8);exact Ys (hX.mono (hleC.trans hlb))) rfl Zh));refine YD (Hr:=(gc,_)::(g6,_)::(g1,_)::(g2,_):: [(g4,_)]) (d:=YJ [Yl Ydq,YY p.goal]) (Zr _) (hG.mono hlb) YI (.head _) hrep (fun v9 Hs9 hO9=>⟨⟨hlb,Zx⟩,?_⟩);obtain ⟨A9,c9,rfl,_,_⟩:=hO9.form;refine Yr ?_;refine PoS.hard0 (Y1 ?_);refine Po.done ?_;exact wN (h:=by exact ⟨m2+1,_,Hs9,rfl,hlb,rfl,by omega,hO9.of (by rw [hgo]) rfl⟩)
    refine wC ?_ ?_<;>intro e2
    ·have hgo:YnE p.goal=[YJ [Yl Ydq,YY p.goal]]:=if_neg (fun h0=>by have:=i7.len;rw [h0.2] at this;simp at this;omega);refine zW ?_;refine W9 [] [(g6,_),(g4,_)] ?_;refine wc (Ya5 (s:=Ydq)) ?_;refine zW ?_;unfold sxV;refine Yo (Yo (Yo (Yo ?_)));refine zW ?_;refine pT ?_;refine Yr ?_;refine Yd (Yb (cs:=YF Ydq++ [Zk (YY p.goal).kind,Zk (YY p.goal).value,Zk (YY p.goal).line,Zk (YY p.goal).column,Zy (YY p.goal).text,Zc A8 n8 b8]) (fun gb=>⟨⟨Zd,Zx⟩,?_⟩));refine Yr ?_;refine PoS.qk ⟨Zd,Zx⟩ (Yu YdK ?_);unfold sxV;refine Yr ?_;refine Yd (Yb (cs:=[Zk 3,Zk 0,Zk 0,Zk 0,Ze,Zv gb 2 2]) (fun gc=>⟨⟨Zd,Zx⟩,?_⟩));refine Yr ?_;refine Yd (Does.freezeAll (H1:=(gc,_)::(g6,_)::(g1,_)::(g2,_)::(g4,_)::Hs) (H2:=[(gb,_)]) (List.Perm.cons _ (List.perm_append_singleton _ _).symm) (fun fzb hlb hfb=>?_));have hrep:YM.rep fzb (YJ [Yl Ydq,YY p.goal]) [Zk 3,Zk 0,Zk 0,Zk 0,Ze,Zv gb 2 2]:=Ys (Yap (XI (ys:=[(Yl Ydq,YF Ydq),(YY p.goal,[Zk (YY p.goal).kind,Zk (YY p.goal).value,Zk (YY p.goal).line,Zk (YY p.goal).column,Zy (YY p.goal).text,Zc A8 n8 b8])]) (hfb _ (.head _)) rfl rfl (by intro p hp;simp only [List.mem_cons,List.not_mem_nil,or_false] at hp;rcases hp with rfl | rfl;exact YH (Y8);exact Ys (hX.mono (hleC.trans hlb))) rfl Zh));refine YD (Hr:=(gc,_)::(g6,_)::(g1,_)::(g2,_):: [(g4,_)]) (d:=YJ [Yl Ydq,YY p.goal]) (Zr _) (hG.mono hlb) YI (.head _) hrep (fun v9 Hs9 hO9=>⟨⟨hlb,Zx⟩,?_⟩);obtain ⟨A9,c9,rfl,_,_⟩:=hO9.form;refine Yr ?_;refine PoS.hard0 (Y1 ?_);refine Po.done ?_;exact wN (h:=by exact ⟨m2+1,_,Hs9,rfl,hlb,rfl,by omega,hO9.of (by rw [hgo]) rfl⟩)
    have hgo:YnE p.goal=[]:=if_pos ⟨e1,List.eq_nil_of_length_eq_zero (by have:=i7.len;omega)⟩;exact wN (h:=by exact ⟨m2,_,Hs,rfl,Zd,rfl,by omega,hG.of (by rw [hgo];simp) rfl⟩)
   rintro σ fz12 H' ⟨m3,v,Hs,rfl,hle12,rfl,hm3,hG⟩;obtain ⟨Av,cv,rfl,_,_⟩:=hG.form;refine zW ?_;refine Seq.freezeAll (H1:=[(g6,_),(g1,_),(g2,_),(g4,_)]) (H2:=Hs) (Zr _) (fun fzr hlr hfr=>?_);obtain ⟨A2w,c2w,he5,hsl⟩:=hG.sl hlr hfr Zi;injection he5 with x1 x2 x3
   subst x1 x3;have hXX:=Yap hsl;refine zb (YfD (x:=prbX p) hXX) (fun f2=>?_) (fun f2=>?_)
   ·have hY:FVal p.goal/\PrbOk p/\XVal (prbX p):=⟨hP,hE,Zt f2⟩;refine zW ?_;refine YaW T (vs:=[.agg #[_,_,_,_,_,_],.nilIface]) ⟨⟨_,_,2,_,_,_,rfl,rfl,rfl,rfl,rfl,rfl⟩,rfl,trivial⟩ (fun fz3 hle3 hf3=>?_);exact ⟨rfl,_,_,by rw [if_pos hY];rfl,SxIs.mono hle3 ⟨_,rfl,Ys hXX⟩,fun _=>rfl⟩
   have hN:¬(FVal p.goal/\PrbOk p/\XVal (prbX p)):=fun h0=>Zf f2 h0.2.2
   refine zW ?_;refine YaW T (vs:=[.agg #[_,_,_,_,_,_],_]) ⟨⟨_,_,2,_,_,_,rfl,rfl,rfl,rfl,rfl,rfl⟩,rfl,trivial⟩ (fun fz3 hle3 hf3=>?_);exact ⟨rfl,_,_,by rw [if_neg hN,Yq Zh];rfl,Yck,fun h0=>absurd h0 hN⟩
  have hN:¬(FVal p.goal/\PrbOk p/\XVal (prbX p)):=fun h0=>Zf f1 h0.2.1
  refine zW ?_;refine YaW T (vs:=[.agg #[_,_,_,_,_,_],_]) ⟨⟨_,_,1,_,_,_,rfl,rfl,rfl,rfl,rfl,rfl⟩,rfl,trivial⟩ (fun fz3 hle3 hf3=>?_);exact ⟨rfl,_,_,by rw [if_neg hN,Yq Zh];rfl,Yck,fun h0=>absurd h0 hN⟩
 rw [if_neg hP];have hN:¬(FVal p.goal/\PrbOk p/\XVal (prbX p)):=fun h0=>hP h0.1
 refine zW ?_;intros;refine YaW T (vs:=[.agg #[_,_,_,_,_,_],_]) ⟨⟨_,_,1,_,_,_,rfl,rfl,rfl,rfl,rfl,rfl⟩,rfl,trivial⟩ (fun fz3 hle3 hf3=>?_);exact ⟨rfl,_,_,by rw [if_neg hN,Yq Zh];rfl,Yck,fun h0=>absurd h0 hN⟩
theorem YfI:∀ {l:List Param} {seen:List Bs},repM seen l=none->(∀ x∈l,x.name ∉ seen)/\Once (fun q:Param=>q.name) l
 | [],_,_=>⟨by simp,fun i j x y _ h=>by simp at h⟩
 | x::r,seen,h=>by
  rw [repM] at h;by_cases hx:x.name∈seen
  ·rw [if_pos hx] at h;cases h
  rw [if_neg hx] at h;obtain ⟨h1,h2⟩:=YfI h;refine ⟨fun y hy=>?_,fun i j a b hij ha hb=>?_⟩
  ·rcases List.mem_cons.1 hy with rfl | hy
   ·exact hx
   exact fun h0=>h1 y hy (by simp [h0])
  cases j with
  | zero=>omega
  | succ j=>
   have hb':r[j]?=some b:=by simpa using hb
   cases i with
   | zero=>
    simp at ha;subst ha;have:=h1 b (Zm hb');exact fun e=>this (by simp [e])
   | succ i=>exact h2 i j a b Zi (by simpa using ha) hb'
theorem Ygq {f:α->Param} {nm:α->Bs} (hf:∀ x,(f x).name=nm x) {r:List Param} (h:Once (fun q:Param=>q.name) (l.map f++r)):Once nm l:=fun i j x y hij hx hy=>by
 have h1:=(Zg hx).1;have h2:=(Zg hy).1;have:=h i j (f x) (f y) hij (by rw [List.getElem?_append_left (by simpa using h1),List.getElem?_map,hx];rfl) (by rw [List.getElem?_append_left (by simpa using h2),List.getElem?_map,hy];rfl);rw [<- hf x,<- hf y];exact this
theorem YhT {f:α->Param} {nm:α->Bs} (hf:∀ x,(f x).name=nm x) {r:List Param} (h:Once (fun q:Param=>q.name) (r++l.map f)):Once nm l:=fun i j x y hij hx hy=>by
 have:=h (r.length+i) (r.length+j) (f x) (f y) Zi (by rw [List.getElem?_append_right Zi,Nat.add_sub_cancel_left,List.getElem?_map,hx];rfl) (by rw [List.getElem?_append_right Zi,Nat.add_sub_cancel_left,List.getElem?_map,hy];rfl);rw [<- hf x,<- hf y];exact this
theorem Ynq (h:Ya1 d all=none):Once (·.name) d.predicates/\Once (·.name) d.functions/\Once (·.name) all/\Once (·.name) d.actions/\Once (·.name) d.duratives:=by
 unfold Ya1 at h;cases h0:repM [] (Ygu d) with
 | some s=>rw [h0] at h;cases h
 | none=>
  rw [h0] at h;cases h1:repM [] (Yd6 all) with
  | some s=>rw [h1] at h;cases h
  | none=>
   rw [h1] at h;have o0:=(YfI h0).2;have o1:=(YfI h1).2;have o2:=(YfI h).2;exact ⟨Ygq (f:=fun x:Predicate=>nmd XO x.name) (fun _=>rfl) o0,YhT (f:=fun x:Function=>nmd Xl x.name) (fun _=>rfl) o0,
    Ygq (r:=[]) (f:=fun x:Param=>nmd Ycm x.name) (fun _=>rfl) (by simpa [Yd6] using o1),Ygq (f:=fun x:Action=>nmd Wl x.name) (fun _=>rfl) o2,YhT (f:=fun x:Durative=>nmd Xm x.name) (fun _=>rfl) o2⟩
def Yel (f:Nat->Bs × Int):Nat->Nat->Bs × Int
 | 0,_=>(⟨#[]⟩,0)
 | n+1,k=>if (f k).2=0 then Yel f n (k+1) else f k
def YT (d:Domain) (p:Problem):Bs × Int:=
 if ¬(DomOk d/\XVal (domX d)) then (wDomainP,2)
 else if ¬(FVal p.goal/\PrbOk p/\XVal (prbX p)) then (YjE,2)
 else if LargeM d p (objsM d p) then (wLimitsP,5)
 else if newM d.types≠0 then (wTypesP,newM d.types)
 else Yel (stepM d (objsM d p) p) 8 0
structure ChkS (d:Domain) (p:Problem):Prop where
 dsm:DomSm d
 psm:PrbSm p
 wa:∀ a∈d.actions,actW a<=1000000000
 wd:∀ a∈d.duratives,durW a<=1000000000
 wg:fW p.goal<=1000000000
theorem YbJ (h:YZ s):s.size<=1000:=Nat.le_trans h.2.2.1 Zh
theorem nms_of (h1:DomOk d) (h2:PrbOk p):NmS d (objsM d p) where
 p:=fun x hx=>YbJ (h1.2.2.2.1 x hx).1
 f:=fun x hx=>YbJ (h1.2.2.2.2.1 x hx).1
 o:=fun x hx=>by
  rcases List.mem_append.1 hx with hx | hx
  ·have:=(h1.2.2.1 x hx).1;exact YbJ (by simpa using this)
  have:=(h2.2.2.1 x hx).1;exact YbJ (by simpa using this)
 a:=fun x hx=>YbJ (h1.2.2.2.2.2.1 x hx).1
 u:=fun x hx=>YbJ (h1.2.2.2.2.2.2 x hx).1
theorem nums_of (h:XVal (domX d)):∀ f∈d.functions,Yex f.lo/\Yex f.hi:=fun f hf=>by
 have h1:YJ (Yl YaK::d.functions.map funX)∈(domX d).kids:=by
  have hne:d.functions.map funX≠ []:=by intro h0;rw [List.map_eq_nil_iff] at h0;rw [h0] at hf;cases hf
  show _∈([Yl Xw,YJ [Yl WQ,Yl d.name]]++grp Yfl (YaH d.types)++grp YaL (YaH d.constants)++grp W5 (d.predicates.map Ylm)++grp YaK (d.functions.map funX)++d.actions.map actX++d.duratives.map durX);simp only [List.mem_append];refine .inl (.inl (.inr ?_));unfold grp;rw [if_neg hne];simp
 have h2:=YlX h h1;have h3:=YfW (k:=funX f) h2 (by simp;exact .inr ⟨f,hf,rfl⟩);exact ⟨num_ok (YfW h3 (by simp)),num_ok (YfW h3 (by simp))⟩
theorem Ygz (h:¬LargeM d p (objsM d p)):LenS d (objsM d p)/\d.types.length<=64/\∀ f∈d.functions,f.params.length<=6:=by
 unfold LargeM at h;refine ⟨⟨?_,?_,?_,?_,?_⟩,?_,fun f hf=>?_⟩
 ·exact Classical.byContradiction fun h0=>h (.inr (.inr (.inl Zi)))
 ·exact Classical.byContradiction fun h0=>h (.inr (.inr (.inr (.inl Zi))))
 ·exact Classical.byContradiction fun h0=>h (.inl Zi)
 ·exact Classical.byContradiction fun h0=>h (.inr (.inr (.inr (.inr (.inl Zi)))))
 ·exact Classical.byContradiction fun h0=>h (.inr (.inr (.inr (.inr (.inr (.inl Zi))))))
 ·exact Classical.byContradiction fun h0=>h (.inr (.inl Zi))
 exact Classical.byContradiction fun h0=>h (.inr (.inr (.inr (.inr (.inr (.inr (.inr (.inr (.inl ⟨f,hf,by omega⟩)))))))))
theorem Yi1 (hM:MaxF fz) (hD:DomainR fz d v1 v2 v3 v4 v5 v6) (hl:d.types.length<=64) (hok:∀ p∈d.types,YZ p.name/\YdB p.typ):
 GFn prog 39 [ZD d v1 v2 v3 v4 v5 v6] fz [] (fun v fz' H'=>H'=[]/\∃ vf,v=.tuple #[vf,errV (newM d.types)]/\(newM d.types=0->ForR fz' vf d.types)):=by
 obtain ⟨⟨A1,n1,b1,rfl,i1⟩,⟨A2,n2,b2,rfl,i2⟩,⟨A3,n3,b3,rfl,i3⟩,⟨A4,n4,b4,rfl,i4⟩,⟨A5,n5,b5,rfl,i5⟩,⟨A6,n6,b6,rfl,i6⟩⟩:=hD.sls;refine zF Tryz.func39 Tryz.ntmps39 (fun w0=>?_);refine pX (fun g2=>?_);refine vK (q:=tnew_q hM i1 hl hok) (h:=fun v6 fz6 H6 hle6 hR6=>?_);obtain ⟨rfl,vf,z,rfl,hv⟩:=hR6;exact vS (h:=by exact ⟨rfl,vf,rfl,hv⟩)
theorem ckR_mk {gc:Nat} {vf vg vo:Value} {Aa:Option Addr} {na ca:Nat} (hc:fz gc=some (ckO d p v1 v2 v3 v4 v5 v6 u1 u2 u3 u4 u5 u6 u7 vf vp vg vo (Zc Aa na ca))) (hD:DomainR fz d v1 v2 v3 v4 v5 v6) (hP:ProblemR fz p u1 u2 u3 u4 u5 u6 u7) (hall:Sl paramL fz Aa na ca all):
 CkR fz (Zp gc) d p all vf vp vg vo:=⟨gc,v1,v2,v3,v4,v5,v6,u1,u2,u3,u4,u5,u6,u7,Aa,na,ca,rfl,hc,hD,hP,hall⟩
theorem Yqk (hM:MaxF fz) (hD:DomainR fz d v1 v2 v3 v4 v5 v6) (hP:ProblemR fz p u1 u2 u3 u4 u5 u6 u7) (hS:ChkS d p):
 QFn prog 38 [ZD d v1 v2 v3 v4 v5 v6,ZP p u1 u2 u3 u4 u5 u6 u7] fz (resV (YT d p)):=by
 obtain ⟨⟨A1,n1,b1,rfl,i1⟩,⟨A2,n2,b2,rfl,i2⟩,⟨A3,n3,b3,rfl,i3⟩,⟨A4,n4,b4,rfl,i4⟩,⟨A5,n5,b5,rfl,i5⟩,⟨A6,n6,b6,rfl,i6⟩⟩:=hD.sls;obtain ⟨⟨B1,m1,d1,rfl,j1⟩,⟨B2,m2,d2,rfl,j2⟩,⟨B3,m3,d3,rfl,j3⟩⟩:=hP.sls;obtain ⟨⟨B4,m4,d4,rfl,_⟩,⟨B5,m5,d5,rfl,_⟩,⟨B6,m6,d6,rfl,_⟩,⟨B7,m7,d7,rfl,_⟩⟩:=hP.goal.sls;refine qF Tryz.func38 Tryz.ntmps38 (fun w0=>?_);refine pX (fun g2=>?_);refine pY (fun g3=>?_);refine zWO ?_;refine vK (q:=dWrite_q hD hS.dsm) (h:=fun v6' fz6 H6 hle6 hR6=>?_);obtain ⟨rfl,u,y,rfl,⟨cs6,rfl,hr6⟩,_⟩:=hR6;obtain ⟨vk6,rfl,hx6⟩:=YB hr6;obtain ⟨Ak6,nk6,ck6,rfl,_⟩:=hx6.kids;by_cases hdo:DomOk d/\XVal (domX d)
 ·rw [if_pos hdo,show errV 0=.nilIface from rfl];refine zV ?_;intros;refine wK (q:=pWrite_q (hP.mono hle6) hS.psm) (h:=fun v7' fz7 H7 hle7 hR7=>?_);obtain ⟨rfl,u',y',rfl,⟨cs7,rfl,hr7⟩,_⟩:=hR7;obtain ⟨vk7,rfl,hx7⟩:=YB hr7;obtain ⟨Ak7,nk7,ck7,rfl,_⟩:=hx7.kids;by_cases hpo:FVal p.goal/\PrbOk p/\XVal (prbX p)
  ·rw [if_pos hpo,show errV 0=.nilIface from rfl];have hle67:=hle6.trans hle7;have hD7:=hD.mono hle67;have hP7:=hP.mono hle67;refine zWN ?_;intros;refine YS [_,_,_,_] ?_;refine zW ?_;refine pU ?_;refine Yf (Yh [] [_,_,_,_] Zz (Ybu hD7 hP7 hS.dsm.constants hS.psm.objects) (fun v8' fz8 H8 hle8 hR8=>⟨⟨hle8,Zx⟩,?_⟩));obtain ⟨Aa,ca,rfl,_,_⟩:=hR8.form;refine Ch.qk ⟨hle8,Zx⟩ (Xy ?_);refine Yf (Ydp _ (fun gc=>⟨⟨hle8,Zx⟩,?_⟩));refine Ch.qk ⟨hle8,Zx⟩ (YE ?_);refine Ch.done ?_;refine Ydn ?_;refine Wp.freezeAll (H1:=(gc,_):: [_,_,_,_]) (H2:=H8) (List.Perm.cons _ Zq) (fun fz9 hle9 hf9=>?_);obtain ⟨Aa',ca',ea,hall⟩:=hR8.sl hle9 hf9 (by have:=hS.dsm.constants;have:=hS.psm.objects;omega);injection ea with ea1 ea2 ea3
   subst ea1;subst ea3;have hle89:=hle8.trans hle9;have hD9:=hD7.mono hle89;have hP9:=hP7.mono hle89;have hS9:∀ {vf:Value} {fz':FZ},Le fz9 fz'->fz' gc=some (ckO d p (Zc A1 n1 b1) (Zc A2 n2 b2) (Zc A3 n3 b3) (Zc A4 n4 b4) (Zc A5 n5 b5) (Zc A6 n6 b6) (Zc B1 m1 d1) (Zc B2 m2 d2) (Zc B3 m3 d3) (Zc B4 m4 d4) (Zc B5 m5 d5) (Zc B6 m6 d6) (Zc B7 m7 d7) vf (.map none) (.map none) (.map none) (Zc Aa (d.constants.length+p.objects.length) ca))->CkR fz' (Zp gc) d p (objsM d p) vf (.map none) (.map none) (.map none):=fun hl hg=>ckR_mk hg (hD9.mono hl) (hP9.mono hl) (hall.mono hl)
   refine vG ?_;refine YaQ (b:=decide (LargeM d p (objsM d p))) (fun fz' hl hf=>large_q (hS9 (vf:=.pointer none) hl (hf (gc,_) (by simp)))) (fun f1=>?_) (fun f1=>?_)
   ·have hlg:=Zt f1;exact vS (h:=by exact (by rw [YT,if_neg (by simpa using hdo),if_neg (by simpa using hpo),if_pos hlg];rfl))
   have hlg:=Zf f1;obtain ⟨hL,hT64,hp6⟩:=Ygz hlg;have hns:=nms_of hdo.1 hpo.2.1;have hM9:=hM.mono (hle67.trans hle89);have htok:∀ q∈d.types,YZ q.name/\YdB q.typ:=fun q hq=>by have:=hdo.1.2.1 q hq;exact ⟨by simpa using this.1,this.2⟩
   refine vK (q:=Yi1 hM9 hD9 hT64 htok) (h:=fun v10' fz10 H10 hle10 hR10=>?_);obtain ⟨rfl,vf,rfl,hvf⟩:=hR10;by_cases hn0:newM d.types=0
   ·obtain ⟨gf,gm,evf,hf1,hf2⟩:=hvf hn0;subst evf;have hF:ForR fz10 (Zp gf) d.types:=⟨gf,gm,rfl,hf1,hf2⟩;have hle910:=hle10;rw [hn0,show errV 0=.nilIface from rfl];have hW:WFT d.types:=YiM hn0 (fun q hq=>(XY i1 q hq).2) hT64;have hck:YT d p=Yel (stepM d (objsM d p) p) 8 0:=by rw [YT,if_neg (by simpa using hdo),if_neg (by simpa using hpo),if_neg hlg,if_neg (by simpa using hn0)]
    refine zV ?_;refine Ya (Yb (cs:=[Zk 0,Zk 1,Zk 2,Zk 3,Zk 4,Zk 5,Zk 6,Zk 7]) (fun gs=>?_));refine zV ?_;refine Yi (fun q σ fz' H'=>∃ k:Nat,k<=8/\q=8 - k/\σ=[(57,Zk k),(56,Zk 8),(55,Zv gs 8 8),(10,Zp gc)]/\((k<=5/\fz10=fz'/\H'=[(gs,Zu #[Zk 0,Zk 1,Zk 2,Zk 3,Zk 4,Zk 5,Zk 6,Zk 7] 3),(gc,ckO d p (Zc A1 n1 b1) (Zc A2 n2 b2) (Zc A3 n3 b3) (Zc A4 n4 b4) (Zc A5 n5 b5) (Zc A6 n6 b6) (Zc B1 m1 d1) (Zc B2 m2 d2) (Zc B3 m3 d3) (Zc B4 m4 d4) (Zc B5 m5 d5) (Zc B6 m6 d6) (Zc B7 m7 d7) (Zp gf) (.map none) (.map none) (.map none) (Zc Aa (d.constants.length+p.objects.length) ca))])\/(6<=k/\Le fz10 fz'/\H'=[(gs,Zu #[Zk 0,Zk 1,Zk 2,Zk 3,Zk 4,Zk 5,Zk 6,Zk 7] 3)]/\CkG fz' (Zp gc) d p (objsM d p)))/\(∀ i,i<k->(stepM d (objsM d p) p i).2=0)/\YT d p=Yel (stepM d (objsM d p) p) (8 - k) k) ⟨0,by omega,rfl,rfl,.inl ⟨by omega,rfl,rfl⟩,fun i hi=>absurd hi Zi,hck⟩ Zw Zb ?_;rintro q σ fz1 H' ⟨k,hk,rfl,rfl,hph,hst,hcm⟩;rcases hph with ⟨hk5,rfl,rfl⟩ | ⟨hk6,hl1,rfl,hG⟩
    ·refine vC ?_ ?_<;>intro c1
     ·rw [show 8 - k=(8 - (k+1))+1 from by omega,Yel] at hcm;refine zV ?_;obtain rfl | rfl | rfl | rfl | rfl | rfl:k=0\/k=1\/k=2\/k=3\/k=4\/k=5:=by omega
      ·refine zG ?_;refine Xn T Zz Zz Zz Zz Zz Zz Zi Zi ?_;refine zG ?_;refine Yp 0 ?_ (hv:=by exact rfl);refine vG ?_;refine XJ (v:=resV (stepM d (objsM d p) p 0)) (fun fz' hl hf=>stepA0_q (hS9 (vf:=Zp gf) (hle10.trans hl) (hf (gc,_) (by simp [ckO]))) hns hL) ?_;generalize hgs:stepM d (objsM d p) p 0=st at hcm;obtain ⟨pl,ec⟩:=st;rw [show resV (pl,ec)=.tuple #[Zy pl,errV ec] from rfl];by_cases hz:ec=0
       ·subst hz;rw [show errV 0=.nilIface from rfl];refine zV ?_;exact Wr ⟨0+1,by omega,rfl,rfl,.inl ⟨by omega,rfl,rfl⟩,fun i hi=>by
         by_cases hi2:i=0
         ·subst hi2;rw [hgs]
         exact hst i Zi,by rw [hcm,if_pos rfl]⟩ Zi Zw Zb
       rw [Yq hz];exact vS (h:=by exact (by rw [hcm,if_neg hz,resV,Yq hz];rfl))
      ·refine zG ?_;refine Xn T Zz Zz Zz Zz Zz Zz Zi Zi ?_;refine zG ?_;refine Yp 0 ?_ (hv:=by exact rfl);refine vG ?_;refine XJ (v:=resV (stepM d (objsM d p) p 1)) (fun fz' hl hf=>stepA1_q (hS9 (vf:=Zp gf) (hle10.trans hl) (hf (gc,_) (by simp [ckO]))) hns) ?_;generalize hgs:stepM d (objsM d p) p 1=st at hcm;obtain ⟨pl,ec⟩:=st;rw [show resV (pl,ec)=.tuple #[Zy pl,errV ec] from rfl];by_cases hz:ec=0
       ·subst hz;rw [show errV 0=.nilIface from rfl];refine zV ?_;exact Wr ⟨1+1,by omega,rfl,rfl,.inl ⟨by omega,rfl,rfl⟩,fun i hi=>by
         by_cases hi2:i=1
         ·subst hi2;rw [hgs]
         exact hst i Zi,by rw [hcm,if_pos rfl]⟩ Zi Zw Zb
       rw [Yq hz];exact vS (h:=by exact (by rw [hcm,if_neg hz,resV,Yq hz];rfl))
      ·refine zG ?_;refine Xn T Zz Zz Zz Zz Zz Zz Zi Zi ?_;refine zG ?_;refine Yp 0 ?_ (hv:=by exact rfl);refine vG ?_;refine XJ (v:=resV (stepM d (objsM d p) p 2)) (fun fz' hl hf=>stepA2_q (hS9 (vf:=Zp gf) (hle10.trans hl) (hf (gc,_) (by simp [ckO]))) (hF.mono hl) hns) ?_;generalize hgs:stepM d (objsM d p) p 2=st at hcm;obtain ⟨pl,ec⟩:=st;rw [show resV (pl,ec)=.tuple #[Zy pl,errV ec] from rfl];by_cases hz:ec=0
       ·subst hz;rw [show errV 0=.nilIface from rfl];refine zV ?_;exact Wr ⟨2+1,by omega,rfl,rfl,.inl ⟨by omega,rfl,rfl⟩,fun i hi=>by
         by_cases hi2:i=2
         ·subst hi2;rw [hgs]
         exact hst i Zi,by rw [hcm,if_pos rfl]⟩ Zi Zw Zb
       rw [Yq hz];exact vS (h:=by exact (by rw [hcm,if_neg hz,resV,Yq hz];rfl))
      ·refine zG ?_;refine Xn T Zz Zz Zz Zz Zz Zz Zi Zi ?_;refine zG ?_;refine Yp 0 ?_ (hv:=by exact rfl);refine vG ?_;refine XJ (v:=resV (stepM d (objsM d p) p 3)) (fun fz' hl hf=>stepA3_q (hS9 (vf:=Zp gf) (hle10.trans hl) (hf (gc,_) (by simp [ckO]))) hns) ?_;generalize hgs:stepM d (objsM d p) p 3=st at hcm;obtain ⟨pl,ec⟩:=st;rw [show resV (pl,ec)=.tuple #[Zy pl,errV ec] from rfl];by_cases hz:ec=0
       ·subst hz;rw [show errV 0=.nilIface from rfl];refine zV ?_;exact Wr ⟨3+1,by omega,rfl,rfl,.inl ⟨by omega,rfl,rfl⟩,fun i hi=>by
         by_cases hi2:i=3
         ·subst hi2;rw [hgs]
         exact hst i Zi,by rw [hcm,if_pos rfl]⟩ Zi Zw Zb
       rw [Yq hz];exact vS (h:=by exact (by rw [hcm,if_neg hz,resV,Yq hz];rfl))
      ·refine zG ?_;refine Xn T Zz Zz Zz Zz Zz Zz Zi Zi ?_;refine zG ?_;refine Yp 0 ?_ (hv:=by exact rfl);refine vG ?_;refine XJ (v:=resV (stepM d (objsM d p) p 4)) (fun fz' hl hf=>stepA4_q (hS9 (vf:=Zp gf) (hle10.trans hl) (hf (gc,_) (by simp [ckO]))) hns (nums_of hdo.2)) ?_;generalize hgs:stepM d (objsM d p) p 4=st at hcm;obtain ⟨pl,ec⟩:=st;rw [show resV (pl,ec)=.tuple #[Zy pl,errV ec] from rfl];by_cases hz:ec=0
       ·subst hz;rw [show errV 0=.nilIface from rfl];refine zV ?_;exact Wr ⟨4+1,by omega,rfl,rfl,.inl ⟨by omega,rfl,rfl⟩,fun i hi=>by
         by_cases hi2:i=4
         ·subst hi2;rw [hgs]
         exact hst i Zi,by rw [hcm,if_pos rfl]⟩ Zi Zw Zb
       rw [Yq hz];exact vS (h:=by exact (by rw [hcm,if_neg hz,resV,Yq hz];rfl))
      have hno:Ya1 d (objsM d p)=none:=by
       have:=hst 0 Zi;unfold stepM at this;cases hn9:Ya1 d (objsM d p) with
       | none=>rfl
       | some s=>rw [hn9] at this;cases this
      obtain ⟨o1,o2,o3,_,_⟩:=Ynq hno;refine zG ?_;refine Xn T Zz Zz Zz Zz Zz Zz Zi Zi ?_;refine zG ?_;refine Yp 0 ?_ (hv:=by exact rfl);refine zV ?_
      first | refine Wp.perm (List.Perm.swap _ _ _) ?_ | refine Seq.perm (List.Perm.swap _ _ _) ?_
      refine Ya (Yh [_] [_] Zz (stepA5_f (hD9.mono hle10) (hP9.mono hle10) (hall.mono hle10) hF hW o1 o2 o3 hns hS.wa hS.wd) (fun v11' fz11 H11 hle11 hR11=>?_));obtain ⟨rfl,rfl,hG⟩:=hR11;generalize hgs:stepM d (objsM d p) p 5=st at hcm;obtain ⟨pl,ec⟩:=st;rw [show resV (pl,ec)=.tuple #[Zy pl,errV ec] from rfl];by_cases hz:ec=0
      ·subst hz;rw [show errV 0=.nilIface from rfl];refine zV ?_;exact Wr ⟨5+1,by omega,rfl,rfl,.inr ⟨by omega,hle11,rfl,hG⟩,fun i hi=>by
        by_cases hi2:i=5
        ·subst hi2;rw [hgs]
        exact hst i Zi,by rw [hcm,if_pos rfl]⟩ Zi Zw Zb
      rw [Yq hz];exact vS (h:=by exact (by rw [hcm,if_neg hz,resV,Yq hz];rfl))
     omega
    refine vC ?_ ?_<;>intro c1
    ·rw [show 8 - k=(8 - (k+1))+1 from by omega,Yel] at hcm;refine zV ?_;obtain rfl | rfl:k=6\/k=7:=by omega
     ·refine zG ?_;refine Xn T Zz Zz Zz Zz Zz Zz Zi Zi ?_;refine zG ?_;refine Yp 0 ?_ (hv:=by exact rfl);refine vG ?_;refine Yu (stepA6_q hG hns (fun f hf=>by have:=hp6 f hf;omega) (fun x hx=>by have:=(hpo.2.1.2.2.2.1 x hx).1;exact ⟨YbJ this.1,fun a ha=>YbJ (this.2 a ha)⟩) (by have:=hL.o;omega)) ?_;generalize hgs:stepM d (objsM d p) p 6=st at hcm;obtain ⟨pl,ec⟩:=st;rw [show resV (pl,ec)=.tuple #[Zy pl,errV ec] from rfl];by_cases hz:ec=0
      ·subst hz;rw [show errV 0=.nilIface from rfl];refine zV ?_;exact Wr ⟨6+1,by omega,rfl,rfl,.inr ⟨by omega,hl1,rfl,hG⟩,fun i hi=>by
        by_cases hi2:i=6
        ·subst hi2;rw [hgs]
        exact hst i Zi,by rw [hcm,if_pos rfl]⟩ Zi Zw Zb
      rw [Yq hz];exact vS (h:=by exact (by rw [hcm,if_neg hz,resV,Yq hz];rfl))
     refine zG ?_;refine Xn T Zz Zz Zz Zz Zz Zz Zi Zi ?_;refine zG ?_;refine Yp 0 ?_ (hv:=by exact rfl);refine vc (stepA7_q hG hS.wg) ?_;generalize hgs:stepM d (objsM d p) p 7=st at hcm;obtain ⟨pl,ec⟩:=st;rw [show resV (pl,ec)=.tuple #[Zy pl,errV ec] from rfl];by_cases hz:ec=0
     ·subst hz;rw [show errV 0=.nilIface from rfl];refine zV ?_;exact Wr ⟨7+1,by omega,rfl,rfl,.inr ⟨by omega,hl1,rfl,hG⟩,fun i hi=>by
       by_cases hi2:i=7
       ·subst hi2;rw [hgs]
       exact hst i Zi,by rw [hcm,if_pos rfl]⟩ Zi Zw Zb
     rw [Yq hz];exact vS (h:=by exact (by rw [hcm,if_neg hz,resV,Yq hz];rfl))
    have hk8:k=8:=by omega
    subst hk8;exact vS (h:=by rw [hcm];rfl)
   rw [Yq hn0];exact vS (h:=by exact (by rw [YT,if_neg (by simpa using hdo),if_neg (by simpa using hpo),if_neg hlg,if_pos hn0,resV,Yq hn0];rfl))
  rw [if_neg hpo,show errV 2=.iface 86 (Zk 2) from rfl];refine zV ?_;intros;exact wS (h:=by exact (by rw [YT,if_neg (by simpa using hdo),if_pos hpo];rfl))
 rw [if_neg hdo,show errV 2=.iface 86 (Zk 2) from rfl];refine zV ?_;intros;exact wS (h:=by exact (by rw [YT,if_pos hdo];rfl))
def Yhe (nm:Bs) (c:Change):Prop:=(c.kind=1\/c.kind=2)/\c.name=nm
def Ym0 (nm:Bs) (a:Action):Prop:=∃ c∈a.changes,Yhe nm c
def YqB (nm:Bs) (a:Durative):Prop:=(∃ c∈a.atStart,Yhe nm c)\/∃ c∈a.atEnd,Yhe nm c
def chgM (d:Domain) (nm:Bs):Bool:=decide ((∃ a∈d.actions,Ym0 nm a)\/∃ a∈d.duratives,YqB nm a)
theorem stat11_q {nm:Bs} {x:Change} {g1:Nat} {t1:TypeId} (hc:changeL.rep fz x cs) (h1:fz g1=some (.cells #[Zy nm] t1 (0,0))):
 QFn prog 91 [.agg cs.toArray,Zp g1] fz (Zo (decide (Yhe nm x))):=by
 obtain ⟨u1,u2,u3,u4,u5,u6,u7,u8,rfl,hR⟩:=Y6 hc;obtain ⟨A1,n1,c1',rfl,_⟩:=id hR.params;obtain ⟨⟨A2,n2,c2',rfl,_⟩,⟨A3,n3,c3',rfl,_⟩,⟨A4,n4,c4',rfl,_⟩,⟨A5,n5,c5',rfl,_⟩⟩:=id hR.when_.sls;obtain ⟨A6,n6,c6',rfl,_⟩:=id hR.args;obtain ⟨⟨A7,n7,c7',rfl,_⟩,⟨A8,n8,c8',rfl,_⟩⟩:=id hR.value.sls;refine qF Tryz.func91 Tryz.ntmps91 (fun w0=>?_);refine pX (fun g2=>?_);by_cases w1:x.kind=1
 ·by_cases w2:x.name=nm
  ·subst w2;refine wC ?_ ?_<;>intro e1
   ·exact wR (h:=by rw [decide_eq_true ⟨.inl w1,rfl⟩])
   exact absurd rfl e1
  exact wR (h:=by rw [decide_eq_false (fun h=>w2 h.2)])
 by_cases w3:x.kind=2
 ·by_cases w2:x.name=nm
  ·subst w2;refine wC ?_ ?_<;>intro e1
   ·exact wR (h:=by rw [decide_eq_true ⟨.inr w3,rfl⟩])
   exact absurd rfl e1
  exact wR (h:=by rw [decide_eq_false (fun h=>w2 h.2)])
 exact wR (h:=by rw [decide_eq_false (fun h=>h.1.elim w1 w3)])
theorem Ylc {nm:Bs} {l:List Change} {g1:Nat} {t1:TypeId} (hl:IsSl changeL fz v l) (h1:fz g1=some (.cells #[Zy nm] t1 (0,0))):
 QFn prog 89 [v,Zp g1] fz (Zo (decide (∃ c∈l,Yhe nm c))):=by
 obtain ⟨A,n,c,rfl,hs⟩:=hl;refine qF Tryz.func89 Tryz.ntmps89 (fun w0=>?_);refine wG ?_;refine YG ?_
 ((refine zG ?_);refine Yu (YaN (cap:=[Zp g1]) (p:=Yhe nm) hs (fun x hx cs hcs=>stat11_q hcs h1)) ?_);exact wR (h:=rfl)
theorem stat2_q {nm:Bs} {x:Action} {g1 g5:Nat} {t1 t5:TypeId} (hc:actionL.rep fz x cs) (h1:fz g1=some (.cells #[Zy nm] t1 (0,0))) (h5:fz g5=some (.cells #[.func (.func 89) #[] #[Zp g1]] t5 (0,0))):
 QFn prog 93 [.agg cs.toArray,Zp g5] fz (Zo (decide (Ym0 nm x))):=by
 obtain ⟨u1,u2,u3,u4,u5,u6,rfl,hR⟩:=Y7 hc;obtain ⟨A1,n1,c1',rfl,_⟩:=id hR.params;obtain ⟨⟨A2,n2,c2',rfl,_⟩,⟨A3,n3,c3',rfl,_⟩,⟨A4,n4,c4',rfl,_⟩,⟨A5,n5,c5',rfl,_⟩⟩:=id hR.pre.sls;obtain ⟨A6,n6,c6',rfl,ic⟩:=id hR.changes;refine qF Tryz.func93 Tryz.ntmps93 (fun w0=>?_);refine pX (fun g2=>?_);refine wG ?_;refine Ybr (first:=[]) (capt:=[Zp g1]) (Ylc ic.is h1) ?_;exact wR (h:=by congr 1;exact decide_eq_decide.2 Iff.rfl)
theorem stat3_q {nm:Bs} {x:Durative} {g1 g5:Nat} {t1 t5:TypeId} (hc:durativeL.rep fz x cs) (h1:fz g1=some (.cells #[Zy nm] t1 (0,0))) (h5:fz g5=some (.cells #[.func (.func 89) #[] #[Zp g1]] t5 (0,0))):
 QFn prog 95 [.agg cs.toArray,Zp g5] fz (Zo (decide (YqB nm x))):=by
 obtain ⟨u0,u1,u2,u3,u4,u5,u6,u7,u8,u9,u10,u11,u12,u13,u14,rfl,hR⟩:=Xx hc;obtain ⟨B0,m0,d0,rfl,ip⟩:=id hR.params;obtain ⟨⟨B1,m1,d1,rfl,_⟩,⟨B2,m2,d2,rfl,_⟩,⟨B3,m3,d3,rfl,_⟩,⟨B4,m4,d4,rfl,_⟩⟩:=id hR.start.sls;obtain ⟨⟨B5,m5,d5,rfl,_⟩,⟨B6,m6,d6,rfl,_⟩,⟨B7,m7,d7,rfl,_⟩,⟨B8,m8,d8,rfl,_⟩⟩:=id hR.over.sls;obtain ⟨⟨B9,m9,d9,rfl,_⟩,⟨B10,m10,d10,rfl,_⟩,⟨B11,m11,d11,rfl,_⟩,⟨B12,m12,d12,rfl,_⟩⟩:=id hR.fin.sls;obtain ⟨B13,m13,d13,rfl,ias⟩:=id hR.atStart;obtain ⟨B14,m14,d14,rfl,iae⟩:=id hR.atEnd;refine qF Tryz.func95 Tryz.ntmps95 (fun w0=>?_);refine pX (fun g2=>?_);refine wG ?_;refine Ybr (first:=[]) (capt:=[Zp g1]) (Ylc ias.is h1) ?_;by_cases w:∃ c∈x.atStart,Yhe nm c
 ·rw [decide_eq_true w];exact wR (h:=by rw [decide_eq_true (.inl w)])
 rw [decide_eq_false w];refine wG ?_;refine Ybr (first:=[]) (capt:=[Zp g1]) (Ylc iae.is h1) ?_;exact wR (h:=by congr 1;exact decide_eq_decide.2 ⟨.inr,fun h=>h.resolve_left w⟩)
theorem static_q {nm:Bs} (hD:DomainR fz d v1 v2 v3 v4 v5 v6):
 QFn prog 41 [ZD d v1 v2 v3 v4 v5 v6,Zy nm] fz (Zo (!chgM d nm)):=by
 obtain ⟨⟨A1,n1,b1,rfl,i1⟩,⟨A2,n2,b2,rfl,i2⟩,⟨A3,n3,b3,rfl,i3⟩,⟨A4,n4,b4,rfl,i4⟩,⟨A5,n5,b5,rfl,i5⟩,⟨A6,n6,b6,rfl,i6⟩⟩:=hD.sls;refine qF Tryz.func41 Tryz.ntmps41 (fun w0=>?_);refine pX (fun g2=>?_);refine pY (fun g3=>?_);refine wG ?_;refine YG ?_;refine zW ?_;intros;refine zG ?_;refine YG ?_;refine zG ?_;refine YaQ (fun fz' hle hf=>Ycb (p:=Ym0 nm) (i5.mono hle) (fun x hx cs hcs=>stat2_q hcs (hf _ (.tail _ (.head _))) (hf _ (.head _)))) (fun f1=>?_) (fun f1=>?_)
 ·exact wR (h:=by rw [chgM,decide_eq_true (.inl (Zt f1))];try rfl)
 refine wG ?_;refine YG ?_;refine zG ?_;refine YaQ (fun fz' hle hf=>YbB (p:=YqB nm) (i6.mono hle) (fun x hx cs hcs=>stat3_q hcs (hf _ (.tail _ (.head _))) (hf _ (.head _)))) (fun f2=>?_) (fun f2=>?_)
 ·exact wR (h:=by rw [chgM,decide_eq_true (.inr (Zt f2))];try rfl)
 exact wR (h:=by rw [chgM,decide_eq_false (fun h=>h.elim (Zf f1) (Zf f2))];try rfl)
end Go.Proofs.YtacfpcbladaohaaGreatDoor
namespace Go.Proofs
open Go.Shelf
def Yfa:Go.Shelf.Ren:=⟨fun | 6=>44 | 15=>104 | 14=>103 | 28=>204 | 29=>205 | 20=>196 | 21=>197 | 22=>198 | 23=>199 | 24=>200 | 25=>201 | 26=>202 | 27=>203 | 46=>260 | 47=>261 | 48=>262 | 49=>263 | 50=>264 | 57=>294 | n=>n,fun | 22=>29 | 24=>67 | 25=>129 | 3=>3 | 39=>204 | 0=>0 | 53=>284 | 55=>286 | 4=>4 | 46=>278 | 45=>277 | 50=>251 | 5=>5 | 9=>9 | 66=>323 | 70=>227 | 76=>347 | 77=>348 | n=>n,fun | n=>n⟩
theorem Ybe:Go.Proofs.SlLaysF0.n6 Tryz.prog Yfa:={
 mixed:=by kernel_rfl
 f6:=⟨Tryz.f44.name,by decide,Tryz.func44.trans (congrArg some (by kernel_rfl))⟩
 f14:=⟨Tryz.f103.name,by decide,Tryz.func103.trans (congrArg some (by kernel_rfl))⟩
 f15:=Tryz.func104.trans (congrArg some (by kernel_rfl))
 f20:=⟨Tryz.f196.name,by decide,Tryz.func196.trans (congrArg some (by kernel_rfl))⟩
 f21:=⟨Tryz.f197.name,by decide,Tryz.func197.trans (congrArg some (by kernel_rfl))⟩
 f22:=⟨Tryz.f198.name,by decide,Tryz.func198.trans (congrArg some (by kernel_rfl))⟩
 f23:=⟨Tryz.f199.name,by decide,Tryz.func199.trans (congrArg some (by kernel_rfl))⟩
 f24:=⟨Tryz.f200.name,by decide,Tryz.func200.trans (congrArg some (by kernel_rfl))⟩
 f25:=⟨Tryz.f201.name,by decide,Tryz.func201.trans (congrArg some (by kernel_rfl))⟩
 f26:=⟨Tryz.f202.name,by decide,Tryz.func202.trans (congrArg some (by kernel_rfl))⟩
 f27:=⟨Tryz.f203.name,by decide,Tryz.func203.trans (congrArg some (by kernel_rfl))⟩
 f28:=Tryz.func204.trans (congrArg some (by kernel_rfl))
 f29:=Tryz.func205.trans (congrArg some (by kernel_rfl))
 f46:=⟨Tryz.f260.name,by decide,Tryz.func260.trans (congrArg some (by kernel_rfl))⟩
 f47:=Tryz.func261.trans (congrArg some (by kernel_rfl))
 f48:=Tryz.func262.trans (congrArg some (by kernel_rfl))
 f49:=⟨Tryz.f263.name,by decide,Tryz.func263.trans (congrArg some (by kernel_rfl))⟩
 f50:=⟨Tryz.f264.name,by decide,Tryz.func264.trans (congrArg some (by kernel_rfl))⟩
 f57:=⟨Tryz.f294.name,by decide,Tryz.func294.trans (congrArg some (by kernel_rfl))⟩
 t0:=Tryz.underlying0
 a0:=Tryz.isAgg0
 z0:=Tryz.sizeOf0
 v0:=Tryz.zeroValue0
 t3:=Tryz.underlying3
 a3:=Tryz.isAgg3
 z3:=Tryz.sizeOf3
 v3:=Tryz.zeroValue3
 t4:=Tryz.underlying4
 a4:=Tryz.isAgg4
 z4:=Tryz.sizeOf4
 v4:=Tryz.zeroValue4
 t5:=Tryz.underlying5
 a5:=Tryz.isAgg5
 z5:=Tryz.sizeOf5
 v5:=Tryz.zeroValue5
 t9:=Tryz.underlying9
 a9:=Tryz.isAgg9
 z9:=Tryz.sizeOf9
 v9:=Tryz.zeroValue9
 t22:=Tryz.underlying29
 a22:=Tryz.isAgg29
 z22:=Tryz.sizeOf29
 v22:=Tryz.zeroValue29
 t25:=Tryz.underlying129
 a25:=Tryz.isAgg129
 z25:=Tryz.sizeOf129
 v25:=Tryz.zeroValue129
 t39:=Tryz.underlying204
 a39:=Tryz.isAgg204
 z39:=Tryz.sizeOf204
 v39:=Tryz.zeroValue204
 t45:=Tryz.underlying277
 a45:=Tryz.isAgg277
 z45:=Tryz.sizeOf277
 v45:=Tryz.zeroValue277
 t46:=Tryz.underlying278
 a46:=Tryz.isAgg278
 z46:=Tryz.sizeOf278
 v46:=Tryz.zeroValue278
 t50:=Tryz.underlying251
 a50:=Tryz.isAgg251
 z50:=Tryz.sizeOf251
 v50:=Tryz.zeroValue251
 t53:=Tryz.underlying284
 a53:=Tryz.isAgg284
 z53:=Tryz.sizeOf284
 v53:=Tryz.zeroValue284
 t55:=Tryz.underlying286
 a55:=Tryz.isAgg286
 z55:=Tryz.sizeOf286
 v55:=Tryz.zeroValue286
 t66:=Tryz.underlying323
 a66:=Tryz.isAgg323
 z66:=Tryz.sizeOf323
 v66:=Tryz.zeroValue323
 t70:=Tryz.underlying227
 a70:=Tryz.isAgg227
 z70:=Tryz.sizeOf227
 v70:=Tryz.zeroValue227
 t76:=Tryz.underlying347
 a76:=Tryz.isAgg347
 z76:=Tryz.sizeOf347
 v76:=Tryz.zeroValue347
 t77:=Tryz.underlying348
 a77:=Tryz.isAgg348
 z77:=Tryz.sizeOf348
 v77:=Tryz.zeroValue348}
def Yew:Go.Shelf.Ren:=⟨fun | 6=>114 | 15=>104 | 14=>209 | 28=>204 | 29=>205 | 20=>265 | 21=>266 | 22=>267 | 23=>268 | 24=>269 | 25=>270 | 26=>271 | 27=>272 | 46=>295 | 47=>261 | 48=>262 | 49=>296 | 50=>297 | 57=>312 | n=>n,fun | 22=>30 | 24=>210 | 25=>216 | 3=>3 | 39=>204 | 0=>0 | 53=>284 | 55=>286 | 4=>4 | 46=>278 | 45=>277 | 50=>251 | 5=>5 | 9=>9 | 66=>323 | 70=>227 | 76=>347 | 77=>348 | n=>n,fun | n=>n⟩
theorem YdC:Go.Proofs.SlLaysF0.n6 Tryz.prog Yew:={
 mixed:=by kernel_rfl
 f6:=⟨Tryz.f114.name,by decide,Tryz.func114.trans (congrArg some (by kernel_rfl))⟩
 f14:=⟨Tryz.f209.name,by decide,Tryz.func209.trans (congrArg some (by kernel_rfl))⟩
 f15:=Tryz.func104.trans (congrArg some (by kernel_rfl))
 f20:=⟨Tryz.f265.name,by decide,Tryz.func265.trans (congrArg some (by kernel_rfl))⟩
 f21:=⟨Tryz.f266.name,by decide,Tryz.func266.trans (congrArg some (by kernel_rfl))⟩
 f22:=⟨Tryz.f267.name,by decide,Tryz.func267.trans (congrArg some (by kernel_rfl))⟩
 f23:=⟨Tryz.f268.name,by decide,Tryz.func268.trans (congrArg some (by kernel_rfl))⟩
 f24:=⟨Tryz.f269.name,by decide,Tryz.func269.trans (congrArg some (by kernel_rfl))⟩
 f25:=⟨Tryz.f270.name,by decide,Tryz.func270.trans (congrArg some (by kernel_rfl))⟩
 f26:=⟨Tryz.f271.name,by decide,Tryz.func271.trans (congrArg some (by kernel_rfl))⟩
 f27:=⟨Tryz.f272.name,by decide,Tryz.func272.trans (congrArg some (by kernel_rfl))⟩
 f28:=Tryz.func204.trans (congrArg some (by kernel_rfl))
 f29:=Tryz.func205.trans (congrArg some (by kernel_rfl))
 f46:=⟨Tryz.f295.name,by decide,Tryz.func295.trans (congrArg some (by kernel_rfl))⟩
 f47:=Tryz.func261.trans (congrArg some (by kernel_rfl))
 f48:=Tryz.func262.trans (congrArg some (by kernel_rfl))
 f49:=⟨Tryz.f296.name,by decide,Tryz.func296.trans (congrArg some (by kernel_rfl))⟩
 f50:=⟨Tryz.f297.name,by decide,Tryz.func297.trans (congrArg some (by kernel_rfl))⟩
 f57:=⟨Tryz.f312.name,by decide,Tryz.func312.trans (congrArg some (by kernel_rfl))⟩
 t0:=Tryz.underlying0
 a0:=Tryz.isAgg0
 z0:=Tryz.sizeOf0
 v0:=Tryz.zeroValue0
 t3:=Tryz.underlying3
 a3:=Tryz.isAgg3
 z3:=Tryz.sizeOf3
 v3:=Tryz.zeroValue3
 t4:=Tryz.underlying4
 a4:=Tryz.isAgg4
 z4:=Tryz.sizeOf4
 v4:=Tryz.zeroValue4
 t5:=Tryz.underlying5
 a5:=Tryz.isAgg5
 z5:=Tryz.sizeOf5
 v5:=Tryz.zeroValue5
 t9:=Tryz.underlying9
 a9:=Tryz.isAgg9
 z9:=Tryz.sizeOf9
 v9:=Tryz.zeroValue9
 t22:=Tryz.underlying30
 a22:=Tryz.isAgg30
 z22:=Tryz.sizeOf30
 v22:=Tryz.zeroValue30
 t25:=Tryz.underlying216
 a25:=Tryz.isAgg216
 z25:=Tryz.sizeOf216
 v25:=Tryz.zeroValue216
 t39:=Tryz.underlying204
 a39:=Tryz.isAgg204
 z39:=Tryz.sizeOf204
 v39:=Tryz.zeroValue204
 t45:=Tryz.underlying277
 a45:=Tryz.isAgg277
 z45:=Tryz.sizeOf277
 v45:=Tryz.zeroValue277
 t46:=Tryz.underlying278
 a46:=Tryz.isAgg278
 z46:=Tryz.sizeOf278
 v46:=Tryz.zeroValue278
 t50:=Tryz.underlying251
 a50:=Tryz.isAgg251
 z50:=Tryz.sizeOf251
 v50:=Tryz.zeroValue251
 t53:=Tryz.underlying284
 a53:=Tryz.isAgg284
 z53:=Tryz.sizeOf284
 v53:=Tryz.zeroValue284
 t55:=Tryz.underlying286
 a55:=Tryz.isAgg286
 z55:=Tryz.sizeOf286
 v55:=Tryz.zeroValue286
 t66:=Tryz.underlying323
 a66:=Tryz.isAgg323
 z66:=Tryz.sizeOf323
 v66:=Tryz.zeroValue323
 t70:=Tryz.underlying227
 a70:=Tryz.isAgg227
 z70:=Tryz.sizeOf227
 v70:=Tryz.zeroValue227
 t76:=Tryz.underlying347
 a76:=Tryz.isAgg347
 z76:=Tryz.sizeOf347
 v76:=Tryz.zeroValue347
 t77:=Tryz.underlying348
 a77:=Tryz.isAgg348
 z77:=Tryz.sizeOf348
 v77:=Tryz.zeroValue348}
end Go.Proofs
namespace Go.Proofs.YtacfpcbladaohaaGreatDoor
variable {α β:Type} {w' w:World} {g k:Nat}
structure OrdC {α:Type} (C:α->α->Int):Prop where
 refl:∀ x,C x x=0
 anti:∀ x y,C x y<0↔0<C y x
 eq0:∀ x y,C x y=0->x=y
 trans:∀ x y z,C x y<0->C y z<0->C x z<0
theorem list_inj {a b:Bs} (h:a.toList=b.toList):a=b:=by
 rw [ByteArray.toList_eq,ByteArray.toList_eq] at h;have h1:a.data=a.data.toList.toArray:=by simp
 have h2:b.data=b.data.toList.toArray:=by simp
 exact ByteArray.ext (by rw [h1,h2,h])
theorem YcX (a b:Bs):ltB a b=true↔a.toList<b.toList:=by
 unfold ltB;rw [Go.Proofs.bytesLess_eq];exact decide_eq_true_iff
theorem ordS:OrdC cmpS where
 refl x:=by
  unfold cmpS;rw [if_neg (fun h=>List.lt_irrefl _ ((YcX x x).1 h)),if_pos rfl]
 anti x y:=by
  unfold cmpS;by_cases h1:ltB x y=true
  ·have h2:¬ltB y x=true:=fun h=>List.not_lt.2 (List.le_of_lt ((YcX _ _).1 h1)) ((YcX _ _).1 h)
   have h3:¬y=x:=fun e=>by subst e;exact h2 h1
   rw [if_pos h1,if_neg h2,if_neg h3];decide
  by_cases h2:ltB y x=true
  ·have h3:¬x=y:=fun e=>by subst e;exact h1 h2
   rw [if_neg h1,if_neg h3,if_pos h2];decide
  have h3:x=y:=list_inj (List.le_antisymm (List.not_lt.1 (fun h=>h2 ((YcX _ _).2 h))) (List.not_lt.1 (fun h=>h1 ((YcX _ _).2 h))));rw [if_neg h1,if_neg h2,if_pos h3,if_pos h3.symm];try decide
 eq0 x y h:=by
  unfold cmpS at h;split at h
  ·cases h
  split at h
  ·assumption
  cases h
 trans x y z h1 h2:=by
  have k:∀ a b,cmpS a b<0->ltB a b=true:=fun a b h=>by
   unfold cmpS at h;split at h
   ·assumption
   split at h
   ·exact absurd h Zh
   exact absurd h Zh
  unfold cmpS;rw [if_pos ((YcX _ _).2 (List.lt_trans ((YcX _ _).1 (k x y h1)) ((YcX _ _).1 (k y z h2))))];decide
theorem Yj6:∀ x:List Bs,cmpL x x=0
 | []=>rfl
 | a::r=>by rw [cmpL,if_neg (by rw [ordS.refl];decide)];exact Yj6 r
theorem Yj7:∀ x y:List Bs,cmpL x y<0↔0<cmpL y x
 | [],[]=>by simp [cmpL]
 | [],_::_=>by simp [cmpL]
 | _::_,[]=>by simp [cmpL]
 | a::r,b::s=>by
  rw [cmpL,cmpL];by_cases h:cmpS a b=0
  ·have e:=ordS.eq0 a b h;subst e;rw [if_neg (by rw [h];decide),if_neg (by rw [h];decide)];exact Yj7 r s
  have h2:cmpS b a≠0:=fun h2=>h (by rw [ordS.eq0 b a h2];exact ordS.refl a)
  rw [if_pos h,if_pos h2];exact ordS.anti a b
theorem Ymm:∀ x y:List Bs,cmpL x y=0->x=y
 | [],[],_=>rfl
 | [],_::_,h=>by simp [cmpL] at h
 | _::_,[],h=>by simp [cmpL] at h
 | a::r,b::s,h=>by
  rw [cmpL] at h;by_cases h0:cmpS a b=0
  ·rw [if_neg (by rw [h0];decide)] at h;rw [ordS.eq0 a b h0,Ymm r s h]
  rw [if_pos h0] at h;exact absurd h h0
theorem YhS:∀ x y z:List Bs,cmpL x y<0->cmpL y z<0->cmpL x z<0
 | [],_,[],h1,h2=>by
  rename_i y;cases y<;>simp [cmpL] at h1 h2
 | [],_,_::_,_,_=>by simp [cmpL]
 | _::_,[],_,h1,_=>by simp [cmpL] at h1
 | _::_,_::_,[],_,h2=>by simp [cmpL] at h2
 | a::r,b::s,c::t,h1,h2=>by
  rw [cmpL] at h1 h2 ⊢;by_cases e1:cmpS a b=0
  ·have:=ordS.eq0 a b e1;subst this;rw [if_neg (by rw [e1];decide)] at h1;by_cases e2:cmpS a c=0
   ·rw [if_neg (by rw [e2];decide)] at h2;rw [if_neg (by rw [e2];decide)];exact YhS r s t h1 h2
   rw [if_pos e2] at h2;rw [if_pos e2];exact h2
  rw [if_pos e1] at h1;by_cases e2:cmpS b c=0
  ·have:=ordS.eq0 b c e2;subst this;rw [if_pos e1];exact h1
  rw [if_pos e2] at h2;have h3:=ordS.trans a b c h1 h2;rw [if_pos Zi];exact h3
theorem ordA:OrdC cmpA where
 refl x:=by unfold cmpA;rw [if_neg (by rw [ordS.refl];decide)];exact Yj6 _
 anti x y:=by
  unfold cmpA;by_cases h:cmpS x.name y.name=0
  ·have h2:cmpS y.name x.name=0:=by rw [ordS.eq0 _ _ h];exact ordS.refl _
   rw [if_neg (by rw [h];decide),if_neg (by rw [h2];decide)];exact Yj7 _ _
  have h2:cmpS y.name x.name≠0:=fun h2=>h (by rw [ordS.eq0 _ _ h2];exact ordS.refl _)
  rw [if_pos h,if_pos h2];exact ordS.anti _ _
 eq0 x y h:=by
  unfold cmpA at h;by_cases h0:cmpS x.name y.name=0
  ·rw [if_neg (by rw [h0];decide)] at h;have e1:=ordS.eq0 _ _ h0;have e2:=Ymm _ _ h;cases x;cases y;simp only at e1 e2;rw [e1,e2]
  rw [if_pos h0] at h;exact absurd h h0
 trans x y z h1 h2:=by
  unfold cmpA at h1 h2 ⊢;by_cases e1:cmpS x.name y.name=0
  ·rw [if_neg (by rw [e1];decide)] at h1;have e:=ordS.eq0 _ _ e1;rw [e];by_cases e2:cmpS y.name z.name=0
   ·rw [if_neg (by rw [e2];decide)] at h2;rw [if_neg (by rw [e2];decide)];exact YhS _ _ _ h1 h2
   rw [if_pos e2] at h2;rw [if_pos e2];exact h2
  rw [if_pos e1] at h1;by_cases e2:cmpS y.name z.name=0
  ·have e:=ordS.eq0 _ _ e2;rw [<- e,if_pos e1];exact h1
  rw [if_pos e2] at h2;have h3:=ordS.trans _ _ _ h1 h2;rw [if_pos Zi];exact h3
theorem OrdC.swo {C:α->α->Int} (h:OrdC C) (f:β->α):Go.Sort.SWO (ltOf fun x y=>C (f x) (f y)) where
 irrefl x:=by unfold ltOf;exact decide_eq_false (by show ¬C (f x) (f x)<0;rw [h.refl];decide)
 trans x y z h1 h2:=by
  unfold ltOf at h1 h2 ⊢;exact decide_eq_true (h.trans _ _ _ (Zt h1) (Zt h2))
 ntrans x y z h1 h2:=by
  unfold ltOf at h1 h2 ⊢;have k1:¬C (f x) (f y)<0:=Zf h1;have k2:¬C (f y) (f z)<0:=Zf h2;refine decide_eq_false fun k3=>?_
  have k3:C (f x) (f z)<0:=k3;have a1:=(h.anti (f x) (f z)).1 k3;by_cases e1:C (f x) (f y)=0
  ·rw [<- h.eq0 _ _ e1] at k2;exact k2 k3
  by_cases e2:C (f y) (f z)=0
  ·rw [h.eq0 _ _ e2] at k1;exact k1 k3
  have b1:C (f y) (f x)<0:=(h.anti _ _).2 Zi;have b2:C (f z) (f y)<0:=(h.anti _ _).2 Zi;have:=h.trans _ _ _ b2 b1;omega
@[reducible] def drT:Dr:=⟨True⟩
theorem YhB {W:World} (h: @Fr drT [] W w'):∃ q os',w'=Go.Sort.grow (W.drewN q) os':=by
 refine ⟨w'.drawn - W.drawn,w'.heap.extract W.heap.size w'.heap.size,?_⟩;obtain ⟨h1,h2,h3,h4,h5,h6⟩:=h;obtain ⟨a1,a2,a3,a4,a5⟩:=w';obtain ⟨b1,b2,b3,b4,b5⟩:=W;replace h6:=h6 trivial;simp only at h1 h2 h3 h4 h5 h6;subst h1;subst h2;subst h3;unfold Go.Sort.grow World.drewN;simp only
 congr 1
 ·refine Array.ext_getElem? fun i=>?_
  by_cases hi:i<b1.size
  ·rw [Array.getElem?_append_left hi];exact h5 i hi (by simp)
  rw [Array.getElem?_append_right Zi];by_cases hj:i<a1.size
  ·rw [Array.getElem?_extract,if_pos Zi]
   congr 1;omega
  rw [Array.getElem?_eq_none Zi,Array.getElem?_eq_none (by simp;omega)]
 omega
theorem YeF [Inhabited α] {enc:α->List Value} {m b:Nat} {dk:Array α} {os:Array Obj} (hb:b<w.heap.size) (hg:b≠g):(sortWorldK enc k w g 0 m dk os).heap[b]?=w.heap[b]?:=by
 unfold sortWorldK Go.Sort.grow Go.Sort.putRowK Go.Sort.putRow Go.Sort.mapBlock Go.Sort.ahead;simp only;rw [Array.getElem?_append_left (by simpa using hb),Array.getElem?_modify,if_neg (fun h=>hg h.symm)]
def Yjs (l:List Atom):Prop:=∀ (i j:Nat) (a b:Atom),i<j->l[i]?=some a->l[j]?=some b->¬cmpA b a<0
end Go.Proofs.YtacfpcbladaohaaGreatDoor
namespace Go.Proofs.YtacfpcbladaohaaGreatDoor
variable {α:Type} {i g k n:Nat} {t:TypeId} {w:World} {fz:FZ} {E:EnvM} {K:Kn} {S:List Atom} {f:Formula} {b:Bool} {v va ve vk vp:Value} {l:List α}
theorem list_get! [Inhabited α] {x:α} (h:l[i]?=some x):l.toArray[i]! =x:=by
 obtain ⟨h1,h2⟩:=Zg h;rw [getElem!_pos l.toArray i (by simpa using h1)];simpa using h2
theorem Ykj [Inhabited α] {x:α} (h:l[i]?=some x):l[i]! =x:=by
 obtain ⟨h1,h2⟩:=Zg h;rw [getElem!_pos l i h1];exact h2
theorem YbP:OneC atomL:=by
 intro fz d cs h u hu;obtain ⟨va,rfl,hR⟩:=Xp h;obtain ⟨A,n,c,rfl,_⟩:=hR.args;rcases List.mem_cons.1 hu with rfl | hu
 ·rfl
 rw [List.mem_singleton] at hu;subst hu;rfl
theorem YjI [Inhabited α] {enc:α->List Value} {m:Nat} {dk:Array α} {os:Array Obj} {cs:Array Value} (hg:w.heap[g]?=some (Zu cs t)):(sortWorldK enc k w g 0 m dk os).heap[g]?=some (Zu (Go.Sort.putCells id 0 (Go.Sort.flatK enc k dk) cs) t):=by
 unfold sortWorldK Go.Sort.grow Go.Sort.putRowK Go.Sort.putRow Go.Sort.mapBlock Go.Sort.ahead;simp only;rw [Array.getElem?_append_left (by simpa using lt_of_heap hg),Array.getElem?_modify,if_pos rfl,hg];rfl
theorem sort_f {cap:Nat} {cur:List Value} {l:List Atom} (hB:GrowB atomL t fz g n cap cur l) (hn:0<n) (hn2:n<=2000000):
 GFn prog 44 [Zv g n cap,.func (.func 45) #[] #[]] fz [(g,Zu cur.toArray t)]
  (fun r fz' H'=>r=.tuple #[]/\fz=fz'/\∃ cur' l',H'=[(g,Zu (List.toArray cur') t)]/\GrowB atomL t fz g n cap cur' l'/\l'.Perm l/\Yjs l'):=by
 obtain ⟨xs,e1,e2,e3⟩:=hB.pairs;have hxl:xs.length=n:=by have:=hB.len;rw [<- e1,List.length_map] at this;exact this
 have hsz:=hB.size;have hcap:=hB.capn;have hz:atomL.size=2:=rfl;rw [hz] at hsz e3;refine GFn.of ⟨_,Tryz.func44,by decide,by decide⟩ (fun w hw=>?_);have hg:=hw.own (g,Zu cur.toArray t) (.head _);simp only at hg;have hgs:=lt_of_heap hg.1;obtain ⟨x0,hx0⟩:=Yc (l:=xs) (k:=0) Zi
 haveI:Inhabited {x:Atom × List Value // atomL.rep fz x.1 x.2}:=⟨⟨x0,e2 x0 (Zm hx0)⟩⟩
 generalize hds:(xs.attach.map fun p=>(⟨p.1,e2 p.1 p.2⟩:{x:Atom × List Value // atomL.rep fz x.1 x.2}))=ds;have hdm:ds.map (·.1)=xs:=by rw [<- hds,List.map_map];exact List.attach_map_subtype_val xs
 have hdl:ds.length=n:=by rw [<- hxl,<- hdm,List.length_map]
 have hk2:∀ x:{x:Atom × List Value // atomL.rep fz x.1 x.2},x.1.2.length=2:=fun x=>atomL.len x.2
 have h1c:∀ x:{x:Atom × List Value // atomL.rep fz x.1 x.2},∀ v∈x.1.2,v.oneCell'=true:=fun x v hv=>YbP _ _ _ x.2 v hv
 have hpos:∀ (k:Nat) (cs:List Value) (ys:List {x:Atom × List Value // atomL.rep fz x.1 x.2}),True:=fun _ _ _=>trivial
 have hcell:∀ (ys:List {x:Atom × List Value // atomL.rep fz x.1 x.2}) (j:Nat),j<ys.length*2->∃ v,((ys.map (·.1)).flatMap Prod.snd)[j]?=some v/\(Go.Sort.flatK (fun x:{x:Atom × List Value // atomL.rep fz x.1 x.2}=>x.1.2) 2 ys.toArray)[j]! =v:=by
  intro ys j hj;obtain ⟨y,hy⟩:=Yc (l:=ys) (k:=j / 2) Zi;obtain ⟨v,hv⟩:=Yc (l:=y.1.2) (k:=j % 2) (by rw [hk2 y];omega);have hf:=Yek (z:=2) (l:=ys.map (·.1)) (i:=j / 2) (j:=j % 2) (x:=y.1) (u:=v) (fun p hp=>by
   obtain ⟨q,_,rfl⟩:=List.mem_map.1 hp;exact hk2 q) (by rw [List.getElem?_map,hy];rfl) hv
  rw [show j / 2*2+j % 2=j by omega] at hf;refine ⟨v,hf,?_⟩;rw [Go.Sort.get_flatK _ _ _ _ (by simpa using hj),list_get! hy];exact Ykj hv
 have hcmp:CmpLays prog 45 #[] (fun x:{x:Atom × List Value // atomL.rep fz x.1 x.2}=>x.1.2) 2 (fun x y=>cmpA x.1.1 y.1.1) g 0 ds.toArray.size w:=by
  intro m os dk _ x y;obtain ⟨⟨a,ca⟩,hx⟩:=x;obtain ⟨⟨b,cb⟩,hy⟩:=y;obtain ⟨va,hca,ha⟩:=Xp hx;obtain ⟨vb,hcb,hb⟩:=Xp hy;simp only at hca hcb ha hb;subst hca;subst hcb;have hD:=@GFn.out drT _ _ _ _ _ _ (@Yqe drT _ _ _ _ _ ha hb) (sortWorldK (fun x:{x:Atom × List Value // atomL.rep fz x.1 x.2}=>x.1.2) 2 w g 0 m dk os) ⟨fun b o hbo=>by
   have h1:=hw.keep b o hbo;rw [YeF (lt_of_heap h1) (fun e=>by subst e;rw [hg.2] at hbo;cases hbo)];exact h1,by simp,by simp⟩
  refine hD.mono fun e w' hh=>?_
  obtain ⟨v,fz',H',he,⟨_,rfl⟩,_,hfr,_⟩:=hh;exact ⟨he,YhB hfr⟩
 have hH:Go.Sort.HoldsK (fun x:{x:Atom × List Value // atomL.rep fz x.1 x.2}=>x.1.2) 2 w g 0 ds.toArray:=by
  intro j hj;rw [Go.Sort.size_flatK] at hj;simp only [List.size_toArray] at hj;obtain ⟨v,h1,h2⟩:=hcell ds j hj;rw [hdm,<- e3] at h1;refine ⟨?_,?_⟩
  ·rw [h2];show w.cell? ⟨g,0+j,none⟩=some v;rw [List.getElem?_take_of_lt Zi] at h1;simp [World.cell?,hg.1,h1]
  simp [World.frozen?,hg.1]
 have hcon:=AnyQ.slices_SortFunc Ybe 2 (fun W=>(Go.Lx.run_isAgg T (t:=67) rfl W).trans rfl) (fun W=>(Go.Lx.run_sizeOf T (t:=67) rfl W).trans rfl)
  (fun x:{x:Atom × List Value // atomL.rep fz x.1 x.2}=>x.1.2) hk2 h1c (fun x y=>cmpA x.1.1 y.1.1) (ordA.swo (fun x:{x:Atom × List Value // atomL.rep fz x.1 x.2}=>x.1.1)) 45 #[] g 0 cap ds.toArray w
  (enters_of Tryz.func45 Zj rfl) hcmp hH hgs (by simp;omega)
 simp only [List.size_toArray,hdl] at hcon;refine Calls.mono hcon fun e w' hh=>?_
 obtain ⟨he,d',m,os,hp,hs,rfl⟩:=hh;have hsd:d'.size=n:=by rw [hp.1];simp [hdl]
 obtain ⟨ys,rfl⟩:∃ ys:List {x:Atom × List Value // atomL.rep fz x.1 x.2},d'=ys.toArray:=⟨d'.toList,by simp⟩;simp only [List.size_toArray] at hsd;have hperm:ys.Perm ds:=by
  have h:=hp.2.2;rw [show (ys.toArray.extract 0 n)=ys.toArray from by rw [<- hsd];simp,show (ds.toArray.extract 0 n)=ds.toArray from by rw [<- hdl];simp] at h;simpa using h
 have hgw:=YjI (enc:=fun x:{x:Atom × List Value // atomL.rep fz x.1 x.2}=>x.1.2) (k:=2) (m:=m) (dk:=ys.toArray) (os:=os) hg.1;generalize hF:Go.Sort.flatK (fun x:{x:Atom × List Value // atomL.rep fz x.1 x.2}=>x.1.2) 2 ys.toArray=F at hgw;have hFs:F.size=n*2:=by rw [<- hF,Go.Sort.size_flatK];simp [hsd]
 have hFc:∀ j,j<n*2->∃ v,((ys.map (·.1)).flatMap Prod.snd)[j]?=some v/\F[j]! =v:=fun j hj=>by
  have:=hcell ys j Zi
  rwa [hF] at this
 refine ⟨_,fz,[(g,Zu (List.toArray (Go.Sort.putCells id 0 F cur.toArray).toList) t)],he,⟨rfl,rfl,_,ys.map (·.1.1),rfl,⟨⟨ys.map (·.1),by rw [List.map_map];rfl,fun p hp=>?_,?_⟩,by rw [List.length_map];exact hsd,hcap,hB.max,?_⟩,?_,?_⟩,⟨fun b o hbo=>?_,fun p hp=>?_,by simp⟩,⟨rfl,rfl,rfl,?_,fun b hb hnb=>?_,fun h=>h.elim⟩,⟨fun _ _ h=>h,fun _ _ _=>rfl,fun p hp=>?_⟩⟩
 ·obtain ⟨q,_,rfl⟩:=List.mem_map.1 hp;exact q.2
 ·rw [hz];refine List.ext_getElem? fun j=>?_
  by_cases hj:j<n*2
  ·obtain ⟨v,h1,h2⟩:=hFc j hj;have hlt:j<cur.length:=by omega
   rw [h1,List.getElem?_take_of_lt hj,Array.getElem?_toList];unfold Go.Sort.putCells;simp [hlt,hFs,hj];rw [<- h2];exact (getElem!_pos F j Zi).symm
  rw [List.getElem?_eq_none (by rw [List.length_take];omega),List.getElem?_eq_none];rw [Yau (z:=2) (fun p hp=>by
   obtain ⟨q,_,rfl⟩:=List.mem_map.1 hp;exact hk2 q),List.length_map,hsd]
  omega
 ·unfold Go.Sort.putCells;simp [hsz,hz]
 ·have h1:=hperm.map (fun x:{x:Atom × List Value // atomL.rep fz x.1 x.2}=>x.1.1);have h2:ds.map (fun x:{x:Atom × List Value // atomL.rep fz x.1 x.2}=>x.1.1)=l:=by rw [<- e1,<- hdm,List.map_map];rfl
  rw [h2] at h1;exact h1
 ·intro i j a b hij ha hb;rw [List.getElem?_map] at ha hb;cases hya:ys[i]? with
  | none=>rw [hya] at ha;cases ha
  | some p=>
   cases hyb:ys[j]? with
   | none=>rw [hyb] at hb;cases hb
   | some q=>
    rw [hya] at ha;rw [hyb] at hb;injection ha with ha;injection hb with hb
    have h:=hs i j (Z0 _) hij (by have:=(Zg hyb).1;omega);rw [list_get! hya,list_get! hyb] at h;unfold ltOf at h;have h:=Zf h;rw [<- ha,<- hb];exact h
 ·have h1:=hw.keep b o hbo;rw [YeF (lt_of_heap h1) (fun e=>by subst e;rw [hg.2] at hbo;cases hbo)];exact h1
 ·rw [List.mem_singleton] at hp;subst hp;exact ⟨by simpa using hgw,hg.2⟩
 ·unfold sortWorldK Go.Sort.grow Go.Sort.putRowK Go.Sort.putRow Go.Sort.mapBlock Go.Sort.ahead;simp
 ·exact YeF hb (fun e=>hnb (by simp [e]))
 rw [List.mem_singleton] at hp;subst hp;exact .inl (by simp)
mutual
def holdsM (K:Kn) (S:List Atom):EnvM->Formula->Bool
 | E,.mk op name args params _ kids=>
  if op=kAtom then decide (bndA E name args∈S)
  else if op=kSame then decide (valE E ((args[0]?).getD ⟨#[]⟩)=valE E ((args[1]?).getD ⟨#[]⟩))
  else if op=kNot then notH K S E kids
  else if op=kAnd then allH K S E kids
  else if op=kOr then anyH K S E kids
  else if QuF op then quantV K (decide (op=kForall)) (fun E'=>headH K S E' kids) params E
  else true
def notH (K:Kn) (S:List Atom):EnvM->List Formula->Bool
 | _,[]=>true
 | E,g::_=>if g.op=kSame then !holdsM K S E g else K.chg g.name || !decide (bndA E g.name g.args∈K.init)
def allH (K:Kn) (S:List Atom):EnvM->List Formula->Bool
 | _,[]=>true
 | E,g::r=>holdsM K S E g && allH K S E r
def anyH (K:Kn) (S:List Atom):EnvM->List Formula->Bool
 | _,[]=>false
 | E,g::r=>holdsM K S E g || anyH K S E r
def headH (K:Kn) (S:List Atom):EnvM->List Formula->Bool
 | _,[]=>true
 | E,g::_=>holdsM K S E g
end
theorem XB (f:Formula):holdsM K S E f=
 if f.op=kAtom then decide (bndA E f.name f.args∈S)
 else if f.op=kSame then decide (valE E ((f.args[0]?).getD ⟨#[]⟩)=valE E ((f.args[1]?).getD ⟨#[]⟩))
 else if f.op=kNot then notH K S E f.kids
 else if f.op=kAnd then allH K S E f.kids
 else if f.op=kOr then anyH K S E f.kids
 else if QuF f.op then quantV K (decide (f.op=kForall)) (fun E'=>headH K S E' f.kids) f.params E
 else true:=by cases f;rw [holdsM];rfl
theorem Yjp {K:Kn} {S:List Atom} {E:EnvM}:∀ l:List Formula,allH K S E l=!decide (∃ g∈l,¬holdsM K S E g=true)
 | []=>by rw [allH];simp
 | g::r=>by
  rw [allH,Yjp r];cases h:holdsM K S E g<;>simp [h]
theorem Yjm {K:Kn} {S:List Atom} {E:EnvM}:∀ l:List Formula,anyH K S E l=decide (∃ g∈l,holdsM K S E g=true)
 | []=>by rw [anyH];simp
 | g::r=>by
  rw [anyH,Yjm r];cases h:holdsM K S E g<;>simp [h]
inductive HSh:Formula->Prop
 | mk {f:Formula} (h1:f.op=kSame->2<=f.args.length) (h2:f.op=kNot\/QuF f.op->f.kids≠ []) (h3:f.op=kAtom->PlnS f.name/\f.args.length<=2000000/\∀ t∈f.args,PlnS t)
  (h4:f.op=kNot->∀ k∈f.kids,k.op=kAtom\/k.op=kSame) (h5:f.params.length<=2000000) (h6:∀ k∈f.kids,HSh k):HSh f
theorem HSh.same (h:HSh f):f.op=kSame->2<=f.args.length:=by cases h with | mk h1 _ _ _ _ _=>exact h1
theorem HSh.head (h:HSh f):f.op=kNot\/QuF f.op->f.kids≠ []:=by cases h with | mk _ h1 _ _ _ _=>exact h1
theorem HSh.atom (h:HSh f):f.op=kAtom->PlnS f.name/\f.args.length<=2000000/\∀ t∈f.args,PlnS t:=by cases h with | mk _ _ h1 _ _ _=>exact h1
theorem HSh.neg (h:HSh f):f.op=kNot->∀ k∈f.kids,k.op=kAtom\/k.op=kSame:=by cases h with | mk _ _ _ h1 _ _=>exact h1
theorem HSh.pars (h:HSh f):f.params.length<=2000000:=by cases h with | mk _ _ _ _ h1 _=>exact h1
theorem HSh.kid {k:Formula} (h:HSh f) (hk:k∈f.kids):HSh k:=by cases h with | mk _ _ _ _ _ h1=>exact h1 k hk
theorem valE_pln (hE:EnvP E) {t:Bs} (ht:PlnS t):PlnS (valE E t):=by
 unfold valE;cases h:E t with
 | none=>exact ht
 | some y=>exact hE t y h
theorem Yqp (hE:EnvP E) {name:Bs} {args:List Bs} (h:PlnS name/\args.length<=2000000/\∀ t∈args,PlnS t):AtmOk (bndA E name args):=by
 refine ⟨h.1,by show (args.map (valE E)).length<=_;rw [List.length_map];exact h.2.1,fun s hs=>?_⟩;obtain ⟨t,ht,rfl⟩:=List.mem_map.1 hs;exact valE_pln hE (h.2.2 t ht)
theorem holds1_q {vs vat:Value} {g4 g5 g7:Nat} {t4 t5 t7:TypeId} (hR:FormulaR fz f va vp ve vk) (hv:v.oneCell'=true) (h4:fz g4=some (.cells #[v] t4 (0,0))) (h5:fz g5=some (.cells #[vs] t5 (0,0))) (h7:fz g7=some (.cells #[vat] t7 (0,0)))
 (hh:QFn prog 28 [v,vs,.agg #[Zy f.op,Zy f.name,va,vp,ve,vk],vat] fz (Zo b)):
 QFn prog 61 [.agg #[Zy f.op,Zy f.name,va,vp,ve,vk],Zp g4,Zp g5,Zp g7] fz (Zo (!b)):=by
 obtain ⟨⟨B1,m1,d1,rfl,ia⟩,⟨B2,m2,d2,rfl,ip⟩,⟨B3,m3,d3,rfl,ie⟩,⟨B4,m4,d4,rfl,ik⟩⟩:=hR.sls;refine qF Tryz.func61 Tryz.ntmps61 (fun w0=>?_);refine pX (fun g9=>?_);refine wc hh ?_;exact wR (h:=rfl)
theorem holds2_q {vs vat:Value} {g4 g5 g7:Nat} {t4 t5 t7:TypeId} (hR:FormulaR fz f va vp ve vk) (hv:v.oneCell'=true) (h4:fz g4=some (.cells #[v] t4 (0,0))) (h5:fz g5=some (.cells #[vs] t5 (0,0))) (h7:fz g7=some (.cells #[vat] t7 (0,0)))
 (hh:QFn prog 28 [v,vs,.agg #[Zy f.op,Zy f.name,va,vp,ve,vk],vat] fz (Zo b)):
 QFn prog 62 [.agg #[Zy f.op,Zy f.name,va,vp,ve,vk],Zp g4,Zp g5,Zp g7] fz (Zo b):=by
 obtain ⟨⟨B1,m1,d1,rfl,ia⟩,⟨B2,m2,d2,rfl,ip⟩,⟨B3,m3,d3,rfl,ie⟩,⟨B4,m4,d4,rfl,ik⟩⟩:=hR.sls;refine qF Tryz.func62 Tryz.ntmps62 (fun w0=>?_);refine pX (fun g9=>?_);refine wc hh ?_;exact wR (h:=rfl)
end Go.Proofs.YtacfpcbladaohaaGreatDoor
namespace Go.Lx
open Go.RowKit
variable {H:HP} {fz:FZ} {i j k:Nat} {o:Oper}
theorem Po.three {P:Program} {cx:Cx} {l:List Oper} {pu:List Nat} {σ' ve cv τ:Env} {fz0:FZ} {Hq:HP} {Q:QQ} {all rest r1 r2 r3:List (Nat × Oper)} {m:Nat} {dn:Bool} {o2 o3:Oper}
 (a:PoS P cx l pu σ' ve fz0 Hq Q all m r1 dn cv τ fz H i o) (b:PoS P cx l pu σ' ve fz0 Hq Q all m r2 dn cv τ fz H j o2) (c:PoS P cx l pu σ' ve fz0 Hq Q all m r3 dn cv τ fz H k o3) (hr:Ymg rest=[(i,o),(j,o2),(k,o3)]:=by exact rfl) (h1:(rest.filter fun q=>!Nat.beq q.1 i)=r1:=by exact rfl) (h2:(rest.filter fun q=>!Nat.beq q.1 j)=r2:=by exact rfl) (h3:(rest.filter fun q=>!Nat.beq q.1 k)=r3:=by exact rfl):Po P cx l pu σ' ve fz0 Hq Q all (m+1) rest dn cv τ fz H:=by
 unfold PoS at a b c;unfold Po;intro p hp hfree;have:=Go.Lx.mem_ready hp hfree;rw [hr,List.mem_cons,List.mem_cons,List.mem_singleton] at this;rcases this with this | this | this
 ·subst this;rw [h1];exact a
 ·subst this;rw [h2];exact b
 subst this;rw [h3];exact c
end Go.Lx
