/- The texts PWalkT, PGrp, PWalkW, PCX, QU, ShelfS, QSo, laid together. Conditions: none. -/
import Derived.Test.YtbdpaoikccabhaaGreatDoorEAO
import Derived.Sort.Walk0
import Derived.Shelf.SlSortCmp.NoneTotal
set_option linter.all false
set_option maxHeartbeats 16000000
noncomputable section
set_option maxRecDepth 20000
open Go.Lx Go.RowKit
attribute [local instance 10] Classical.propDecidable
open Go.Proofs.Tryz (prog)
namespace Go.Proofs.YtbdpaoikccabhaaGreatDoor
variable {fz:FZ} {p:Problem} {v1 v2 v3 v4 v5 v6 v7:Value}
def ValOk (v:Value_):Prop:=GrdA v.fluent/\YeC v.n
def PrbOk (p:Problem):Prop:=Xk p.name/\Xk p.domain/\(∀ o∈p.objects,WP false o)/\(∀ v∈p.values,ValOk v)/\∀ a∈p.init,GrdA a
theorem Yi6 (h:ProblemR fz p v1 v2 v3 v4 v5 v6 v7):
 QFn prog 126 [ZP p v1 v2 v3 v4 v5 v6 v7] fz (Zo (decide (PrbOk p))):=by
 obtain ⟨⟨A1,n1,b1,rfl,io⟩,⟨A2,n2,b2,rfl,ii⟩,⟨A3,n3,b3,rfl,iv⟩⟩:=h.sls;obtain ⟨⟨A4,n4,b4,rfl,_⟩,⟨A5,n5,b5,rfl,_⟩,⟨A6,n6,b6,rfl,_⟩,⟨A7,n7,b7,rfl,_⟩⟩:=h.goal.sls;have lo:=io.len;have lv:=iv.len;have so:=io.short;have sv:=iv.short;refine qF Tryz.func126 Tryz.ntmps126 (fun w0=>?_);refine pX (fun g0=>?_);refine wb (YaY h.name) (fun f1=>?_) (fun f1=>?_)
 ·refine wb (YaY h.domain) (fun f2=>?_) (fun f2=>?_)
  ·refine zW ?_;refine WD n1 (fun k=>[(20,Zk k),(19,Zk n1),(18,Zc A1 n1 b1),(1,Zp g0)]) [(g0,Zu #[Zy p.name,Zy p.domain,Zc A1 n1 b1,Zc A2 n2 b2,Zc A3 n3 b3,Zy p.goal.op,Zy p.goal.name,Zc A4 n4 b4,Zc A5 n5 b5,Zc A6 n6 b6,Zc A7 n7 b7] 37)] (fun k=>(∀ i,i<k->∀ x,p.objects[i]?=some x->WP false x)) (fun i hi=>absurd hi Zi) ?_;intro k hk hh;refine wC ?_ ?_<;>intro c1
   ·obtain ⟨x,hx⟩:=Yf (l:=p.objects) (k:=k) Zi;have bad:¬WP false x->¬PrbOk p:=fun h0 h=>h0 (h.2.2.1 x (Zm hx))
    refine wI io hx (fun a ha=>?_);refine zL ha ?_;intro cs hcs;obtain ⟨rfl,hR⟩:=YM hcs;refine zW ?_;intros;refine zb (YaY hR.name) (fun f3=>?_) (fun f3=>?_)
    ·refine wb (YaY hR.typ) (fun f4=>?_) (fun f4=>?_)
     ·exact wM (h:=by exact YH hh hx ⟨Zt f3,.inl (Zt f4)⟩)
     refine wC ?_ ?_<;>intro e1
     ·exact wR (h:=by exact Yj (bad (fun h0=>h0.2.elim (Zf f4) e1)))
     exact wM (h:=by exact YH hh hx ⟨Zt f3,.inr e1⟩)
    exact wR (h:=by exact Yj (bad (fun h0=>Zf f3 h0.1)))
   have hO:=Xc hh Zi;refine zW ?_;refine Yn (fun q σ fz' H'=>∃ k:Nat,k<=n3/\q=n3 - k/\σ=[(43,Zk k),(42,Zk n3),(41,Zc A3 n3 b3),(1,Zp g0)]/\fz=fz'/\H'=[(g0,Zu #[Zy p.name,Zy p.domain,Zc A1 n1 b1,Zc A2 n2 b2,Zc A3 n3 b3,Zy p.goal.op,Zy p.goal.name,Zc A4 n4 b4,Zc A5 n5 b5,Zc A6 n6 b6,Zc A7 n7 b7] 37)]/\(∀ i,i<k->∀ x,p.values[i]?=some x->ValOk x)) ⟨0,Z0 _,rfl,rfl,rfl,rfl,fun i hi=>absurd hi Zi⟩ Zw Zb ?_;rintro q σ fz' H' ⟨k2,hk2,rfl,rfl,rfl,rfl,hh2⟩;refine wC ?_ ?_<;>intro c2
   ·obtain ⟨x,hx⟩:=Yf (l:=p.values) (k:=k2) Zi;have bad:¬ValOk x->¬PrbOk p:=fun h0 h=>h0 (h.2.2.2.1 x (Zm hx))
    refine wI iv hx (fun a ha=>?_);refine zL ha ?_;intro cs hcs;obtain ⟨w1,rfl,hR⟩:=XM hcs;have hA:=hR.fluent;obtain ⟨U,w,z,rfl,_⟩:=hR.fluent.args;refine zW ?_;intros
    ((refine zG ?_);refine Yh (vs:=[Zy x.fluent.name,Zc U w z]) 0 ?_);refine zb (YoP hA) (fun f3=>?_) (fun f3=>?_)
    ·refine zW ?_
     (((refine zC (fun m1=>?_) (fun m1=>?_));((refine zW ?_);(exact ret1 rfl rfl Zb (Yj (bad (fun h0=>by have:=h0.2.1;omega)))));(refine zW ?_)))
     (((refine zC (fun m2=>?_) (fun m2=>?_));((refine zW ?_);(exact ret1 rfl rfl Zb (Yj (bad (fun h0=>by have:=h0.2.2;omega)))));(refine zW ?_)));exact wP (h:=by exact ⟨k2+1,by omega,rfl,rfl,rfl,rfl,YH hh2 hx ⟨Zt f3,by omega,by omega⟩⟩)
    exact wR (h:=by exact Yj (bad (fun h0=>Zf f3 h0.1)))
   have hV:=Xc hh2 Zi;refine wG ?_;refine XS (YkI ii (fun x va hx=>expr1_q hx)) (fun f3=>?_) (fun f3=>?_)
   ·refine zW ?_
    (exact ret1 rfl rfl Zb (Yj (fun h0=>by
     obtain ⟨x,hx,hx2⟩:=Zt f3;exact hx2 (h0.2.2.2.2 x hx))))
   exact wR (h:=by exact (Ys ⟨Zt f1,Zt f2,hO,hV,fun x hx=>Classical.byContradiction fun h0=>Zf f3 ⟨x,hx,h0⟩⟩))
  exact wR (h:=by exact Yj (fun h0=>Zf f2 h0.2.1))
 exact wR (h:=by exact Yj (fun h0=>Zf f1 h0.1))
end Go.Proofs.YtbdpaoikccabhaaGreatDoor
namespace Go.Proofs.YtbdpaoikccabhaaGreatDoor
theorem YlA {kw:Bs} {ks:List Sexpr} (h:ks≠ []):grp kw ks=[YK (Yi kw::ks)]:=if_neg h
theorem YpI {kw:Bs}:grp kw []=[]:=if_pos rfl
end Go.Proofs.YtbdpaoikccabhaaGreatDoor
namespace Go.Proofs.YtbdpaoikccabhaaGreatDoor
variable {α:Type} {fz:FZ} {p:Problem} {v1 v2 v3 v4 v5 v6 v7 u1 u2 u3 u4 u5 u6 u7 vp v:Value} {all:List Param} {d:Domain} {s:Bs} {cs:List Value} {l:List α}
def XI:Bs:=⟨#[112,114,111,98,108,101,109]⟩
def YZ:Bs:=⟨#[58,100,111,109,97,105,110]⟩
def WH:Bs:=⟨#[58,111,98,106,101,99,116,115]⟩
def Yho:Bs:=⟨#[58,105,110,105,116]⟩
def Ydw:Bs:=⟨#[58,103,111,97,108]⟩
def YaP (a:Atom):Sexpr:=Wn a.name a.args
def valX (v:Value_):Sexpr:=YK [Yi kEq,YaP v.fluent,numE v.n]
def YnJ (f:Formula):List Sexpr:=if f.op=kAnd/\f.kids=[] then [] else [YK [Yi Ydw,Xf f]]
def prbX (p:Problem):Sexpr:=YK ([Yi YQ,YK [Yi XI,Yi p.name],YK [Yi YZ,Yi p.domain]]++grp WH (YaA p.objects)++grp Yho (p.init.map YaP++p.values.map valX)++YnJ p.goal)
structure PrbSm (p:Problem):Prop where
 objects:p.objects.length<=1000000000
 init:p.init.length<=1000000000
 inits:∀ a∈p.init,a.args.length<=1000000000
 values:p.values.length<=1000000000
 vals:∀ v∈p.values,v.fluent.args.length<=1000000000
 goal:FSm p.goal
def glO (x:Sexpr) (vk:Value):Obj:=Zu #[Zk x.kind,Zk x.value,Zk x.line,Zk x.column,Zy x.text,vk] 148
theorem YbG {a b:Bs} {gb gc:Nat} (ha:Short a) (hb:Short b)
 (h1:fz gb=some (.cells (Yr XI++Yr a).toArray 148 (0,0)))
 (h2:fz gc=some (.cells (Yr YZ++Yr b).toArray 148 (0,0))):
 ∀ p∈ [(Yi YQ,Yr YQ),(YK [Yi XI,Yi a],[Zk 3,Zk 0,Zk 0,Zk 0,Ze,Zv gb 2 2]),(YK [Yi YZ,Yi b],[Zk 3,Zk 0,Zk 0,Zk 0,Ze,Zv gc 2 2])],YO.rep fz p.1 p.2:=by
 intro p hp;simp only [List.mem_cons,List.not_mem_nil,or_false] at hp;rcases hp with rfl | rfl | rfl
 ·exact YA (YT)
 ·exact Ym (Wl (XC (ys:=[(Yi XI,Yr XI),(Yi a,Yr a)]) h1 rfl rfl (by intro p hp;simp only [List.mem_cons,List.not_mem_nil,or_false] at hp;rcases hp with rfl | rfl;exact YA (YT);exact YA ha) rfl Zh))
 exact Ym (Wl (XC (ys:=[(Yi YZ,Yr YZ),(Yi b,Yr b)]) h2 rfl rfl (by intro p hp;simp only [List.mem_cons,List.not_mem_nil,or_false] at hp;rcases hp with rfl | rfl;exact YA (YT);exact YA hb) rfl Zh))
theorem pWrite_q (h:ProblemR fz p v1 v2 v3 v4 v5 v6 v7) (hs:PrbSm p):
 GFn prog 64 [ZP p v1 v2 v3 v4 v5 v6 v7] fz [] (WrR (FVal p.goal/\PrbOk p/\XVal (prbX p)) (prbX p)):=by
 obtain ⟨⟨A1,n1,b1,rfl,io⟩,⟨A2,n2,b2,rfl,ii⟩,⟨A3,n3,b3,rfl,iv⟩⟩:=h.sls;obtain ⟨⟨A4,n4,b4,rfl,_⟩,⟨A5,n5,b5,rfl,_⟩,⟨A6,n6,b6,rfl,_⟩,⟨A7,n7,b7,rfl,i7⟩⟩:=h.goal.sls;have lo:=io.len;have li:=ii.len;have lv:=iv.len;have mo:=hs.objects;have mi:=hs.init;have mv:=hs.values;refine zF Tryz.func64 Tryz.ntmps64 (fun w0=>?_);refine pX (fun g1=>?_);refine zWO ?_;intros;rename_i g2;refine wG ?_;refine Yh (vs:=[Zy p.goal.op,Zy p.goal.name,Zc A4 n4 b4,Zc A5 n5 b5,Zc A6 n6 b6,Zc A7 n7 b7]) 1 ?_;refine wK (q:=YmR h.goal hs.goal) (h:=fun v8 fz8 H8 hle8 hR8=>?_);obtain ⟨rfl,u,y,rfl,⟨cs,rfl,hr⟩,hyx⟩:=hR8;obtain ⟨vk6,rfl,hX⟩:=YJ hr;obtain ⟨A8,n8,b8,rfl,i8⟩:=hX.kids;by_cases hP:FVal p.goal
 ·obtain rfl:=hyx hP;rw [if_pos hP];refine zW ?_;intros;rename_i g4;refine zb (Yi6 (h.mono hle8)) (fun f1=>?_) (fun f1=>?_)
  ·have hE:=Zt f1;refine zWX ?_;refine YN (Xe (fun σ fz' H'=>∃ (g6:Nat) (v:Value) (Hs:HP),σ=[(6,Zp g6),(4,Zp g4),(2,Zp g2),(1,Zp g1)]/\Le fz8 fz'/\H'=(g6,lsO v)::(g1,Zu #[Zy p.name,Zy p.domain,Zc A1 n1 b1,Zc A2 n2 b2,Zc A3 n3 b3,Zy p.goal.op,Zy p.goal.name,Zc A4 n4 b4,Zc A5 n5 b5,Zc A6 n6 b6,Zc A7 n7 b7] 37)::(g2,Zu #[Zk 0,Zk 0,Zk 0,Zk 0,Ze,Zn] 148)::(g4,glO (Xf p.goal) (Zc A8 n8 b8))::Hs/\Grow YO 148 fz' v 3 Hs [Yi YQ,YK [Yi XI,Yi p.name],YK [Yi YZ,Yi p.domain]]) ?_ ?_)
   ·have hnm:=h.name;have hdm:=h.domain;refine Yay [] [(g1,_)] ?_;refine wc (Yaa (s:=YQ)) ?_;refine wc (Yaa (s:=XI)) ?_;refine wc (Yaa (s:=p.name)) ?_;refine zW ?_;refine Yx (Yx (Yx ?_));refine wc (Yaa (s:=p.domain)) ?_;unfold sxV;refine pT ?_;refine YB ?_ ?_
    ·refine Ye (Yc (cs:=Yr XI++Yr p.name) (fun gb=>⟨⟨Zd,Zx⟩,?_⟩));refine YB ?_ ?_
     ·refine PoS.qk ⟨Zd,Zx⟩ (Yt XT ?_);unfold sxV;refine YB ?_ ?_
      ·refine PoS.qk ⟨Zd,Zx⟩ (Yt (Yaa (s:=YZ)) ?_);unfold sxV;refine YB ?_ ?_
       ·refine Ye (Yc (cs:=Yr YZ++Yr p.domain) (fun gc=>⟨⟨Zd,Zx⟩,?_⟩));refine YB ?_ ?_
        ·refine PoS.qk ⟨Zd,Zx⟩ (Yt XT ?_);unfold sxV;refine YB ?_ ?_
         ·refine Ye (Yc (cs:=Yr YQ++([Zk 3,Zk 0,Zk 0,Zk 0,Ze,Zv gb 2 2]++ [Zk 3,Zk 0,Zk 0,Zk 0,Ze,Zv gc 2 2])) (fun gd=>⟨⟨Zd,Zx⟩,?_⟩));refine YB ?_ ?_
          ·refine PoS.qk ⟨Zd,Zx⟩ (Yt XT ?_);unfold sxV;refine Yb ?_;refine Ye (YU (fun g6=>⟨⟨Zd,Zx⟩,?_⟩));refine Yb ?_;refine PoS.hard0 (Does.perm (XU [0,6,5,4,1,2,3]) (Yy ?_));refine Po.done ?_;refine zW ?_;refine midF (H':=[(g6,_),(g1,_),(g2,_),(g4,_),(gd,_)]) (H2:=[(gb,_),(gc,_)]) (XU [0,1,2,3,4,6,5]) (fun fz3 hl3 hf3=>⟨g6,_,[(gd,_)],rfl,hl3,rfl,Grow.block (m:=3) (ys:=[(Yi YQ,Yr YQ),(YK [Yi XI,Yi p.name],[Zk 3,Zk 0,Zk 0,Zk 0,Ze,Zv gb 2 2]),(YK [Yi YZ,Yi p.domain],[Zk 3,Zk 0,Zk 0,Zk 0,Ze,Zv gc 2 2])]) rfl rfl ?_ rfl⟩) Zw;exact YbG hnm hdm (hf3 _ (.head _)) (hf3 _ (.tail _ (.head _)))
          refine Ye (YU (fun g6=>⟨⟨Zd,Zx⟩,?_⟩));refine Yb ?_;refine PoS.qk ⟨Zd,Zx⟩ (Yt XT ?_);unfold sxV;refine Yb ?_;refine PoS.hard0 (Does.perm (XU [0,6,5,4,1,2,3]) (Yy ?_));refine Po.done ?_;refine zW ?_;refine midF (H':=[(g6,_),(g1,_),(g2,_),(g4,_),(gd,_)]) (H2:=[(gb,_),(gc,_)]) (XU [0,1,2,3,4,6,5]) (fun fz3 hl3 hf3=>⟨g6,_,[(gd,_)],rfl,hl3,rfl,Grow.block (m:=3) (ys:=[(Yi YQ,Yr YQ),(YK [Yi XI,Yi p.name],[Zk 3,Zk 0,Zk 0,Zk 0,Ze,Zv gb 2 2]),(YK [Yi YZ,Yi p.domain],[Zk 3,Zk 0,Zk 0,Zk 0,Ze,Zv gc 2 2])]) rfl rfl ?_ rfl⟩) Zw;exact YbG hnm hdm (hf3 _ (.head _)) (hf3 _ (.tail _ (.head _)))
         refine Ye (YU (fun g6=>⟨⟨Zd,Zx⟩,?_⟩));refine Yb ?_;refine Ye (Yc (cs:=Yr YQ++([Zk 3,Zk 0,Zk 0,Zk 0,Ze,Zv gb 2 2]++ [Zk 3,Zk 0,Zk 0,Zk 0,Ze,Zv gc 2 2])) (fun gd=>⟨⟨Zd,Zx⟩,?_⟩));refine Yb ?_;refine PoS.qk ⟨Zd,Zx⟩ (Yt XT ?_);unfold sxV;refine Yb ?_;refine PoS.hard0 (Does.perm (XU [1,6,5,4,0,2,3]) (Yy ?_));refine Po.done ?_;refine zW ?_;refine midF (H':=[(g6,_),(g1,_),(g2,_),(g4,_),(gd,_)]) (H2:=[(gb,_),(gc,_)]) (XU [0,1,2,3,4,6,5]) (fun fz3 hl3 hf3=>⟨g6,_,[(gd,_)],rfl,hl3,rfl,Grow.block (m:=3) (ys:=[(Yi YQ,Yr YQ),(YK [Yi XI,Yi p.name],[Zk 3,Zk 0,Zk 0,Zk 0,Ze,Zv gb 2 2]),(YK [Yi YZ,Yi p.domain],[Zk 3,Zk 0,Zk 0,Zk 0,Ze,Zv gc 2 2])]) rfl rfl ?_ rfl⟩) Zw;exact YbG hnm hdm (hf3 _ (.head _)) (hf3 _ (.tail _ (.head _)))
        refine Ye (YU (fun g6=>⟨⟨Zd,Zx⟩,?_⟩));refine Yb ?_;refine PoS.qk ⟨Zd,Zx⟩ (Yt XT ?_);unfold sxV;refine Yb ?_;refine Ye (Yc (cs:=Yr YQ++([Zk 3,Zk 0,Zk 0,Zk 0,Ze,Zv gb 2 2]++ [Zk 3,Zk 0,Zk 0,Zk 0,Ze,Zv gc 2 2])) (fun gd=>⟨⟨Zd,Zx⟩,?_⟩));refine Yb ?_;refine PoS.qk ⟨Zd,Zx⟩ (Yt XT ?_);unfold sxV;refine Yb ?_;refine PoS.hard0 (Does.perm (XU [1,6,5,4,0,2,3]) (Yy ?_));refine Po.done ?_;refine zW ?_;refine midF (H':=[(g6,_),(g1,_),(g2,_),(g4,_),(gd,_)]) (H2:=[(gb,_),(gc,_)]) (XU [0,1,2,3,4,6,5]) (fun fz3 hl3 hf3=>⟨g6,_,[(gd,_)],rfl,hl3,rfl,Grow.block (m:=3) (ys:=[(Yi YQ,Yr YQ),(YK [Yi XI,Yi p.name],[Zk 3,Zk 0,Zk 0,Zk 0,Ze,Zv gb 2 2]),(YK [Yi YZ,Yi p.domain],[Zk 3,Zk 0,Zk 0,Zk 0,Ze,Zv gc 2 2])]) rfl rfl ?_ rfl⟩) Zw;exact YbG hnm hdm (hf3 _ (.head _)) (hf3 _ (.tail _ (.head _)))
       refine Ye (YU (fun g6=>⟨⟨Zd,Zx⟩,?_⟩));refine Yb ?_;refine Ye (Yc (cs:=Yr YZ++Yr p.domain) (fun gc=>⟨⟨Zd,Zx⟩,?_⟩));refine Yb ?_;refine PoS.qk ⟨Zd,Zx⟩ (Yt XT ?_);unfold sxV;refine Yb ?_;refine Ye (Yc (cs:=Yr YQ++([Zk 3,Zk 0,Zk 0,Zk 0,Ze,Zv gb 2 2]++ [Zk 3,Zk 0,Zk 0,Zk 0,Ze,Zv gc 2 2])) (fun gd=>⟨⟨Zd,Zx⟩,?_⟩));refine Yb ?_;refine PoS.qk ⟨Zd,Zx⟩ (Yt XT ?_);unfold sxV;refine Yb ?_;refine PoS.hard0 (Does.perm (XU [2,6,5,4,0,1,3]) (Yy ?_));refine Po.done ?_;refine zW ?_;refine midF (H':=[(g6,_),(g1,_),(g2,_),(g4,_),(gd,_)]) (H2:=[(gb,_),(gc,_)]) (XU [0,1,2,3,4,6,5]) (fun fz3 hl3 hf3=>⟨g6,_,[(gd,_)],rfl,hl3,rfl,Grow.block (m:=3) (ys:=[(Yi YQ,Yr YQ),(YK [Yi XI,Yi p.name],[Zk 3,Zk 0,Zk 0,Zk 0,Ze,Zv gb 2 2]),(YK [Yi YZ,Yi p.domain],[Zk 3,Zk 0,Zk 0,Zk 0,Ze,Zv gc 2 2])]) rfl rfl ?_ rfl⟩) Zw;exact YbG hnm hdm (hf3 _ (.head _)) (hf3 _ (.tail _ (.head _)))
      refine Ye (YU (fun g6=>⟨⟨Zd,Zx⟩,?_⟩));refine Yb ?_;refine PoS.qk ⟨Zd,Zx⟩ (Yt (Yaa (s:=YZ)) ?_);unfold sxV;refine Yb ?_;refine Ye (Yc (cs:=Yr YZ++Yr p.domain) (fun gc=>⟨⟨Zd,Zx⟩,?_⟩));refine Yb ?_;refine PoS.qk ⟨Zd,Zx⟩ (Yt XT ?_);unfold sxV;refine Yb ?_;refine Ye (Yc (cs:=Yr YQ++([Zk 3,Zk 0,Zk 0,Zk 0,Ze,Zv gb 2 2]++ [Zk 3,Zk 0,Zk 0,Zk 0,Ze,Zv gc 2 2])) (fun gd=>⟨⟨Zd,Zx⟩,?_⟩));refine Yb ?_;refine PoS.qk ⟨Zd,Zx⟩ (Yt XT ?_);unfold sxV;refine Yb ?_;refine PoS.hard0 (Does.perm (XU [2,6,5,4,0,1,3]) (Yy ?_));refine Po.done ?_;refine zW ?_;refine midF (H':=[(g6,_),(g1,_),(g2,_),(g4,_),(gd,_)]) (H2:=[(gb,_),(gc,_)]) (XU [0,1,2,3,4,6,5]) (fun fz3 hl3 hf3=>⟨g6,_,[(gd,_)],rfl,hl3,rfl,Grow.block (m:=3) (ys:=[(Yi YQ,Yr YQ),(YK [Yi XI,Yi p.name],[Zk 3,Zk 0,Zk 0,Zk 0,Ze,Zv gb 2 2]),(YK [Yi YZ,Yi p.domain],[Zk 3,Zk 0,Zk 0,Zk 0,Ze,Zv gc 2 2])]) rfl rfl ?_ rfl⟩) Zw;exact YbG hnm hdm (hf3 _ (.head _)) (hf3 _ (.tail _ (.head _)))
     refine Ye (YU (fun g6=>⟨⟨Zd,Zx⟩,?_⟩));refine Yb ?_;refine PoS.qk ⟨Zd,Zx⟩ (Yt XT ?_);unfold sxV;refine Yb ?_;refine PoS.qk ⟨Zd,Zx⟩ (Yt (Yaa (s:=YZ)) ?_);unfold sxV;refine Yb ?_;refine Ye (Yc (cs:=Yr YZ++Yr p.domain) (fun gc=>⟨⟨Zd,Zx⟩,?_⟩));refine Yb ?_;refine PoS.qk ⟨Zd,Zx⟩ (Yt XT ?_);unfold sxV;refine Yb ?_;refine Ye (Yc (cs:=Yr YQ++([Zk 3,Zk 0,Zk 0,Zk 0,Ze,Zv gb 2 2]++ [Zk 3,Zk 0,Zk 0,Zk 0,Ze,Zv gc 2 2])) (fun gd=>⟨⟨Zd,Zx⟩,?_⟩));refine Yb ?_;refine PoS.qk ⟨Zd,Zx⟩ (Yt XT ?_);unfold sxV;refine Yb ?_;refine PoS.hard0 (Does.perm (XU [2,6,5,4,0,1,3]) (Yy ?_));refine Po.done ?_;refine zW ?_;refine midF (H':=[(g6,_),(g1,_),(g2,_),(g4,_),(gd,_)]) (H2:=[(gb,_),(gc,_)]) (XU [0,1,2,3,4,6,5]) (fun fz3 hl3 hf3=>⟨g6,_,[(gd,_)],rfl,hl3,rfl,Grow.block (m:=3) (ys:=[(Yi YQ,Yr YQ),(YK [Yi XI,Yi p.name],[Zk 3,Zk 0,Zk 0,Zk 0,Ze,Zv gb 2 2]),(YK [Yi YZ,Yi p.domain],[Zk 3,Zk 0,Zk 0,Zk 0,Ze,Zv gc 2 2])]) rfl rfl ?_ rfl⟩) Zw;exact YbG hnm hdm (hf3 _ (.head _)) (hf3 _ (.tail _ (.head _)))
    refine Ye (YU (fun g6=>⟨⟨Zd,Zx⟩,?_⟩));refine Yb ?_;refine Ye (Yc (cs:=Yr XI++Yr p.name) (fun gb=>⟨⟨Zd,Zx⟩,?_⟩));refine Yb ?_;refine PoS.qk ⟨Zd,Zx⟩ (Yt XT ?_);unfold sxV;refine Yb ?_;refine PoS.qk ⟨Zd,Zx⟩ (Yt (Yaa (s:=YZ)) ?_);unfold sxV;refine Yb ?_;refine Ye (Yc (cs:=Yr YZ++Yr p.domain) (fun gc=>⟨⟨Zd,Zx⟩,?_⟩));refine Yb ?_;refine PoS.qk ⟨Zd,Zx⟩ (Yt XT ?_);unfold sxV;refine Yb ?_;refine Ye (Yc (cs:=Yr YQ++([Zk 3,Zk 0,Zk 0,Zk 0,Ze,Zv gb 2 2]++ [Zk 3,Zk 0,Zk 0,Zk 0,Ze,Zv gc 2 2])) (fun gd=>⟨⟨Zd,Zx⟩,?_⟩));refine Yb ?_;refine PoS.qk ⟨Zd,Zx⟩ (Yt XT ?_);unfold sxV;refine Yb ?_;refine PoS.hard0 (Does.perm (XU [3,6,5,4,0,1,2]) (Yy ?_));refine Po.done ?_;refine zW ?_;refine midF (H':=[(g6,_),(g1,_),(g2,_),(g4,_),(gd,_)]) (H2:=[(gb,_),(gc,_)]) (XU [0,1,2,3,4,6,5]) (fun fz3 hl3 hf3=>⟨g6,_,[(gd,_)],rfl,hl3,rfl,Grow.block (m:=3) (ys:=[(Yi YQ,Yr YQ),(YK [Yi XI,Yi p.name],[Zk 3,Zk 0,Zk 0,Zk 0,Ze,Zv gb 2 2]),(YK [Yi YZ,Yi p.domain],[Zk 3,Zk 0,Zk 0,Zk 0,Ze,Zv gc 2 2])]) rfl rfl ?_ rfl⟩) Zw;exact YbG hnm hdm (hf3 _ (.head _)) (hf3 _ (.tail _ (.head _)))
   rintro σ fz9 H' ⟨g6,v,Hs,rfl,hle9,rfl,hG⟩;obtain ⟨Av,cv,rfl,_,_⟩:=hG.form;refine zWX ?_;refine YN (Xe (fun σ fz' H'=>∃ (m:Nat) (v:Value) (Hs:HP),σ=[(6,Zp g6),(4,Zp g4),(2,Zp g2),(1,Zp g1)]/\Le fz9 fz'/\H'=(g6,lsO v)::(g1,Zu #[Zy p.name,Zy p.domain,Zc A1 n1 b1,Zc A2 n2 b2,Zc A3 n3 b3,Zy p.goal.op,Zy p.goal.name,Zc A4 n4 b4,Zc A5 n5 b5,Zc A6 n6 b6,Zc A7 n7 b7] 37)::(g2,Zu #[Zk 0,Zk 0,Zk 0,Zk 0,Ze,Zn] 148)::(g4,glO (Xf p.goal) (Zc A8 n8 b8))::Hs/\m<=4/\Grow YO 148 fz' v m Hs ([Yi YQ,YK [Yi XI,Yi p.name],YK [Yi YZ,Yi p.domain]]++grp WH (YaA p.objects))) ?_ ?_)
   ·have i1m:=io.mono (hle8.trans hle9);refine wC ?_ ?_<;>intro c1
    ·have hne:YaA p.objects≠ []:=fun h0=>by have:=YjZ (l:=p.objects);rw [h0] at this;simp at this;omega
     refine zW ?_;refine Yay [] [(g6,_),(g1,_)] ?_;refine wc (Yaa (s:=WH)) ?_;refine Yx ?_;refine zW ?_;unfold sxV;refine Yx (Yx (Yx (Yx (Yx ?_))));refine zW ?_;refine pT ?_;refine YB ?_ ?_
     ·refine Ye (Yc (cs:=Yr WH) (fun gb=>⟨⟨Zd,Zx⟩,?_⟩));refine Yb ?_;refine Ye (Yk [] _ Zz (Yd8 i1m Zi) (fun v7 fz7 H7 hle7 hR7=>?_));obtain ⟨rfl,B7,cc7,rfl,hsl7⟩:=hR7;refine ⟨⟨hle7,Zx⟩,?_⟩;refine Yb ?_;refine Ye (XW T (n:=1) (l:=[Yi WH]) (Hr:=(g6,_)::(g1,_)::(g2,_)::(g4,_)::Hs) (Hs:=[(gb,_)]) Zz Zz Zz Zz Zz Zz Zz Zz ((List.perm_append_singleton _ _).symm) (Grow.block (ys:=[(Yi WH,Yr WH)]) rfl rfl (by simpa using YA (YT)) rfl) Yz hsl7 (by show _*72<=_;omega) Zi (fun v8 Hs1 hO1=>⟨⟨hle7,Zx⟩,?_⟩));obtain ⟨Ao,co,rfl,_,_⟩:=hO1.form;refine Yb ?_;refine PoS.qk ⟨hle7,Zx⟩ (Yt XT ?_);unfold sxV;refine Yb ?_;refine Ye (Yc (cs:=[Zk 3,Zk 0,Zk 0,Zk 0,Ze,Zc Ao (1+3*n1) co]) (fun gc=>⟨⟨hle7,Zx⟩,?_⟩));refine Yb ?_;refine Ye (Does.freezeAll (H1:=(gc,_)::(g6,_)::(g1,_)::(g2,_)::(g4,_)::Hs) (H2:=Hs1) (Zr _) (fun fzb hle10 hf10=>?_));obtain ⟨A2x,c2x,he2,hsl9⟩:=hO1.sl hle10 hf10 Zi;injection he2 with x1 x2 x3
      subst x1 x3;refine YG (Hr:=(gc,_)::(g6,_)::(g1,_)::(g2,_):: [(g4,_)]) (d:=YK (Yi WH::YaA p.objects)) (Zr _) (hG.mono (hle7.trans hle10)) Yz (.head _) (Ym (Wl hsl9)) (fun v9 Hp9 hO9=>⟨⟨hle7.trans hle10,Zx⟩,?_⟩);obtain ⟨A9,c9,rfl,_,_⟩:=hO9.form;refine Yb ?_;refine PoS.hard0 (YX ?_);refine Po.done ?_;exact wN (h:=by exact ⟨4,_,Hp9,rfl,hle7.trans hle10,rfl,by omega,hO9.of (by rw [YlA hne]) rfl⟩)
     refine Ye (Yk [] _ Zz (Yd8 i1m Zi) (fun v7 fz7 H7 hle7 hR7=>?_));obtain ⟨rfl,B7,cc7,rfl,hsl7⟩:=hR7;refine ⟨⟨hle7,Zx⟩,?_⟩;refine Yb ?_;refine Ye (Yc (cs:=Yr WH) (fun gb=>⟨⟨hle7,Zx⟩,?_⟩));refine Yb ?_;refine Ye (XW T (n:=1) (l:=[Yi WH]) (Hr:=(g6,_)::(g1,_)::(g2,_)::(g4,_)::Hs) (Hs:=[(gb,_)]) Zz Zz Zz Zz Zz Zz Zz Zz ((List.perm_append_singleton _ _).symm) (Grow.block (ys:=[(Yi WH,Yr WH)]) rfl rfl (by simpa using YA (YT)) rfl) Yz hsl7 (by show _*72<=_;omega) Zi (fun v8 Hs1 hO1=>⟨⟨hle7,Zx⟩,?_⟩));obtain ⟨Ao,co,rfl,_,_⟩:=hO1.form;refine Yb ?_;refine PoS.qk ⟨hle7,Zx⟩ (Yt XT ?_);unfold sxV;refine Yb ?_;refine Ye (Yc (cs:=[Zk 3,Zk 0,Zk 0,Zk 0,Ze,Zc Ao (1+3*n1) co]) (fun gc=>⟨⟨hle7,Zx⟩,?_⟩));refine Yb ?_;refine Ye (Does.freezeAll (H1:=(gc,_)::(g6,_)::(g1,_)::(g2,_)::(g4,_)::Hs) (H2:=Hs1) (Zr _) (fun fzb hle10 hf10=>?_));obtain ⟨A2x,c2x,he2,hsl9⟩:=hO1.sl hle10 hf10 Zi;injection he2 with x1 x2 x3
     subst x1 x3;refine YG (Hr:=(gc,_)::(g6,_)::(g1,_)::(g2,_):: [(g4,_)]) (d:=YK (Yi WH::YaA p.objects)) (Zr _) (hG.mono (hle7.trans hle10)) Yz (.head _) (Ym (Wl hsl9)) (fun v9 Hp9 hO9=>⟨⟨hle7.trans hle10,Zx⟩,?_⟩);obtain ⟨A9,c9,rfl,_,_⟩:=hO9.form;refine Yb ?_;refine PoS.hard0 (YX ?_);refine Po.done ?_;exact wN (h:=by exact ⟨4,_,Hp9,rfl,hle7.trans hle10,rfl,by omega,hO9.of (by rw [YlA hne]) rfl⟩)
    have hnil:YaA p.objects=[]:=List.eq_nil_of_length_eq_zero (by rw [YjZ];omega);exact wN (h:=by exact ⟨3,_,Hs,rfl,Zd,rfl,by omega,hG.of (by rw [hnil,YpI];simp) rfl⟩)
   rintro σ fz10 H' ⟨m1,v,Hs,rfl,hle10,rfl,hm1,hG⟩;obtain ⟨Av,cv,rfl,_,_⟩:=hG.form;refine zWX ?_;refine YN (Xe (fun σ fz' H'=>∃ (m:Nat) (v:Value) (Hs:HP),σ=[(6,Zp g6),(4,Zp g4),(2,Zp g2),(1,Zp g1)]/\Le fz10 fz'/\H'=(g6,lsO v)::(g1,Zu #[Zy p.name,Zy p.domain,Zc A1 n1 b1,Zc A2 n2 b2,Zc A3 n3 b3,Zy p.goal.op,Zy p.goal.name,Zc A4 n4 b4,Zc A5 n5 b5,Zc A6 n6 b6,Zc A7 n7 b7] 37)::(g2,Zu #[Zk 0,Zk 0,Zk 0,Zk 0,Ze,Zn] 148)::(g4,glO (Xf p.goal) (Zc A8 n8 b8))::Hs/\m<=5/\Grow YO 148 fz' v m Hs ([Yi YQ,YK [Yi XI,Yi p.name],YK [Yi YZ,Yi p.domain]]++grp WH (YaA p.objects)++grp Yho (p.init.map YaP++p.values.map valX))) ?_ ?_)
   ·have hleA:=(hle8.trans hle9).trans hle10;have i2m:=ii.mono hleA;have i3m:=iv.mono hleA;refine wC ?_ ?_<;>intro c2
    ·refine wc (Yaa (s:=Yho)) ?_;refine Yd (Yc (cs:=Yr Yho) (fun gb=>?_));refine zc XT ?_;refine zW ?_;intros;rename_i g7;refine Wp.perm (List.Perm.cons _ (List.perm_append_singleton _ ((g6,_)::(g1,_)::(g2,_)::(g4,_)::Hs))) ?_;refine Yn (fun q σ fz' H'=>∃ (k:Nat) (v7:Value) (Hi:HP),k<=n2/\q=n2 - k/\σ=[(72,Zk k),(71,Zk n2),(70,Zc A2 n2 b2),(7,Zp g7),(6,Zp g6),(4,Zp g4),(2,Zp g2),(1,Zp g1)]/\Le fz10 fz'/\H'=(g7,lsO v7)::(g6,lsO (Zc Av m1 cv))::(g1,Zu #[Zy p.name,Zy p.domain,Zc A1 n1 b1,Zc A2 n2 b2,Zc A3 n3 b3,Zy p.goal.op,Zy p.goal.name,Zc A4 n4 b4,Zc A5 n5 b5,Zc A6 n6 b6,Zc A7 n7 b7] 37)::(g2,Zu #[Zk 0,Zk 0,Zk 0,Zk 0,Ze,Zn] 148)::(g4,glO (Xf p.goal) (Zc A8 n8 b8))::(Hs++Hi)/\Grow YO 148 fz' v7 (k+1) Hi (Yi Yho::(p.init.take k).map YaP)) ⟨0,_,[_],Z0 _,rfl,rfl,Zd,rfl,Grow.block (ys:=[(Yi Yho,Yr Yho)]) rfl rfl (by simpa using YA (YT)) rfl⟩ Zw Zb ?_;rintro q σ fz' H' ⟨k,v7,Hi,hk,rfl,rfl,hle,rfl,hO⟩;obtain ⟨Ai,ci,rfl,_,_⟩:=hO.form;refine wC ?_ ?_<;>intro e1
     ·obtain ⟨x,hx⟩:=Yf (l:=p.init) (k:=k) Zi;have hxm:=Zm hx;have i2k:=i2m.mono hle;refine wI i2k hx (fun a ha=>?_);refine zL ha ?_;intro cs hcs;obtain ⟨va,rfl,hRx⟩:=Xy hcs;obtain ⟨Aa,na,ca,rfl,ia⟩:=hRx.args;refine zW ?_;intros;rename_i g9;refine Yay [] [(g9,_),(g7,_)] ?_;refine zW ?_;refine Yx (Yx (Yx ?_));refine zW ?_;refine pT ?_;refine Yb ?_;refine Ye (Yk [] _ Zz (Yf9 hRx (hs.inits x hxm)) (fun v7 fz7 H7 hle7 hR7=>?_));obtain ⟨rfl,cs7,rfl,hr7⟩:=hR7;obtain ⟨vk7,rfl,hX7⟩:=YJ (x:=YaP x) hr7;refine ⟨⟨hle7,Zx⟩,?_⟩;refine Yb ?_;refine Ye (Yc (cs:=[Zk (YaP x).kind,Zk (YaP x).value,Zk (YaP x).line,Zk (YaP x).column,Zy (YaP x).text,vk7]) (fun gc=>⟨⟨hle7,Zx⟩,?_⟩));refine Yb ?_;refine Ye (YG (Hr:=(gc,_)::(g9,_)::(g7,_)::(g6,_)::(g1,_)::(g2,_)::(g4,_)::Hs) (d:=YaP x) (Zr _) (hO.mono hle7) Yz (.head _) (Ym hX7) (fun v9 Hi9 hO9=>⟨⟨hle7,Zx⟩,?_⟩));obtain ⟨A9,c9,rfl,_,_⟩:=hO9.form;refine Yb ?_;refine PoS.hard0 (XK ?_);refine Po.done ?_;exact wP (h:=by exact ⟨k+1,_,Hi9,by omega,rfl,rfl,hle.trans hle7,rfl,hO9.of (by rw [List.take_add_one,hx];simp) rfl⟩)
     have hkn:n2=k:=by omega
     subst hkn;rw [Zl Zi] at hO;refine zW ?_;refine Yn (fun q σ fz'' H'=>∃ (j:Nat) (v7:Value) (Hi:HP),j<=n3/\q=n3 - j/\σ=[(87,Zk j),(86,Zk n3),(85,Zc A3 n3 b3),(7,Zp g7),(6,Zp g6),(4,Zp g4),(2,Zp g2),(1,Zp g1)]/\Le fz' fz''/\H'=(g7,lsO v7)::(g6,lsO (Zc Av m1 cv))::(g1,Zu #[Zy p.name,Zy p.domain,Zc A1 n1 b1,Zc A2 n2 b2,Zc A3 n3 b3,Zy p.goal.op,Zy p.goal.name,Zc A4 n4 b4,Zc A5 n5 b5,Zc A6 n6 b6,Zc A7 n7 b7] 37)::(g2,Zu #[Zk 0,Zk 0,Zk 0,Zk 0,Ze,Zn] 148)::(g4,glO (Xf p.goal) (Zc A8 n8 b8))::(Hs++Hi)/\Grow YO 148 fz'' v7 (n2+1+j) Hi (Yi Yho::p.init.map YaP++(p.values.take j).map valX)) ⟨0,_,Hi,Z0 _,rfl,rfl,Zd,rfl,hO.of (by simp) rfl⟩ Zw Zb ?_;rintro q σ fz'' H' ⟨j,v7,Hi,hj,rfl,rfl,hle5,rfl,hO⟩;obtain ⟨Ai,ci,rfl,_,_⟩:=hO.form;refine wC ?_ ?_<;>intro e2
     ·obtain ⟨x,hx⟩:=Yf (l:=p.values) (k:=j) Zi;have hxm:=Zm hx;have i3k:=i3m.mono (hle.trans hle5);refine wI i3k hx (fun a ha=>?_);refine zL ha ?_;intro cs hcs;obtain ⟨va,rfl,hRx⟩:=XM hcs;obtain ⟨Aa,na,ca,rfl,ia⟩:=hRx.fluent.args;refine zW ?_;intros;rename_i g9;refine Yay [] [(g9,_),(g7,_)] ?_;refine wc (Yaa (s:=kEq)) ?_;refine wG ?_;refine Yh (vs:=[Zy x.fluent.name,Zc Aa na ca]) 0 ?_;refine Yx ?_;refine zW ?_;unfold sxV;refine Yx (Yx (Yx (Yx ?_)));refine zW ?_;refine pT ?_;refine Yb ?_;refine Ye (Yk [] _ Zz (Yf9 hRx.fluent (hs.vals x hxm)) (fun v7 fz7 H7 hle7 hR7=>?_));obtain ⟨rfl,cs7,rfl,hr7⟩:=hR7;obtain ⟨vk7,rfl,hX7⟩:=YJ (x:=YaP x.fluent) hr7;refine ⟨⟨hle7,Zx⟩,?_⟩;refine Yb ?_;refine Ye (Yc (cs:=Yr kEq++([Zk (YaP x.fluent).kind,Zk (YaP x.fluent).value,Zk (YaP x.fluent).line,Zk (YaP x.fluent).column,Zy (YaP x.fluent).text,vk7]++ [Zk 2,Zk x.n,Zk 0,Zk 0,Ze,Zn])) (fun gb=>⟨⟨hle7,Zx⟩,?_⟩));refine Yb ?_;refine PoS.qk ⟨hle7,Zx⟩ (Yt XT ?_);unfold sxV;refine Yb ?_;refine Ye (Yc (cs:=[Zk 3,Zk 0,Zk 0,Zk 0,Ze,Zv gb 3 3]) (fun gc=>⟨⟨hle7,Zx⟩,?_⟩));refine Yb ?_;refine Ye (Does.freezeAll (H1:=(gc,_)::(g9,_)::(g7,_)::(g6,_)::(g1,_)::(g2,_)::(g4,_)::(Hs++Hi)) (H2:=[(gb,_)]) (List.Perm.cons _ (List.perm_append_singleton _ _).symm) (fun fzb hle10' hf10=>?_));have hrep:YO.rep fzb (valX x) [Zk 3,Zk 0,Zk 0,Zk 0,Ze,Zv gb 3 3]:=Ym (Wl (XC (ys:=[(Yi kEq,Yr kEq),(YaP x.fluent,[Zk (YaP x.fluent).kind,Zk (YaP x.fluent).value,Zk (YaP x.fluent).line,Zk (YaP x.fluent).column,Zy (YaP x.fluent).text,vk7]),(numE x.n,[Zk 2,Zk x.n,Zk 0,Zk 0,Ze,Zn])]) (hf10 _ (.head _)) rfl rfl (by intro p hp;simp only [List.mem_cons,List.not_mem_nil,or_false] at hp;rcases hp with rfl | rfl | rfl;exact YA (YT);exact Ym (hX7.mono hle10');exact Ym (Yj6 hRx.n)) rfl Zh));refine YG (Hr:=(gc,_)::(g9,_)::(g7,_)::(g6,_)::(g1,_)::(g2,_)::(g4,_)::Hs) (d:=valX x) (Zr _) (hO.mono (hle7.trans hle10')) Yz (.head _) hrep (fun v9 Hi9 hO9=>⟨⟨hle7.trans hle10',Zx⟩,?_⟩);obtain ⟨A9,c9,rfl,_,_⟩:=hO9.form;refine Yb ?_;refine PoS.hard0 (XK ?_);refine Po.done ?_;exact wP (h:=by exact ⟨j+1,_,Hi9,by omega,rfl,rfl,hle5.trans (hle7.trans hle10'),rfl,hO9.of (by rw [List.take_add_one,hx];simp) rfl⟩)
     have hjn:n3=j:=by omega
     subst hjn;rw [Zl Zi] at hO;refine Seq.freezeAll (H1:=(g7,_)::(g6,_)::(g1,_)::(g2,_)::(g4,_)::Hs) (H2:=Hi) (Zr _) (fun fzp hlp hfp=>?_);obtain ⟨A2x,c2x,he2,hslp⟩:=hO.sl hlp hfp Zi;injection he2 with x1 x2 x3
     subst x1 x3;have hleB:=(hle.trans hle5).trans hlp;have hne:p.init.map YaP++p.values.map valX≠ []:=fun h0=>by have:=congrArg List.length h0;simp only [List.length_append,List.length_map,List.length_nil] at this;omega
     refine zW ?_;refine Yd (Yc (cs:=[Zk 3,Zk 0,Zk 0,Zk 0,Ze,Zc Ai (n2+1+n3) ci]) (fun gc=>?_));refine Yd (YG (Hr:=(gc,_)::(g7,_)::(g6,_)::(g1,_)::(g2,_):: [(g4,_)]) (d:=YK (Yi Yho::p.init.map YaP++p.values.map valX)) (Zr _) (hG.mono hleB) Yz (.head _) (Ym (Wl hslp)) (fun v9 Hs9 hO9=>?_));obtain ⟨A9,c9,rfl,_,_⟩:=hO9.form;exact wN (h:=by exact ⟨m1+1,_,Hs9,rfl,hleB,rfl,by omega,hO9.of (by rw [YlA hne];simp) rfl⟩)
    have hi0:p.init=[]:=List.eq_nil_of_length_eq_zero Zi;have hv0:p.values=[]:=List.eq_nil_of_length_eq_zero Zi;exact wN (h:=by exact ⟨m1,_,Hs,rfl,Zd,rfl,by omega,hG.of (by rw [hi0,hv0];simp [YpI]) rfl⟩)
   rintro σ fz11 H' ⟨m2,v,Hs,rfl,hle11,rfl,hm2,hG⟩;obtain ⟨Av,cv,rfl,_,_⟩:=hG.form;have hleC:=(hle9.trans hle10).trans hle11;refine zWX ?_;refine YN (Xe (fun σ fz' H'=>∃ (m:Nat) (v:Value) (Hs:HP),σ=[(6,Zp g6),(4,Zp g4),(2,Zp g2),(1,Zp g1)]/\Le fz11 fz'/\H'=(g6,lsO v)::(g1,Zu #[Zy p.name,Zy p.domain,Zc A1 n1 b1,Zc A2 n2 b2,Zc A3 n3 b3,Zy p.goal.op,Zy p.goal.name,Zc A4 n4 b4,Zc A5 n5 b5,Zc A6 n6 b6,Zc A7 n7 b7] 37)::(g2,Zu #[Zk 0,Zk 0,Zk 0,Zk 0,Ze,Zn] 148)::(g4,glO (Xf p.goal) (Zc A8 n8 b8))::Hs/\m<=6/\Grow YO 148 fz' v m Hs ([Yi YQ,YK [Yi XI,Yi p.name],YK [Yi YZ,Yi p.domain]]++grp WH (YaA p.objects)++grp Yho (p.init.map YaP++p.values.map valX)++YnJ p.goal)) ?_ ?_)
   ·refine wC ?_ ?_<;>intro e1
    ·have hgo:YnJ p.goal=[YK [Yi Ydw,Xf p.goal]]:=if_neg (fun h0=>e1 h0.1);refine zW ?_;refine Yay [] [(g6,_),(g4,_)] ?_;refine wc (Yaa (s:=Ydw)) ?_;refine zW ?_;unfold sxV;refine Yx (Yx (Yx (Yx ?_)));refine zW ?_;refine pT ?_;refine Yb ?_;refine Ye (Yc (cs:=Yr Ydw++ [Zk (Xf p.goal).kind,Zk (Xf p.goal).value,Zk (Xf p.goal).line,Zk (Xf p.goal).column,Zy (Xf p.goal).text,Zc A8 n8 b8]) (fun gb=>⟨⟨Zd,Zx⟩,?_⟩));refine Yb ?_;refine PoS.qk ⟨Zd,Zx⟩ (Yt XT ?_);unfold sxV;refine Yb ?_;refine Ye (Yc (cs:=[Zk 3,Zk 0,Zk 0,Zk 0,Ze,Zv gb 2 2]) (fun gc=>⟨⟨Zd,Zx⟩,?_⟩));refine Yb ?_;refine Ye (Does.freezeAll (H1:=(gc,_)::(g6,_)::(g1,_)::(g2,_)::(g4,_)::Hs) (H2:=[(gb,_)]) (List.Perm.cons _ (List.perm_append_singleton _ _).symm) (fun fzb hlb hfb=>?_));have hrep:YO.rep fzb (YK [Yi Ydw,Xf p.goal]) [Zk 3,Zk 0,Zk 0,Zk 0,Ze,Zv gb 2 2]:=Ym (Wl (XC (ys:=[(Yi Ydw,Yr Ydw),(Xf p.goal,[Zk (Xf p.goal).kind,Zk (Xf p.goal).value,Zk (Xf p.goal).line,Zk (Xf p.goal).column,Zy (Xf p.goal).text,Zc A8 n8 b8])]) (hfb _ (.head _)) rfl rfl (by intro p hp;simp only [List.mem_cons,List.not_mem_nil,or_false] at hp;rcases hp with rfl | rfl;exact YA (YT);exact Ym (hX.mono (hleC.trans hlb))) rfl Zh));refine YG (Hr:=(gc,_)::(g6,_)::(g1,_)::(g2,_):: [(g4,_)]) (d:=YK [Yi Ydw,Xf p.goal]) (Zr _) (hG.mono hlb) Yz (.head _) hrep (fun v9 Hs9 hO9=>⟨⟨hlb,Zx⟩,?_⟩);obtain ⟨A9,c9,rfl,_,_⟩:=hO9.form;refine Yb ?_;refine PoS.hard0 (YX ?_);refine Po.done ?_;exact wN (h:=by exact ⟨m2+1,_,Hs9,rfl,hlb,rfl,by omega,hO9.of (by rw [hgo]) rfl⟩)
    refine wC ?_ ?_<;>intro e2
    ·have hgo:YnJ p.goal=[YK [Yi Ydw,Xf p.goal]]:=if_neg (fun h0=>by have:=i7.len;rw [h0.2] at this;simp at this;omega);refine zW ?_;refine Yay [] [(g6,_),(g4,_)] ?_;refine wc (Yaa (s:=Ydw)) ?_;refine zW ?_;unfold sxV;refine Yx (Yx (Yx (Yx ?_)));refine zW ?_;refine pT ?_;refine Yb ?_;refine Ye (Yc (cs:=Yr Ydw++ [Zk (Xf p.goal).kind,Zk (Xf p.goal).value,Zk (Xf p.goal).line,Zk (Xf p.goal).column,Zy (Xf p.goal).text,Zc A8 n8 b8]) (fun gb=>⟨⟨Zd,Zx⟩,?_⟩));refine Yb ?_;refine PoS.qk ⟨Zd,Zx⟩ (Yt XT ?_);unfold sxV;refine Yb ?_;refine Ye (Yc (cs:=[Zk 3,Zk 0,Zk 0,Zk 0,Ze,Zv gb 2 2]) (fun gc=>⟨⟨Zd,Zx⟩,?_⟩));refine Yb ?_;refine Ye (Does.freezeAll (H1:=(gc,_)::(g6,_)::(g1,_)::(g2,_)::(g4,_)::Hs) (H2:=[(gb,_)]) (List.Perm.cons _ (List.perm_append_singleton _ _).symm) (fun fzb hlb hfb=>?_));have hrep:YO.rep fzb (YK [Yi Ydw,Xf p.goal]) [Zk 3,Zk 0,Zk 0,Zk 0,Ze,Zv gb 2 2]:=Ym (Wl (XC (ys:=[(Yi Ydw,Yr Ydw),(Xf p.goal,[Zk (Xf p.goal).kind,Zk (Xf p.goal).value,Zk (Xf p.goal).line,Zk (Xf p.goal).column,Zy (Xf p.goal).text,Zc A8 n8 b8])]) (hfb _ (.head _)) rfl rfl (by intro p hp;simp only [List.mem_cons,List.not_mem_nil,or_false] at hp;rcases hp with rfl | rfl;exact YA (YT);exact Ym (hX.mono (hleC.trans hlb))) rfl Zh));refine YG (Hr:=(gc,_)::(g6,_)::(g1,_)::(g2,_):: [(g4,_)]) (d:=YK [Yi Ydw,Xf p.goal]) (Zr _) (hG.mono hlb) Yz (.head _) hrep (fun v9 Hs9 hO9=>⟨⟨hlb,Zx⟩,?_⟩);obtain ⟨A9,c9,rfl,_,_⟩:=hO9.form;refine Yb ?_;refine PoS.hard0 (YX ?_);refine Po.done ?_;exact wN (h:=by exact ⟨m2+1,_,Hs9,rfl,hlb,rfl,by omega,hO9.of (by rw [hgo]) rfl⟩)
    have hgo:YnJ p.goal=[]:=if_pos ⟨e1,List.eq_nil_of_length_eq_zero (by have:=i7.len;omega)⟩;exact wN (h:=by exact ⟨m2,_,Hs,rfl,Zd,rfl,by omega,hG.of (by rw [hgo];simp) rfl⟩)
   rintro σ fz12 H' ⟨m3,v,Hs,rfl,hle12,rfl,hm3,hG⟩;obtain ⟨Av,cv,rfl,_,_⟩:=hG.form;refine zW ?_;refine Seq.freezeAll (H1:=[(g6,_),(g1,_),(g2,_),(g4,_)]) (H2:=Hs) (Zr _) (fun fzr hlr hfr=>?_);obtain ⟨A2w,c2w,he5,hsl⟩:=hG.sl hlr hfr Zi;injection he5 with x1 x2 x3
   subst x1 x3;have hXX:=Wl hsl;refine zb (YfQ (x:=prbX p) hXX) (fun f2=>?_) (fun f2=>?_)
   ·have hY:FVal p.goal/\PrbOk p/\XVal (prbX p):=⟨hP,hE,Zt f2⟩;refine zW ?_;refine Ybk T (vs:=[.agg #[_,_,_,_,_,_],.nilIface]) ⟨⟨_,_,2,_,_,_,rfl,rfl,rfl,rfl,rfl,rfl⟩,rfl,trivial⟩ (fun fz3 hle3 hf3=>?_);exact ⟨rfl,_,_,by rw [if_pos hY];rfl,SxIs.mono hle3 ⟨_,rfl,Ym hXX⟩,fun _=>rfl⟩
   have hN:¬(FVal p.goal/\PrbOk p/\XVal (prbX p)):=fun h0=>Zf f2 h0.2.2
   refine zW ?_;refine Ybk T (vs:=[.agg #[_,_,_,_,_,_],_]) ⟨⟨_,_,2,_,_,_,rfl,rfl,rfl,rfl,rfl,rfl⟩,rfl,trivial⟩ (fun fz3 hle3 hf3=>?_);exact ⟨rfl,_,_,by rw [if_neg hN,YD Zh];rfl,Ycl,fun h0=>absurd h0 hN⟩
  have hN:¬(FVal p.goal/\PrbOk p/\XVal (prbX p)):=fun h0=>Zf f1 h0.2.1
  refine zW ?_;refine Ybk T (vs:=[.agg #[_,_,_,_,_,_],_]) ⟨⟨_,_,1,_,_,_,rfl,rfl,rfl,rfl,rfl,rfl⟩,rfl,trivial⟩ (fun fz3 hle3 hf3=>?_);exact ⟨rfl,_,_,by rw [if_neg hN,YD Zh];rfl,Ycl,fun h0=>absurd h0 hN⟩
 rw [if_neg hP];have hN:¬(FVal p.goal/\PrbOk p/\XVal (prbX p)):=fun h0=>hP h0.1
 refine zW ?_;intros;refine Ybk T (vs:=[.agg #[_,_,_,_,_,_],_]) ⟨⟨_,_,1,_,_,_,rfl,rfl,rfl,rfl,rfl,rfl⟩,rfl,trivial⟩ (fun fz3 hle3 hf3=>?_);exact ⟨rfl,_,_,by rw [if_neg hN,YD Zh];rfl,Ycl,fun h0=>absurd h0 hN⟩
theorem YfT:∀ {l:List Param} {seen:List Bs},repM seen l=none->(∀ x∈l,x.name ∉ seen)/\Once (fun q:Param=>q.name) l
 | [],_,_=>⟨by simp,fun i j x y _ h=>by simp at h⟩
 | x::r,seen,h=>by
  rw [repM] at h;by_cases hx:x.name∈seen
  ·rw [if_pos hx] at h;cases h
  rw [if_neg hx] at h;obtain ⟨h1,h2⟩:=YfT h;refine ⟨fun y hy=>?_,fun i j a b hij ha hb=>?_⟩
  ·rcases List.mem_cons.1 hy with rfl | hy
   ·exact hx
   exact fun h0=>h1 y hy (by simp [h0])
  cases j with
  | zero=>omega
  | succ j=>
   have hb':r[j]?=some b:=by simpa using hb
   cases i with
   | zero=>
    simp at ha;subst ha;have:=h1 b (Zm hb');exact fun e=>this (by simp [e])
   | succ i=>exact h2 i j a b Zi (by simpa using ha) hb'
theorem Ygw {f:α->Param} {nm:α->Bs} (hf:∀ x,(f x).name=nm x) {r:List Param} (h:Once (fun q:Param=>q.name) (l.map f++r)):Once nm l:=fun i j x y hij hx hy=>by
 have h1:=(Zg hx).1;have h2:=(Zg hy).1;have:=h i j (f x) (f y) hij (by rw [List.getElem?_append_left (by simpa using h1),List.getElem?_map,hx];rfl) (by rw [List.getElem?_append_left (by simpa using h2),List.getElem?_map,hy];rfl);rw [<- hf x,<- hf y];exact this
theorem YhQ {f:α->Param} {nm:α->Bs} (hf:∀ x,(f x).name=nm x) {r:List Param} (h:Once (fun q:Param=>q.name) (r++l.map f)):Once nm l:=fun i j x y hij hx hy=>by
 have:=h (r.length+i) (r.length+j) (f x) (f y) Zi (by rw [List.getElem?_append_right Zi,Nat.add_sub_cancel_left,List.getElem?_map,hx];rfl) (by rw [List.getElem?_append_right Zi,Nat.add_sub_cancel_left,List.getElem?_map,hy];rfl);rw [<- hf x,<- hf y];exact this
theorem Ynw (h:YaX d all=none):Once (·.name) d.predicates/\Once (·.name) d.functions/\Once (·.name) all/\Once (·.name) d.actions/\Once (·.name) d.duratives:=by
 unfold YaX at h;cases h0:repM [] (YgA d) with
 | some s=>rw [h0] at h;cases h
 | none=>
  rw [h0] at h;cases h1:repM [] (Yfw all) with
  | some s=>rw [h1] at h;cases h
  | none=>
   rw [h1] at h;have o0:=(YfT h0).2;have o1:=(YfT h1).2;have o2:=(YfT h).2;exact ⟨Ygw (f:=fun x:Predicate=>nmd XY x.name) (fun _=>rfl) o0,YhQ (f:=fun x:Function=>nmd XA x.name) (fun _=>rfl) o0,
    Ygw (r:=[]) (f:=fun x:Param=>nmd Ycn x.name) (fun _=>rfl) (by simpa [Yfw] using o1),Ygw (f:=fun x:Action=>nmd Ww x.name) (fun _=>rfl) o2,YhQ (f:=fun x:Durative=>nmd XB x.name) (fun _=>rfl) o2⟩
def Yep (f:Nat->Bs × Int):Nat->Nat->Bs × Int
 | 0,_=>(⟨#[]⟩,0)
 | n+1,k=>if (f k).2=0 then Yep f n (k+1) else f k
def Y4 (d:Domain) (p:Problem):Bs × Int:=
 if ¬(DomOk d/\XVal (domX d)) then (wDomainP,2)
 else if ¬(FVal p.goal/\PrbOk p/\XVal (prbX p)) then (YjB,2)
 else if LargeM d p (objsM d p) then (wLimitsP,5)
 else if newM d.types≠0 then (wTypesP,newM d.types)
 else Yep (stepM d (objsM d p) p) 8 0
structure ChkS (d:Domain) (p:Problem):Prop where
 dsm:DomSm d
 psm:PrbSm p
 wa:∀ a∈d.actions,actW a<=1000000000
 wd:∀ a∈d.duratives,durW a<=1000000000
 wg:fW p.goal<=1000000000
theorem YbD (h:Xk s):s.size<=1000:=Nat.le_trans h.2.2.1 Zh
theorem nms_of (h1:DomOk d) (h2:PrbOk p):NmS d (objsM d p) where
 p:=fun x hx=>YbD (h1.2.2.2.1 x hx).1
 f:=fun x hx=>YbD (h1.2.2.2.2.1 x hx).1
 o:=fun x hx=>by
  rcases List.mem_append.1 hx with hx | hx
  ·have:=(h1.2.2.1 x hx).1;exact YbD (by simpa using this)
  have:=(h2.2.2.1 x hx).1;exact YbD (by simpa using this)
 a:=fun x hx=>YbD (h1.2.2.2.2.2.1 x hx).1
 u:=fun x hx=>YbD (h1.2.2.2.2.2.2 x hx).1
theorem nums_of (h:XVal (domX d)):∀ f∈d.functions,YeC f.lo/\YeC f.hi:=fun f hf=>by
 have h1:YK (Yi YaL::d.functions.map funX)∈(domX d).kids:=by
  have hne:d.functions.map funX≠ []:=by intro h0;rw [List.map_eq_nil_iff] at h0;rw [h0] at hf;cases hf
  show _∈([Yi YQ,YK [Yi Xn,Yi d.name]]++grp Yfy (YaA d.types)++grp YaM (YaA d.constants)++grp Yac (d.predicates.map YiE)++grp YaL (d.functions.map funX)++d.actions.map actX++d.duratives.map durX);simp only [List.mem_append];refine .inl (.inl (.inr ?_));unfold grp;rw [if_neg hne];simp
 have h2:=Yl0 h h1;have h3:=Yf6 (k:=funX f) h2 (by simp;exact .inr ⟨f,hf,rfl⟩);exact ⟨num_ok (Yf6 h3 (by simp)),num_ok (Yf6 h3 (by simp))⟩
theorem YgE (h:¬LargeM d p (objsM d p)):LenS d (objsM d p)/\d.types.length<=64/\∀ f∈d.functions,f.params.length<=6:=by
 unfold LargeM at h;refine ⟨⟨?_,?_,?_,?_,?_⟩,?_,fun f hf=>?_⟩
 ·exact Classical.byContradiction fun h0=>h (.inr (.inr (.inl Zi)))
 ·exact Classical.byContradiction fun h0=>h (.inr (.inr (.inr (.inl Zi))))
 ·exact Classical.byContradiction fun h0=>h (.inl Zi)
 ·exact Classical.byContradiction fun h0=>h (.inr (.inr (.inr (.inr (.inl Zi)))))
 ·exact Classical.byContradiction fun h0=>h (.inr (.inr (.inr (.inr (.inr (.inl Zi))))))
 ·exact Classical.byContradiction fun h0=>h (.inr (.inl Zi))
 exact Classical.byContradiction fun h0=>h (.inr (.inr (.inr (.inr (.inr (.inr (.inr (.inr (.inl ⟨f,hf,by omega⟩)))))))))
theorem YiZ (hM:MaxF fz) (hD:DomainR fz d v1 v2 v3 v4 v5 v6) (hl:d.types.length<=64) (hok:∀ p∈d.types,Xk p.name/\YdE p.typ):
 GFn prog 34 [ZD d v1 v2 v3 v4 v5 v6] fz [] (fun v fz' H'=>H'=[]/\∃ vf,v=.tuple #[vf,errV (newM d.types)]/\(newM d.types=0->ForR fz' vf d.types)):=by
 obtain ⟨⟨A1,n1,b1,rfl,i1⟩,⟨A2,n2,b2,rfl,i2⟩,⟨A3,n3,b3,rfl,i3⟩,⟨A4,n4,b4,rfl,i4⟩,⟨A5,n5,b5,rfl,i5⟩,⟨A6,n6,b6,rfl,i6⟩⟩:=hD.sls;refine zF Tryz.func34 Tryz.ntmps34 (fun w0=>?_);refine pX (fun g2=>?_);refine vK (q:=tnew_q hM i1 hl hok) (h:=fun v6 fz6 H6 hle6 hR6=>?_);obtain ⟨rfl,vf,z,rfl,hv⟩:=hR6;exact vS (h:=by exact ⟨rfl,vf,rfl,hv⟩)
theorem ckR_mk {gc:Nat} {vf vg vo:Value} {Aa:Option Addr} {na ca:Nat} (hc:fz gc=some (ckO d p v1 v2 v3 v4 v5 v6 u1 u2 u3 u4 u5 u6 u7 vf vp vg vo (Zc Aa na ca))) (hD:DomainR fz d v1 v2 v3 v4 v5 v6) (hP:ProblemR fz p u1 u2 u3 u4 u5 u6 u7) (hall:Sl paramL fz Aa na ca all):
 CkR fz (Zp gc) d p all vf vp vg vo:=⟨gc,v1,v2,v3,v4,v5,v6,u1,u2,u3,u4,u5,u6,u7,Aa,na,ca,rfl,hc,hD,hP,hall⟩
theorem Yql (hM:MaxF fz) (hD:DomainR fz d v1 v2 v3 v4 v5 v6) (hP:ProblemR fz p u1 u2 u3 u4 u5 u6 u7) (hS:ChkS d p):
 QFn prog 33 [ZD d v1 v2 v3 v4 v5 v6,ZP p u1 u2 u3 u4 u5 u6 u7] fz (resV (Y4 d p)):=by
 obtain ⟨⟨A1,n1,b1,rfl,i1⟩,⟨A2,n2,b2,rfl,i2⟩,⟨A3,n3,b3,rfl,i3⟩,⟨A4,n4,b4,rfl,i4⟩,⟨A5,n5,b5,rfl,i5⟩,⟨A6,n6,b6,rfl,i6⟩⟩:=hD.sls;obtain ⟨⟨B1,m1,d1,rfl,j1⟩,⟨B2,m2,d2,rfl,j2⟩,⟨B3,m3,d3,rfl,j3⟩⟩:=hP.sls;obtain ⟨⟨B4,m4,d4,rfl,_⟩,⟨B5,m5,d5,rfl,_⟩,⟨B6,m6,d6,rfl,_⟩,⟨B7,m7,d7,rfl,_⟩⟩:=hP.goal.sls;refine qF Tryz.func33 Tryz.ntmps33 (fun w0=>?_);refine pX (fun g2=>?_);refine pY (fun g3=>?_);refine zWO ?_;refine vK (q:=dWrite_q hD hS.dsm) (h:=fun v6' fz6 H6 hle6 hR6=>?_);obtain ⟨rfl,u,y,rfl,⟨cs6,rfl,hr6⟩,_⟩:=hR6;obtain ⟨vk6,rfl,hx6⟩:=YJ hr6;obtain ⟨Ak6,nk6,ck6,rfl,_⟩:=hx6.kids;by_cases hdo:DomOk d/\XVal (domX d)
 ·rw [if_pos hdo,show errV 0=.nilIface from rfl];refine zV ?_;intros;refine wK (q:=pWrite_q (hP.mono hle6) hS.psm) (h:=fun v7' fz7 H7 hle7 hR7=>?_);obtain ⟨rfl,u',y',rfl,⟨cs7,rfl,hr7⟩,_⟩:=hR7;obtain ⟨vk7,rfl,hx7⟩:=YJ hr7;obtain ⟨Ak7,nk7,ck7,rfl,_⟩:=hx7.kids;by_cases hpo:FVal p.goal/\PrbOk p/\XVal (prbX p)
  ·rw [if_pos hpo,show errV 0=.nilIface from rfl];have hle67:=hle6.trans hle7;have hD7:=hD.mono hle67;have hP7:=hP.mono hle67;refine zWN ?_;intros;refine Y6 [_,_,_,_] ?_;refine zW ?_;refine pU ?_;refine Yg (Yk [] [_,_,_,_] Zz (Ybp hD7 hP7 hS.dsm.constants hS.psm.objects) (fun v8' fz8 H8 hle8 hR8=>⟨⟨hle8,Zx⟩,?_⟩));obtain ⟨Aa,ca,rfl,_,_⟩:=hR8.form;refine Ch.qk ⟨hle8,Zx⟩ (XH ?_);refine Yg (Ydv _ (fun gc=>⟨⟨hle8,Zx⟩,?_⟩));refine Ch.qk ⟨hle8,Zx⟩ (YR ?_);refine Ch.done ?_;refine Ydt ?_;refine Wp.freezeAll (H1:=(gc,_):: [_,_,_,_]) (H2:=H8) (List.Perm.cons _ Zq) (fun fz9 hle9 hf9=>?_);obtain ⟨Aa',ca',ea,hall⟩:=hR8.sl hle9 hf9 (by have:=hS.dsm.constants;have:=hS.psm.objects;omega);injection ea with ea1 ea2 ea3
   subst ea1;subst ea3;have hle89:=hle8.trans hle9;have hD9:=hD7.mono hle89;have hP9:=hP7.mono hle89;have hS9:∀ {vf:Value} {fz':FZ},Le fz9 fz'->fz' gc=some (ckO d p (Zc A1 n1 b1) (Zc A2 n2 b2) (Zc A3 n3 b3) (Zc A4 n4 b4) (Zc A5 n5 b5) (Zc A6 n6 b6) (Zc B1 m1 d1) (Zc B2 m2 d2) (Zc B3 m3 d3) (Zc B4 m4 d4) (Zc B5 m5 d5) (Zc B6 m6 d6) (Zc B7 m7 d7) vf (.map none) (.map none) (.map none) (Zc Aa (d.constants.length+p.objects.length) ca))->CkR fz' (Zp gc) d p (objsM d p) vf (.map none) (.map none) (.map none):=fun hl hg=>ckR_mk hg (hD9.mono hl) (hP9.mono hl) (hall.mono hl)
   refine vG ?_;refine Ycu (b:=decide (LargeM d p (objsM d p))) (fun fz' hl hf=>large_q (hS9 (vf:=.pointer none) hl (hf (gc,_) (by simp)))) (fun f1=>?_) (fun f1=>?_)
   ·have hlg:=Zt f1;exact vS (h:=by exact (by rw [Y4,if_neg (by simpa using hdo),if_neg (by simpa using hpo),if_pos hlg];rfl))
   have hlg:=Zf f1;obtain ⟨hL,hT64,hp6⟩:=YgE hlg;have hns:=nms_of hdo.1 hpo.2.1;have hM9:=hM.mono (hle67.trans hle89);have htok:∀ q∈d.types,Xk q.name/\YdE q.typ:=fun q hq=>by have:=hdo.1.2.1 q hq;exact ⟨by simpa using this.1,this.2⟩
   refine vK (q:=YiZ hM9 hD9 hT64 htok) (h:=fun v10' fz10 H10 hle10 hR10=>?_);obtain ⟨rfl,vf,rfl,hvf⟩:=hR10;by_cases hn0:newM d.types=0
   ·obtain ⟨gf,gm,evf,hf1,hf2⟩:=hvf hn0;subst evf;have hF:ForR fz10 (Zp gf) d.types:=⟨gf,gm,rfl,hf1,hf2⟩;have hle910:=hle10;rw [hn0,show errV 0=.nilIface from rfl];have hW:WFT d.types:=YiJ hn0 (fun q hq=>(YaV i1 q hq).2) hT64;have hck:Y4 d p=Yep (stepM d (objsM d p) p) 8 0:=by rw [Y4,if_neg (by simpa using hdo),if_neg (by simpa using hpo),if_neg hlg,if_neg (by simpa using hn0)]
    refine zV ?_;refine Yd (Yc (cs:=[Zk 0,Zk 1,Zk 2,Zk 3,Zk 4,Zk 5,Zk 6,Zk 7]) (fun gs=>?_));refine zV ?_;refine Yn (fun q σ fz' H'=>∃ k:Nat,k<=8/\q=8 - k/\σ=[(57,Zk k),(56,Zk 8),(55,Zv gs 8 8),(10,Zp gc)]/\((k<=5/\fz10=fz'/\H'=[(gs,Zu #[Zk 0,Zk 1,Zk 2,Zk 3,Zk 4,Zk 5,Zk 6,Zk 7] 3),(gc,ckO d p (Zc A1 n1 b1) (Zc A2 n2 b2) (Zc A3 n3 b3) (Zc A4 n4 b4) (Zc A5 n5 b5) (Zc A6 n6 b6) (Zc B1 m1 d1) (Zc B2 m2 d2) (Zc B3 m3 d3) (Zc B4 m4 d4) (Zc B5 m5 d5) (Zc B6 m6 d6) (Zc B7 m7 d7) (Zp gf) (.map none) (.map none) (.map none) (Zc Aa (d.constants.length+p.objects.length) ca))])\/(6<=k/\Le fz10 fz'/\H'=[(gs,Zu #[Zk 0,Zk 1,Zk 2,Zk 3,Zk 4,Zk 5,Zk 6,Zk 7] 3)]/\CkG fz' (Zp gc) d p (objsM d p)))/\(∀ i,i<k->(stepM d (objsM d p) p i).2=0)/\Y4 d p=Yep (stepM d (objsM d p) p) (8 - k) k) ⟨0,by omega,rfl,rfl,.inl ⟨by omega,rfl,rfl⟩,fun i hi=>absurd hi Zi,hck⟩ Zw Zb ?_;rintro q σ fz1 H' ⟨k,hk,rfl,rfl,hph,hst,hcm⟩;rcases hph with ⟨hk5,rfl,rfl⟩ | ⟨hk6,hl1,rfl,hG⟩
    ·refine vC ?_ ?_<;>intro c1
     ·rw [show 8 - k=(8 - (k+1))+1 from by omega,Yep] at hcm;refine zV ?_;obtain rfl | rfl | rfl | rfl | rfl | rfl:k=0\/k=1\/k=2\/k=3\/k=4\/k=5:=by omega
      ·refine zG ?_;refine XE T Zz Zz Zz Zz Zz Zz Zi Zi ?_;refine zG ?_;refine Yw 0 ?_ (hv:=by exact rfl);refine vG ?_;refine WF (v:=resV (stepM d (objsM d p) p 0)) (fun fz' hl hf=>stepA0_q (hS9 (vf:=Zp gf) (hle10.trans hl) (hf (gc,_) (by simp [ckO]))) hns hL) ?_;generalize hgs:stepM d (objsM d p) p 0=st at hcm;obtain ⟨pl,ec⟩:=st;rw [show resV (pl,ec)=.tuple #[Zy pl,errV ec] from rfl];by_cases hz:ec=0
       ·subst hz;rw [show errV 0=.nilIface from rfl];refine zV ?_;exact Ws ⟨0+1,by omega,rfl,rfl,.inl ⟨by omega,rfl,rfl⟩,fun i hi=>by
         by_cases hi2:i=0
         ·subst hi2;rw [hgs]
         exact hst i Zi,by rw [hcm,if_pos rfl]⟩ Zi Zw Zb
       rw [YD hz];exact vS (h:=by exact (by rw [hcm,if_neg hz,resV,YD hz];rfl))
      ·refine zG ?_;refine XE T Zz Zz Zz Zz Zz Zz Zi Zi ?_;refine zG ?_;refine Yw 0 ?_ (hv:=by exact rfl);refine vG ?_;refine WF (v:=resV (stepM d (objsM d p) p 1)) (fun fz' hl hf=>stepA1_q (hS9 (vf:=Zp gf) (hle10.trans hl) (hf (gc,_) (by simp [ckO]))) hns) ?_;generalize hgs:stepM d (objsM d p) p 1=st at hcm;obtain ⟨pl,ec⟩:=st;rw [show resV (pl,ec)=.tuple #[Zy pl,errV ec] from rfl];by_cases hz:ec=0
       ·subst hz;rw [show errV 0=.nilIface from rfl];refine zV ?_;exact Ws ⟨1+1,by omega,rfl,rfl,.inl ⟨by omega,rfl,rfl⟩,fun i hi=>by
         by_cases hi2:i=1
         ·subst hi2;rw [hgs]
         exact hst i Zi,by rw [hcm,if_pos rfl]⟩ Zi Zw Zb
       rw [YD hz];exact vS (h:=by exact (by rw [hcm,if_neg hz,resV,YD hz];rfl))
      ·refine zG ?_;refine XE T Zz Zz Zz Zz Zz Zz Zi Zi ?_;refine zG ?_;refine Yw 0 ?_ (hv:=by exact rfl);refine vG ?_;refine WF (v:=resV (stepM d (objsM d p) p 2)) (fun fz' hl hf=>stepA2_q (hS9 (vf:=Zp gf) (hle10.trans hl) (hf (gc,_) (by simp [ckO]))) (hF.mono hl) hns) ?_;generalize hgs:stepM d (objsM d p) p 2=st at hcm;obtain ⟨pl,ec⟩:=st;rw [show resV (pl,ec)=.tuple #[Zy pl,errV ec] from rfl];by_cases hz:ec=0
       ·subst hz;rw [show errV 0=.nilIface from rfl];refine zV ?_;exact Ws ⟨2+1,by omega,rfl,rfl,.inl ⟨by omega,rfl,rfl⟩,fun i hi=>by
         by_cases hi2:i=2
         ·subst hi2;rw [hgs]
         exact hst i Zi,by rw [hcm,if_pos rfl]⟩ Zi Zw Zb
       rw [YD hz];exact vS (h:=by exact (by rw [hcm,if_neg hz,resV,YD hz];rfl))
      ·refine zG ?_;refine XE T Zz Zz Zz Zz Zz Zz Zi Zi ?_;refine zG ?_;refine Yw 0 ?_ (hv:=by exact rfl);refine vG ?_;refine WF (v:=resV (stepM d (objsM d p) p 3)) (fun fz' hl hf=>stepA3_q (hS9 (vf:=Zp gf) (hle10.trans hl) (hf (gc,_) (by simp [ckO]))) hns) ?_;generalize hgs:stepM d (objsM d p) p 3=st at hcm;obtain ⟨pl,ec⟩:=st;rw [show resV (pl,ec)=.tuple #[Zy pl,errV ec] from rfl];by_cases hz:ec=0
       ·subst hz;rw [show errV 0=.nilIface from rfl];refine zV ?_;exact Ws ⟨3+1,by omega,rfl,rfl,.inl ⟨by omega,rfl,rfl⟩,fun i hi=>by
         by_cases hi2:i=3
         ·subst hi2;rw [hgs]
         exact hst i Zi,by rw [hcm,if_pos rfl]⟩ Zi Zw Zb
       rw [YD hz];exact vS (h:=by exact (by rw [hcm,if_neg hz,resV,YD hz];rfl))
      ·refine zG ?_;refine XE T Zz Zz Zz Zz Zz Zz Zi Zi ?_;refine zG ?_;refine Yw 0 ?_ (hv:=by exact rfl);refine vG ?_;refine WF (v:=resV (stepM d (objsM d p) p 4)) (fun fz' hl hf=>stepA4_q (hS9 (vf:=Zp gf) (hle10.trans hl) (hf (gc,_) (by simp [ckO]))) hns (nums_of hdo.2)) ?_;generalize hgs:stepM d (objsM d p) p 4=st at hcm;obtain ⟨pl,ec⟩:=st;rw [show resV (pl,ec)=.tuple #[Zy pl,errV ec] from rfl];by_cases hz:ec=0
       ·subst hz;rw [show errV 0=.nilIface from rfl];refine zV ?_;exact Ws ⟨4+1,by omega,rfl,rfl,.inl ⟨by omega,rfl,rfl⟩,fun i hi=>by
         by_cases hi2:i=4
         ·subst hi2;rw [hgs]
         exact hst i Zi,by rw [hcm,if_pos rfl]⟩ Zi Zw Zb
       rw [YD hz];exact vS (h:=by exact (by rw [hcm,if_neg hz,resV,YD hz];rfl))
      have hno:YaX d (objsM d p)=none:=by
       have:=hst 0 Zi;unfold stepM at this;cases hn9:YaX d (objsM d p) with
       | none=>rfl
       | some s=>rw [hn9] at this;cases this
      obtain ⟨o1,o2,o3,_,_⟩:=Ynw hno;refine zG ?_;refine XE T Zz Zz Zz Zz Zz Zz Zi Zi ?_;refine zG ?_;refine Yw 0 ?_ (hv:=by exact rfl);refine zV ?_
      first | refine Wp.perm (List.Perm.swap _ _ _) ?_ | refine Seq.perm (List.Perm.swap _ _ _) ?_
      refine Yd (Yk [_] [_] Zz (stepA5_f (hD9.mono hle10) (hP9.mono hle10) (hall.mono hle10) hF hW o1 o2 o3 hns hS.wa hS.wd) (fun v11' fz11 H11 hle11 hR11=>?_));obtain ⟨rfl,rfl,hG⟩:=hR11;generalize hgs:stepM d (objsM d p) p 5=st at hcm;obtain ⟨pl,ec⟩:=st;rw [show resV (pl,ec)=.tuple #[Zy pl,errV ec] from rfl];by_cases hz:ec=0
      ·subst hz;rw [show errV 0=.nilIface from rfl];refine zV ?_;exact Ws ⟨5+1,by omega,rfl,rfl,.inr ⟨by omega,hle11,rfl,hG⟩,fun i hi=>by
        by_cases hi2:i=5
        ·subst hi2;rw [hgs]
        exact hst i Zi,by rw [hcm,if_pos rfl]⟩ Zi Zw Zb
      rw [YD hz];exact vS (h:=by exact (by rw [hcm,if_neg hz,resV,YD hz];rfl))
     omega
    refine vC ?_ ?_<;>intro c1
    ·rw [show 8 - k=(8 - (k+1))+1 from by omega,Yep] at hcm;refine zV ?_;obtain rfl | rfl:k=6\/k=7:=by omega
     ·refine zG ?_;refine XE T Zz Zz Zz Zz Zz Zz Zi Zi ?_;refine zG ?_;refine Yw 0 ?_ (hv:=by exact rfl);refine vG ?_;refine Yt (stepA6_q hG hns (fun f hf=>by have:=hp6 f hf;omega) (fun x hx=>by have:=(hpo.2.1.2.2.2.1 x hx).1;exact ⟨YbD this.1,fun a ha=>YbD (this.2 a ha)⟩) (by have:=hL.o;omega)) ?_;generalize hgs:stepM d (objsM d p) p 6=st at hcm;obtain ⟨pl,ec⟩:=st;rw [show resV (pl,ec)=.tuple #[Zy pl,errV ec] from rfl];by_cases hz:ec=0
      ·subst hz;rw [show errV 0=.nilIface from rfl];refine zV ?_;exact Ws ⟨6+1,by omega,rfl,rfl,.inr ⟨by omega,hl1,rfl,hG⟩,fun i hi=>by
        by_cases hi2:i=6
        ·subst hi2;rw [hgs]
        exact hst i Zi,by rw [hcm,if_pos rfl]⟩ Zi Zw Zb
      rw [YD hz];exact vS (h:=by exact (by rw [hcm,if_neg hz,resV,YD hz];rfl))
     refine zG ?_;refine XE T Zz Zz Zz Zz Zz Zz Zi Zi ?_;refine zG ?_;refine Yw 0 ?_ (hv:=by exact rfl);refine vc (stepA7_q hG hS.wg) ?_;generalize hgs:stepM d (objsM d p) p 7=st at hcm;obtain ⟨pl,ec⟩:=st;rw [show resV (pl,ec)=.tuple #[Zy pl,errV ec] from rfl];by_cases hz:ec=0
     ·subst hz;rw [show errV 0=.nilIface from rfl];refine zV ?_;exact Ws ⟨7+1,by omega,rfl,rfl,.inr ⟨by omega,hl1,rfl,hG⟩,fun i hi=>by
       by_cases hi2:i=7
       ·subst hi2;rw [hgs]
       exact hst i Zi,by rw [hcm,if_pos rfl]⟩ Zi Zw Zb
     rw [YD hz];exact vS (h:=by exact (by rw [hcm,if_neg hz,resV,YD hz];rfl))
    have hk8:k=8:=by omega
    subst hk8;exact vS (h:=by rw [hcm];rfl)
   rw [YD hn0];exact vS (h:=by exact (by rw [Y4,if_neg (by simpa using hdo),if_neg (by simpa using hpo),if_neg hlg,if_pos hn0,resV,YD hn0];rfl))
  rw [if_neg hpo,show errV 2=.iface 88 (Zk 2) from rfl];refine zV ?_;intros;exact wS (h:=by exact (by rw [Y4,if_neg (by simpa using hdo),if_pos hpo];rfl))
 rw [if_neg hdo,show errV 2=.iface 88 (Zk 2) from rfl];refine zV ?_;intros;exact wS (h:=by exact (by rw [Y4,if_pos hdo];rfl))
def Yhi (nm:Bs) (c:Change):Prop:=(c.kind=1\/c.kind=2)/\c.name=nm
def Ym9 (nm:Bs) (a:Action):Prop:=∃ c∈a.changes,Yhi nm c
def YqC (nm:Bs) (a:Durative):Prop:=(∃ c∈a.atStart,Yhi nm c)\/∃ c∈a.atEnd,Yhi nm c
def chgM (d:Domain) (nm:Bs):Bool:=decide ((∃ a∈d.actions,Ym9 nm a)\/∃ a∈d.duratives,YqC nm a)
theorem stat11_q {nm:Bs} {x:Change} {g1:Nat} {t1:TypeId} (hc:changeL.rep fz x cs) (h1:fz g1=some (.cells #[Zy nm] t1 (0,0))):
 QFn prog 79 [.agg cs.toArray,Zp g1] fz (Zo (decide (Yhi nm x))):=by
 obtain ⟨u1,u2,u3,u4,u5,u6,u7,u8,rfl,hR⟩:=Xb hc;obtain ⟨A1,n1,c1',rfl,_⟩:=id hR.params;obtain ⟨⟨A2,n2,c2',rfl,_⟩,⟨A3,n3,c3',rfl,_⟩,⟨A4,n4,c4',rfl,_⟩,⟨A5,n5,c5',rfl,_⟩⟩:=id hR.when_.sls;obtain ⟨A6,n6,c6',rfl,_⟩:=id hR.args;obtain ⟨⟨A7,n7,c7',rfl,_⟩,⟨A8,n8,c8',rfl,_⟩⟩:=id hR.value.sls;refine qF Tryz.func79 Tryz.ntmps79 (fun w0=>?_);refine pX (fun g2=>?_);by_cases w1:x.kind=1
 ·by_cases w2:x.name=nm
  ·subst w2;refine wC ?_ ?_<;>intro e1
   ·exact wR (h:=by rw [decide_eq_true ⟨.inl w1,rfl⟩])
   exact absurd rfl e1
  exact wR (h:=by rw [decide_eq_false (fun h=>w2 h.2)])
 by_cases w3:x.kind=2
 ·by_cases w2:x.name=nm
  ·subst w2;refine wC ?_ ?_<;>intro e1
   ·exact wR (h:=by rw [decide_eq_true ⟨.inr w3,rfl⟩])
   exact absurd rfl e1
  exact wR (h:=by rw [decide_eq_false (fun h=>w2 h.2)])
 exact wR (h:=by rw [decide_eq_false (fun h=>h.1.elim w1 w3)])
theorem Ylc {nm:Bs} {l:List Change} {g1:Nat} {t1:TypeId} (hl:IsSl changeL fz v l) (h1:fz g1=some (.cells #[Zy nm] t1 (0,0))):
 QFn prog 77 [v,Zp g1] fz (Zo (decide (∃ c∈l,Yhi nm c))):=by
 obtain ⟨A,n,c,rfl,hs⟩:=hl;refine qF Tryz.func77 Tryz.ntmps77 (fun w0=>?_);refine wG ?_;refine Y0 ?_
 ((refine zG ?_);refine Yt (YaN (cap:=[Zp g1]) (p:=Yhi nm) hs (fun x hx cs hcs=>stat11_q hcs h1)) ?_);exact wR (h:=rfl)
theorem stat2_q {nm:Bs} {x:Action} {g1 g5:Nat} {t1 t5:TypeId} (hc:actionL.rep fz x cs) (h1:fz g1=some (.cells #[Zy nm] t1 (0,0))) (h5:fz g5=some (.cells #[.func (.func 77) #[] #[Zp g1]] t5 (0,0))):
 QFn prog 81 [.agg cs.toArray,Zp g5] fz (Zo (decide (Ym9 nm x))):=by
 obtain ⟨u1,u2,u3,u4,u5,u6,rfl,hR⟩:=Xd hc;obtain ⟨A1,n1,c1',rfl,_⟩:=id hR.params;obtain ⟨⟨A2,n2,c2',rfl,_⟩,⟨A3,n3,c3',rfl,_⟩,⟨A4,n4,c4',rfl,_⟩,⟨A5,n5,c5',rfl,_⟩⟩:=id hR.pre.sls;obtain ⟨A6,n6,c6',rfl,ic⟩:=id hR.changes;refine qF Tryz.func81 Tryz.ntmps81 (fun w0=>?_);refine pX (fun g2=>?_);refine wG ?_;refine Ybn (first:=[]) (capt:=[Zp g1]) (Ylc ic.is h1) ?_;exact wR (h:=by congr 1;exact decide_eq_decide.2 Iff.rfl)
theorem stat3_q {nm:Bs} {x:Durative} {g1 g5:Nat} {t1 t5:TypeId} (hc:durativeL.rep fz x cs) (h1:fz g1=some (.cells #[Zy nm] t1 (0,0))) (h5:fz g5=some (.cells #[.func (.func 77) #[] #[Zp g1]] t5 (0,0))):
 QFn prog 83 [.agg cs.toArray,Zp g5] fz (Zo (decide (YqC nm x))):=by
 obtain ⟨u0,u1,u2,u3,u4,u5,u6,u7,u8,u9,u10,u11,u12,u13,u14,rfl,hR⟩:=XJ hc;obtain ⟨B0,m0,d0,rfl,ip⟩:=id hR.params;obtain ⟨⟨B1,m1,d1,rfl,_⟩,⟨B2,m2,d2,rfl,_⟩,⟨B3,m3,d3,rfl,_⟩,⟨B4,m4,d4,rfl,_⟩⟩:=id hR.start.sls;obtain ⟨⟨B5,m5,d5,rfl,_⟩,⟨B6,m6,d6,rfl,_⟩,⟨B7,m7,d7,rfl,_⟩,⟨B8,m8,d8,rfl,_⟩⟩:=id hR.over.sls;obtain ⟨⟨B9,m9,d9,rfl,_⟩,⟨B10,m10,d10,rfl,_⟩,⟨B11,m11,d11,rfl,_⟩,⟨B12,m12,d12,rfl,_⟩⟩:=id hR.fin.sls;obtain ⟨B13,m13,d13,rfl,ias⟩:=id hR.atStart;obtain ⟨B14,m14,d14,rfl,iae⟩:=id hR.atEnd;refine qF Tryz.func83 Tryz.ntmps83 (fun w0=>?_);refine pX (fun g2=>?_);refine wG ?_;refine Ybn (first:=[]) (capt:=[Zp g1]) (Ylc ias.is h1) ?_;by_cases w:∃ c∈x.atStart,Yhi nm c
 ·rw [decide_eq_true w];exact wR (h:=by rw [decide_eq_true (.inl w)])
 rw [decide_eq_false w];refine wG ?_;refine Ybn (first:=[]) (capt:=[Zp g1]) (Ylc iae.is h1) ?_;exact wR (h:=by congr 1;exact decide_eq_decide.2 ⟨.inr,fun h=>h.resolve_left w⟩)
theorem static_q {nm:Bs} (hD:DomainR fz d v1 v2 v3 v4 v5 v6):
 QFn prog 45 [ZD d v1 v2 v3 v4 v5 v6,Zy nm] fz (Zo (!chgM d nm)):=by
 obtain ⟨⟨A1,n1,b1,rfl,i1⟩,⟨A2,n2,b2,rfl,i2⟩,⟨A3,n3,b3,rfl,i3⟩,⟨A4,n4,b4,rfl,i4⟩,⟨A5,n5,b5,rfl,i5⟩,⟨A6,n6,b6,rfl,i6⟩⟩:=hD.sls;refine qF Tryz.func45 Tryz.ntmps45 (fun w0=>?_);refine pX (fun g2=>?_);refine pY (fun g3=>?_);refine wG ?_;refine Y0 ?_;refine zW ?_;intros;refine zG ?_;refine Y0 ?_;refine zG ?_;refine Ycu (fun fz' hle hf=>Ycb (p:=Ym9 nm) (i5.mono hle) (fun x hx cs hcs=>stat2_q hcs (hf _ (.tail _ (.head _))) (hf _ (.head _)))) (fun f1=>?_) (fun f1=>?_)
 ·exact wR (h:=by rw [chgM,decide_eq_true (.inl (Zt f1))];try rfl)
 refine wG ?_;refine Y0 ?_;refine zG ?_;refine Ycu (fun fz' hle hf=>Ybw (p:=YqC nm) (i6.mono hle) (fun x hx cs hcs=>stat3_q hcs (hf _ (.tail _ (.head _))) (hf _ (.head _)))) (fun f2=>?_) (fun f2=>?_)
 ·exact wR (h:=by rw [chgM,decide_eq_true (.inr (Zt f2))];try rfl)
 exact wR (h:=by rw [chgM,decide_eq_false (fun h=>h.elim (Zf f1) (Zf f2))];try rfl)
end Go.Proofs.YtbdpaoikccabhaaGreatDoor
namespace Go.Proofs
open Go.Shelf
def Yfl:Go.Shelf.Ren:=⟨fun | 6=>40 | 15=>72 | 14=>71 | 28=>162 | 29=>163 | 20=>154 | 21=>155 | 22=>156 | 23=>157 | 24=>158 | 25=>159 | 26=>160 | 27=>161 | 46=>215 | 47=>216 | 48=>217 | 49=>218 | 50=>219 | 57=>254 | n=>n,fun | 22=>29 | 24=>59 | 25=>95 | 3=>3 | 39=>167 | 0=>0 | 53=>242 | 55=>244 | 4=>4 | 46=>236 | 45=>235 | 50=>196 | 5=>5 | 9=>9 | 66=>285 | 70=>271 | 76=>317 | 77=>318 | n=>n,fun | n=>n⟩
theorem Ya9:Go.Proofs.SlLaysF0.n6 Tryz.prog Yfl:={
 mixed:=by kernel_rfl
 f6:=⟨Tryz.f40.name,by decide,Tryz.func40.trans (congrArg some (by kernel_rfl))⟩
 f14:=⟨Tryz.f71.name,by decide,Tryz.func71.trans (congrArg some (by kernel_rfl))⟩
 f15:=Tryz.func72.trans (congrArg some (by kernel_rfl))
 f20:=⟨Tryz.f154.name,by decide,Tryz.func154.trans (congrArg some (by kernel_rfl))⟩
 f21:=⟨Tryz.f155.name,by decide,Tryz.func155.trans (congrArg some (by kernel_rfl))⟩
 f22:=⟨Tryz.f156.name,by decide,Tryz.func156.trans (congrArg some (by kernel_rfl))⟩
 f23:=⟨Tryz.f157.name,by decide,Tryz.func157.trans (congrArg some (by kernel_rfl))⟩
 f24:=⟨Tryz.f158.name,by decide,Tryz.func158.trans (congrArg some (by kernel_rfl))⟩
 f25:=⟨Tryz.f159.name,by decide,Tryz.func159.trans (congrArg some (by kernel_rfl))⟩
 f26:=⟨Tryz.f160.name,by decide,Tryz.func160.trans (congrArg some (by kernel_rfl))⟩
 f27:=⟨Tryz.f161.name,by decide,Tryz.func161.trans (congrArg some (by kernel_rfl))⟩
 f28:=Tryz.func162.trans (congrArg some (by kernel_rfl))
 f29:=Tryz.func163.trans (congrArg some (by kernel_rfl))
 f46:=⟨Tryz.f215.name,by decide,Tryz.func215.trans (congrArg some (by kernel_rfl))⟩
 f47:=Tryz.func216.trans (congrArg some (by kernel_rfl))
 f48:=Tryz.func217.trans (congrArg some (by kernel_rfl))
 f49:=⟨Tryz.f218.name,by decide,Tryz.func218.trans (congrArg some (by kernel_rfl))⟩
 f50:=⟨Tryz.f219.name,by decide,Tryz.func219.trans (congrArg some (by kernel_rfl))⟩
 f57:=⟨Tryz.f254.name,by decide,Tryz.func254.trans (congrArg some (by kernel_rfl))⟩
 t0:=Tryz.underlying0
 a0:=Tryz.isAgg0
 z0:=Tryz.sizeOf0
 v0:=Tryz.zeroValue0
 t3:=Tryz.underlying3
 a3:=Tryz.isAgg3
 z3:=Tryz.sizeOf3
 v3:=Tryz.zeroValue3
 t4:=Tryz.underlying4
 a4:=Tryz.isAgg4
 z4:=Tryz.sizeOf4
 v4:=Tryz.zeroValue4
 t5:=Tryz.underlying5
 a5:=Tryz.isAgg5
 z5:=Tryz.sizeOf5
 v5:=Tryz.zeroValue5
 t9:=Tryz.underlying9
 a9:=Tryz.isAgg9
 z9:=Tryz.sizeOf9
 v9:=Tryz.zeroValue9
 t22:=Tryz.underlying29
 a22:=Tryz.isAgg29
 z22:=Tryz.sizeOf29
 v22:=Tryz.zeroValue29
 t25:=Tryz.underlying95
 a25:=Tryz.isAgg95
 z25:=Tryz.sizeOf95
 v25:=Tryz.zeroValue95
 t39:=Tryz.underlying167
 a39:=Tryz.isAgg167
 z39:=Tryz.sizeOf167
 v39:=Tryz.zeroValue167
 t45:=Tryz.underlying235
 a45:=Tryz.isAgg235
 z45:=Tryz.sizeOf235
 v45:=Tryz.zeroValue235
 t46:=Tryz.underlying236
 a46:=Tryz.isAgg236
 z46:=Tryz.sizeOf236
 v46:=Tryz.zeroValue236
 t50:=Tryz.underlying196
 a50:=Tryz.isAgg196
 z50:=Tryz.sizeOf196
 v50:=Tryz.zeroValue196
 t53:=Tryz.underlying242
 a53:=Tryz.isAgg242
 z53:=Tryz.sizeOf242
 v53:=Tryz.zeroValue242
 t55:=Tryz.underlying244
 a55:=Tryz.isAgg244
 z55:=Tryz.sizeOf244
 v55:=Tryz.zeroValue244
 t66:=Tryz.underlying285
 a66:=Tryz.isAgg285
 z66:=Tryz.sizeOf285
 v66:=Tryz.zeroValue285
 t70:=Tryz.underlying271
 a70:=Tryz.isAgg271
 z70:=Tryz.sizeOf271
 v70:=Tryz.zeroValue271
 t76:=Tryz.underlying317
 a76:=Tryz.isAgg317
 z76:=Tryz.sizeOf317
 v76:=Tryz.zeroValue317
 t77:=Tryz.underlying318
 a77:=Tryz.isAgg318
 z77:=Tryz.sizeOf318
 v77:=Tryz.zeroValue318}
def YeB:Go.Shelf.Ren:=⟨fun | 6=>43 | 15=>72 | 14=>76 | 28=>162 | 29=>163 | 20=>165 | 21=>166 | 22=>167 | 23=>168 | 24=>169 | 25=>170 | 26=>171 | 27=>172 | 46=>220 | 47=>216 | 48=>217 | 49=>221 | 50=>222 | 57=>255 | n=>n,fun | 22=>30 | 24=>117 | 25=>124 | 3=>3 | 39=>167 | 0=>0 | 53=>242 | 55=>244 | 4=>4 | 46=>236 | 45=>235 | 50=>196 | 5=>5 | 9=>9 | 66=>285 | 70=>271 | 76=>317 | 77=>318 | n=>n,fun | n=>n⟩
theorem YdF:Go.Proofs.SlLaysF0.n6 Tryz.prog YeB:={
 mixed:=by kernel_rfl
 f6:=⟨Tryz.f43.name,by decide,Tryz.func43.trans (congrArg some (by kernel_rfl))⟩
 f14:=⟨Tryz.f76.name,by decide,Tryz.func76.trans (congrArg some (by kernel_rfl))⟩
 f15:=Tryz.func72.trans (congrArg some (by kernel_rfl))
 f20:=⟨Tryz.f165.name,by decide,Tryz.func165.trans (congrArg some (by kernel_rfl))⟩
 f21:=⟨Tryz.f166.name,by decide,Tryz.func166.trans (congrArg some (by kernel_rfl))⟩
 f22:=⟨Tryz.f167.name,by decide,Tryz.func167.trans (congrArg some (by kernel_rfl))⟩
 f23:=⟨Tryz.f168.name,by decide,Tryz.func168.trans (congrArg some (by kernel_rfl))⟩
 f24:=⟨Tryz.f169.name,by decide,Tryz.func169.trans (congrArg some (by kernel_rfl))⟩
 f25:=⟨Tryz.f170.name,by decide,Tryz.func170.trans (congrArg some (by kernel_rfl))⟩
 f26:=⟨Tryz.f171.name,by decide,Tryz.func171.trans (congrArg some (by kernel_rfl))⟩
 f27:=⟨Tryz.f172.name,by decide,Tryz.func172.trans (congrArg some (by kernel_rfl))⟩
 f28:=Tryz.func162.trans (congrArg some (by kernel_rfl))
 f29:=Tryz.func163.trans (congrArg some (by kernel_rfl))
 f46:=⟨Tryz.f220.name,by decide,Tryz.func220.trans (congrArg some (by kernel_rfl))⟩
 f47:=Tryz.func216.trans (congrArg some (by kernel_rfl))
 f48:=Tryz.func217.trans (congrArg some (by kernel_rfl))
 f49:=⟨Tryz.f221.name,by decide,Tryz.func221.trans (congrArg some (by kernel_rfl))⟩
 f50:=⟨Tryz.f222.name,by decide,Tryz.func222.trans (congrArg some (by kernel_rfl))⟩
 f57:=⟨Tryz.f255.name,by decide,Tryz.func255.trans (congrArg some (by kernel_rfl))⟩
 t0:=Tryz.underlying0
 a0:=Tryz.isAgg0
 z0:=Tryz.sizeOf0
 v0:=Tryz.zeroValue0
 t3:=Tryz.underlying3
 a3:=Tryz.isAgg3
 z3:=Tryz.sizeOf3
 v3:=Tryz.zeroValue3
 t4:=Tryz.underlying4
 a4:=Tryz.isAgg4
 z4:=Tryz.sizeOf4
 v4:=Tryz.zeroValue4
 t5:=Tryz.underlying5
 a5:=Tryz.isAgg5
 z5:=Tryz.sizeOf5
 v5:=Tryz.zeroValue5
 t9:=Tryz.underlying9
 a9:=Tryz.isAgg9
 z9:=Tryz.sizeOf9
 v9:=Tryz.zeroValue9
 t22:=Tryz.underlying30
 a22:=Tryz.isAgg30
 z22:=Tryz.sizeOf30
 v22:=Tryz.zeroValue30
 t25:=Tryz.underlying124
 a25:=Tryz.isAgg124
 z25:=Tryz.sizeOf124
 v25:=Tryz.zeroValue124
 t39:=Tryz.underlying167
 a39:=Tryz.isAgg167
 z39:=Tryz.sizeOf167
 v39:=Tryz.zeroValue167
 t45:=Tryz.underlying235
 a45:=Tryz.isAgg235
 z45:=Tryz.sizeOf235
 v45:=Tryz.zeroValue235
 t46:=Tryz.underlying236
 a46:=Tryz.isAgg236
 z46:=Tryz.sizeOf236
 v46:=Tryz.zeroValue236
 t50:=Tryz.underlying196
 a50:=Tryz.isAgg196
 z50:=Tryz.sizeOf196
 v50:=Tryz.zeroValue196
 t53:=Tryz.underlying242
 a53:=Tryz.isAgg242
 z53:=Tryz.sizeOf242
 v53:=Tryz.zeroValue242
 t55:=Tryz.underlying244
 a55:=Tryz.isAgg244
 z55:=Tryz.sizeOf244
 v55:=Tryz.zeroValue244
 t66:=Tryz.underlying285
 a66:=Tryz.isAgg285
 z66:=Tryz.sizeOf285
 v66:=Tryz.zeroValue285
 t70:=Tryz.underlying271
 a70:=Tryz.isAgg271
 z70:=Tryz.sizeOf271
 v70:=Tryz.zeroValue271
 t76:=Tryz.underlying317
 a76:=Tryz.isAgg317
 z76:=Tryz.sizeOf317
 v76:=Tryz.zeroValue317
 t77:=Tryz.underlying318
 a77:=Tryz.isAgg318
 z77:=Tryz.sizeOf318
 v77:=Tryz.zeroValue318}
end Go.Proofs
namespace Go.Proofs.YtbdpaoikccabhaaGreatDoor
variable {α β:Type} {w' w:World} {g k:Nat}
structure OrdC {α:Type} (C:α->α->Int):Prop where
 refl:∀ x,C x x=0
 anti:∀ x y,C x y<0↔0<C y x
 eq0:∀ x y,C x y=0->x=y
 trans:∀ x y z,C x y<0->C y z<0->C x z<0
theorem list_inj {a b:Bs} (h:a.toList=b.toList):a=b:=by
 rw [ByteArray.toList_eq,ByteArray.toList_eq] at h;have h1:a.data=a.data.toList.toArray:=by simp
 have h2:b.data=b.data.toList.toArray:=by simp
 exact ByteArray.ext (by rw [h1,h2,h])
theorem Yc3 (a b:Bs):ltB a b=true↔a.toList<b.toList:=by
 unfold ltB;rw [Go.Proofs.bytesLess_eq];exact decide_eq_true_iff
theorem ordS:OrdC cmpS where
 refl x:=by
  unfold cmpS;rw [if_neg (fun h=>List.lt_irrefl _ ((Yc3 x x).1 h)),if_pos rfl]
 anti x y:=by
  unfold cmpS;by_cases h1:ltB x y=true
  ·have h2:¬ltB y x=true:=fun h=>List.not_lt.2 (List.le_of_lt ((Yc3 _ _).1 h1)) ((Yc3 _ _).1 h)
   have h3:¬y=x:=fun e=>by subst e;exact h2 h1
   rw [if_pos h1,if_neg h2,if_neg h3];decide
  by_cases h2:ltB y x=true
  ·have h3:¬x=y:=fun e=>by subst e;exact h1 h2
   rw [if_neg h1,if_neg h3,if_pos h2];decide
  have h3:x=y:=list_inj (List.le_antisymm (List.not_lt.1 (fun h=>h2 ((Yc3 _ _).2 h))) (List.not_lt.1 (fun h=>h1 ((Yc3 _ _).2 h))));rw [if_neg h1,if_neg h2,if_pos h3,if_pos h3.symm];try decide
 eq0 x y h:=by
  unfold cmpS at h;split at h
  ·cases h
  split at h
  ·assumption
  cases h
 trans x y z h1 h2:=by
  have k:∀ a b,cmpS a b<0->ltB a b=true:=fun a b h=>by
   unfold cmpS at h;split at h
   ·assumption
   split at h
   ·exact absurd h Zh
   exact absurd h Zh
  unfold cmpS;rw [if_pos ((Yc3 _ _).2 (List.lt_trans ((Yc3 _ _).1 (k x y h1)) ((Yc3 _ _).1 (k y z h2))))];decide
theorem Yj0:∀ x:List Bs,cmpL x x=0
 | []=>rfl
 | a::r=>by rw [cmpL,if_neg (by rw [ordS.refl];decide)];exact Yj0 r
theorem Yj1:∀ x y:List Bs,cmpL x y<0↔0<cmpL y x
 | [],[]=>by simp [cmpL]
 | [],_::_=>by simp [cmpL]
 | _::_,[]=>by simp [cmpL]
 | a::r,b::s=>by
  rw [cmpL,cmpL];by_cases h:cmpS a b=0
  ·have e:=ordS.eq0 a b h;subst e;rw [if_neg (by rw [h];decide),if_neg (by rw [h];decide)];exact Yj1 r s
  have h2:cmpS b a≠0:=fun h2=>h (by rw [ordS.eq0 b a h2];exact ordS.refl a)
  rw [if_pos h,if_pos h2];exact ordS.anti a b
theorem Ymr:∀ x y:List Bs,cmpL x y=0->x=y
 | [],[],_=>rfl
 | [],_::_,h=>by simp [cmpL] at h
 | _::_,[],h=>by simp [cmpL] at h
 | a::r,b::s,h=>by
  rw [cmpL] at h;by_cases h0:cmpS a b=0
  ·rw [if_neg (by rw [h0];decide)] at h;rw [ordS.eq0 a b h0,Ymr r s h]
  rw [if_pos h0] at h;exact absurd h h0
theorem YhP:∀ x y z:List Bs,cmpL x y<0->cmpL y z<0->cmpL x z<0
 | [],_,[],h1,h2=>by
  rename_i y;cases y<;>simp [cmpL] at h1 h2
 | [],_,_::_,_,_=>by simp [cmpL]
 | _::_,[],_,h1,_=>by simp [cmpL] at h1
 | _::_,_::_,[],_,h2=>by simp [cmpL] at h2
 | a::r,b::s,c::t,h1,h2=>by
  rw [cmpL] at h1 h2 ⊢;by_cases e1:cmpS a b=0
  ·have:=ordS.eq0 a b e1;subst this;rw [if_neg (by rw [e1];decide)] at h1;by_cases e2:cmpS a c=0
   ·rw [if_neg (by rw [e2];decide)] at h2;rw [if_neg (by rw [e2];decide)];exact YhP r s t h1 h2
   rw [if_pos e2] at h2;rw [if_pos e2];exact h2
  rw [if_pos e1] at h1;by_cases e2:cmpS b c=0
  ·have:=ordS.eq0 b c e2;subst this;rw [if_pos e1];exact h1
  rw [if_pos e2] at h2;have h3:=ordS.trans a b c h1 h2;rw [if_pos Zi];exact h3
theorem ordA:OrdC cmpA where
 refl x:=by unfold cmpA;rw [if_neg (by rw [ordS.refl];decide)];exact Yj0 _
 anti x y:=by
  unfold cmpA;by_cases h:cmpS x.name y.name=0
  ·have h2:cmpS y.name x.name=0:=by rw [ordS.eq0 _ _ h];exact ordS.refl _
   rw [if_neg (by rw [h];decide),if_neg (by rw [h2];decide)];exact Yj1 _ _
  have h2:cmpS y.name x.name≠0:=fun h2=>h (by rw [ordS.eq0 _ _ h2];exact ordS.refl _)
  rw [if_pos h,if_pos h2];exact ordS.anti _ _
 eq0 x y h:=by
  unfold cmpA at h;by_cases h0:cmpS x.name y.name=0
  ·rw [if_neg (by rw [h0];decide)] at h;have e1:=ordS.eq0 _ _ h0;have e2:=Ymr _ _ h;cases x;cases y;simp only at e1 e2;rw [e1,e2]
  rw [if_pos h0] at h;exact absurd h h0
 trans x y z h1 h2:=by
  unfold cmpA at h1 h2 ⊢;by_cases e1:cmpS x.name y.name=0
  ·rw [if_neg (by rw [e1];decide)] at h1;have e:=ordS.eq0 _ _ e1;rw [e];by_cases e2:cmpS y.name z.name=0
   ·rw [if_neg (by rw [e2];decide)] at h2;rw [if_neg (by rw [e2];decide)];exact YhP _ _ _ h1 h2
   rw [if_pos e2] at h2;rw [if_pos e2];exact h2
  rw [if_pos e1] at h1;by_cases e2:cmpS y.name z.name=0
  ·have e:=ordS.eq0 _ _ e2;rw [<- e,if_pos e1];exact h1
  rw [if_pos e2] at h2;have h3:=ordS.trans _ _ _ h1 h2;rw [if_pos Zi];exact h3
theorem OrdC.swo {C:α->α->Int} (h:OrdC C) (f:β->α):Go.Sort.SWO (ltOf fun x y=>C (f x) (f y)) where
 irrefl x:=by unfold ltOf;exact decide_eq_false (by show ¬C (f x) (f x)<0;rw [h.refl];decide)
 trans x y z h1 h2:=by
  unfold ltOf at h1 h2 ⊢;exact decide_eq_true (h.trans _ _ _ (Zt h1) (Zt h2))
 ntrans x y z h1 h2:=by
  unfold ltOf at h1 h2 ⊢;have k1:¬C (f x) (f y)<0:=Zf h1;have k2:¬C (f y) (f z)<0:=Zf h2;refine decide_eq_false fun k3=>?_
  have k3:C (f x) (f z)<0:=k3;have a1:=(h.anti (f x) (f z)).1 k3;by_cases e1:C (f x) (f y)=0
  ·rw [<- h.eq0 _ _ e1] at k2;exact k2 k3
  by_cases e2:C (f y) (f z)=0
  ·rw [h.eq0 _ _ e2] at k1;exact k1 k3
  have b1:C (f y) (f x)<0:=(h.anti _ _).2 Zi;have b2:C (f z) (f y)<0:=(h.anti _ _).2 Zi;have:=h.trans _ _ _ b2 b1;omega
@[reducible] def drT:Dr:=⟨True⟩
theorem Yhz {W:World} (h: @Fr drT [] W w'):∃ q os',w'=Go.Sort.grow (W.drewN q) os':=by
 refine ⟨w'.drawn - W.drawn,w'.heap.extract W.heap.size w'.heap.size,?_⟩;obtain ⟨h1,h2,h3,h4,h5,h6⟩:=h;obtain ⟨a1,a2,a3,a4,a5⟩:=w';obtain ⟨b1,b2,b3,b4,b5⟩:=W;replace h6:=h6 trivial;simp only at h1 h2 h3 h4 h5 h6;subst h1;subst h2;subst h3;unfold Go.Sort.grow World.drewN;simp only
 congr 1
 ·refine Array.ext_getElem? fun i=>?_
  by_cases hi:i<b1.size
  ·rw [Array.getElem?_append_left hi];exact h5 i hi (by simp)
  rw [Array.getElem?_append_right Zi];by_cases hj:i<a1.size
  ·rw [Array.getElem?_extract,if_pos Zi]
   congr 1;omega
  rw [Array.getElem?_eq_none Zi,Array.getElem?_eq_none (by simp;omega)]
 omega
theorem YeL [Inhabited α] {enc:α->List Value} {m b:Nat} {dk:Array α} {os:Array Obj} (hb:b<w.heap.size) (hg:b≠g):(sortWorldK enc k w g 0 m dk os).heap[b]?=w.heap[b]?:=by
 unfold sortWorldK Go.Sort.grow Go.Sort.putRowK Go.Sort.putRow Go.Sort.mapBlock Go.Sort.ahead;simp only;rw [Array.getElem?_append_left (by simpa using hb),Array.getElem?_modify,if_neg (fun h=>hg h.symm)]
def Ydd (l:List Atom):Prop:=∀ (i j:Nat) (a b:Atom),i<j->l[i]?=some a->l[j]?=some b->¬cmpA b a<0
end Go.Proofs.YtbdpaoikccabhaaGreatDoor
