/- The texts PWalkO, RT, RU, laid together. Conditions: none. -/
import Derived.Test.YtfjopfinkdhmaaaGreatDoorRYM
set_option linter.all false
noncomputable section
set_option maxRecDepth 20000
namespace Go.Proofs.YtfjopfinkdhmaaaGreatDoor
open Go.Lx Go.RowKit
attribute [local instance 10] Classical.propDecidable
open Go.Proofs.Tryz (prog)
def XS:Bs:=⟨#[58,97,99,116,105,111,110]⟩
def Y3:Bs:=⟨#[58,100,117,114,97,116,105,118,101,45,97,99,116,105,111,110]⟩
def YD:Bs:=⟨#[58,112,97,114,97,109,101,116,101,114,115]⟩
def Yda:Bs:=⟨#[58,99,111,115,116]⟩
def Xg:Bs:=⟨#[58,112,114,101,99,111,110,100,105,116,105,111,110]⟩
def YbV:Bs:=⟨#[58,101,102,102,101,99,116]⟩
def XR:Bs:=⟨#[58,100,117,114,97,116,105,111,110]⟩
def Yau:Bs:=⟨#[58,115,116,97,114,116]⟩
def Ycy:Bs:=⟨#[58,111,118,101,114]⟩
def kEnd:Bs:=⟨#[58,101,110,100]⟩
def WA:Bs:=⟨#[58,97,116,45,115,116,97,114,116]⟩
def Ydb:Bs:=⟨#[58,97,116,45,101,110,100]⟩
theorem YR {o:Bs} (h:o.size≤100):Short o:=by unfold Short;omega
variable {fz:FZ}
theorem Yhz {n:Int} (h:I64 n):YW fz (numE n) (.slice none 0 0):=⟨i64_2,h,X6,X6,Xq,IsSl.nil⟩
variable {A:Option Addr} {c n:Nat}
theorem Wg {l:List Sexpr} (h:Sl Yy fz A n c l):YW fz (YF l) (.slice A n c):=⟨YeT,X6,X6,X6,Xq,h.is⟩
def opt (p:Prop) (kw:Bs) (x:Sexpr):List Sexpr:=if p then [] else [Yi kw,x]
theorem YeQ {α:Type} {l:List α} {kw:Bs} {x:Sexpr} (h:l.length=n):(if decide ((n:Int)=0)=true then ([]:List Sexpr) else [Yi kw,x])=opt (l=[]) kw x:=by
 unfold opt
 by_cases hl:l=[]
 ·rw [if_pos hl,if_pos (decide_eq_true ((len0 h).2 hl))]
 ·rw [if_neg hl,if_neg (by simpa using fun h0=>hl ((len0 h).1 h0))]
theorem YdE {p:Prop} {d:Decidable p} {kw:Bs} {x:Sexpr}:(if @decide p d=true then ([]:List Sexpr) else [Yi kw,x])=opt p kw x:=by
 unfold opt
 by_cases hp:p
 ·rw [if_pos hp,if_pos (by simpa using hp)]
 ·rw [if_neg hp,if_neg (by simpa using hp)]
def YaT (l:List Param):Sexpr:=YF ((l.flatMap W2).map Yi)
def actX (a:Action):Sexpr:=YF ([Yi XS,Yi a.name]++opt (a.params=[]) YD (YaT a.params)++opt (a.cost=1) Yda (numE a.cost)++opt (a.pre=XJ) Xg (Xh a.pre)++opt (a.changes=[]) YbV (effX a.changes))
def YkA (a:Action):Prop:=Y5 a.name∧0≤a.cost∧(∀ p∈a.params,Wz true p)∧FVal a.pre∧Ya8 a.changes
def actSm (a:Action):Prop:=a.params.length≤1000000000∧FSm a.pre∧Yi6 a.changes
variable {g:Nat} {v1 v2 v3 v4 v5 v6:Value}
set_option maxHeartbeats 4000000 in
theorem Yg4 {b:Bool} {a:Action} (h:ActionR fz a v1 v2 v3 v4 v5 v6) (hs:actSm a):
 GFn prog 52 [.pointer (some ⟨g,0,none⟩),.agg #[.string a.name,v1,.int .i64 a.cost,.string a.pre.op,.string a.pre.name,v2,v3,v4,v5,v6]] fz [(g,wrO b)] (MkR g b (YkA a) (actX a) fz):=by
 obtain ⟨P1,p1,q1,rfl,ip⟩:=h.params
 obtain ⟨S2,s2,r2,rfl,_⟩:=h.pre.args
 obtain ⟨S3,s3,r3,rfl,_⟩:=h.pre.params
 obtain ⟨S4,s4,r4,rfl,_⟩:=h.pre.exprs
 obtain ⟨S5,s5,r5,rfl,_⟩:=h.pre.kids
 obtain ⟨S6,s6,r6,rfl,ichanges⟩:=h.changes
 obtain ⟨hs0,hs1,hs2⟩:=hs
 refine zF Tryz.func52 Tryz.ntmps52 (fun w0=>?_)
 refine Yk (Yr (Ya Zz (Xc _ Zz Zz (fun g3=>?_))))
 refine zWO ?_;intros
 rename_i g4
 refine Yk (Wp.mid (fun σ fz' H'=>∃ (b1:Bool) (g5:Nat) (v:Value) (Hs:HP),σ=[(5,.pointer (some ⟨g5,0,none⟩)),(4,.pointer (some ⟨g4,0,none⟩)),(3,.pointer (some ⟨g3,0,none⟩)),(0,.pointer (some ⟨g,0,none⟩))]∧Le fz fz'∧H'=(g,wrO b1)::(g4,.cells #[.int .i64 0,.int .i64 0,.int .i64 0,.int .i64 0,.string ⟨#[]⟩,.slice none 0 0] 57 (0,0))::(g3,.cells #[.string a.name,.slice P1 p1 q1,.int .i64 a.cost,.string a.pre.op,.string a.pre.name,.slice S2 s2 r2,.slice S3 s3 r3,.slice S4 s4 r4,.slice S5 s5 r5,.slice S6 s6 r6] 75 (0,0))::(g5,lsO v)::Hs∧Grow Yy 57 fz' v 2 Hs [Yi XS,Yi a.name]∧(b1=false↔b=false∧Y5 a.name)) ?_ ?_)
 ·refine Wp.drawP [] (Hq:=[(g4,_),(g3,_)]) T.mixed Zj Zj Zb ?_
  refine zc (WY (s:=XS)) ?_
  refine zW ?_;intros
  refine Ye ?_
  refine Ye ?_
  refine Ye ?_
  refine Ye ?_
  refine Ye ?_
  refine PK.done ⟨by kernel_rfl,?_⟩
  refine YG Zz Zz Zz ?_ ?_
  ·refine Yd (Does.perm (@List.perm_middle _ _ [_,_] []).symm (Ym [_] _ Zz Zz Zz (YbC h.name) (fun v6 fz6 H6 hle6 hR6=>?_)))
   obtain ⟨_,rfl,b1,rfl,hb1⟩:=hR6
   refine ⟨(⟨hle6,Zx⟩),?_⟩
   unfold sxV
   refine YG Zz Zz Zz ?_ ?_
   ·refine Yd (Yc T (cs:=Yq XS++Yq a.name) Zz Zz Zz Zz Zz Zz Zz Zz (fun gb=>⟨(⟨hle6,Zx⟩),?_⟩))
    refine YG Zz Zz Zz ?_ ?_
    ·refine PoS.qk (⟨hle6,Zx⟩) (Yw Zz Zz Xk ?_)
     unfold sxV
     refine Yb Zz Zz ?_
     refine Yd (YX T Zz Zz (fun g5=>⟨(⟨hle6,Zx⟩),?_⟩))
     refine Yb Zz Zz ?_
     refine PoS.hard0 Zj (Does.perm (XY [0,2,3,4,1] Zz Zz) (YP T Zz Zz Zz Zz Zz Zz ?_))
     refine Po.done ?_
     refine zW ?_;intros
     exact midP (XY [1,2,3,0,4] Zz Zz) ⟨b1,g5,_,[_],rfl,hle6,rfl,Grow.block (m:=2) (ys:=[(Yi XS,Yq XS),(Yi a.name,Yq a.name)]) rfl rfl (by intro p hp;simp only [List.mem_cons,List.not_mem_nil,or_false] at hp;rcases hp with rfl | rfl;exact Yu (YR Zh);exact Yu h.name) rfl Zh,hb1⟩ Zw Zb
    ·refine Yd (YX T Zz Zz (fun g5=>⟨(⟨hle6,Zx⟩),?_⟩))
     refine Yb Zz Zz ?_
     refine PoS.qk (⟨hle6,Zx⟩) (Yw Zz Zz Xk ?_)
     unfold sxV
     refine Yb Zz Zz ?_
     refine PoS.hard0 Zj (Does.perm (XY [0,2,3,4,1] Zz Zz) (YP T Zz Zz Zz Zz Zz Zz ?_))
     refine Po.done ?_
     refine zW ?_;intros
     exact midP (XY [1,2,3,0,4] Zz Zz) ⟨b1,g5,_,[_],rfl,hle6,rfl,Grow.block (m:=2) (ys:=[(Yi XS,Yq XS),(Yi a.name,Yq a.name)]) rfl rfl (by intro p hp;simp only [List.mem_cons,List.not_mem_nil,or_false] at hp;rcases hp with rfl | rfl;exact Yu (YR Zh);exact Yu h.name) rfl Zh,hb1⟩ Zw Zb
   ·refine Yd (YX T Zz Zz (fun g5=>⟨(⟨hle6,Zx⟩),?_⟩))
    refine Yb Zz Zz ?_
    refine Yd (Yc T (cs:=Yq XS++Yq a.name) Zz Zz Zz Zz Zz Zz Zz Zz (fun gb=>⟨(⟨hle6,Zx⟩),?_⟩))
    refine Yb Zz Zz ?_
    refine PoS.qk (⟨hle6,Zx⟩) (Yw Zz Zz Xk ?_)
    unfold sxV
    refine Yb Zz Zz ?_
    refine PoS.hard0 Zj (Does.perm (XY [1,2,3,4,0] Zz Zz) (YP T Zz Zz Zz Zz Zz Zz ?_))
    refine Po.done ?_
    refine zW ?_;intros
    exact midP (XY [1,2,3,0,4] Zz Zz) ⟨b1,g5,_,[_],rfl,hle6,rfl,Grow.block (m:=2) (ys:=[(Yi XS,Yq XS),(Yi a.name,Yq a.name)]) rfl rfl (by intro p hp;simp only [List.mem_cons,List.not_mem_nil,or_false] at hp;rcases hp with rfl | rfl;exact Yu (YR Zh);exact Yu h.name) rfl Zh,hb1⟩ Zw Zb
  ·refine Yd (YX T Zz Zz (fun g5=>⟨(⟨(Le.refl _),Zx⟩),?_⟩))
   refine Yb Zz Zz ?_
   refine Yd (Does.perm (@List.perm_middle _ _ [_,_,_] []).symm (Ym [_] _ Zz Zz Zz (YbC h.name) (fun v6 fz6 H6 hle6 hR6=>?_)))
   obtain ⟨_,rfl,b1,rfl,hb1⟩:=hR6
   refine ⟨(⟨hle6,Zx⟩),?_⟩
   unfold sxV
   refine Yb Zz Zz ?_
   refine Yd (Yc T (cs:=Yq XS++Yq a.name) Zz Zz Zz Zz Zz Zz Zz Zz (fun gb=>⟨(⟨hle6,Zx⟩),?_⟩))
   refine Yb Zz Zz ?_
   refine PoS.qk (⟨hle6,Zx⟩) (Yw Zz Zz Xk ?_)
   unfold sxV
   refine Yb Zz Zz ?_
   refine PoS.hard0 Zj (Does.perm (XY [2,1,3,4,0] Zz Zz) (YP T Zz Zz Zz Zz Zz Zz ?_))
   refine Po.done ?_
   refine zW ?_;intros
   exact midP (XY [1,2,3,0,4] Zz Zz) ⟨b1,g5,_,[_],rfl,hle6,rfl,Grow.block (m:=2) (ys:=[(Yi XS,Yq XS),(Yi a.name,Yq a.name)]) rfl rfl (by intro p hp;simp only [List.mem_cons,List.not_mem_nil,or_false] at hp;rcases hp with rfl | rfl;exact Yu (YR Zh);exact Yu h.name) rfl Zh,hb1⟩ Zw Zb
 ·rintro σ fz1 H' ⟨b1,g5,v1,Hs1,rfl,hle1,rfl,hG1,hb1⟩
  have hys1:b1=false→[Yi XS,Yi a.name]=[Yi XS,Yi a.name]:=fun _=>rfl
  have hn1:2≤2:=Zs _
  refine Yk (Wp.mid (fun σ fz' H'=>∃ bb:Bool,σ=[(5,.pointer (some ⟨g5,0,none⟩)),(4,.pointer (some ⟨g4,0,none⟩)),(3,.pointer (some ⟨g3,0,none⟩)),(0,.pointer (some ⟨g,0,none⟩))]∧fz1=fz'∧H'=(g,wrO bb)::(g4,.cells #[.int .i64 0,.int .i64 0,.int .i64 0,.int .i64 0,.string ⟨#[]⟩,.slice none 0 0] 57 (0,0))::(g3,.cells #[.string a.name,.slice P1 p1 q1,.int .i64 a.cost,.string a.pre.op,.string a.pre.name,.slice S2 s2 r2,.slice S3 s3 r3,.slice S4 s4 r4,.slice S5 s5 r5,.slice S6 s6 r6] 75 (0,0))::(g5,lsO v1)::Hs1∧(bb=false↔b1=false∧0≤a.cost)) ?_ ?_)
  ·cases b1
   ·refine zW ?_;intros
    refine zC (fun c1=>?_) (fun c1=>?_)
    ·refine zW ?_;intros
     exact midN ⟨true,rfl,rfl,rfl,iff_of_false (by simp) (fun h0=>by have:=h0.2;omega)⟩ Zw Zb
    ·refine zW ?_;intros
     exact midN ⟨false,rfl,rfl,rfl,iff_of_true rfl ⟨rfl,by omega⟩⟩ Zw Zb
   ·refine zW ?_;intros
    exact midN ⟨true,rfl,rfl,rfl,iff_of_false (by simp) (fun h0=>by cases h0.1)⟩ Zw Zb
  ·rintro σ fz' H' ⟨bz,rfl,rfl,rfl,hbz⟩
   have hbz2:bz=false↔b=false∧Y5 a.name∧0≤a.cost:=by rw [hbz,hb1,and_assoc]
   have hysz:bz=false→[Yi XS,Yi a.name]=[Yi XS,Yi a.name]:=fun _=>rfl
   have hle_2:=hle1
   refine Yk ?_
   refine Wp.drawK (Hq:=[(g4,_),(g3,_)]) T.mixed Zj Zj Zb ?_
   refine zW ?_;intros
   refine zG ?_;refine Yht Zz Zz ?_
   refine zW ?_;intros
   refine Yf ?_
   refine Yf ?_
   refine Yf ?_
   refine YM ⟨by kernel_rfl,?_⟩
   refine Yt (Ym [_] _ Zz Zz Zz (W4 (vars:=true) (ip.mono hle_2) (by rw [← ip.len];exact hs0)) (fun v6 fy2 H6 hly2 hR6=>?_))
   obtain ⟨_,⟨B6,cc6,rfl,hsl6⟩,c2,rfl,hc2⟩:=hR6
   refine ⟨(⟨hly2,Zx⟩),?_⟩
   refine Ch.qk (⟨hly2,Zx⟩) (Yw Zz Zz Xk ?_)
   unfold sxV
   have hY2:YW fy2 (YaT a.params) (.slice B6 (3*p1) cc6):=Wg hsl6
   have hy2:c2=false→YaT a.params=YaT a.params:=fun _=>rfl
   refine Yt (Does.perm (H':=((g5,_)::Hs1)++ [_,_,_]) Zq (Does.after (Ym ((g5,_)::Hs1) _ Zz Zz Zz (Yca (kw:=YD) (hG1.mono hly2) hY2 (YR Zh) Zi) (fun v7 fz_2 H7 hlz2 hR7=>?_))))
   obtain ⟨_,_,v_2,n_2,Hs_2,rfl,hG_2,hn_2⟩:=hR7
   refine ⟨(g,wrO c2)::(g4,_)::(g3,_)::(g5,lsO v_2)::Hs_2,Zq (l₁:=[_,_,_]) (l₂:=(g5,lsO v_2)::Hs_2),(⟨(hly2.trans hlz2),Zx⟩),?_⟩
   refine Ch.done ?_
   refine zWO ?_;intros
   have hd2:c2=false↔(b=false∧Y5 a.name∧0≤a.cost)∧(∀ p∈a.params,Wz true p):=by rw [hc2,hbz2]
   have hb_2:c2=false↔b=false∧Y5 a.name∧0≤a.cost∧(∀ p∈a.params,Wz true p):=by rw [hd2];simp only [and_assoc]
   have hkeep2:c2=false→bz=false:=fun h0=>(hc2.1 h0).1
   rw [YeQ ip.len] at hG_2
   obtain ⟨l_2,hl2⟩:∃ l',l'=[Yi XS,Yi a.name]++opt (a.params=[]) YD (YaT a.params):=⟨_,rfl⟩
   rw [← hl2] at hG_2
   have hys_2:c2=false→l_2=[Yi XS,Yi a.name]++opt (a.params=[]) YD (YaT a.params):=fun h0=>by rw [hl2]
   have hle_n2:=((hle_2.trans hly2).trans hlz2)
   have hle_3:=hle_n2
   refine Yk ?_
   refine Wp.drawK (Hq:=[(g4,_),(g3,_)]) T.mixed Zj Zj Zb ?_
   refine zW ?_;intros
   refine zG ?_;refine Yht Zz Zz ?_
   refine zW ?_;intros
   refine zc Yem ?_
   unfold sxV
   refine Yf ?_
   refine YM ⟨by kernel_rfl,?_⟩
   have hly3:=Le.refl fz_2
   have hY3:YW fz_2 (numE a.cost) (.slice none 0 0):=Yhz h.cost
   refine Yt (Does.perm (H':=((g5,_)::Hs_2)++ [_,_,_]) Zq (Does.after (Ym ((g5,_)::Hs_2) _ Zz Zz Zz (Yca (kw:=Yda) (hG_2.mono hly3) hY3 (YR Zh) Zi) (fun v7 fz_3 H7 hlz3 hR7=>?_))))
   obtain ⟨_,_,v_3,n_3,Hs_3,rfl,hG_3,hn_3⟩:=hR7
   refine ⟨(g,wrO c2)::(g4,_)::(g3,_)::(g5,lsO v_3)::Hs_3,Zq (l₁:=[_,_,_]) (l₂:=(g5,lsO v_3)::Hs_3),(⟨(hly3.trans hlz3),Zx⟩),?_⟩
   refine Ch.done ?_
   refine zWO ?_;intros
   have hb_3:=hb_2
   have hkeep3:c2=false→c2=false:=fun h0=>h0
   have hy3:c2=false→numE a.cost=numE a.cost:=fun _=>rfl
   rw [YdE] at hG_3
   obtain ⟨l_3,hl3⟩:∃ l',l'=l_2++opt (a.cost=1) Yda (numE a.cost):=⟨_,rfl⟩
   rw [← hl3] at hG_3
   have hys_3:c2=false→l_3=[Yi XS,Yi a.name]++opt (a.params=[]) YD (YaT a.params)++opt (a.cost=1) Yda (numE a.cost):=fun h0=>by rw [hl3,hys_2 (hkeep3 h0)]
   have hle_n3:=((hle_3.trans hly3).trans hlz3)
   have hle_4:=hle_n3
   refine Yk ?_
   refine Wp.drawK (Hq:=[(g4,_),(g3,_)]) T.mixed Zj Zj Zb ?_
   refine zW ?_;intros
   ((refine zG ?_);refine Yp (vs:=[.string a.pre.op,.string a.pre.name,.slice S2 s2 r2,.slice S3 s3 r3,.slice S4 s4 r4,.slice S5 s5 r5]) T 1 Zz Zz Zz Zz Zz Zz ?_)
   refine zc WU ?_
   unfold Ycw
   refine zc (Yew (b:=XJ) (h.pre.mono hle_4) Yb5) ?_
   refine zW ?_;intros
   ((refine zG ?_);refine Yp (vs:=[.string a.pre.op,.string a.pre.name,.slice S2 s2 r2,.slice S3 s3 r3,.slice S4 s4 r4,.slice S5 s5 r5]) T 1 Zz Zz Zz Zz Zz Zz ?_)
   refine Yf ?_
   refine Yf ?_
   refine YM ⟨by kernel_rfl,?_⟩
   refine Yt (Ym [_] _ Zz Zz Zz (Ybq (h.pre.mono hle_4) hs1) (fun v6 fy4 H6 hly4 hR6=>?_))
   obtain ⟨_,c4,y4,rfl,⟨cs6,rfl,hr6⟩,hc4,hy4⟩:=hR6
   obtain ⟨vk6,rfl,hY4⟩:=Yh hr6
   refine ⟨(⟨hly4,Zx⟩),?_⟩
   refine Yt (Does.perm (H':=((g5,_)::Hs_3)++ [_,_,_]) Zq (Does.after (Ym ((g5,_)::Hs_3) _ Zz Zz Zz (Yca (kw:=Xg) (hG_3.mono hly4) hY4 (YR Zh) Zi) (fun v7 fz_4 H7 hlz4 hR7=>?_))))
   obtain ⟨_,_,v_4,n_4,Hs_4,rfl,hG_4,hn_4⟩:=hR7
   refine ⟨(g,wrO c4)::(g4,_)::(g3,_)::(g5,lsO v_4)::Hs_4,Zq (l₁:=[_,_,_]) (l₂:=(g5,lsO v_4)::Hs_4),(⟨(hly4.trans hlz4),Zx⟩),?_⟩
   refine Ch.done ?_
   refine zWO ?_;intros
   have hd4:c4=false↔(b=false∧Y5 a.name∧0≤a.cost∧(∀ p∈a.params,Wz true p))∧FVal a.pre:=by rw [hc4,hb_3]
   have hb_4:c4=false↔b=false∧Y5 a.name∧0≤a.cost∧(∀ p∈a.params,Wz true p)∧FVal a.pre:=by rw [hd4];simp only [and_assoc]
   have hkeep4:c4=false→c2=false:=fun h0=>(hc4.1 h0).1
   rw [YdE] at hG_4
   obtain ⟨l_4,hl4⟩:∃ l',l'=l_3++opt (a.pre=XJ) Xg (y4):=⟨_,rfl⟩
   rw [← hl4] at hG_4
   have hys_4:c4=false→l_4=[Yi XS,Yi a.name]++opt (a.params=[]) YD (YaT a.params)++opt (a.cost=1) Yda (numE a.cost)++opt (a.pre=XJ) Xg (Xh a.pre):=fun h0=>by rw [hl4,hys_3 (hkeep4 h0),hy4 h0]
   have hle_n4:=((hle_4.trans hly4).trans hlz4)
   have hle_5:=hle_n4
   refine Yk ?_
   refine Wp.drawK (Hq:=[(g4,_),(g3,_)]) T.mixed Zj Zj Zb ?_
   refine zW ?_;intros
   refine zG ?_;refine Yht Zz Zz ?_
   refine zW ?_;intros
   refine Yf ?_
   refine Yf ?_
   refine YM ⟨by kernel_rfl,?_⟩
   refine Yt (Ym [_] _ Zz Zz Zz (YcX (ichanges.mono hle_5) hs2) (fun v6 fy5 H6 hly5 hR6=>?_))
   obtain ⟨_,c5,y5,rfl,⟨cs6,rfl,hr6⟩,hc5,hy5⟩:=hR6
   obtain ⟨vk6,rfl,hY5⟩:=Yh hr6
   refine ⟨(⟨hly5,Zx⟩),?_⟩
   refine Yt (Does.perm (H':=((g5,_)::Hs_4)++ [_,_,_]) Zq (Does.after (Ym ((g5,_)::Hs_4) _ Zz Zz Zz (Yca (kw:=YbV) (hG_4.mono hly5) hY5 (YR Zh) Zi) (fun v7 fz_5 H7 hlz5 hR7=>?_))))
   obtain ⟨_,_,v_5,n_5,Hs_5,rfl,hG_5,hn_5⟩:=hR7
   refine ⟨(g,wrO c5)::(g4,_)::(g3,_)::(g5,lsO v_5)::Hs_5,Zq (l₁:=[_,_,_]) (l₂:=(g5,lsO v_5)::Hs_5),(⟨(hly5.trans hlz5),Zx⟩),?_⟩
   refine Ch.done ?_
   refine zWO ?_;intros
   have hd5:c5=false↔(b=false∧Y5 a.name∧0≤a.cost∧(∀ p∈a.params,Wz true p)∧FVal a.pre)∧Ya8 a.changes:=by rw [hc5,hb_4]
   have hb_5:c5=false↔b=false∧Y5 a.name∧0≤a.cost∧(∀ p∈a.params,Wz true p)∧FVal a.pre∧Ya8 a.changes:=by rw [hd5];simp only [and_assoc]
   have hkeep5:c5=false→c4=false:=fun h0=>(hc5.1 h0).1
   rw [YeQ ichanges.len] at hG_5
   obtain ⟨l_5,hl5⟩:∃ l',l'=l_4++opt (a.changes=[]) YbV (y5):=⟨_,rfl⟩
   rw [← hl5] at hG_5
   have hys_5:c5=false→l_5=[Yi XS,Yi a.name]++opt (a.params=[]) YD (YaT a.params)++opt (a.cost=1) Yda (numE a.cost)++opt (a.pre=XJ) Xg (Xh a.pre)++opt (a.changes=[]) YbV (effX a.changes):=fun h0=>by rw [hl5,hys_4 (hkeep5 h0),hy5 h0]
   have hle_n5:=((hle_5.trans hly5).trans hlz5)
   obtain ⟨Av,cv,rfl,_,_⟩:=hG_5.form
   refine zW ?_;intros
   refine Yc3 T (i:=1) (H':=[(g,wrO c5)]) rfl Zz Zz Zz Zz Zz (Zr _) (fun fz3 hle3 hf3=>?_)
   obtain ⟨A',c',he,hsl⟩:=hG_5.sl hle3 (fun p hp=>hf3 p (by simp [hp])) Zi
   injection he with he1 he2 he3
   subst he1 he3
   exact ⟨hle_n5.trans hle3,c5,_,rfl,WS hsl,hb_5,fun h0=>by rw [hys_5 h0];simp only [actX,List.append_assoc]⟩
def durX (a:Durative):Sexpr:=YF ([Yi Y3,Yi a.name]++opt (a.params=[]) YD (YaT a.params)++opt (a.duration=1) XR (numE a.duration)++opt (a.start=XJ) Yau (Xh a.start)++opt (a.over=XJ) Ycy (Xh a.over)++opt (a.fin=XJ) kEnd (Xh a.fin)++opt (a.atStart=[]) WA (effX a.atStart)++opt (a.atEnd=[]) Ydb (effX a.atEnd))
def Yku (a:Durative):Prop:=Y5 a.name∧(∀ p∈a.params,Wz true p)∧FVal a.start∧FVal a.over∧FVal a.fin∧Ya8 a.atStart∧Ya8 a.atEnd
def durSm (a:Durative):Prop:=a.params.length≤1000000000∧FSm a.start∧FSm a.over∧FSm a.fin∧Yi6 a.atStart∧Yi6 a.atEnd
variable {v7:Value}
set_option maxHeartbeats 4000000 in
theorem Yep {b:Bool} {a:Durative} {v8 v9 v10 v11 v12 v13 v14 v15:Value} (h:DurativeR fz a v1 v2 v3 v4 v5 v6 v7 v8 v9 v10 v11 v12 v13 v14 v15) (hs:durSm a):
 GFn prog 53 [.pointer (some ⟨g,0,none⟩),.agg #[.string a.name,v1,.int .i64 a.duration,.string a.start.op,.string a.start.name,v2,v3,v4,v5,.string a.over.op,.string a.over.name,v6,v7,v8,v9,.string a.fin.op,.string a.fin.name,v10,v11,v12,v13,v14,v15]] fz [(g,wrO b)] (MkR g b (Yku a) (durX a) fz):=by
 obtain ⟨P1,p1,q1,rfl,ip⟩:=h.params
 obtain ⟨S2,s2,r2,rfl,_⟩:=h.start.args
 obtain ⟨S3,s3,r3,rfl,_⟩:=h.start.params
 obtain ⟨S4,s4,r4,rfl,_⟩:=h.start.exprs
 obtain ⟨S5,s5,r5,rfl,_⟩:=h.start.kids
 obtain ⟨S6,s6,r6,rfl,_⟩:=h.over.args
 obtain ⟨S7,s7,r7,rfl,_⟩:=h.over.params
 obtain ⟨S8,s8,r8,rfl,_⟩:=h.over.exprs
 obtain ⟨S9,s9,r9,rfl,_⟩:=h.over.kids
 obtain ⟨S10,s10,r10,rfl,_⟩:=h.fin.args
 obtain ⟨S11,s11,r11,rfl,_⟩:=h.fin.params
 obtain ⟨S12,s12,r12,rfl,_⟩:=h.fin.exprs
 obtain ⟨S13,s13,r13,rfl,_⟩:=h.fin.kids
 obtain ⟨S14,s14,r14,rfl,iatStart⟩:=h.atStart
 obtain ⟨S15,s15,r15,rfl,iatEnd⟩:=h.atEnd
 obtain ⟨hs0,hs1,hs2,hs3,hs4,hs5⟩:=hs
 refine zF Tryz.func53 Tryz.ntmps53 (fun w0=>?_)
 refine Yk (Yr (Ya Zz (Xc _ Zz Zz (fun g3=>?_))))
 refine zWO ?_;intros
 rename_i g4
 refine Yk (Wp.mid (fun σ fz' H'=>∃ (b1:Bool) (g5:Nat) (v:Value) (Hs:HP),σ=[(5,.pointer (some ⟨g5,0,none⟩)),(4,.pointer (some ⟨g4,0,none⟩)),(3,.pointer (some ⟨g3,0,none⟩)),(0,.pointer (some ⟨g,0,none⟩))]∧Le fz fz'∧H'=(g,wrO b1)::(g4,.cells #[.int .i64 0,.int .i64 0,.int .i64 0,.int .i64 0,.string ⟨#[]⟩,.slice none 0 0] 57 (0,0))::(g3,.cells #[.string a.name,.slice P1 p1 q1,.int .i64 a.duration,.string a.start.op,.string a.start.name,.slice S2 s2 r2,.slice S3 s3 r3,.slice S4 s4 r4,.slice S5 s5 r5,.string a.over.op,.string a.over.name,.slice S6 s6 r6,.slice S7 s7 r7,.slice S8 s8 r8,.slice S9 s9 r9,.string a.fin.op,.string a.fin.name,.slice S10 s10 r10,.slice S11 s11 r11,.slice S12 s12 r12,.slice S13 s13 r13,.slice S14 s14 r14,.slice S15 s15 r15] 78 (0,0))::(g5,lsO v)::Hs∧Grow Yy 57 fz' v 2 Hs [Yi Y3,Yi a.name]∧(b1=false↔b=false∧Y5 a.name)) ?_ ?_)
 ·refine Wp.drawP [] (Hq:=[(g4,_),(g3,_)]) T.mixed Zj Zj Zb ?_
  refine zc (WY (s:=Y3)) ?_
  refine zW ?_;intros
  refine Ye ?_
  refine Ye ?_
  refine Ye ?_
  refine Ye ?_
  refine Ye ?_
  refine PK.done ⟨by kernel_rfl,?_⟩
  refine YG Zz Zz Zz ?_ ?_
  ·refine Yd (Does.perm (@List.perm_middle _ _ [_,_] []).symm (Ym [_] _ Zz Zz Zz (YbC h.name) (fun v6 fz6 H6 hle6 hR6=>?_)))
   obtain ⟨_,rfl,b1,rfl,hb1⟩:=hR6
   refine ⟨(⟨hle6,Zx⟩),?_⟩
   unfold sxV
   refine YG Zz Zz Zz ?_ ?_
   ·refine Yd (Yc T (cs:=Yq Y3++Yq a.name) Zz Zz Zz Zz Zz Zz Zz Zz (fun gb=>⟨(⟨hle6,Zx⟩),?_⟩))
    refine YG Zz Zz Zz ?_ ?_
    ·refine PoS.qk (⟨hle6,Zx⟩) (Yw Zz Zz Xk ?_)
     unfold sxV
     refine Yb Zz Zz ?_
     refine Yd (YX T Zz Zz (fun g5=>⟨(⟨hle6,Zx⟩),?_⟩))
     refine Yb Zz Zz ?_
     refine PoS.hard0 Zj (Does.perm (XY [0,2,3,4,1] Zz Zz) (YP T Zz Zz Zz Zz Zz Zz ?_))
     refine Po.done ?_
     refine zW ?_;intros
     exact midP (XY [1,2,3,0,4] Zz Zz) ⟨b1,g5,_,[_],rfl,hle6,rfl,Grow.block (m:=2) (ys:=[(Yi Y3,Yq Y3),(Yi a.name,Yq a.name)]) rfl rfl (by intro p hp;simp only [List.mem_cons,List.not_mem_nil,or_false] at hp;rcases hp with rfl | rfl;exact Yu (YR Zh);exact Yu h.name) rfl Zh,hb1⟩ Zw Zb
    ·refine Yd (YX T Zz Zz (fun g5=>⟨(⟨hle6,Zx⟩),?_⟩))
     refine Yb Zz Zz ?_
     refine PoS.qk (⟨hle6,Zx⟩) (Yw Zz Zz Xk ?_)
     unfold sxV
     refine Yb Zz Zz ?_
     refine PoS.hard0 Zj (Does.perm (XY [0,2,3,4,1] Zz Zz) (YP T Zz Zz Zz Zz Zz Zz ?_))
     refine Po.done ?_
     refine zW ?_;intros
     exact midP (XY [1,2,3,0,4] Zz Zz) ⟨b1,g5,_,[_],rfl,hle6,rfl,Grow.block (m:=2) (ys:=[(Yi Y3,Yq Y3),(Yi a.name,Yq a.name)]) rfl rfl (by intro p hp;simp only [List.mem_cons,List.not_mem_nil,or_false] at hp;rcases hp with rfl | rfl;exact Yu (YR Zh);exact Yu h.name) rfl Zh,hb1⟩ Zw Zb
   ·refine Yd (YX T Zz Zz (fun g5=>⟨(⟨hle6,Zx⟩),?_⟩))
    refine Yb Zz Zz ?_
    refine Yd (Yc T (cs:=Yq Y3++Yq a.name) Zz Zz Zz Zz Zz Zz Zz Zz (fun gb=>⟨(⟨hle6,Zx⟩),?_⟩))
    refine Yb Zz Zz ?_
    refine PoS.qk (⟨hle6,Zx⟩) (Yw Zz Zz Xk ?_)
    unfold sxV
    refine Yb Zz Zz ?_
    refine PoS.hard0 Zj (Does.perm (XY [1,2,3,4,0] Zz Zz) (YP T Zz Zz Zz Zz Zz Zz ?_))
    refine Po.done ?_
    refine zW ?_;intros
    exact midP (XY [1,2,3,0,4] Zz Zz) ⟨b1,g5,_,[_],rfl,hle6,rfl,Grow.block (m:=2) (ys:=[(Yi Y3,Yq Y3),(Yi a.name,Yq a.name)]) rfl rfl (by intro p hp;simp only [List.mem_cons,List.not_mem_nil,or_false] at hp;rcases hp with rfl | rfl;exact Yu (YR Zh);exact Yu h.name) rfl Zh,hb1⟩ Zw Zb
  ·refine Yd (YX T Zz Zz (fun g5=>⟨(⟨(Le.refl _),Zx⟩),?_⟩))
   refine Yb Zz Zz ?_
   refine Yd (Does.perm (@List.perm_middle _ _ [_,_,_] []).symm (Ym [_] _ Zz Zz Zz (YbC h.name) (fun v6 fz6 H6 hle6 hR6=>?_)))
   obtain ⟨_,rfl,b1,rfl,hb1⟩:=hR6
   refine ⟨(⟨hle6,Zx⟩),?_⟩
   unfold sxV
   refine Yb Zz Zz ?_
   refine Yd (Yc T (cs:=Yq Y3++Yq a.name) Zz Zz Zz Zz Zz Zz Zz Zz (fun gb=>⟨(⟨hle6,Zx⟩),?_⟩))
   refine Yb Zz Zz ?_
   refine PoS.qk (⟨hle6,Zx⟩) (Yw Zz Zz Xk ?_)
   unfold sxV
   refine Yb Zz Zz ?_
   refine PoS.hard0 Zj (Does.perm (XY [2,1,3,4,0] Zz Zz) (YP T Zz Zz Zz Zz Zz Zz ?_))
   refine Po.done ?_
   refine zW ?_;intros
   exact midP (XY [1,2,3,0,4] Zz Zz) ⟨b1,g5,_,[_],rfl,hle6,rfl,Grow.block (m:=2) (ys:=[(Yi Y3,Yq Y3),(Yi a.name,Yq a.name)]) rfl rfl (by intro p hp;simp only [List.mem_cons,List.not_mem_nil,or_false] at hp;rcases hp with rfl | rfl;exact Yu (YR Zh);exact Yu h.name) rfl Zh,hb1⟩ Zw Zb
 ·rintro σ fz1 H' ⟨b1,g5,v1,Hs1,rfl,hle1,rfl,hG1,hb1⟩
  have hys1:b1=false→[Yi Y3,Yi a.name]=[Yi Y3,Yi a.name]:=fun _=>rfl
  have hn1:2≤2:=Zs _
  have hle_2:=hle1
  refine Yk ?_
  refine Wp.drawK (Hq:=[(g4,_),(g3,_)]) T.mixed Zj Zj Zb ?_
  refine zW ?_;intros
  refine zG ?_;refine Yht Zz Zz ?_
  refine zW ?_;intros
  refine Yf ?_
  refine Yf ?_
  refine Yf ?_
  refine YM ⟨by kernel_rfl,?_⟩
  refine Yt (Ym [_] _ Zz Zz Zz (W4 (vars:=true) (ip.mono hle_2) (by rw [← ip.len];exact hs0)) (fun v6 fy2 H6 hly2 hR6=>?_))
  obtain ⟨_,⟨B6,cc6,rfl,hsl6⟩,c2,rfl,hc2⟩:=hR6
  refine ⟨(⟨hly2,Zx⟩),?_⟩
  refine Ch.qk (⟨hly2,Zx⟩) (Yw Zz Zz Xk ?_)
  unfold sxV
  have hY2:YW fy2 (YaT a.params) (.slice B6 (3*p1) cc6):=Wg hsl6
  have hy2:c2=false→YaT a.params=YaT a.params:=fun _=>rfl
  refine Yt (Does.perm (H':=((g5,_)::Hs1)++ [_,_,_]) Zq (Does.after (Ym ((g5,_)::Hs1) _ Zz Zz Zz (Yca (kw:=YD) (hG1.mono hly2) hY2 (YR Zh) Zi) (fun v7 fz_2 H7 hlz2 hR7=>?_))))
  obtain ⟨_,_,v_2,n_2,Hs_2,rfl,hG_2,hn_2⟩:=hR7
  refine ⟨(g,wrO c2)::(g4,_)::(g3,_)::(g5,lsO v_2)::Hs_2,Zq (l₁:=[_,_,_]) (l₂:=(g5,lsO v_2)::Hs_2),(⟨(hly2.trans hlz2),Zx⟩),?_⟩
  refine Ch.done ?_
  refine zWO ?_;intros
  have hd2:c2=false↔(b=false∧Y5 a.name)∧(∀ p∈a.params,Wz true p):=by rw [hc2,hb1]
  have hb_2:c2=false↔b=false∧Y5 a.name∧(∀ p∈a.params,Wz true p):=by rw [hd2];simp only [and_assoc]
  have hkeep2:c2=false→b1=false:=fun h0=>(hc2.1 h0).1
  rw [YeQ ip.len] at hG_2
  obtain ⟨l_2,hl2⟩:∃ l',l'=[Yi Y3,Yi a.name]++opt (a.params=[]) YD (YaT a.params):=⟨_,rfl⟩
  rw [← hl2] at hG_2
  have hys_2:c2=false→l_2=[Yi Y3,Yi a.name]++opt (a.params=[]) YD (YaT a.params):=fun h0=>by rw [hl2]
  have hle_n2:=((hle_2.trans hly2).trans hlz2)
  have hle_3:=hle_n2
  refine Yk ?_
  refine Wp.drawK (Hq:=[(g4,_),(g3,_)]) T.mixed Zj Zj Zb ?_
  refine zW ?_;intros
  refine zG ?_;refine Yht Zz Zz ?_
  refine zW ?_;intros
  refine zc Yem ?_
  unfold sxV
  refine Yf ?_
  refine YM ⟨by kernel_rfl,?_⟩
  have hly3:=Le.refl fz_2
  have hY3:YW fz_2 (numE a.duration) (.slice none 0 0):=Yhz h.duration
  refine Yt (Does.perm (H':=((g5,_)::Hs_2)++ [_,_,_]) Zq (Does.after (Ym ((g5,_)::Hs_2) _ Zz Zz Zz (Yca (kw:=XR) (hG_2.mono hly3) hY3 (YR Zh) Zi) (fun v7 fz_3 H7 hlz3 hR7=>?_))))
  obtain ⟨_,_,v_3,n_3,Hs_3,rfl,hG_3,hn_3⟩:=hR7
  refine ⟨(g,wrO c2)::(g4,_)::(g3,_)::(g5,lsO v_3)::Hs_3,Zq (l₁:=[_,_,_]) (l₂:=(g5,lsO v_3)::Hs_3),(⟨(hly3.trans hlz3),Zx⟩),?_⟩
  refine Ch.done ?_
  refine zWO ?_;intros
  have hb_3:=hb_2
  have hkeep3:c2=false→c2=false:=fun h0=>h0
  have hy3:c2=false→numE a.duration=numE a.duration:=fun _=>rfl
  rw [YdE] at hG_3
  obtain ⟨l_3,hl3⟩:∃ l',l'=l_2++opt (a.duration=1) XR (numE a.duration):=⟨_,rfl⟩
  rw [← hl3] at hG_3
  have hys_3:c2=false→l_3=[Yi Y3,Yi a.name]++opt (a.params=[]) YD (YaT a.params)++opt (a.duration=1) XR (numE a.duration):=fun h0=>by rw [hl3,hys_2 (hkeep3 h0)]
  have hle_n3:=((hle_3.trans hly3).trans hlz3)
  have hle_4:=hle_n3
  refine Yk ?_
  refine Wp.drawK (Hq:=[(g4,_),(g3,_)]) T.mixed Zj Zj Zb ?_
  refine zW ?_;intros
  ((refine zG ?_);refine Yp (vs:=[.string a.start.op,.string a.start.name,.slice S2 s2 r2,.slice S3 s3 r3,.slice S4 s4 r4,.slice S5 s5 r5]) T 1 Zz Zz Zz Zz Zz Zz ?_)
  refine zc WU ?_
  unfold Ycw
  refine zc (Yew (b:=XJ) (h.start.mono hle_4) Yb5) ?_
  refine zW ?_;intros
  ((refine zG ?_);refine Yp (vs:=[.string a.start.op,.string a.start.name,.slice S2 s2 r2,.slice S3 s3 r3,.slice S4 s4 r4,.slice S5 s5 r5]) T 1 Zz Zz Zz Zz Zz Zz ?_)
  refine Yf ?_
  refine Yf ?_
  refine YM ⟨by kernel_rfl,?_⟩
  refine Yt (Ym [_] _ Zz Zz Zz (Ybq (h.start.mono hle_4) hs1) (fun v6 fy4 H6 hly4 hR6=>?_))
  obtain ⟨_,c4,y4,rfl,⟨cs6,rfl,hr6⟩,hc4,hy4⟩:=hR6
  obtain ⟨vk6,rfl,hY4⟩:=Yh hr6
  refine ⟨(⟨hly4,Zx⟩),?_⟩
  refine Yt (Does.perm (H':=((g5,_)::Hs_3)++ [_,_,_]) Zq (Does.after (Ym ((g5,_)::Hs_3) _ Zz Zz Zz (Yca (kw:=Yau) (hG_3.mono hly4) hY4 (YR Zh) Zi) (fun v7 fz_4 H7 hlz4 hR7=>?_))))
  obtain ⟨_,_,v_4,n_4,Hs_4,rfl,hG_4,hn_4⟩:=hR7
  refine ⟨(g,wrO c4)::(g4,_)::(g3,_)::(g5,lsO v_4)::Hs_4,Zq (l₁:=[_,_,_]) (l₂:=(g5,lsO v_4)::Hs_4),(⟨(hly4.trans hlz4),Zx⟩),?_⟩
  refine Ch.done ?_
  refine zWO ?_;intros
  have hd4:c4=false↔(b=false∧Y5 a.name∧(∀ p∈a.params,Wz true p))∧FVal a.start:=by rw [hc4,hb_3]
  have hb_4:c4=false↔b=false∧Y5 a.name∧(∀ p∈a.params,Wz true p)∧FVal a.start:=by rw [hd4];simp only [and_assoc]
  have hkeep4:c4=false→c2=false:=fun h0=>(hc4.1 h0).1
  rw [YdE] at hG_4
  obtain ⟨l_4,hl4⟩:∃ l',l'=l_3++opt (a.start=XJ) Yau (y4):=⟨_,rfl⟩
  rw [← hl4] at hG_4
  have hys_4:c4=false→l_4=[Yi Y3,Yi a.name]++opt (a.params=[]) YD (YaT a.params)++opt (a.duration=1) XR (numE a.duration)++opt (a.start=XJ) Yau (Xh a.start):=fun h0=>by rw [hl4,hys_3 (hkeep4 h0),hy4 h0]
  have hle_n4:=((hle_4.trans hly4).trans hlz4)
  have hle_5:=hle_n4
  refine Yk ?_
  refine Wp.drawK (Hq:=[(g4,_),(g3,_)]) T.mixed Zj Zj Zb ?_
  refine zW ?_;intros
  ((refine zG ?_);refine Yp (vs:=[.string a.over.op,.string a.over.name,.slice S6 s6 r6,.slice S7 s7 r7,.slice S8 s8 r8,.slice S9 s9 r9]) T 1 Zz Zz Zz Zz Zz Zz ?_)
  refine zc WU ?_
  unfold Ycw
  refine zc (Yew (b:=XJ) (h.over.mono hle_5) Yb5) ?_
  refine zW ?_;intros
  ((refine zG ?_);refine Yp (vs:=[.string a.over.op,.string a.over.name,.slice S6 s6 r6,.slice S7 s7 r7,.slice S8 s8 r8,.slice S9 s9 r9]) T 1 Zz Zz Zz Zz Zz Zz ?_)
  refine Yf ?_
  refine Yf ?_
  refine YM ⟨by kernel_rfl,?_⟩
  refine Yt (Ym [_] _ Zz Zz Zz (Ybq (h.over.mono hle_5) hs2) (fun v6 fy5 H6 hly5 hR6=>?_))
  obtain ⟨_,c5,y5,rfl,⟨cs6,rfl,hr6⟩,hc5,hy5⟩:=hR6
  obtain ⟨vk6,rfl,hY5⟩:=Yh hr6
  refine ⟨(⟨hly5,Zx⟩),?_⟩
  refine Yt (Does.perm (H':=((g5,_)::Hs_4)++ [_,_,_]) Zq (Does.after (Ym ((g5,_)::Hs_4) _ Zz Zz Zz (Yca (kw:=Ycy) (hG_4.mono hly5) hY5 (YR Zh) Zi) (fun v7 fz_5 H7 hlz5 hR7=>?_))))
  obtain ⟨_,_,v_5,n_5,Hs_5,rfl,hG_5,hn_5⟩:=hR7
  refine ⟨(g,wrO c5)::(g4,_)::(g3,_)::(g5,lsO v_5)::Hs_5,Zq (l₁:=[_,_,_]) (l₂:=(g5,lsO v_5)::Hs_5),(⟨(hly5.trans hlz5),Zx⟩),?_⟩
  refine Ch.done ?_
  refine zWO ?_;intros
  have hd5:c5=false↔(b=false∧Y5 a.name∧(∀ p∈a.params,Wz true p)∧FVal a.start)∧FVal a.over:=by rw [hc5,hb_4]
  have hb_5:c5=false↔b=false∧Y5 a.name∧(∀ p∈a.params,Wz true p)∧FVal a.start∧FVal a.over:=by rw [hd5];simp only [and_assoc]
  have hkeep5:c5=false→c4=false:=fun h0=>(hc5.1 h0).1
  rw [YdE] at hG_5
  obtain ⟨l_5,hl5⟩:∃ l',l'=l_4++opt (a.over=XJ) Ycy (y5):=⟨_,rfl⟩
  rw [← hl5] at hG_5
  have hys_5:c5=false→l_5=[Yi Y3,Yi a.name]++opt (a.params=[]) YD (YaT a.params)++opt (a.duration=1) XR (numE a.duration)++opt (a.start=XJ) Yau (Xh a.start)++opt (a.over=XJ) Ycy (Xh a.over):=fun h0=>by rw [hl5,hys_4 (hkeep5 h0),hy5 h0]
  have hle_n5:=((hle_5.trans hly5).trans hlz5)
  have hle_6:=hle_n5
  refine Yk ?_
  refine Wp.drawK (Hq:=[(g4,_),(g3,_)]) T.mixed Zj Zj Zb ?_
  refine zW ?_;intros
  ((refine zG ?_);refine Yp (vs:=[.string a.fin.op,.string a.fin.name,.slice S10 s10 r10,.slice S11 s11 r11,.slice S12 s12 r12,.slice S13 s13 r13]) T 1 Zz Zz Zz Zz Zz Zz ?_)
  refine zc WU ?_
  unfold Ycw
  refine zc (Yew (b:=XJ) (h.fin.mono hle_6) Yb5) ?_
  refine zW ?_;intros
  ((refine zG ?_);refine Yp (vs:=[.string a.fin.op,.string a.fin.name,.slice S10 s10 r10,.slice S11 s11 r11,.slice S12 s12 r12,.slice S13 s13 r13]) T 1 Zz Zz Zz Zz Zz Zz ?_)
  refine Yf ?_
  refine Yf ?_
  refine YM ⟨by kernel_rfl,?_⟩
  refine Yt (Ym [_] _ Zz Zz Zz (Ybq (h.fin.mono hle_6) hs3) (fun v6 fy6 H6 hly6 hR6=>?_))
  obtain ⟨_,c6,y6,rfl,⟨cs6,rfl,hr6⟩,hc6,hy6⟩:=hR6
  obtain ⟨vk6,rfl,hY6⟩:=Yh hr6
  refine ⟨(⟨hly6,Zx⟩),?_⟩
  refine Yt (Does.perm (H':=((g5,_)::Hs_5)++ [_,_,_]) Zq (Does.after (Ym ((g5,_)::Hs_5) _ Zz Zz Zz (Yca (kw:=kEnd) (hG_5.mono hly6) hY6 (YR Zh) Zi) (fun v7 fz_6 H7 hlz6 hR7=>?_))))
  obtain ⟨_,_,v_6,n_6,Hs_6,rfl,hG_6,hn_6⟩:=hR7
  refine ⟨(g,wrO c6)::(g4,_)::(g3,_)::(g5,lsO v_6)::Hs_6,Zq (l₁:=[_,_,_]) (l₂:=(g5,lsO v_6)::Hs_6),(⟨(hly6.trans hlz6),Zx⟩),?_⟩
  refine Ch.done ?_
  refine zWO ?_;intros
  have hd6:c6=false↔(b=false∧Y5 a.name∧(∀ p∈a.params,Wz true p)∧FVal a.start∧FVal a.over)∧FVal a.fin:=by rw [hc6,hb_5]
  have hb_6:c6=false↔b=false∧Y5 a.name∧(∀ p∈a.params,Wz true p)∧FVal a.start∧FVal a.over∧FVal a.fin:=by rw [hd6];simp only [and_assoc]
  have hkeep6:c6=false→c5=false:=fun h0=>(hc6.1 h0).1
  rw [YdE] at hG_6
  obtain ⟨l_6,hl6⟩:∃ l',l'=l_5++opt (a.fin=XJ) kEnd (y6):=⟨_,rfl⟩
  rw [← hl6] at hG_6
  have hys_6:c6=false→l_6=[Yi Y3,Yi a.name]++opt (a.params=[]) YD (YaT a.params)++opt (a.duration=1) XR (numE a.duration)++opt (a.start=XJ) Yau (Xh a.start)++opt (a.over=XJ) Ycy (Xh a.over)++opt (a.fin=XJ) kEnd (Xh a.fin):=fun h0=>by rw [hl6,hys_5 (hkeep6 h0),hy6 h0]
  have hle_n6:=((hle_6.trans hly6).trans hlz6)
  have hle_7:=hle_n6
  refine Yk ?_
  refine Wp.drawK (Hq:=[(g4,_),(g3,_)]) T.mixed Zj Zj Zb ?_
  refine zW ?_;intros
  refine zG ?_;refine Yht Zz Zz ?_
  refine zW ?_;intros
  refine Yf ?_
  refine Yf ?_
  refine YM ⟨by kernel_rfl,?_⟩
  refine Yt (Ym [_] _ Zz Zz Zz (YcX (iatStart.mono hle_7) hs4) (fun v6 fy7 H6 hly7 hR6=>?_))
  obtain ⟨_,c7,y7,rfl,⟨cs6,rfl,hr6⟩,hc7,hy7⟩:=hR6
  obtain ⟨vk6,rfl,hY7⟩:=Yh hr6
  refine ⟨(⟨hly7,Zx⟩),?_⟩
  refine Yt (Does.perm (H':=((g5,_)::Hs_6)++ [_,_,_]) Zq (Does.after (Ym ((g5,_)::Hs_6) _ Zz Zz Zz (Yca (kw:=WA) (hG_6.mono hly7) hY7 (YR Zh) Zi) (fun v7 fz_7 H7 hlz7 hR7=>?_))))
  obtain ⟨_,_,v_7,n_7,Hs_7,rfl,hG_7,hn_7⟩:=hR7
  refine ⟨(g,wrO c7)::(g4,_)::(g3,_)::(g5,lsO v_7)::Hs_7,Zq (l₁:=[_,_,_]) (l₂:=(g5,lsO v_7)::Hs_7),(⟨(hly7.trans hlz7),Zx⟩),?_⟩
  refine Ch.done ?_
  refine zWO ?_;intros
  have hd7:c7=false↔(b=false∧Y5 a.name∧(∀ p∈a.params,Wz true p)∧FVal a.start∧FVal a.over∧FVal a.fin)∧Ya8 a.atStart:=by rw [hc7,hb_6]
  have hb_7:c7=false↔b=false∧Y5 a.name∧(∀ p∈a.params,Wz true p)∧FVal a.start∧FVal a.over∧FVal a.fin∧Ya8 a.atStart:=by rw [hd7];simp only [and_assoc]
  have hkeep7:c7=false→c6=false:=fun h0=>(hc7.1 h0).1
  rw [YeQ iatStart.len] at hG_7
  obtain ⟨l_7,hl7⟩:∃ l',l'=l_6++opt (a.atStart=[]) WA (y7):=⟨_,rfl⟩
  rw [← hl7] at hG_7
  have hys_7:c7=false→l_7=[Yi Y3,Yi a.name]++opt (a.params=[]) YD (YaT a.params)++opt (a.duration=1) XR (numE a.duration)++opt (a.start=XJ) Yau (Xh a.start)++opt (a.over=XJ) Ycy (Xh a.over)++opt (a.fin=XJ) kEnd (Xh a.fin)++opt (a.atStart=[]) WA (effX a.atStart):=fun h0=>by rw [hl7,hys_6 (hkeep7 h0),hy7 h0]
  have hle_n7:=((hle_7.trans hly7).trans hlz7)
  have hle_8:=hle_n7
  refine Yk ?_
  refine Wp.drawK (Hq:=[(g4,_),(g3,_)]) T.mixed Zj Zj Zb ?_
  refine zW ?_;intros
  refine zG ?_;refine Yht Zz Zz ?_
  refine zW ?_;intros
  refine Yf ?_
  refine Yf ?_
  refine YM ⟨by kernel_rfl,?_⟩
  refine Yt (Ym [_] _ Zz Zz Zz (YcX (iatEnd.mono hle_8) hs5) (fun v6 fy8 H6 hly8 hR6=>?_))
  obtain ⟨_,c8,y8,rfl,⟨cs6,rfl,hr6⟩,hc8,hy8⟩:=hR6
  obtain ⟨vk6,rfl,hY8⟩:=Yh hr6
  refine ⟨(⟨hly8,Zx⟩),?_⟩
  refine Yt (Does.perm (H':=((g5,_)::Hs_7)++ [_,_,_]) Zq (Does.after (Ym ((g5,_)::Hs_7) _ Zz Zz Zz (Yca (kw:=Ydb) (hG_7.mono hly8) hY8 (YR Zh) Zi) (fun v7 fz_8 H7 hlz8 hR7=>?_))))
  obtain ⟨_,_,v_8,n_8,Hs_8,rfl,hG_8,hn_8⟩:=hR7
  refine ⟨(g,wrO c8)::(g4,_)::(g3,_)::(g5,lsO v_8)::Hs_8,Zq (l₁:=[_,_,_]) (l₂:=(g5,lsO v_8)::Hs_8),(⟨(hly8.trans hlz8),Zx⟩),?_⟩
  refine Ch.done ?_
  refine zWO ?_;intros
  have hd8:c8=false↔(b=false∧Y5 a.name∧(∀ p∈a.params,Wz true p)∧FVal a.start∧FVal a.over∧FVal a.fin∧Ya8 a.atStart)∧Ya8 a.atEnd:=by rw [hc8,hb_7]
  have hb_8:c8=false↔b=false∧Y5 a.name∧(∀ p∈a.params,Wz true p)∧FVal a.start∧FVal a.over∧FVal a.fin∧Ya8 a.atStart∧Ya8 a.atEnd:=by rw [hd8];simp only [and_assoc]
  have hkeep8:c8=false→c7=false:=fun h0=>(hc8.1 h0).1
  rw [YeQ iatEnd.len] at hG_8
  obtain ⟨l_8,hl8⟩:∃ l',l'=l_7++opt (a.atEnd=[]) Ydb (y8):=⟨_,rfl⟩
  rw [← hl8] at hG_8
  have hys_8:c8=false→l_8=[Yi Y3,Yi a.name]++opt (a.params=[]) YD (YaT a.params)++opt (a.duration=1) XR (numE a.duration)++opt (a.start=XJ) Yau (Xh a.start)++opt (a.over=XJ) Ycy (Xh a.over)++opt (a.fin=XJ) kEnd (Xh a.fin)++opt (a.atStart=[]) WA (effX a.atStart)++opt (a.atEnd=[]) Ydb (effX a.atEnd):=fun h0=>by rw [hl8,hys_7 (hkeep8 h0),hy8 h0]
  have hle_n8:=((hle_8.trans hly8).trans hlz8)
  obtain ⟨Av,cv,rfl,_,_⟩:=hG_8.form
  refine zW ?_;intros
  refine Yc3 T (i:=1) (H':=[(g,wrO c8)]) rfl Zz Zz Zz Zz Zz (Zr _) (fun fz3 hle3 hf3=>?_)
  obtain ⟨A',c',he,hsl⟩:=hG_8.sl hle3 (fun p hp=>hf3 p (by simp [hp])) Zi
  injection he with he1 he2 he3
  subst he1 he3
  exact ⟨hle_n8.trans hle3,c8,_,rfl,WS hsl,hb_8,fun h0=>by rw [hys_8 h0];simp only [durX,List.append_assoc]⟩
def YdI {α:Type} (S:α→Bs→Sexpr→Except Int α):α→List (Bs × Sexpr)→Except Int α
 | a,[]=>.ok a
 | a,p::r=>match S a p.1 p.2 with
  | .error c=>.error c
  | .ok b=>YdI S b r
def finS {α:Type} (S:α→Bs→Sexpr→Except Int α) (kw:List Bs) (a:α) (x:Sexpr):Except Int α:=match YdI S a (prtM kw (x.kids.drop 2)).1 with
 | .error c=>.error c
 | .ok b=>if (prtM kw (x.kids.drop 2)).2 then .ok b else .error 2
def ErrA {α:Type} (m:Except Int α) (ev:Value) (a:α):Prop:=match m with
 | .error c=>ev=errV c∧c≠0
 | .ok b=>ev=.nilIface∧a=b
theorem Ygk {p:Bs × Sexpr}:∀ {r:List Sexpr} {kw:List Bs},p∈(prtM kw r).1→p.2∈r
 | [],kw,h=>by rw [Yls] at h;cases h
 | [x],kw,h=>by rw [Yjy (.inr rfl)] at h;cases h
 | x::v::r,kw,h=>by
  by_cases hk:0≤kwP kw x
  ·rw [Ylr hk] at h
   rcases List.mem_append.1 h with h | h
   ·simp at h;subst h;simp
   ·exact List.mem_cons_of_mem _ (List.mem_cons_of_mem _ (Ygk h))
  ·rw [Yjy (.inl Zi)] at h;cases h
theorem Yl0 {x:Sexpr} {c:Int} (h:hdrM x=.error c):c≠0:=by
 unfold hdrM at h
 split at h
 ·split at h
  ·split at h
   ·cases h
   ·injection h with h;omega
  ·injection h with h;omega
 ·injection h with h;omega
variable {vk:Value}
theorem hdr_ok {x:Sexpr} {s:Bs} (h:hdrM x=.ok s) (hR:YW fz x vk):Short s∧2≤x.kids.length:=by
 unfold hdrM at h
 split at h
 ·rename_i w y r hk
  split at h
  ·split at h
   ·rename_i hn
    injection h with h
    subst h
    exact ⟨by have:=hn.2.2.1;unfold Short;omega,by rw [hk];simp⟩
   ·cases h
  ·cases h
 ·cases h
theorem YjF {x:Sexpr} {c:Int} (h:YdB x=.error c):c≠0:=by
 unfold YdB at h
 split at h
 ·cases h
 ·injection h with h;omega
theorem YlI {x:Sexpr} {n:Int} (h:YdB x=.ok n) (hR:YW fz x vk):I64 n:=by
 unfold YdB at h
 split at h
 ·injection h with h;rw [← h];exact hR.value
 ·cases h
theorem Ycm:FormulaR fz XJ (.slice none 0 0) (.slice none 0 0) (.slice none 0 0) (.slice none 0 0):=Yb5
def setA (a:Action) (w:Bs) (v:Sexpr):Except Int Action:=if w=YD then (match Yff v with | .error c=>.error c | .ok y=>.ok {a with params:=y}) else if w=Yda then (match YdB v with | .error c=>.error c | .ok y=>if y<0 then .error 1 else .ok {a with cost:=y}) else if w=Xg then (match WN v with | .error c=>.error c | .ok y=>.ok {a with pre:=y}) else (match WI v with | .error c=>.error c | .ok y=>.ok {a with changes:=y})
theorem Yld {a:Action} {w:Bs} {v:Sexpr}:setA a w v=if w=YD then (match Yff v with | .error c=>.error c | .ok y=>.ok {a with params:=y}) else if w=Yda then (match YdB v with | .error c=>.error c | .ok y=>if y<0 then .error 1 else .ok {a with cost:=y}) else if w=Xg then (match WN v with | .error c=>.error c | .ok y=>.ok {a with pre:=y}) else (match WI v with | .error c=>.error c | .ok y=>.ok {a with changes:=y}):=rfl
def act0 (nm:Bs):Action:=⟨nm,[],1,XJ,[]⟩
theorem Yhf {nm:Bs} (h:Short nm):actionL.rep fz (act0 nm) [.string nm,.slice none 0 0,.int .i64 1,.string kAnd,.string ⟨#[]⟩,.slice none 0 0,.slice none 0 0,.slice none 0 0,.slice none 0 0,.slice none 0 0]:=X1 (x:=act0 nm) ⟨h,IsSl.nil,by show I64 1;unfold I64;omega,Ycm,IsSl.nil⟩
def kwA:List Bs:=[YD,Yda,Xg,YbV]
def actM (x:Sexpr):Except Int Action:=match hdrM x with | .error c=>.error c | .ok nm=>finS setA kwA (act0 nm) x
set_option maxHeartbeats 16000000 in
theorem action_f {x:Sexpr} (hs:XSm x) (h:YW fz x vk):GFn prog 95 [.agg #[.int .i64 x.kind,.int .i64 x.value,.int .i64 x.line,.int .i64 x.column,.string x.text,vk]] fz [] (fun r fz' H'=>H'=[]∧ResL actionL fz' (actM x) r):=by
 have hhd:=YjN h
 obtain ⟨A,n,c,rfl,ik⟩:=h.kids
 have hl:=ik.len
 have hsl:x.kids.length≤1000000:=(Y8.1 hs).1
 have hM:actM x=match hdrM x with | .error c=>.error c | .ok nm=>finS setA kwA (act0 nm) x:=rfl
 refine zF Tryz.func95 Tryz.ntmps95 (fun w0=>?_)
 refine zW ?_;intros
 refine zc WU ?_
 refine zW ?_;intros
 rename_i g1 g2 g4
 cases hd:hdrM x with
 | error c=>
  rw [hd] at hM hhd
  have hc:c≠0:=Yl0 hd
  refine zc hhd ?_
  unfold strV
  refine zW ?_;intros
  exact YQ T (vs:=[.agg #[.string ⟨#[]⟩,.slice none 0 0,.int .i64 1,.string kAnd,.string ⟨#[]⟩,.slice none 0 0,.slice none 0 0,.slice none 0 0,.slice none 0 0,.slice none 0 0],.iface 65 (.int .i64 c)]) Zz ⟨⟨_,_,1,_,_,_,rfl,rfl,rfl,rfl,rfl,rfl⟩,rfl,trivial⟩ (fun fz3 hle3 hf3=>⟨rfl,ResL.err hM hc (Yhf XQ)⟩)
 | ok nm=>
  rw [hd] at hhd
  have hM:actM x=finS setA kwA (act0 nm) x:=by rw [actM,hd]
  obtain ⟨hnm,hn2⟩:=hdr_ok hd h
  refine zc hhd ?_
  unfold strV
  refine zW ?_;intros
  refine zG ?_;refine Xu (j:=2) T Zz Zz Zz Zz Zz Zz ik Zi (fun A' hA'=>?_)
  refine zW ?_;intros
  refine Ya Zz (Yc T (cs:=[.string YD,.string Yda,.string Xg,.string YbV]) Zz Zz Zz Zz Zz Zz Zz Zz (fun gb=>?_))
  first | refine Wp.freeze Zz (fun fz2 hle2 hg2=>?_) | refine Seq.freeze Zz (fun fz2 hle2 hg2=>?_)
  have hkw:Sl strL fz2 (some ⟨gb,0,none⟩) 4 4 kwA:=Xt (ys:=[(YD,[.string YD]),(Yda,[.string Yda]),(Xg,[.string Xg]),(YbV,[.string YbV])]) hg2 rfl rfl (by intro p hp;simp only [List.mem_cons,List.not_mem_nil,_root_.or_false] at hp;rcases hp with rfl | rfl | rfl | rfl<;>exact ⟨rfl,by show _≤_;decide⟩) rfl Zh
  refine Ya Zz (Ym [] _ Zz Zz Zz (Ylz (hA'.mono hle2) hkw Zi Zi) (fun r4 fz4 H4 hle4 hR4=>?_))
  obtain ⟨rfl,A1,n1,c1,A2,c2,rfl,i1,i2⟩:=hR4
  generalize hlv:errV (if (prtM kwA (x.kids.drop 2)).2=true then 0 else 2)=lv at*
  have hmem:∀ p∈(prtM kwA (x.kids.drop 2)).1,XSm p.2:=fun p hp=>(Y8.1 hs).2 _ (List.mem_of_mem_drop (Ygk hp))
  unfold finS at hM
  generalize hpl:(prtM kwA (x.kids.drop 2)).1=l at*
  have hl1:=i1.len
  have hs1:=i1.short
  rw [List.length_map] at hl1
  rw [List.nil_append]
  refine zW ?_;intros
  refine Yl (fun q σ fz' H'=>∃ (k:Nat) (a:Action) (cs:List Value),k≤n1∧q=n1 - k∧σ=[(34,.int .i64 k),(33,.int .i64 n1),(32,.slice A2 n1 c2),(8,lv),(6,.slice A1 n1 c1),(4,.pointer (some ⟨g4,0,none⟩)),(2,.pointer (some ⟨g2,0,none⟩))]∧Le fz4 fz'∧H'=[(g4,.cells (List.toArray cs) 75 (0,0)),(g2,.cells #[.string ⟨#[]⟩,.slice none 0 0,.int .i64 0,.string ⟨#[]⟩,.string ⟨#[]⟩,.slice none 0 0,.slice none 0 0,.slice none 0 0,.slice none 0 0,.slice none 0 0] 75 (0,0))]∧actionL.rep fz' a cs∧YdI setA (act0 nm) l=YdI setA a (l.drop k)) ⟨0,act0 nm,_,Z0 _,rfl,rfl,Le.refl _,rfl,Yhf hnm,rfl⟩ Zw Zb ?_
  rintro q σ fz' H' ⟨k,a,cs,hk,rfl,rfl,hle,rfl,hA,hF⟩
  obtain ⟨x1,x2,x3,x4,x5,x6,rfl,hR⟩:=Xz hA
  obtain ⟨U2,u2,w2,rfl,j2⟩:=hR.params
  obtain ⟨U4a,u4a,w4a,rfl,_⟩:=hR.pre.args
  obtain ⟨U4b,u4b,w4b,rfl,_⟩:=hR.pre.params
  obtain ⟨U4c,u4c,w4c,rfl,_⟩:=hR.pre.exprs
  obtain ⟨U4d,u4d,w4d,rfl,_⟩:=hR.pre.kids
  obtain ⟨U5,u5,w5,rfl,j5⟩:=hR.changes
  refine zW ?_;intros
  refine zC (fun c3=>?_) (fun c3=>?_)
  ·obtain ⟨⟨w,v⟩,hp⟩:=Yn (l:=l) (k:=k) Zi
   have hw:(l.map Prod.fst)[k]?=some w:=by rw [List.getElem?_map,hp];rfl
   have hv:(l.map Prod.snd)[k]?=some v:=by rw [List.getElem?_map,hp];rfl
   have hsv:=hmem _ (Zm hp)
   rw [Ybj hp,YdI] at hF
   refine zWX ?_;intros
   refine Yk ?_
   refine zWX ?_;intros
   refine Yk ?_
   refine zWX ?_;intros
   refine Yk ?_
   refine zWX ?_;intros
   refine zI (i2.mono hle) hv (fun p1 hp1=>?_)
   refine zL hp1 ?_
   intro cs1 hcs1
   obtain ⟨vv,rfl,hRv⟩:=Yh hcs1
   have hRv':=hRv
   obtain ⟨Av,nv,cv,rfl,iv⟩:=hRv.kids
   refine zWX ?_;intros
   rename_i g10
   refine Yk ?_
   refine zWX ?_;intros
   refine Wp.mid (fun σ fz' H'=>∃ (ev:Value) (cs:List Value) (a2:Action),σ=[(34,.int .i64 k),(33,.int .i64 n1),(32,.slice A2 n1 c2),(8,lv),(6,.slice A1 n1 c1),(5,ev),(4,.pointer (some ⟨g4,0,none⟩)),(2,.pointer (some ⟨g2,0,none⟩))]∧Le fz4 fz'∧H'=[(g4,.cells (List.toArray cs) 75 (0,0)),(g2,.cells #[.string ⟨#[]⟩,.slice none 0 0,.int .i64 0,.string ⟨#[]⟩,.string ⟨#[]⟩,.slice none 0 0,.slice none 0 0,.slice none 0 0,.slice none 0 0,.slice none 0 0] 75 (0,0))]∧actionL.rep fz' a2 cs∧ErrA (setA a w v) ev a2) ?_ ?_
   ·have hS:=Yld (a:=a) (w:=w) (v:=v)
    refine zW ?_;intros
    refine zI (i1.mono hle) hw (fun p2 hp2=>?_)
    refine zW ?_;intros
    refine zH hp2 (fun hs2=>?_)
    refine zW ?_;intros
    refine zC (fun b0=>?_) (fun b0=>?_)
    ·rw [if_pos (show w=YD from b0)] at hS
     refine zW ?_;intros
     refine Ya Zz (Ym [] _ Zz Zz Zz (dpar_f hsv hRv') (fun r5 fz5 H5 hle5 hR5=>?_))
     obtain ⟨rfl,hR5⟩:=hR5
     cases hx:Yff v with
     | error c=>
      rw [hx] at hR5 hS
      obtain ⟨rfl,hc⟩:=hR5
      rw [Yj hc]
      refine zW ?_;intros
      exact midN ⟨_,_,{a with params:=[]},rfl,hle.trans hle5,rfl,X1 ⟨(hR.mono hle5).name,IsSl.nil,(hR.mono hle5).cost,(hR.mono hle5).pre,(hR.mono hle5).changes⟩,by rw [hS];exact ⟨(Yj hc).symm,hc⟩⟩ Zw Zb
     | ok y=>
      rw [hx] at hR5 hS
      obtain ⟨A5,n5,c5,rfl,il⟩:=hR5
      refine zW ?_;intros
      exact midN ⟨_,_,{a with params:=y},rfl,hle.trans hle5,rfl,X1 ⟨(hR.mono hle5).name,⟨_,_,_,rfl,il⟩,(hR.mono hle5).cost,(hR.mono hle5).pre,(hR.mono hle5).changes⟩,by rw [hS];exact ⟨rfl,rfl⟩⟩ Zw Zb
    ·rw [if_neg (show ¬w=YD from b0)] at hS
     refine zW ?_;intros
     refine zC (fun b1=>?_) (fun b1=>?_)
     ·rw [if_pos (show w=Yda from b1)] at hS
      refine zW ?_;intros
      have hnq:=YjE (fz:=fz') (x:=v) (vk:=.slice Av nv cv)
      cases hx:YdB v with
      | error c=>
       rw [hx] at hS hnq
       have hc:c≠0:=YjF hx
       refine zc hnq ?_
       unfold intV
       refine zW ?_;intros
       exact midN ⟨_,_,{a with cost:=0},rfl,hle,rfl,X1 ⟨(hR.mono (Le.refl _)).name,(hR.mono (Le.refl _)).params,i64z,(hR.mono (Le.refl _)).pre,(hR.mono (Le.refl _)).changes⟩,by rw [hS];exact ⟨(Yj hc).symm,hc⟩⟩ Zw Zb
      | ok y=>
       rw [hx] at hS hnq
       have hy:I64 y:=YlI hx hRv'
       refine zc hnq ?_
       unfold intV
       refine zW ?_;intros
       simp only at hS
       refine zC (fun c5=>?_) (fun c5=>?_)
       ·rw [if_pos c5] at hS
        refine zW ?_;intros
        exact midN ⟨_,_,{a with cost:=y},rfl,hle,rfl,X1 ⟨(hR.mono (Le.refl _)).name,(hR.mono (Le.refl _)).params,hy,(hR.mono (Le.refl _)).pre,(hR.mono (Le.refl _)).changes⟩,by rw [hS];exact ⟨(Yj Zh).symm,by decide⟩⟩ Zw Zb
       ·rw [if_neg c5] at hS
        refine zW ?_;intros
        exact midN ⟨_,_,{a with cost:=y},rfl,hle,rfl,X1 ⟨(hR.mono (Le.refl _)).name,(hR.mono (Le.refl _)).params,hy,(hR.mono (Le.refl _)).pre,(hR.mono (Le.refl _)).changes⟩,by rw [hS];exact ⟨rfl,rfl⟩⟩ Zw Zb
     ·rw [if_neg (show ¬w=Yda from b1)] at hS
      refine zW ?_;intros
      refine zC (fun b2=>?_) (fun b2=>?_)
      ·rw [if_pos (show w=Xg from b2)] at hS
       refine zW ?_;intros
       refine Ya Zz (Ym [] _ Zz Zz Zz (Yct hRv') (fun r5 fz5 H5 hle5 hR5=>?_))
       obtain ⟨rfl,f5,cs5,hr5,hR5⟩:=hR5
       obtain ⟨y1,y2,y3,y4,rfl,hE5⟩:=YK hr5
       obtain ⟨B1,m1,d1,rfl,_⟩:=hE5.args
       obtain ⟨B2,m2,d2,rfl,_⟩:=hE5.params
       obtain ⟨B3,m3,d3,rfl,_⟩:=hE5.exprs
       obtain ⟨B4,m4,d4,rfl,_⟩:=hE5.kids
       cases hx:WN v with
       | error c=>
        rw [hx] at hR5 hS
        obtain ⟨rfl,hc⟩:=hR5
        rw [Yj hc]
        refine zW ?_;intros
        exact midN ⟨_,_,{a with pre:=f5},rfl,hle.trans hle5,rfl,X1 ⟨(hR.mono hle5).name,(hR.mono hle5).params,(hR.mono hle5).cost,hE5,(hR.mono hle5).changes⟩,by rw [hS];exact ⟨(Yj hc).symm,hc⟩⟩ Zw Zb
       | ok y=>
        rw [hx] at hR5 hS
        obtain ⟨rfl,rfl⟩:=hR5
        refine zW ?_;intros
        exact midN ⟨_,_,{a with pre:=y},rfl,hle.trans hle5,rfl,X1 ⟨(hR.mono hle5).name,(hR.mono hle5).params,(hR.mono hle5).cost,hE5,(hR.mono hle5).changes⟩,by rw [hS];exact ⟨rfl,rfl⟩⟩ Zw Zb
      ·rw [if_neg (show ¬w=Xg from b2)] at hS
       refine zW ?_;intros
       refine Ya Zz (Ym [] _ Zz Zz Zz (Ydy hRv') (fun r5 fz5 H5 hle5 hR5=>?_))
       obtain ⟨rfl,hR5⟩:=hR5
       cases hx:WI v with
       | error c=>
        rw [hx] at hR5 hS
        obtain ⟨rfl,hc⟩:=hR5
        rw [Yj hc]
        refine zW ?_;intros
        exact midN ⟨_,_,{a with changes:=[]},rfl,hle.trans hle5,rfl,X1 ⟨(hR.mono hle5).name,(hR.mono hle5).params,(hR.mono hle5).cost,(hR.mono hle5).pre,IsSl.nil⟩,by rw [hS];exact ⟨(Yj hc).symm,hc⟩⟩ Zw Zb
       | ok y=>
        rw [hx] at hR5 hS
        obtain ⟨A5,n5,c5,rfl,il⟩:=hR5
        refine zW ?_;intros
        exact midN ⟨_,_,{a with changes:=y},rfl,hle.trans hle5,rfl,X1 ⟨(hR.mono hle5).name,(hR.mono hle5).params,(hR.mono hle5).cost,(hR.mono hle5).pre,⟨_,_,_,rfl,il⟩⟩,by rw [hS];exact ⟨rfl,rfl⟩⟩ Zw Zb
   rintro σ fz' H' ⟨ev,cs,a2,rfl,hle5,rfl,hA5,hS⟩
   obtain ⟨x1,x2,x3,x4,x5,x6,rfl,hR'⟩:=Xz hA5
   obtain ⟨U2,u2,w2,rfl,j2⟩:=hR'.params
   obtain ⟨U4a,u4a,w4a,rfl,_⟩:=hR'.pre.args
   obtain ⟨U4b,u4b,w4b,rfl,_⟩:=hR'.pre.params
   obtain ⟨U4c,u4c,w4c,rfl,_⟩:=hR'.pre.exprs
   obtain ⟨U4d,u4d,w4d,rfl,_⟩:=hR'.pre.kids
   obtain ⟨U5,u5,w5,rfl,j5⟩:=hR'.changes
   cases hx:setA a w v with
   | error c=>
    rw [hx] at hS hF
    obtain ⟨rfl,hc⟩:=hS
    rw [hF] at hM
    rw [Yj hc]
    refine zW ?_;intros
    exact YQ T (vs:=[.agg #[.string a2.name,.slice U2 u2 w2,.int .i64 a2.cost,.string a2.pre.op,.string a2.pre.name,.slice U4a u4a w4a,.slice U4b u4b w4b,.slice U4c u4c w4c,.slice U4d u4d w4d,.slice U5 u5 w5],.iface 65 (.int .i64 c)]) Zz ⟨⟨_,_,1,_,_,_,rfl,rfl,rfl,rfl,rfl,rfl⟩,rfl,trivial⟩ (fun fz3 hle3 hf3=>⟨rfl,ResL.err hM hc (actionL.mono hle3 hA5)⟩)
   | ok b=>
    rw [hx] at hS hF
    obtain ⟨rfl,rfl⟩:=hS
    refine zW ?_;intros
    exact Yz ⟨k+1,a2,_,by omega,rfl,rfl,hle5,rfl,hA5,hF⟩ Zi Zw Zb
  ·rw [List.drop_eq_nil_of_le Zi,YdI] at hF
   rw [hF] at hM
   refine zW ?_;intros
   cases hb:(prtM kwA (x.kids.drop 2)).2 with
   | true=>
    rw [hb] at hM hlv
    subst hlv
    exact YQ T (vs:=[.agg #[.string a.name,.slice U2 u2 w2,.int .i64 a.cost,.string a.pre.op,.string a.pre.name,.slice U4a u4a w4a,.slice U4b u4b w4b,.slice U4c u4c w4c,.slice U4d u4d w4d,.slice U5 u5 w5],.nilIface]) Zz ⟨⟨_,_,1,_,_,_,rfl,rfl,rfl,rfl,rfl,rfl⟩,rfl,trivial⟩ (fun fz3 hle3 hf3=>⟨rfl,ResL.fine hM (actionL.mono hle3 hA)⟩)
   | false=>
    rw [hb] at hM hlv
    subst hlv
    exact YQ T (vs:=[.agg #[.string a.name,.slice U2 u2 w2,.int .i64 a.cost,.string a.pre.op,.string a.pre.name,.slice U4a u4a w4a,.slice U4b u4b w4b,.slice U4c u4c w4c,.slice U4d u4d w4d,.slice U5 u5 w5],.iface 65 (.int .i64 2)]) Zz ⟨⟨_,_,1,_,_,_,rfl,rfl,rfl,rfl,rfl,rfl⟩,rfl,trivial⟩ (fun fz3 hle3 hf3=>⟨rfl,ResL.err hM Zh (actionL.mono hle3 hA)⟩)
def setD (a:Durative) (w:Bs) (v:Sexpr):Except Int Durative:=if w=YD then (match Yff v with | .error c=>.error c | .ok y=>.ok {a with params:=y}) else if w=XR then (match YdB v with | .error c=>.error c | .ok y=>.ok {a with duration:=y}) else if w=Yau then (match WN v with | .error c=>.error c | .ok y=>.ok {a with start:=y}) else if w=Ycy then (match WN v with | .error c=>.error c | .ok y=>.ok {a with over:=y}) else if w=kEnd then (match WN v with | .error c=>.error c | .ok y=>.ok {a with fin:=y}) else if w=WA then (match WI v with | .error c=>.error c | .ok y=>.ok {a with atStart:=y}) else (match WI v with | .error c=>.error c | .ok y=>.ok {a with atEnd:=y})
theorem Ylc {a:Durative} {w:Bs} {v:Sexpr}:setD a w v=if w=YD then (match Yff v with | .error c=>.error c | .ok y=>.ok {a with params:=y}) else if w=XR then (match YdB v with | .error c=>.error c | .ok y=>.ok {a with duration:=y}) else if w=Yau then (match WN v with | .error c=>.error c | .ok y=>.ok {a with start:=y}) else if w=Ycy then (match WN v with | .error c=>.error c | .ok y=>.ok {a with over:=y}) else if w=kEnd then (match WN v with | .error c=>.error c | .ok y=>.ok {a with fin:=y}) else if w=WA then (match WI v with | .error c=>.error c | .ok y=>.ok {a with atStart:=y}) else (match WI v with | .error c=>.error c | .ok y=>.ok {a with atEnd:=y}):=rfl
def dur0 (nm:Bs):Durative:=⟨nm,[],1,XJ,XJ,XJ,[],[]⟩
theorem Yhe {nm:Bs} (h:Short nm):durativeL.rep fz (dur0 nm) [.string nm,.slice none 0 0,.int .i64 1,.string kAnd,.string ⟨#[]⟩,.slice none 0 0,.slice none 0 0,.slice none 0 0,.slice none 0 0,.string kAnd,.string ⟨#[]⟩,.slice none 0 0,.slice none 0 0,.slice none 0 0,.slice none 0 0,.string kAnd,.string ⟨#[]⟩,.slice none 0 0,.slice none 0 0,.slice none 0 0,.slice none 0 0,.slice none 0 0,.slice none 0 0]:=Y2 (x:=dur0 nm) ⟨h,IsSl.nil,by show I64 1;unfold I64;omega,Ycm,Ycm,Ycm,IsSl.nil,IsSl.nil⟩
def kwD:List Bs:=[YD,XR,Yau,Ycy,kEnd,WA,Ydb]
def durM (x:Sexpr):Except Int Durative:=match hdrM x with | .error c=>.error c | .ok nm=>finS setD kwD (dur0 nm) x
set_option maxHeartbeats 16000000 in
theorem Ykt {x:Sexpr} (hs:XSm x) (h:YW fz x vk):GFn prog 96 [.agg #[.int .i64 x.kind,.int .i64 x.value,.int .i64 x.line,.int .i64 x.column,.string x.text,vk]] fz [] (fun r fz' H'=>H'=[]∧ResL durativeL fz' (durM x) r):=by
 have hhd:=YjN h
 obtain ⟨A,n,c,rfl,ik⟩:=h.kids
 have hl:=ik.len
 have hsl:x.kids.length≤1000000:=(Y8.1 hs).1
 have hM:durM x=match hdrM x with | .error c=>.error c | .ok nm=>finS setD kwD (dur0 nm) x:=rfl
 refine zF Tryz.func96 Tryz.ntmps96 (fun w0=>?_)
 refine zW ?_;intros
 refine zc WU ?_
 refine zW ?_;intros
 refine zc WU ?_
 refine zW ?_;intros
 refine zc WU ?_
 refine zW ?_;intros
 rename_i g1 g2 g4
 cases hd:hdrM x with
 | error c=>
  rw [hd] at hM hhd
  have hc:c≠0:=Yl0 hd
  refine zc hhd ?_
  unfold strV
  refine zW ?_;intros
  exact YQ T (vs:=[.agg #[.string ⟨#[]⟩,.slice none 0 0,.int .i64 1,.string kAnd,.string ⟨#[]⟩,.slice none 0 0,.slice none 0 0,.slice none 0 0,.slice none 0 0,.string kAnd,.string ⟨#[]⟩,.slice none 0 0,.slice none 0 0,.slice none 0 0,.slice none 0 0,.string kAnd,.string ⟨#[]⟩,.slice none 0 0,.slice none 0 0,.slice none 0 0,.slice none 0 0,.slice none 0 0,.slice none 0 0],.iface 65 (.int .i64 c)]) Zz ⟨⟨_,_,1,_,_,_,rfl,rfl,rfl,rfl,rfl,rfl⟩,rfl,trivial⟩ (fun fz3 hle3 hf3=>⟨rfl,ResL.err hM hc (Yhe XQ)⟩)
 | ok nm=>
  rw [hd] at hhd
  have hM:durM x=finS setD kwD (dur0 nm) x:=by rw [durM,hd]
  obtain ⟨hnm,hn2⟩:=hdr_ok hd h
  refine zc hhd ?_
  unfold strV
  refine zW ?_;intros
  refine zG ?_;refine Xu (j:=2) T Zz Zz Zz Zz Zz Zz ik Zi (fun A' hA'=>?_)
  refine zW ?_;intros
  refine Ya Zz (Yc T (cs:=[.string YD,.string XR,.string Yau,.string Ycy,.string kEnd,.string WA,.string Ydb]) Zz Zz Zz Zz Zz Zz Zz Zz (fun gb=>?_))
  first | refine Wp.freeze Zz (fun fz2 hle2 hg2=>?_) | refine Seq.freeze Zz (fun fz2 hle2 hg2=>?_)
  have hkw:Sl strL fz2 (some ⟨gb,0,none⟩) 7 7 kwD:=Xt (ys:=[(YD,[.string YD]),(XR,[.string XR]),(Yau,[.string Yau]),(Ycy,[.string Ycy]),(kEnd,[.string kEnd]),(WA,[.string WA]),(Ydb,[.string Ydb])]) hg2 rfl rfl (by intro p hp;simp only [List.mem_cons,List.not_mem_nil,_root_.or_false] at hp;rcases hp with rfl | rfl | rfl | rfl | rfl | rfl | rfl<;>exact ⟨rfl,by show _≤_;decide⟩) rfl Zh
  refine Ya Zz (Ym [] _ Zz Zz Zz (Ylz (hA'.mono hle2) hkw Zi Zi) (fun r4 fz4 H4 hle4 hR4=>?_))
  obtain ⟨rfl,A1,n1,c1,A2,c2,rfl,i1,i2⟩:=hR4
  generalize hlv:errV (if (prtM kwD (x.kids.drop 2)).2=true then 0 else 2)=lv at*
  have hmem:∀ p∈(prtM kwD (x.kids.drop 2)).1,XSm p.2:=fun p hp=>(Y8.1 hs).2 _ (List.mem_of_mem_drop (Ygk hp))
  unfold finS at hM
  generalize hpl:(prtM kwD (x.kids.drop 2)).1=l at*
  have hl1:=i1.len
  have hs1:=i1.short
  rw [List.length_map] at hl1
  rw [List.nil_append]
  refine zW ?_;intros
  refine Yl (fun q σ fz' H'=>∃ (k:Nat) (a:Durative) (cs:List Value),k≤n1∧q=n1 - k∧σ=[(36,.int .i64 k),(35,.int .i64 n1),(34,.slice A2 n1 c2),(8,lv),(6,.slice A1 n1 c1),(4,.pointer (some ⟨g4,0,none⟩)),(2,.pointer (some ⟨g2,0,none⟩))]∧Le fz4 fz'∧H'=[(g4,.cells (List.toArray cs) 78 (0,0)),(g2,.cells #[.string ⟨#[]⟩,.slice none 0 0,.int .i64 0,.string ⟨#[]⟩,.string ⟨#[]⟩,.slice none 0 0,.slice none 0 0,.slice none 0 0,.slice none 0 0,.string ⟨#[]⟩,.string ⟨#[]⟩,.slice none 0 0,.slice none 0 0,.slice none 0 0,.slice none 0 0,.string ⟨#[]⟩,.string ⟨#[]⟩,.slice none 0 0,.slice none 0 0,.slice none 0 0,.slice none 0 0,.slice none 0 0,.slice none 0 0] 78 (0,0))]∧durativeL.rep fz' a cs∧YdI setD (dur0 nm) l=YdI setD a (l.drop k)) ⟨0,dur0 nm,_,Z0 _,rfl,rfl,Le.refl _,rfl,Yhe hnm,rfl⟩ Zw Zb ?_
  rintro q σ fz' H' ⟨k,a,cs,hk,rfl,rfl,hle,rfl,hA,hF⟩
  obtain ⟨x1,x2,x3,x4,x5,x6,x7,x8,x9,x10,x11,x12,x13,x14,x15,rfl,hR⟩:=Xm hA
  obtain ⟨U2,u2,w2,rfl,j2⟩:=hR.params
  obtain ⟨U4a,u4a,w4a,rfl,_⟩:=hR.start.args
  obtain ⟨U4b,u4b,w4b,rfl,_⟩:=hR.start.params
  obtain ⟨U4c,u4c,w4c,rfl,_⟩:=hR.start.exprs
  obtain ⟨U4d,u4d,w4d,rfl,_⟩:=hR.start.kids
  obtain ⟨U5a,u5a,w5a,rfl,_⟩:=hR.over.args
  obtain ⟨U5b,u5b,w5b,rfl,_⟩:=hR.over.params
  obtain ⟨U5c,u5c,w5c,rfl,_⟩:=hR.over.exprs
  obtain ⟨U5d,u5d,w5d,rfl,_⟩:=hR.over.kids
  obtain ⟨U6a,u6a,w6a,rfl,_⟩:=hR.fin.args
  obtain ⟨U6b,u6b,w6b,rfl,_⟩:=hR.fin.params
  obtain ⟨U6c,u6c,w6c,rfl,_⟩:=hR.fin.exprs
  obtain ⟨U6d,u6d,w6d,rfl,_⟩:=hR.fin.kids
  obtain ⟨U7,u7,w7,rfl,j7⟩:=hR.atStart
  obtain ⟨U8,u8,w8,rfl,j8⟩:=hR.atEnd
  refine zW ?_;intros
  refine zC (fun c3=>?_) (fun c3=>?_)
  ·obtain ⟨⟨w,v⟩,hp⟩:=Yn (l:=l) (k:=k) Zi
   have hw:(l.map Prod.fst)[k]?=some w:=by rw [List.getElem?_map,hp];rfl
   have hv:(l.map Prod.snd)[k]?=some v:=by rw [List.getElem?_map,hp];rfl
   have hsv:=hmem _ (Zm hp)
   rw [Ybj hp,YdI] at hF
   refine zWX ?_;intros
   refine Yk ?_
   refine zWX ?_;intros
   refine Yk ?_
   refine zWX ?_;intros
   refine Yk ?_
   refine zWX ?_;intros
   refine zI (i2.mono hle) hv (fun p1 hp1=>?_)
   refine zL hp1 ?_
   intro cs1 hcs1
   obtain ⟨vv,rfl,hRv⟩:=Yh hcs1
   have hRv':=hRv
   obtain ⟨Av,nv,cv,rfl,iv⟩:=hRv.kids
   refine zWX ?_;intros
   rename_i g10
   refine Yk ?_
   refine zWX ?_;intros
   refine Wp.mid (fun σ fz' H'=>∃ (ev:Value) (cs:List Value) (a2:Durative),σ=[(36,.int .i64 k),(35,.int .i64 n1),(34,.slice A2 n1 c2),(8,lv),(6,.slice A1 n1 c1),(5,ev),(4,.pointer (some ⟨g4,0,none⟩)),(2,.pointer (some ⟨g2,0,none⟩))]∧Le fz4 fz'∧H'=[(g4,.cells (List.toArray cs) 78 (0,0)),(g2,.cells #[.string ⟨#[]⟩,.slice none 0 0,.int .i64 0,.string ⟨#[]⟩,.string ⟨#[]⟩,.slice none 0 0,.slice none 0 0,.slice none 0 0,.slice none 0 0,.string ⟨#[]⟩,.string ⟨#[]⟩,.slice none 0 0,.slice none 0 0,.slice none 0 0,.slice none 0 0,.string ⟨#[]⟩,.string ⟨#[]⟩,.slice none 0 0,.slice none 0 0,.slice none 0 0,.slice none 0 0,.slice none 0 0,.slice none 0 0] 78 (0,0))]∧durativeL.rep fz' a2 cs∧ErrA (setD a w v) ev a2) ?_ ?_
   ·have hS:=Ylc (a:=a) (w:=w) (v:=v)
    refine zW ?_;intros
    refine zI (i1.mono hle) hw (fun p2 hp2=>?_)
    refine zW ?_;intros
    refine zH hp2 (fun hs2=>?_)
    refine zW ?_;intros
    refine zC (fun b0=>?_) (fun b0=>?_)
    ·rw [if_pos (show w=YD from b0)] at hS
     refine zW ?_;intros
     refine Ya Zz (Ym [] _ Zz Zz Zz (dpar_f hsv hRv') (fun r5 fz5 H5 hle5 hR5=>?_))
     obtain ⟨rfl,hR5⟩:=hR5
     cases hx:Yff v with
     | error c=>
      rw [hx] at hR5 hS
      obtain ⟨rfl,hc⟩:=hR5
      rw [Yj hc]
      refine zW ?_;intros
      exact midN ⟨_,_,{a with params:=[]},rfl,hle.trans hle5,rfl,Y2 ⟨(hR.mono hle5).name,IsSl.nil,(hR.mono hle5).duration,(hR.mono hle5).start,(hR.mono hle5).over,(hR.mono hle5).fin,(hR.mono hle5).atStart,(hR.mono hle5).atEnd⟩,by rw [hS];exact ⟨(Yj hc).symm,hc⟩⟩ Zw Zb
     | ok y=>
      rw [hx] at hR5 hS
      obtain ⟨A5,n5,c5,rfl,il⟩:=hR5
      refine zW ?_;intros
      exact midN ⟨_,_,{a with params:=y},rfl,hle.trans hle5,rfl,Y2 ⟨(hR.mono hle5).name,⟨_,_,_,rfl,il⟩,(hR.mono hle5).duration,(hR.mono hle5).start,(hR.mono hle5).over,(hR.mono hle5).fin,(hR.mono hle5).atStart,(hR.mono hle5).atEnd⟩,by rw [hS];exact ⟨rfl,rfl⟩⟩ Zw Zb
    ·rw [if_neg (show ¬w=YD from b0)] at hS
     refine zW ?_;intros
     refine zC (fun b1=>?_) (fun b1=>?_)
     ·rw [if_pos (show w=XR from b1)] at hS
      refine zW ?_;intros
      have hnq:=YjE (fz:=fz') (x:=v) (vk:=.slice Av nv cv)
      cases hx:YdB v with
      | error c=>
       rw [hx] at hS hnq
       have hc:c≠0:=YjF hx
       refine zc hnq ?_
       unfold intV
       refine zW ?_;intros
       exact midN ⟨_,_,{a with duration:=0},rfl,hle,rfl,Y2 ⟨(hR.mono (Le.refl _)).name,(hR.mono (Le.refl _)).params,i64z,(hR.mono (Le.refl _)).start,(hR.mono (Le.refl _)).over,(hR.mono (Le.refl _)).fin,(hR.mono (Le.refl _)).atStart,(hR.mono (Le.refl _)).atEnd⟩,by rw [hS];exact ⟨(Yj hc).symm,hc⟩⟩ Zw Zb
      | ok y=>
       rw [hx] at hS hnq
       have hy:I64 y:=YlI hx hRv'
       refine zc hnq ?_
       unfold intV
       refine zW ?_;intros
       exact midN ⟨_,_,{a with duration:=y},rfl,hle,rfl,Y2 ⟨(hR.mono (Le.refl _)).name,(hR.mono (Le.refl _)).params,hy,(hR.mono (Le.refl _)).start,(hR.mono (Le.refl _)).over,(hR.mono (Le.refl _)).fin,(hR.mono (Le.refl _)).atStart,(hR.mono (Le.refl _)).atEnd⟩,by rw [hS];exact ⟨rfl,rfl⟩⟩ Zw Zb
     ·rw [if_neg (show ¬w=XR from b1)] at hS
      refine zW ?_;intros
      refine zC (fun b2=>?_) (fun b2=>?_)
      ·rw [if_pos (show w=Yau from b2)] at hS
       refine zW ?_;intros
       refine Ya Zz (Ym [] _ Zz Zz Zz (Yct hRv') (fun r5 fz5 H5 hle5 hR5=>?_))
       obtain ⟨rfl,f5,cs5,hr5,hR5⟩:=hR5
       obtain ⟨y1,y2,y3,y4,rfl,hE5⟩:=YK hr5
       obtain ⟨B1,m1,d1,rfl,_⟩:=hE5.args
       obtain ⟨B2,m2,d2,rfl,_⟩:=hE5.params
       obtain ⟨B3,m3,d3,rfl,_⟩:=hE5.exprs
       obtain ⟨B4,m4,d4,rfl,_⟩:=hE5.kids
       cases hx:WN v with
       | error c=>
        rw [hx] at hR5 hS
        obtain ⟨rfl,hc⟩:=hR5
        rw [Yj hc]
        refine zW ?_;intros
        exact midN ⟨_,_,{a with start:=f5},rfl,hle.trans hle5,rfl,Y2 ⟨(hR.mono hle5).name,(hR.mono hle5).params,(hR.mono hle5).duration,hE5,(hR.mono hle5).over,(hR.mono hle5).fin,(hR.mono hle5).atStart,(hR.mono hle5).atEnd⟩,by rw [hS];exact ⟨(Yj hc).symm,hc⟩⟩ Zw Zb
       | ok y=>
        rw [hx] at hR5 hS
        obtain ⟨rfl,rfl⟩:=hR5
        refine zW ?_;intros
        exact midN ⟨_,_,{a with start:=y},rfl,hle.trans hle5,rfl,Y2 ⟨(hR.mono hle5).name,(hR.mono hle5).params,(hR.mono hle5).duration,hE5,(hR.mono hle5).over,(hR.mono hle5).fin,(hR.mono hle5).atStart,(hR.mono hle5).atEnd⟩,by rw [hS];exact ⟨rfl,rfl⟩⟩ Zw Zb
      ·rw [if_neg (show ¬w=Yau from b2)] at hS
       refine zW ?_;intros
       refine zC (fun b3=>?_) (fun b3=>?_)
       ·rw [if_pos (show w=Ycy from b3)] at hS
        refine zW ?_;intros
        refine Ya Zz (Ym [] _ Zz Zz Zz (Yct hRv') (fun r5 fz5 H5 hle5 hR5=>?_))
        obtain ⟨rfl,f5,cs5,hr5,hR5⟩:=hR5
        obtain ⟨y1,y2,y3,y4,rfl,hE5⟩:=YK hr5
        obtain ⟨B1,m1,d1,rfl,_⟩:=hE5.args
        obtain ⟨B2,m2,d2,rfl,_⟩:=hE5.params
        obtain ⟨B3,m3,d3,rfl,_⟩:=hE5.exprs
        obtain ⟨B4,m4,d4,rfl,_⟩:=hE5.kids
        cases hx:WN v with
        | error c=>
         rw [hx] at hR5 hS
         obtain ⟨rfl,hc⟩:=hR5
         rw [Yj hc]
         refine zW ?_;intros
         exact midN ⟨_,_,{a with over:=f5},rfl,hle.trans hle5,rfl,Y2 ⟨(hR.mono hle5).name,(hR.mono hle5).params,(hR.mono hle5).duration,(hR.mono hle5).start,hE5,(hR.mono hle5).fin,(hR.mono hle5).atStart,(hR.mono hle5).atEnd⟩,by rw [hS];exact ⟨(Yj hc).symm,hc⟩⟩ Zw Zb
        | ok y=>
         rw [hx] at hR5 hS
         obtain ⟨rfl,rfl⟩:=hR5
         refine zW ?_;intros
         exact midN ⟨_,_,{a with over:=y},rfl,hle.trans hle5,rfl,Y2 ⟨(hR.mono hle5).name,(hR.mono hle5).params,(hR.mono hle5).duration,(hR.mono hle5).start,hE5,(hR.mono hle5).fin,(hR.mono hle5).atStart,(hR.mono hle5).atEnd⟩,by rw [hS];exact ⟨rfl,rfl⟩⟩ Zw Zb
       ·rw [if_neg (show ¬w=Ycy from b3)] at hS
        refine zW ?_;intros
        refine zC (fun b4=>?_) (fun b4=>?_)
        ·rw [if_pos (show w=kEnd from b4)] at hS
         refine zW ?_;intros
         refine Ya Zz (Ym [] _ Zz Zz Zz (Yct hRv') (fun r5 fz5 H5 hle5 hR5=>?_))
         obtain ⟨rfl,f5,cs5,hr5,hR5⟩:=hR5
         obtain ⟨y1,y2,y3,y4,rfl,hE5⟩:=YK hr5
         obtain ⟨B1,m1,d1,rfl,_⟩:=hE5.args
         obtain ⟨B2,m2,d2,rfl,_⟩:=hE5.params
         obtain ⟨B3,m3,d3,rfl,_⟩:=hE5.exprs
         obtain ⟨B4,m4,d4,rfl,_⟩:=hE5.kids
         cases hx:WN v with
         | error c=>
          rw [hx] at hR5 hS
          obtain ⟨rfl,hc⟩:=hR5
          rw [Yj hc]
          refine zW ?_;intros
          exact midN ⟨_,_,{a with fin:=f5},rfl,hle.trans hle5,rfl,Y2 ⟨(hR.mono hle5).name,(hR.mono hle5).params,(hR.mono hle5).duration,(hR.mono hle5).start,(hR.mono hle5).over,hE5,(hR.mono hle5).atStart,(hR.mono hle5).atEnd⟩,by rw [hS];exact ⟨(Yj hc).symm,hc⟩⟩ Zw Zb
         | ok y=>
          rw [hx] at hR5 hS
          obtain ⟨rfl,rfl⟩:=hR5
          refine zW ?_;intros
          exact midN ⟨_,_,{a with fin:=y},rfl,hle.trans hle5,rfl,Y2 ⟨(hR.mono hle5).name,(hR.mono hle5).params,(hR.mono hle5).duration,(hR.mono hle5).start,(hR.mono hle5).over,hE5,(hR.mono hle5).atStart,(hR.mono hle5).atEnd⟩,by rw [hS];exact ⟨rfl,rfl⟩⟩ Zw Zb
        ·rw [if_neg (show ¬w=kEnd from b4)] at hS
         refine zW ?_;intros
         refine zC (fun b5=>?_) (fun b5=>?_)
         ·rw [if_pos (show w=WA from b5)] at hS
          refine zW ?_;intros
          refine Ya Zz (Ym [] _ Zz Zz Zz (Ydy hRv') (fun r5 fz5 H5 hle5 hR5=>?_))
          obtain ⟨rfl,hR5⟩:=hR5
          cases hx:WI v with
          | error c=>
           rw [hx] at hR5 hS
           obtain ⟨rfl,hc⟩:=hR5
           rw [Yj hc]
           refine zW ?_;intros
           exact midN ⟨_,_,{a with atStart:=[]},rfl,hle.trans hle5,rfl,Y2 ⟨(hR.mono hle5).name,(hR.mono hle5).params,(hR.mono hle5).duration,(hR.mono hle5).start,(hR.mono hle5).over,(hR.mono hle5).fin,IsSl.nil,(hR.mono hle5).atEnd⟩,by rw [hS];exact ⟨(Yj hc).symm,hc⟩⟩ Zw Zb
          | ok y=>
           rw [hx] at hR5 hS
           obtain ⟨A5,n5,c5,rfl,il⟩:=hR5
           refine zW ?_;intros
           exact midN ⟨_,_,{a with atStart:=y},rfl,hle.trans hle5,rfl,Y2 ⟨(hR.mono hle5).name,(hR.mono hle5).params,(hR.mono hle5).duration,(hR.mono hle5).start,(hR.mono hle5).over,(hR.mono hle5).fin,⟨_,_,_,rfl,il⟩,(hR.mono hle5).atEnd⟩,by rw [hS];exact ⟨rfl,rfl⟩⟩ Zw Zb
         ·rw [if_neg (show ¬w=WA from b5)] at hS
          refine zW ?_;intros
          refine Ya Zz (Ym [] _ Zz Zz Zz (Ydy hRv') (fun r5 fz5 H5 hle5 hR5=>?_))
          obtain ⟨rfl,hR5⟩:=hR5
          cases hx:WI v with
          | error c=>
           rw [hx] at hR5 hS
           obtain ⟨rfl,hc⟩:=hR5
           rw [Yj hc]
           refine zW ?_;intros
           exact midN ⟨_,_,{a with atEnd:=[]},rfl,hle.trans hle5,rfl,Y2 ⟨(hR.mono hle5).name,(hR.mono hle5).params,(hR.mono hle5).duration,(hR.mono hle5).start,(hR.mono hle5).over,(hR.mono hle5).fin,(hR.mono hle5).atStart,IsSl.nil⟩,by rw [hS];exact ⟨(Yj hc).symm,hc⟩⟩ Zw Zb
          | ok y=>
           rw [hx] at hR5 hS
           obtain ⟨A5,n5,c5,rfl,il⟩:=hR5
           refine zW ?_;intros
           exact midN ⟨_,_,{a with atEnd:=y},rfl,hle.trans hle5,rfl,Y2 ⟨(hR.mono hle5).name,(hR.mono hle5).params,(hR.mono hle5).duration,(hR.mono hle5).start,(hR.mono hle5).over,(hR.mono hle5).fin,(hR.mono hle5).atStart,⟨_,_,_,rfl,il⟩⟩,by rw [hS];exact ⟨rfl,rfl⟩⟩ Zw Zb
   rintro σ fz' H' ⟨ev,cs,a2,rfl,hle5,rfl,hA5,hS⟩
   obtain ⟨x1,x2,x3,x4,x5,x6,x7,x8,x9,x10,x11,x12,x13,x14,x15,rfl,hR'⟩:=Xm hA5
   obtain ⟨U2,u2,w2,rfl,j2⟩:=hR'.params
   obtain ⟨U4a,u4a,w4a,rfl,_⟩:=hR'.start.args
   obtain ⟨U4b,u4b,w4b,rfl,_⟩:=hR'.start.params
   obtain ⟨U4c,u4c,w4c,rfl,_⟩:=hR'.start.exprs
   obtain ⟨U4d,u4d,w4d,rfl,_⟩:=hR'.start.kids
   obtain ⟨U5a,u5a,w5a,rfl,_⟩:=hR'.over.args
   obtain ⟨U5b,u5b,w5b,rfl,_⟩:=hR'.over.params
   obtain ⟨U5c,u5c,w5c,rfl,_⟩:=hR'.over.exprs
   obtain ⟨U5d,u5d,w5d,rfl,_⟩:=hR'.over.kids
   obtain ⟨U6a,u6a,w6a,rfl,_⟩:=hR'.fin.args
   obtain ⟨U6b,u6b,w6b,rfl,_⟩:=hR'.fin.params
   obtain ⟨U6c,u6c,w6c,rfl,_⟩:=hR'.fin.exprs
   obtain ⟨U6d,u6d,w6d,rfl,_⟩:=hR'.fin.kids
   obtain ⟨U7,u7,w7,rfl,j7⟩:=hR'.atStart
   obtain ⟨U8,u8,w8,rfl,j8⟩:=hR'.atEnd
   cases hx:setD a w v with
   | error c=>
    rw [hx] at hS hF
    obtain ⟨rfl,hc⟩:=hS
    rw [hF] at hM
    rw [Yj hc]
    refine zW ?_;intros
    exact YQ T (vs:=[.agg #[.string a2.name,.slice U2 u2 w2,.int .i64 a2.duration,.string a2.start.op,.string a2.start.name,.slice U4a u4a w4a,.slice U4b u4b w4b,.slice U4c u4c w4c,.slice U4d u4d w4d,.string a2.over.op,.string a2.over.name,.slice U5a u5a w5a,.slice U5b u5b w5b,.slice U5c u5c w5c,.slice U5d u5d w5d,.string a2.fin.op,.string a2.fin.name,.slice U6a u6a w6a,.slice U6b u6b w6b,.slice U6c u6c w6c,.slice U6d u6d w6d,.slice U7 u7 w7,.slice U8 u8 w8],.iface 65 (.int .i64 c)]) Zz ⟨⟨_,_,1,_,_,_,rfl,rfl,rfl,rfl,rfl,rfl⟩,rfl,trivial⟩ (fun fz3 hle3 hf3=>⟨rfl,ResL.err hM hc (durativeL.mono hle3 hA5)⟩)
   | ok b=>
    rw [hx] at hS hF
    obtain ⟨rfl,rfl⟩:=hS
    refine zW ?_;intros
    exact Yz ⟨k+1,a2,_,by omega,rfl,rfl,hle5,rfl,hA5,hF⟩ Zi Zw Zb
  ·rw [List.drop_eq_nil_of_le Zi,YdI] at hF
   rw [hF] at hM
   refine zW ?_;intros
   cases hb:(prtM kwD (x.kids.drop 2)).2 with
   | true=>
    rw [hb] at hM hlv
    subst hlv
    exact YQ T (vs:=[.agg #[.string a.name,.slice U2 u2 w2,.int .i64 a.duration,.string a.start.op,.string a.start.name,.slice U4a u4a w4a,.slice U4b u4b w4b,.slice U4c u4c w4c,.slice U4d u4d w4d,.string a.over.op,.string a.over.name,.slice U5a u5a w5a,.slice U5b u5b w5b,.slice U5c u5c w5c,.slice U5d u5d w5d,.string a.fin.op,.string a.fin.name,.slice U6a u6a w6a,.slice U6b u6b w6b,.slice U6c u6c w6c,.slice U6d u6d w6d,.slice U7 u7 w7,.slice U8 u8 w8],.nilIface]) Zz ⟨⟨_,_,1,_,_,_,rfl,rfl,rfl,rfl,rfl,rfl⟩,rfl,trivial⟩ (fun fz3 hle3 hf3=>⟨rfl,ResL.fine hM (durativeL.mono hle3 hA)⟩)
   | false=>
    rw [hb] at hM hlv
    subst hlv
    exact YQ T (vs:=[.agg #[.string a.name,.slice U2 u2 w2,.int .i64 a.duration,.string a.start.op,.string a.start.name,.slice U4a u4a w4a,.slice U4b u4b w4b,.slice U4c u4c w4c,.slice U4d u4d w4d,.string a.over.op,.string a.over.name,.slice U5a u5a w5a,.slice U5b u5b w5b,.slice U5c u5c w5c,.slice U5d u5d w5d,.string a.fin.op,.string a.fin.name,.slice U6a u6a w6a,.slice U6b u6b w6b,.slice U6c u6c w6c,.slice U6d u6d w6d,.slice U7 u7 w7,.slice U8 u8 w8],.iface 65 (.int .i64 2)]) Zz ⟨⟨_,_,1,_,_,_,rfl,rfl,rfl,rfl,rfl,rfl⟩,rfl,trivial⟩ (fun fz3 hle3 hf3=>⟨rfl,ResL.err hM Zh (durativeL.mono hle3 hA)⟩)
end Go.Proofs.YtfjopfinkdhmaaaGreatDoor
