/- The texts PWalkO, laid together. Conditions: none. -/
import Derived.Test.YtbnpeechpebmeaaGreatDoorRBL
set_option linter.all false
noncomputable section
set_option maxRecDepth 20000
namespace Go.Proofs.YtbnpeechpebmeaaGreatDoor
open Go.Lx Go.RowKit
attribute [local instance 10] Classical.propDecidable
open Go.Proofs.Tryz (prog)
def XI:Bs:=⟨#[58,97,99,116,105,111,110]⟩
def Y7:Bs:=⟨#[58,100,117,114,97,116,105,118,101,45,97,99,116,105,111,110]⟩
def Xd:Bs:=⟨#[58,112,97,114,97,109,101,116,101,114,115]⟩
def Ykk:Bs:=⟨#[58,99,111,115,116]⟩
def WP:Bs:=⟨#[58,112,114,101,99,111,110,100,105,116,105,111,110]⟩
def Ygi:Bs:=⟨#[58,101,102,102,101,99,116]⟩
def Wn:Bs:=⟨#[58,100,117,114,97,116,105,111,110]⟩
def YdK:Bs:=⟨#[58,115,116,97,114,116]⟩
def Yhu:Bs:=⟨#[58,111,118,101,114]⟩
def kEnd:Bs:=⟨#[58,101,110,100]⟩
def Yb1:Bs:=⟨#[58,97,116,45,115,116,97,114,116]⟩
def Yhv:Bs:=⟨#[58,97,116,45,101,110,100]⟩
theorem YR {o:Bs} (h:o.size≤100):Short o:=by unfold Short;omega
variable {fz:FZ}
theorem Yhh {n:Int} (h:I64 n):XU fz (numE n) (.slice none 0 0):=⟨i64_2,h,XH,XH,Y5,IsSl.nil⟩
variable {A:Option Addr} {c n:Nat}
theorem XR {l:List Sexpr} (h:Sl YL fz A n c l):XU fz (YH l) (.slice A n c):=⟨YeI,XH,XH,XH,Y5,h.is⟩
def opt (p:Prop) (kw:Bs) (x:Sexpr):List Sexpr:=if p then [] else [Yh kw,x]
theorem YeF {α:Type} {l:List α} {kw:Bs} {x:Sexpr} (h:l.length=n):(if decide ((n:Int)=0)=true then ([]:List Sexpr) else [Yh kw,x])=opt (l=[]) kw x:=by
 unfold opt
 by_cases hl:l=[]
 ·rw [if_pos hl,if_pos (decide_eq_true ((len0 h).2 hl))]
 ·rw [if_neg hl,if_neg (by simpa using fun h0=>hl ((len0 h).1 h0))]
theorem Ydk {p:Prop} {d:Decidable p} {kw:Bs} {x:Sexpr}:(if @decide p d=true then ([]:List Sexpr) else [Yh kw,x])=opt p kw x:=by
 unfold opt
 by_cases hp:p
 ·rw [if_pos hp,if_pos (by simpa using hp)]
 ·rw [if_neg hp,if_neg (by simpa using hp)]
def Ya5 (l:List Param):Sexpr:=YH ((l.flatMap WX).map Yh)
def actX (a:Action):Sexpr:=YH ([Yh XI,Yh a.name]++opt (a.params=[]) Xd (Ya5 a.params)++opt (a.cost=1) Ykk (numE a.cost)++opt (a.pre=Y8) WP (Y9 a.pre)++opt (a.changes=[]) Ygi (effX a.changes))
def Ykx (a:Action):Prop:=Xk a.name∧0≤a.cost∧(∀ p∈a.params,Wb true p)∧FVal a.pre∧Yc3 a.changes
def actSm (a:Action):Prop:=a.params.length≤1000000000∧FSm a.pre∧YmK a.changes
variable {g:Nat} {v1 v2 v3 v4 v5 v6:Value}
set_option maxHeartbeats 4000000 in
theorem YgT {b:Bool} {a:Action} (h:ActionR fz a v1 v2 v3 v4 v5 v6) (hs:actSm a):
 GFn prog 37 [.pointer (some ⟨g,0,none⟩),.agg #[.string a.name,v1,.int .i64 a.cost,.string a.pre.op,.string a.pre.name,v2,v3,v4,v5,v6]] fz [(g,wrO b)] (MkR g b (Ykx a) (actX a) fz):=by
 obtain ⟨P1,p1,q1,rfl,ip⟩:=h.params
 obtain ⟨S2,s2,r2,rfl,_⟩:=h.pre.args
 obtain ⟨S3,s3,r3,rfl,_⟩:=h.pre.params
 obtain ⟨S4,s4,r4,rfl,_⟩:=h.pre.exprs
 obtain ⟨S5,s5,r5,rfl,_⟩:=h.pre.kids
 obtain ⟨S6,s6,r6,rfl,ichanges⟩:=h.changes
 obtain ⟨hs0,hs1,hs2⟩:=hs
 refine zF Tryz.func37 Tryz.ntmps37 (fun w0=>?_)
 refine Yp (Yq (Yb Zz (Y3 _ Zz Zz (fun g3=>?_))))
 refine zWO ?_;intros
 rename_i g4
 refine Yp (Wp.mid (fun σ fz' H'=>∃ (b1:Bool) (g5:Nat) (v:Value) (Hs:HP),σ=[(5,.pointer (some ⟨g5,0,none⟩)),(4,.pointer (some ⟨g4,0,none⟩)),(3,.pointer (some ⟨g3,0,none⟩)),(0,.pointer (some ⟨g,0,none⟩))]∧Le fz fz'∧H'=(g,wrO b1)::(g4,.cells #[.int .i64 0,.int .i64 0,.int .i64 0,.int .i64 0,.string ⟨#[]⟩,.slice none 0 0] 74 (0,0))::(g3,.cells #[.string a.name,.slice P1 p1 q1,.int .i64 a.cost,.string a.pre.op,.string a.pre.name,.slice S2 s2 r2,.slice S3 s3 r3,.slice S4 s4 r4,.slice S5 s5 r5,.slice S6 s6 r6] 41 (0,0))::(g5,lsO v)::Hs∧Grow YL 74 fz' v 2 Hs [Yh XI,Yh a.name]∧(b1=false↔b=false∧Xk a.name)) ?_ ?_)
 ·refine Wp.drawP [] (Hq:=[(g4,_),(g3,_)]) T.mixed Zj Zj Zb ?_
  refine zc (WB (s:=XI)) ?_
  refine zW ?_;intros
  refine Yf ?_
  refine Yf ?_
  refine Yf ?_
  refine Yf ?_
  refine Yf ?_
  refine PK.done ⟨by kernel_rfl,?_⟩
  refine Ys Zz Zz Zz ?_ ?_
  ·refine Yd (Does.perm (@List.perm_middle _ _ [_,_] []).symm (Yl [_] _ Zz Zz Zz (Ybp h.name) (fun v6 fz6 H6 hle6 hR6=>?_)))
   obtain ⟨_,rfl,b1,rfl,hb1⟩:=hR6
   refine ⟨(⟨hle6,Zx⟩),?_⟩
   unfold sxV
   refine Ys Zz Zz Zz ?_ ?_
   ·refine Yd (Yc T (cs:=Yr XI++Yr a.name) Zz Zz Zz Zz Zz Zz Zz Zz (fun gb=>⟨(⟨hle6,Zx⟩),?_⟩))
    refine Ys Zz Zz Zz ?_ ?_
    ·refine PoS.qk (⟨hle6,Zx⟩) (YB Zz Zz Xe ?_)
     unfold sxV
     refine Ya Zz Zz ?_
     refine Yd (YI T Zz Zz (fun g5=>⟨(⟨hle6,Zx⟩),?_⟩))
     refine Ya Zz Zz ?_
     refine PoS.hard0 Zj (Does.perm (Xb [0,2,3,4,1] Zz Zz) (Yy T Zz Zz Zz Zz Zz Zz ?_))
     refine Po.done ?_
     refine zW ?_;intros
     exact midP (Xb [1,2,3,0,4] Zz Zz) ⟨b1,g5,_,[_],rfl,hle6,rfl,Grow.block (m:=2) (ys:=[(Yh XI,Yr XI),(Yh a.name,Yr a.name)]) rfl rfl (by intro p hp;simp only [List.mem_cons,List.not_mem_nil,or_false] at hp;rcases hp with rfl | rfl;exact Yv (YR Zh);exact Yv h.name) rfl Zh,hb1⟩ Zw Zb
    ·refine Yd (YI T Zz Zz (fun g5=>⟨(⟨hle6,Zx⟩),?_⟩))
     refine Ya Zz Zz ?_
     refine PoS.qk (⟨hle6,Zx⟩) (YB Zz Zz Xe ?_)
     unfold sxV
     refine Ya Zz Zz ?_
     refine PoS.hard0 Zj (Does.perm (Xb [0,2,3,4,1] Zz Zz) (Yy T Zz Zz Zz Zz Zz Zz ?_))
     refine Po.done ?_
     refine zW ?_;intros
     exact midP (Xb [1,2,3,0,4] Zz Zz) ⟨b1,g5,_,[_],rfl,hle6,rfl,Grow.block (m:=2) (ys:=[(Yh XI,Yr XI),(Yh a.name,Yr a.name)]) rfl rfl (by intro p hp;simp only [List.mem_cons,List.not_mem_nil,or_false] at hp;rcases hp with rfl | rfl;exact Yv (YR Zh);exact Yv h.name) rfl Zh,hb1⟩ Zw Zb
   ·refine Yd (YI T Zz Zz (fun g5=>⟨(⟨hle6,Zx⟩),?_⟩))
    refine Ya Zz Zz ?_
    refine Yd (Yc T (cs:=Yr XI++Yr a.name) Zz Zz Zz Zz Zz Zz Zz Zz (fun gb=>⟨(⟨hle6,Zx⟩),?_⟩))
    refine Ya Zz Zz ?_
    refine PoS.qk (⟨hle6,Zx⟩) (YB Zz Zz Xe ?_)
    unfold sxV
    refine Ya Zz Zz ?_
    refine PoS.hard0 Zj (Does.perm (Xb [1,2,3,4,0] Zz Zz) (Yy T Zz Zz Zz Zz Zz Zz ?_))
    refine Po.done ?_
    refine zW ?_;intros
    exact midP (Xb [1,2,3,0,4] Zz Zz) ⟨b1,g5,_,[_],rfl,hle6,rfl,Grow.block (m:=2) (ys:=[(Yh XI,Yr XI),(Yh a.name,Yr a.name)]) rfl rfl (by intro p hp;simp only [List.mem_cons,List.not_mem_nil,or_false] at hp;rcases hp with rfl | rfl;exact Yv (YR Zh);exact Yv h.name) rfl Zh,hb1⟩ Zw Zb
  ·refine Yd (YI T Zz Zz (fun g5=>⟨(⟨(Le.refl _),Zx⟩),?_⟩))
   refine Ya Zz Zz ?_
   refine Yd (Does.perm (@List.perm_middle _ _ [_,_,_] []).symm (Yl [_] _ Zz Zz Zz (Ybp h.name) (fun v6 fz6 H6 hle6 hR6=>?_)))
   obtain ⟨_,rfl,b1,rfl,hb1⟩:=hR6
   refine ⟨(⟨hle6,Zx⟩),?_⟩
   unfold sxV
   refine Ya Zz Zz ?_
   refine Yd (Yc T (cs:=Yr XI++Yr a.name) Zz Zz Zz Zz Zz Zz Zz Zz (fun gb=>⟨(⟨hle6,Zx⟩),?_⟩))
   refine Ya Zz Zz ?_
   refine PoS.qk (⟨hle6,Zx⟩) (YB Zz Zz Xe ?_)
   unfold sxV
   refine Ya Zz Zz ?_
   refine PoS.hard0 Zj (Does.perm (Xb [2,1,3,4,0] Zz Zz) (Yy T Zz Zz Zz Zz Zz Zz ?_))
   refine Po.done ?_
   refine zW ?_;intros
   exact midP (Xb [1,2,3,0,4] Zz Zz) ⟨b1,g5,_,[_],rfl,hle6,rfl,Grow.block (m:=2) (ys:=[(Yh XI,Yr XI),(Yh a.name,Yr a.name)]) rfl rfl (by intro p hp;simp only [List.mem_cons,List.not_mem_nil,or_false] at hp;rcases hp with rfl | rfl;exact Yv (YR Zh);exact Yv h.name) rfl Zh,hb1⟩ Zw Zb
 ·rintro σ fz1 H' ⟨b1,g5,v1,Hs1,rfl,hle1,rfl,hG1,hb1⟩
  have hys1:b1=false→[Yh XI,Yh a.name]=[Yh XI,Yh a.name]:=fun _=>rfl
  have hn1:2≤2:=Zs _
  refine Yp (Wp.mid (fun σ fz' H'=>∃ bb:Bool,σ=[(5,.pointer (some ⟨g5,0,none⟩)),(4,.pointer (some ⟨g4,0,none⟩)),(3,.pointer (some ⟨g3,0,none⟩)),(0,.pointer (some ⟨g,0,none⟩))]∧fz1=fz'∧H'=(g,wrO bb)::(g4,.cells #[.int .i64 0,.int .i64 0,.int .i64 0,.int .i64 0,.string ⟨#[]⟩,.slice none 0 0] 74 (0,0))::(g3,.cells #[.string a.name,.slice P1 p1 q1,.int .i64 a.cost,.string a.pre.op,.string a.pre.name,.slice S2 s2 r2,.slice S3 s3 r3,.slice S4 s4 r4,.slice S5 s5 r5,.slice S6 s6 r6] 41 (0,0))::(g5,lsO v1)::Hs1∧(bb=false↔b1=false∧0≤a.cost)) ?_ ?_)
  ·cases b1
   ·refine zW ?_;intros
    refine zC (fun c1=>?_) (fun c1=>?_)
    ·refine zW ?_;intros
     exact midN ⟨true,rfl,rfl,rfl,iff_of_false (by simp) (fun h0=>by have:=h0.2;omega)⟩ Zw Zb
    ·refine zW ?_;intros
     exact midN ⟨false,rfl,rfl,rfl,iff_of_true rfl ⟨rfl,by omega⟩⟩ Zw Zb
   ·refine zW ?_;intros
    exact midN ⟨true,rfl,rfl,rfl,iff_of_false (by simp) (fun h0=>by cases h0.1)⟩ Zw Zb
  ·rintro σ fz' H' ⟨bz,rfl,rfl,rfl,hbz⟩
   have hbz2:bz=false↔b=false∧Xk a.name∧0≤a.cost:=by rw [hbz,hb1,and_assoc]
   have hysz:bz=false→[Yh XI,Yh a.name]=[Yh XI,Yh a.name]:=fun _=>rfl
   have hle_2:=hle1
   refine Yp ?_
   refine Wp.drawK (Hq:=[(g4,_),(g3,_)]) T.mixed Zj Zj Zb ?_
   refine zW ?_;intros
   refine zG ?_;refine Yhd Zz Zz ?_
   refine zW ?_;intros
   refine Ye ?_
   refine Ye ?_
   refine Ye ?_
   refine YD ⟨by kernel_rfl,?_⟩
   refine Yj (Yl [_] _ Zz Zz Zz (WG (vars:=true) (ip.mono hle_2) (by rw [← ip.len];exact hs0)) (fun v6 fy2 H6 hly2 hR6=>?_))
   obtain ⟨_,⟨B6,cc6,rfl,hsl6⟩,c2,rfl,hc2⟩:=hR6
   refine ⟨(⟨hly2,Zx⟩),?_⟩
   refine Ch.qk (⟨hly2,Zx⟩) (YB Zz Zz Xe ?_)
   unfold sxV
   have hY2:XU fy2 (Ya5 a.params) (.slice B6 (3*p1) cc6):=XR hsl6
   have hy2:c2=false→Ya5 a.params=Ya5 a.params:=fun _=>rfl
   refine Yj (Does.perm (H':=((g5,_)::Hs1)++ [_,_,_]) Zq (Does.after (Yl ((g5,_)::Hs1) _ Zz Zz Zz (YbP (kw:=Xd) (hG1.mono hly2) hY2 (YR Zh) Zi) (fun v7 fz_2 H7 hlz2 hR7=>?_))))
   obtain ⟨_,_,v_2,n_2,Hs_2,rfl,hG_2,hn_2⟩:=hR7
   refine ⟨(g,wrO c2)::(g4,_)::(g3,_)::(g5,lsO v_2)::Hs_2,Zq (l₁:=[_,_,_]) (l₂:=(g5,lsO v_2)::Hs_2),(⟨(hly2.trans hlz2),Zx⟩),?_⟩
   refine Ch.done ?_
   refine zWO ?_;intros
   have hd2:c2=false↔(b=false∧Xk a.name∧0≤a.cost)∧(∀ p∈a.params,Wb true p):=by rw [hc2,hbz2]
   have hb_2:c2=false↔b=false∧Xk a.name∧0≤a.cost∧(∀ p∈a.params,Wb true p):=by rw [hd2];simp only [and_assoc]
   have hkeep2:c2=false→bz=false:=fun h0=>(hc2.1 h0).1
   rw [YeF ip.len] at hG_2
   obtain ⟨l_2,hl2⟩:∃ l',l'=[Yh XI,Yh a.name]++opt (a.params=[]) Xd (Ya5 a.params):=⟨_,rfl⟩
   rw [← hl2] at hG_2
   have hys_2:c2=false→l_2=[Yh XI,Yh a.name]++opt (a.params=[]) Xd (Ya5 a.params):=fun h0=>by rw [hl2]
   have hle_n2:=((hle_2.trans hly2).trans hlz2)
   have hle_3:=hle_n2
   refine Yp ?_
   refine Wp.drawK (Hq:=[(g4,_),(g3,_)]) T.mixed Zj Zj Zb ?_
   refine zW ?_;intros
   refine zG ?_;refine Yhd Zz Zz ?_
   refine zW ?_;intros
   refine zc Yd5 ?_
   unfold sxV
   refine Ye ?_
   refine YD ⟨by kernel_rfl,?_⟩
   have hly3:=Le.refl fz_2
   have hY3:XU fz_2 (numE a.cost) (.slice none 0 0):=Yhh h.cost
   refine Yj (Does.perm (H':=((g5,_)::Hs_2)++ [_,_,_]) Zq (Does.after (Yl ((g5,_)::Hs_2) _ Zz Zz Zz (YbP (kw:=Ykk) (hG_2.mono hly3) hY3 (YR Zh) Zi) (fun v7 fz_3 H7 hlz3 hR7=>?_))))
   obtain ⟨_,_,v_3,n_3,Hs_3,rfl,hG_3,hn_3⟩:=hR7
   refine ⟨(g,wrO c2)::(g4,_)::(g3,_)::(g5,lsO v_3)::Hs_3,Zq (l₁:=[_,_,_]) (l₂:=(g5,lsO v_3)::Hs_3),(⟨(hly3.trans hlz3),Zx⟩),?_⟩
   refine Ch.done ?_
   refine zWO ?_;intros
   have hb_3:=hb_2
   have hkeep3:c2=false→c2=false:=fun h0=>h0
   have hy3:c2=false→numE a.cost=numE a.cost:=fun _=>rfl
   rw [Ydk] at hG_3
   obtain ⟨l_3,hl3⟩:∃ l',l'=l_2++opt (a.cost=1) Ykk (numE a.cost):=⟨_,rfl⟩
   rw [← hl3] at hG_3
   have hys_3:c2=false→l_3=[Yh XI,Yh a.name]++opt (a.params=[]) Xd (Ya5 a.params)++opt (a.cost=1) Ykk (numE a.cost):=fun h0=>by rw [hl3,hys_2 (hkeep3 h0)]
   have hle_n3:=((hle_3.trans hly3).trans hlz3)
   have hle_4:=hle_n3
   refine Yp ?_
   refine Wp.drawK (Hq:=[(g4,_),(g3,_)]) T.mixed Zj Zj Zb ?_
   refine zW ?_;intros
   ((refine zG ?_);refine Yn (vs:=[.string a.pre.op,.string a.pre.name,.slice S2 s2 r2,.slice S3 s3 r3,.slice S4 s4 r4,.slice S5 s5 r5]) T 1 Zz Zz Zz Zz Zz Zz ?_)
   refine zc YcW ?_
   unfold Yav
   refine zc (Yei (b:=Y8) (h.pre.mono hle_4) Ww) ?_
   refine zW ?_;intros
   ((refine zG ?_);refine Yn (vs:=[.string a.pre.op,.string a.pre.name,.slice S2 s2 r2,.slice S3 s3 r3,.slice S4 s4 r4,.slice S5 s5 r5]) T 1 Zz Zz Zz Zz Zz Zz ?_)
   refine Ye ?_
   refine Ye ?_
   refine YD ⟨by kernel_rfl,?_⟩
   refine Yj (Yl [_] _ Zz Zz Zz (Ya9 (h.pre.mono hle_4) hs1) (fun v6 fy4 H6 hly4 hR6=>?_))
   obtain ⟨_,c4,y4,rfl,⟨cs6,rfl,hr6⟩,hc4,hy4⟩:=hR6
   obtain ⟨vk6,rfl,hY4⟩:=YG hr6
   refine ⟨(⟨hly4,Zx⟩),?_⟩
   refine Yj (Does.perm (H':=((g5,_)::Hs_3)++ [_,_,_]) Zq (Does.after (Yl ((g5,_)::Hs_3) _ Zz Zz Zz (YbP (kw:=WP) (hG_3.mono hly4) hY4 (YR Zh) Zi) (fun v7 fz_4 H7 hlz4 hR7=>?_))))
   obtain ⟨_,_,v_4,n_4,Hs_4,rfl,hG_4,hn_4⟩:=hR7
   refine ⟨(g,wrO c4)::(g4,_)::(g3,_)::(g5,lsO v_4)::Hs_4,Zq (l₁:=[_,_,_]) (l₂:=(g5,lsO v_4)::Hs_4),(⟨(hly4.trans hlz4),Zx⟩),?_⟩
   refine Ch.done ?_
   refine zWO ?_;intros
   have hd4:c4=false↔(b=false∧Xk a.name∧0≤a.cost∧(∀ p∈a.params,Wb true p))∧FVal a.pre:=by rw [hc4,hb_3]
   have hb_4:c4=false↔b=false∧Xk a.name∧0≤a.cost∧(∀ p∈a.params,Wb true p)∧FVal a.pre:=by rw [hd4];simp only [and_assoc]
   have hkeep4:c4=false→c2=false:=fun h0=>(hc4.1 h0).1
   rw [Ydk] at hG_4
   obtain ⟨l_4,hl4⟩:∃ l',l'=l_3++opt (a.pre=Y8) WP (y4):=⟨_,rfl⟩
   rw [← hl4] at hG_4
   have hys_4:c4=false→l_4=[Yh XI,Yh a.name]++opt (a.params=[]) Xd (Ya5 a.params)++opt (a.cost=1) Ykk (numE a.cost)++opt (a.pre=Y8) WP (Y9 a.pre):=fun h0=>by rw [hl4,hys_3 (hkeep4 h0),hy4 h0]
   have hle_n4:=((hle_4.trans hly4).trans hlz4)
   have hle_5:=hle_n4
   refine Yp ?_
   refine Wp.drawK (Hq:=[(g4,_),(g3,_)]) T.mixed Zj Zj Zb ?_
   refine zW ?_;intros
   refine zG ?_;refine Yhd Zz Zz ?_
   refine zW ?_;intros
   refine Ye ?_
   refine Ye ?_
   refine YD ⟨by kernel_rfl,?_⟩
   refine Yj (Yl [_] _ Zz Zz Zz (Yec (ichanges.mono hle_5) hs2) (fun v6 fy5 H6 hly5 hR6=>?_))
   obtain ⟨_,c5,y5,rfl,⟨cs6,rfl,hr6⟩,hc5,hy5⟩:=hR6
   obtain ⟨vk6,rfl,hY5⟩:=YG hr6
   refine ⟨(⟨hly5,Zx⟩),?_⟩
   refine Yj (Does.perm (H':=((g5,_)::Hs_4)++ [_,_,_]) Zq (Does.after (Yl ((g5,_)::Hs_4) _ Zz Zz Zz (YbP (kw:=Ygi) (hG_4.mono hly5) hY5 (YR Zh) Zi) (fun v7 fz_5 H7 hlz5 hR7=>?_))))
   obtain ⟨_,_,v_5,n_5,Hs_5,rfl,hG_5,hn_5⟩:=hR7
   refine ⟨(g,wrO c5)::(g4,_)::(g3,_)::(g5,lsO v_5)::Hs_5,Zq (l₁:=[_,_,_]) (l₂:=(g5,lsO v_5)::Hs_5),(⟨(hly5.trans hlz5),Zx⟩),?_⟩
   refine Ch.done ?_
   refine zWO ?_;intros
   have hd5:c5=false↔(b=false∧Xk a.name∧0≤a.cost∧(∀ p∈a.params,Wb true p)∧FVal a.pre)∧Yc3 a.changes:=by rw [hc5,hb_4]
   have hb_5:c5=false↔b=false∧Xk a.name∧0≤a.cost∧(∀ p∈a.params,Wb true p)∧FVal a.pre∧Yc3 a.changes:=by rw [hd5];simp only [and_assoc]
   have hkeep5:c5=false→c4=false:=fun h0=>(hc5.1 h0).1
   rw [YeF ichanges.len] at hG_5
   obtain ⟨l_5,hl5⟩:∃ l',l'=l_4++opt (a.changes=[]) Ygi (y5):=⟨_,rfl⟩
   rw [← hl5] at hG_5
   have hys_5:c5=false→l_5=[Yh XI,Yh a.name]++opt (a.params=[]) Xd (Ya5 a.params)++opt (a.cost=1) Ykk (numE a.cost)++opt (a.pre=Y8) WP (Y9 a.pre)++opt (a.changes=[]) Ygi (effX a.changes):=fun h0=>by rw [hl5,hys_4 (hkeep5 h0),hy5 h0]
   have hle_n5:=((hle_5.trans hly5).trans hlz5)
   obtain ⟨Av,cv,rfl,_,_⟩:=hG_5.form
   refine zW ?_;intros
   refine YcC T (i:=1) (H':=[(g,wrO c5)]) rfl Zz Zz Zz Zz Zz (Zr _) (fun fz3 hle3 hf3=>?_)
   obtain ⟨A',c',he,hsl⟩:=hG_5.sl hle3 (fun p hp=>hf3 p (by simp [hp])) Zi
   injection he with he1 he2 he3
   subst he1 he3
   exact ⟨hle_n5.trans hle3,c5,_,rfl,Wu hsl,hb_5,fun h0=>by rw [hys_5 h0];simp only [actX,List.append_assoc]⟩
def durX (a:Durative):Sexpr:=YH ([Yh Y7,Yh a.name]++opt (a.params=[]) Xd (Ya5 a.params)++opt (a.duration=1) Wn (numE a.duration)++opt (a.start=Y8) YdK (Y9 a.start)++opt (a.over=Y8) Yhu (Y9 a.over)++opt (a.fin=Y8) kEnd (Y9 a.fin)++opt (a.atStart=[]) Yb1 (effX a.atStart)++opt (a.atEnd=[]) Yhv (effX a.atEnd))
def Ykq (a:Durative):Prop:=Xk a.name∧(∀ p∈a.params,Wb true p)∧FVal a.start∧FVal a.over∧FVal a.fin∧Yc3 a.atStart∧Yc3 a.atEnd
def durSm (a:Durative):Prop:=a.params.length≤1000000000∧FSm a.start∧FSm a.over∧FSm a.fin∧YmK a.atStart∧YmK a.atEnd
variable {v7:Value}
set_option maxHeartbeats 4000000 in
theorem Yed {b:Bool} {a:Durative} {v8 v9 v10 v11 v12 v13 v14 v15:Value} (h:DurativeR fz a v1 v2 v3 v4 v5 v6 v7 v8 v9 v10 v11 v12 v13 v14 v15) (hs:durSm a):
 GFn prog 38 [.pointer (some ⟨g,0,none⟩),.agg #[.string a.name,v1,.int .i64 a.duration,.string a.start.op,.string a.start.name,v2,v3,v4,v5,.string a.over.op,.string a.over.name,v6,v7,v8,v9,.string a.fin.op,.string a.fin.name,v10,v11,v12,v13,v14,v15]] fz [(g,wrO b)] (MkR g b (Ykq a) (durX a) fz):=by
 obtain ⟨P1,p1,q1,rfl,ip⟩:=h.params
 obtain ⟨S2,s2,r2,rfl,_⟩:=h.start.args
 obtain ⟨S3,s3,r3,rfl,_⟩:=h.start.params
 obtain ⟨S4,s4,r4,rfl,_⟩:=h.start.exprs
 obtain ⟨S5,s5,r5,rfl,_⟩:=h.start.kids
 obtain ⟨S6,s6,r6,rfl,_⟩:=h.over.args
 obtain ⟨S7,s7,r7,rfl,_⟩:=h.over.params
 obtain ⟨S8,s8,r8,rfl,_⟩:=h.over.exprs
 obtain ⟨S9,s9,r9,rfl,_⟩:=h.over.kids
 obtain ⟨S10,s10,r10,rfl,_⟩:=h.fin.args
 obtain ⟨S11,s11,r11,rfl,_⟩:=h.fin.params
 obtain ⟨S12,s12,r12,rfl,_⟩:=h.fin.exprs
 obtain ⟨S13,s13,r13,rfl,_⟩:=h.fin.kids
 obtain ⟨S14,s14,r14,rfl,iatStart⟩:=h.atStart
 obtain ⟨S15,s15,r15,rfl,iatEnd⟩:=h.atEnd
 obtain ⟨hs0,hs1,hs2,hs3,hs4,hs5⟩:=hs
 refine zF Tryz.func38 Tryz.ntmps38 (fun w0=>?_)
 refine Yp (Yq (Yb Zz (Y3 _ Zz Zz (fun g3=>?_))))
 refine zWO ?_;intros
 rename_i g4
 refine Yp (Wp.mid (fun σ fz' H'=>∃ (b1:Bool) (g5:Nat) (v:Value) (Hs:HP),σ=[(5,.pointer (some ⟨g5,0,none⟩)),(4,.pointer (some ⟨g4,0,none⟩)),(3,.pointer (some ⟨g3,0,none⟩)),(0,.pointer (some ⟨g,0,none⟩))]∧Le fz fz'∧H'=(g,wrO b1)::(g4,.cells #[.int .i64 0,.int .i64 0,.int .i64 0,.int .i64 0,.string ⟨#[]⟩,.slice none 0 0] 74 (0,0))::(g3,.cells #[.string a.name,.slice P1 p1 q1,.int .i64 a.duration,.string a.start.op,.string a.start.name,.slice S2 s2 r2,.slice S3 s3 r3,.slice S4 s4 r4,.slice S5 s5 r5,.string a.over.op,.string a.over.name,.slice S6 s6 r6,.slice S7 s7 r7,.slice S8 s8 r8,.slice S9 s9 r9,.string a.fin.op,.string a.fin.name,.slice S10 s10 r10,.slice S11 s11 r11,.slice S12 s12 r12,.slice S13 s13 r13,.slice S14 s14 r14,.slice S15 s15 r15] 106 (0,0))::(g5,lsO v)::Hs∧Grow YL 74 fz' v 2 Hs [Yh Y7,Yh a.name]∧(b1=false↔b=false∧Xk a.name)) ?_ ?_)
 ·refine Wp.drawP [] (Hq:=[(g4,_),(g3,_)]) T.mixed Zj Zj Zb ?_
  refine zc (WB (s:=Y7)) ?_
  refine zW ?_;intros
  refine Yf ?_
  refine Yf ?_
  refine Yf ?_
  refine Yf ?_
  refine Yf ?_
  refine PK.done ⟨by kernel_rfl,?_⟩
  refine Ys Zz Zz Zz ?_ ?_
  ·refine Yd (Does.perm (@List.perm_middle _ _ [_,_] []).symm (Yl [_] _ Zz Zz Zz (Ybp h.name) (fun v6 fz6 H6 hle6 hR6=>?_)))
   obtain ⟨_,rfl,b1,rfl,hb1⟩:=hR6
   refine ⟨(⟨hle6,Zx⟩),?_⟩
   unfold sxV
   refine Ys Zz Zz Zz ?_ ?_
   ·refine Yd (Yc T (cs:=Yr Y7++Yr a.name) Zz Zz Zz Zz Zz Zz Zz Zz (fun gb=>⟨(⟨hle6,Zx⟩),?_⟩))
    refine Ys Zz Zz Zz ?_ ?_
    ·refine PoS.qk (⟨hle6,Zx⟩) (YB Zz Zz Xe ?_)
     unfold sxV
     refine Ya Zz Zz ?_
     refine Yd (YI T Zz Zz (fun g5=>⟨(⟨hle6,Zx⟩),?_⟩))
     refine Ya Zz Zz ?_
     refine PoS.hard0 Zj (Does.perm (Xb [0,2,3,4,1] Zz Zz) (Yy T Zz Zz Zz Zz Zz Zz ?_))
     refine Po.done ?_
     refine zW ?_;intros
     exact midP (Xb [1,2,3,0,4] Zz Zz) ⟨b1,g5,_,[_],rfl,hle6,rfl,Grow.block (m:=2) (ys:=[(Yh Y7,Yr Y7),(Yh a.name,Yr a.name)]) rfl rfl (by intro p hp;simp only [List.mem_cons,List.not_mem_nil,or_false] at hp;rcases hp with rfl | rfl;exact Yv (YR Zh);exact Yv h.name) rfl Zh,hb1⟩ Zw Zb
    ·refine Yd (YI T Zz Zz (fun g5=>⟨(⟨hle6,Zx⟩),?_⟩))
     refine Ya Zz Zz ?_
     refine PoS.qk (⟨hle6,Zx⟩) (YB Zz Zz Xe ?_)
     unfold sxV
     refine Ya Zz Zz ?_
     refine PoS.hard0 Zj (Does.perm (Xb [0,2,3,4,1] Zz Zz) (Yy T Zz Zz Zz Zz Zz Zz ?_))
     refine Po.done ?_
     refine zW ?_;intros
     exact midP (Xb [1,2,3,0,4] Zz Zz) ⟨b1,g5,_,[_],rfl,hle6,rfl,Grow.block (m:=2) (ys:=[(Yh Y7,Yr Y7),(Yh a.name,Yr a.name)]) rfl rfl (by intro p hp;simp only [List.mem_cons,List.not_mem_nil,or_false] at hp;rcases hp with rfl | rfl;exact Yv (YR Zh);exact Yv h.name) rfl Zh,hb1⟩ Zw Zb
   ·refine Yd (YI T Zz Zz (fun g5=>⟨(⟨hle6,Zx⟩),?_⟩))
    refine Ya Zz Zz ?_
    refine Yd (Yc T (cs:=Yr Y7++Yr a.name) Zz Zz Zz Zz Zz Zz Zz Zz (fun gb=>⟨(⟨hle6,Zx⟩),?_⟩))
    refine Ya Zz Zz ?_
    refine PoS.qk (⟨hle6,Zx⟩) (YB Zz Zz Xe ?_)
    unfold sxV
    refine Ya Zz Zz ?_
    refine PoS.hard0 Zj (Does.perm (Xb [1,2,3,4,0] Zz Zz) (Yy T Zz Zz Zz Zz Zz Zz ?_))
    refine Po.done ?_
    refine zW ?_;intros
    exact midP (Xb [1,2,3,0,4] Zz Zz) ⟨b1,g5,_,[_],rfl,hle6,rfl,Grow.block (m:=2) (ys:=[(Yh Y7,Yr Y7),(Yh a.name,Yr a.name)]) rfl rfl (by intro p hp;simp only [List.mem_cons,List.not_mem_nil,or_false] at hp;rcases hp with rfl | rfl;exact Yv (YR Zh);exact Yv h.name) rfl Zh,hb1⟩ Zw Zb
  ·refine Yd (YI T Zz Zz (fun g5=>⟨(⟨(Le.refl _),Zx⟩),?_⟩))
   refine Ya Zz Zz ?_
   refine Yd (Does.perm (@List.perm_middle _ _ [_,_,_] []).symm (Yl [_] _ Zz Zz Zz (Ybp h.name) (fun v6 fz6 H6 hle6 hR6=>?_)))
   obtain ⟨_,rfl,b1,rfl,hb1⟩:=hR6
   refine ⟨(⟨hle6,Zx⟩),?_⟩
   unfold sxV
   refine Ya Zz Zz ?_
   refine Yd (Yc T (cs:=Yr Y7++Yr a.name) Zz Zz Zz Zz Zz Zz Zz Zz (fun gb=>⟨(⟨hle6,Zx⟩),?_⟩))
   refine Ya Zz Zz ?_
   refine PoS.qk (⟨hle6,Zx⟩) (YB Zz Zz Xe ?_)
   unfold sxV
   refine Ya Zz Zz ?_
   refine PoS.hard0 Zj (Does.perm (Xb [2,1,3,4,0] Zz Zz) (Yy T Zz Zz Zz Zz Zz Zz ?_))
   refine Po.done ?_
   refine zW ?_;intros
   exact midP (Xb [1,2,3,0,4] Zz Zz) ⟨b1,g5,_,[_],rfl,hle6,rfl,Grow.block (m:=2) (ys:=[(Yh Y7,Yr Y7),(Yh a.name,Yr a.name)]) rfl rfl (by intro p hp;simp only [List.mem_cons,List.not_mem_nil,or_false] at hp;rcases hp with rfl | rfl;exact Yv (YR Zh);exact Yv h.name) rfl Zh,hb1⟩ Zw Zb
 ·rintro σ fz1 H' ⟨b1,g5,v1,Hs1,rfl,hle1,rfl,hG1,hb1⟩
  have hys1:b1=false→[Yh Y7,Yh a.name]=[Yh Y7,Yh a.name]:=fun _=>rfl
  have hn1:2≤2:=Zs _
  have hle_2:=hle1
  refine Yp ?_
  refine Wp.drawK (Hq:=[(g4,_),(g3,_)]) T.mixed Zj Zj Zb ?_
  refine zW ?_;intros
  refine zG ?_;refine Yhd Zz Zz ?_
  refine zW ?_;intros
  refine Ye ?_
  refine Ye ?_
  refine Ye ?_
  refine YD ⟨by kernel_rfl,?_⟩
  refine Yj (Yl [_] _ Zz Zz Zz (WG (vars:=true) (ip.mono hle_2) (by rw [← ip.len];exact hs0)) (fun v6 fy2 H6 hly2 hR6=>?_))
  obtain ⟨_,⟨B6,cc6,rfl,hsl6⟩,c2,rfl,hc2⟩:=hR6
  refine ⟨(⟨hly2,Zx⟩),?_⟩
  refine Ch.qk (⟨hly2,Zx⟩) (YB Zz Zz Xe ?_)
  unfold sxV
  have hY2:XU fy2 (Ya5 a.params) (.slice B6 (3*p1) cc6):=XR hsl6
  have hy2:c2=false→Ya5 a.params=Ya5 a.params:=fun _=>rfl
  refine Yj (Does.perm (H':=((g5,_)::Hs1)++ [_,_,_]) Zq (Does.after (Yl ((g5,_)::Hs1) _ Zz Zz Zz (YbP (kw:=Xd) (hG1.mono hly2) hY2 (YR Zh) Zi) (fun v7 fz_2 H7 hlz2 hR7=>?_))))
  obtain ⟨_,_,v_2,n_2,Hs_2,rfl,hG_2,hn_2⟩:=hR7
  refine ⟨(g,wrO c2)::(g4,_)::(g3,_)::(g5,lsO v_2)::Hs_2,Zq (l₁:=[_,_,_]) (l₂:=(g5,lsO v_2)::Hs_2),(⟨(hly2.trans hlz2),Zx⟩),?_⟩
  refine Ch.done ?_
  refine zWO ?_;intros
  have hd2:c2=false↔(b=false∧Xk a.name)∧(∀ p∈a.params,Wb true p):=by rw [hc2,hb1]
  have hb_2:c2=false↔b=false∧Xk a.name∧(∀ p∈a.params,Wb true p):=by rw [hd2];simp only [and_assoc]
  have hkeep2:c2=false→b1=false:=fun h0=>(hc2.1 h0).1
  rw [YeF ip.len] at hG_2
  obtain ⟨l_2,hl2⟩:∃ l',l'=[Yh Y7,Yh a.name]++opt (a.params=[]) Xd (Ya5 a.params):=⟨_,rfl⟩
  rw [← hl2] at hG_2
  have hys_2:c2=false→l_2=[Yh Y7,Yh a.name]++opt (a.params=[]) Xd (Ya5 a.params):=fun h0=>by rw [hl2]
  have hle_n2:=((hle_2.trans hly2).trans hlz2)
  have hle_3:=hle_n2
  refine Yp ?_
  refine Wp.drawK (Hq:=[(g4,_),(g3,_)]) T.mixed Zj Zj Zb ?_
  refine zW ?_;intros
  refine zG ?_;refine Yhd Zz Zz ?_
  refine zW ?_;intros
  refine zc Yd5 ?_
  unfold sxV
  refine Ye ?_
  refine YD ⟨by kernel_rfl,?_⟩
  have hly3:=Le.refl fz_2
  have hY3:XU fz_2 (numE a.duration) (.slice none 0 0):=Yhh h.duration
  refine Yj (Does.perm (H':=((g5,_)::Hs_2)++ [_,_,_]) Zq (Does.after (Yl ((g5,_)::Hs_2) _ Zz Zz Zz (YbP (kw:=Wn) (hG_2.mono hly3) hY3 (YR Zh) Zi) (fun v7 fz_3 H7 hlz3 hR7=>?_))))
  obtain ⟨_,_,v_3,n_3,Hs_3,rfl,hG_3,hn_3⟩:=hR7
  refine ⟨(g,wrO c2)::(g4,_)::(g3,_)::(g5,lsO v_3)::Hs_3,Zq (l₁:=[_,_,_]) (l₂:=(g5,lsO v_3)::Hs_3),(⟨(hly3.trans hlz3),Zx⟩),?_⟩
  refine Ch.done ?_
  refine zWO ?_;intros
  have hb_3:=hb_2
  have hkeep3:c2=false→c2=false:=fun h0=>h0
  have hy3:c2=false→numE a.duration=numE a.duration:=fun _=>rfl
  rw [Ydk] at hG_3
  obtain ⟨l_3,hl3⟩:∃ l',l'=l_2++opt (a.duration=1) Wn (numE a.duration):=⟨_,rfl⟩
  rw [← hl3] at hG_3
  have hys_3:c2=false→l_3=[Yh Y7,Yh a.name]++opt (a.params=[]) Xd (Ya5 a.params)++opt (a.duration=1) Wn (numE a.duration):=fun h0=>by rw [hl3,hys_2 (hkeep3 h0)]
  have hle_n3:=((hle_3.trans hly3).trans hlz3)
  have hle_4:=hle_n3
  refine Yp ?_
  refine Wp.drawK (Hq:=[(g4,_),(g3,_)]) T.mixed Zj Zj Zb ?_
  refine zW ?_;intros
  ((refine zG ?_);refine Yn (vs:=[.string a.start.op,.string a.start.name,.slice S2 s2 r2,.slice S3 s3 r3,.slice S4 s4 r4,.slice S5 s5 r5]) T 1 Zz Zz Zz Zz Zz Zz ?_)
  refine zc YcW ?_
  unfold Yav
  refine zc (Yei (b:=Y8) (h.start.mono hle_4) Ww) ?_
  refine zW ?_;intros
  ((refine zG ?_);refine Yn (vs:=[.string a.start.op,.string a.start.name,.slice S2 s2 r2,.slice S3 s3 r3,.slice S4 s4 r4,.slice S5 s5 r5]) T 1 Zz Zz Zz Zz Zz Zz ?_)
  refine Ye ?_
  refine Ye ?_
  refine YD ⟨by kernel_rfl,?_⟩
  refine Yj (Yl [_] _ Zz Zz Zz (Ya9 (h.start.mono hle_4) hs1) (fun v6 fy4 H6 hly4 hR6=>?_))
  obtain ⟨_,c4,y4,rfl,⟨cs6,rfl,hr6⟩,hc4,hy4⟩:=hR6
  obtain ⟨vk6,rfl,hY4⟩:=YG hr6
  refine ⟨(⟨hly4,Zx⟩),?_⟩
  refine Yj (Does.perm (H':=((g5,_)::Hs_3)++ [_,_,_]) Zq (Does.after (Yl ((g5,_)::Hs_3) _ Zz Zz Zz (YbP (kw:=YdK) (hG_3.mono hly4) hY4 (YR Zh) Zi) (fun v7 fz_4 H7 hlz4 hR7=>?_))))
  obtain ⟨_,_,v_4,n_4,Hs_4,rfl,hG_4,hn_4⟩:=hR7
  refine ⟨(g,wrO c4)::(g4,_)::(g3,_)::(g5,lsO v_4)::Hs_4,Zq (l₁:=[_,_,_]) (l₂:=(g5,lsO v_4)::Hs_4),(⟨(hly4.trans hlz4),Zx⟩),?_⟩
  refine Ch.done ?_
  refine zWO ?_;intros
  have hd4:c4=false↔(b=false∧Xk a.name∧(∀ p∈a.params,Wb true p))∧FVal a.start:=by rw [hc4,hb_3]
  have hb_4:c4=false↔b=false∧Xk a.name∧(∀ p∈a.params,Wb true p)∧FVal a.start:=by rw [hd4];simp only [and_assoc]
  have hkeep4:c4=false→c2=false:=fun h0=>(hc4.1 h0).1
  rw [Ydk] at hG_4
  obtain ⟨l_4,hl4⟩:∃ l',l'=l_3++opt (a.start=Y8) YdK (y4):=⟨_,rfl⟩
  rw [← hl4] at hG_4
  have hys_4:c4=false→l_4=[Yh Y7,Yh a.name]++opt (a.params=[]) Xd (Ya5 a.params)++opt (a.duration=1) Wn (numE a.duration)++opt (a.start=Y8) YdK (Y9 a.start):=fun h0=>by rw [hl4,hys_3 (hkeep4 h0),hy4 h0]
  have hle_n4:=((hle_4.trans hly4).trans hlz4)
  have hle_5:=hle_n4
  refine Yp ?_
  refine Wp.drawK (Hq:=[(g4,_),(g3,_)]) T.mixed Zj Zj Zb ?_
  refine zW ?_;intros
  ((refine zG ?_);refine Yn (vs:=[.string a.over.op,.string a.over.name,.slice S6 s6 r6,.slice S7 s7 r7,.slice S8 s8 r8,.slice S9 s9 r9]) T 1 Zz Zz Zz Zz Zz Zz ?_)
  refine zc YcW ?_
  unfold Yav
  refine zc (Yei (b:=Y8) (h.over.mono hle_5) Ww) ?_
  refine zW ?_;intros
  ((refine zG ?_);refine Yn (vs:=[.string a.over.op,.string a.over.name,.slice S6 s6 r6,.slice S7 s7 r7,.slice S8 s8 r8,.slice S9 s9 r9]) T 1 Zz Zz Zz Zz Zz Zz ?_)
  refine Ye ?_
  refine Ye ?_
  refine YD ⟨by kernel_rfl,?_⟩
  refine Yj (Yl [_] _ Zz Zz Zz (Ya9 (h.over.mono hle_5) hs2) (fun v6 fy5 H6 hly5 hR6=>?_))
  obtain ⟨_,c5,y5,rfl,⟨cs6,rfl,hr6⟩,hc5,hy5⟩:=hR6
  obtain ⟨vk6,rfl,hY5⟩:=YG hr6
  refine ⟨(⟨hly5,Zx⟩),?_⟩
  refine Yj (Does.perm (H':=((g5,_)::Hs_4)++ [_,_,_]) Zq (Does.after (Yl ((g5,_)::Hs_4) _ Zz Zz Zz (YbP (kw:=Yhu) (hG_4.mono hly5) hY5 (YR Zh) Zi) (fun v7 fz_5 H7 hlz5 hR7=>?_))))
  obtain ⟨_,_,v_5,n_5,Hs_5,rfl,hG_5,hn_5⟩:=hR7
  refine ⟨(g,wrO c5)::(g4,_)::(g3,_)::(g5,lsO v_5)::Hs_5,Zq (l₁:=[_,_,_]) (l₂:=(g5,lsO v_5)::Hs_5),(⟨(hly5.trans hlz5),Zx⟩),?_⟩
  refine Ch.done ?_
  refine zWO ?_;intros
  have hd5:c5=false↔(b=false∧Xk a.name∧(∀ p∈a.params,Wb true p)∧FVal a.start)∧FVal a.over:=by rw [hc5,hb_4]
  have hb_5:c5=false↔b=false∧Xk a.name∧(∀ p∈a.params,Wb true p)∧FVal a.start∧FVal a.over:=by rw [hd5];simp only [and_assoc]
  have hkeep5:c5=false→c4=false:=fun h0=>(hc5.1 h0).1
  rw [Ydk] at hG_5
  obtain ⟨l_5,hl5⟩:∃ l',l'=l_4++opt (a.over=Y8) Yhu (y5):=⟨_,rfl⟩
  rw [← hl5] at hG_5
  have hys_5:c5=false→l_5=[Yh Y7,Yh a.name]++opt (a.params=[]) Xd (Ya5 a.params)++opt (a.duration=1) Wn (numE a.duration)++opt (a.start=Y8) YdK (Y9 a.start)++opt (a.over=Y8) Yhu (Y9 a.over):=fun h0=>by rw [hl5,hys_4 (hkeep5 h0),hy5 h0]
  have hle_n5:=((hle_5.trans hly5).trans hlz5)
  have hle_6:=hle_n5
  refine Yp ?_
  refine Wp.drawK (Hq:=[(g4,_),(g3,_)]) T.mixed Zj Zj Zb ?_
  refine zW ?_;intros
  ((refine zG ?_);refine Yn (vs:=[.string a.fin.op,.string a.fin.name,.slice S10 s10 r10,.slice S11 s11 r11,.slice S12 s12 r12,.slice S13 s13 r13]) T 1 Zz Zz Zz Zz Zz Zz ?_)
  refine zc YcW ?_
  unfold Yav
  refine zc (Yei (b:=Y8) (h.fin.mono hle_6) Ww) ?_
  refine zW ?_;intros
  ((refine zG ?_);refine Yn (vs:=[.string a.fin.op,.string a.fin.name,.slice S10 s10 r10,.slice S11 s11 r11,.slice S12 s12 r12,.slice S13 s13 r13]) T 1 Zz Zz Zz Zz Zz Zz ?_)
  refine Ye ?_
  refine Ye ?_
  refine YD ⟨by kernel_rfl,?_⟩
  refine Yj (Yl [_] _ Zz Zz Zz (Ya9 (h.fin.mono hle_6) hs3) (fun v6 fy6 H6 hly6 hR6=>?_))
  obtain ⟨_,c6,y6,rfl,⟨cs6,rfl,hr6⟩,hc6,hy6⟩:=hR6
  obtain ⟨vk6,rfl,hY6⟩:=YG hr6
  refine ⟨(⟨hly6,Zx⟩),?_⟩
  refine Yj (Does.perm (H':=((g5,_)::Hs_5)++ [_,_,_]) Zq (Does.after (Yl ((g5,_)::Hs_5) _ Zz Zz Zz (YbP (kw:=kEnd) (hG_5.mono hly6) hY6 (YR Zh) Zi) (fun v7 fz_6 H7 hlz6 hR7=>?_))))
  obtain ⟨_,_,v_6,n_6,Hs_6,rfl,hG_6,hn_6⟩:=hR7
  refine ⟨(g,wrO c6)::(g4,_)::(g3,_)::(g5,lsO v_6)::Hs_6,Zq (l₁:=[_,_,_]) (l₂:=(g5,lsO v_6)::Hs_6),(⟨(hly6.trans hlz6),Zx⟩),?_⟩
  refine Ch.done ?_
  refine zWO ?_;intros
  have hd6:c6=false↔(b=false∧Xk a.name∧(∀ p∈a.params,Wb true p)∧FVal a.start∧FVal a.over)∧FVal a.fin:=by rw [hc6,hb_5]
  have hb_6:c6=false↔b=false∧Xk a.name∧(∀ p∈a.params,Wb true p)∧FVal a.start∧FVal a.over∧FVal a.fin:=by rw [hd6];simp only [and_assoc]
  have hkeep6:c6=false→c5=false:=fun h0=>(hc6.1 h0).1
  rw [Ydk] at hG_6
  obtain ⟨l_6,hl6⟩:∃ l',l'=l_5++opt (a.fin=Y8) kEnd (y6):=⟨_,rfl⟩
  rw [← hl6] at hG_6
  have hys_6:c6=false→l_6=[Yh Y7,Yh a.name]++opt (a.params=[]) Xd (Ya5 a.params)++opt (a.duration=1) Wn (numE a.duration)++opt (a.start=Y8) YdK (Y9 a.start)++opt (a.over=Y8) Yhu (Y9 a.over)++opt (a.fin=Y8) kEnd (Y9 a.fin):=fun h0=>by rw [hl6,hys_5 (hkeep6 h0),hy6 h0]
  have hle_n6:=((hle_6.trans hly6).trans hlz6)
  have hle_7:=hle_n6
  refine Yp ?_
  refine Wp.drawK (Hq:=[(g4,_),(g3,_)]) T.mixed Zj Zj Zb ?_
  refine zW ?_;intros
  refine zG ?_;refine Yhd Zz Zz ?_
  refine zW ?_;intros
  refine Ye ?_
  refine Ye ?_
  refine YD ⟨by kernel_rfl,?_⟩
  refine Yj (Yl [_] _ Zz Zz Zz (Yec (iatStart.mono hle_7) hs4) (fun v6 fy7 H6 hly7 hR6=>?_))
  obtain ⟨_,c7,y7,rfl,⟨cs6,rfl,hr6⟩,hc7,hy7⟩:=hR6
  obtain ⟨vk6,rfl,hY7⟩:=YG hr6
  refine ⟨(⟨hly7,Zx⟩),?_⟩
  refine Yj (Does.perm (H':=((g5,_)::Hs_6)++ [_,_,_]) Zq (Does.after (Yl ((g5,_)::Hs_6) _ Zz Zz Zz (YbP (kw:=Yb1) (hG_6.mono hly7) hY7 (YR Zh) Zi) (fun v7 fz_7 H7 hlz7 hR7=>?_))))
  obtain ⟨_,_,v_7,n_7,Hs_7,rfl,hG_7,hn_7⟩:=hR7
  refine ⟨(g,wrO c7)::(g4,_)::(g3,_)::(g5,lsO v_7)::Hs_7,Zq (l₁:=[_,_,_]) (l₂:=(g5,lsO v_7)::Hs_7),(⟨(hly7.trans hlz7),Zx⟩),?_⟩
  refine Ch.done ?_
  refine zWO ?_;intros
  have hd7:c7=false↔(b=false∧Xk a.name∧(∀ p∈a.params,Wb true p)∧FVal a.start∧FVal a.over∧FVal a.fin)∧Yc3 a.atStart:=by rw [hc7,hb_6]
  have hb_7:c7=false↔b=false∧Xk a.name∧(∀ p∈a.params,Wb true p)∧FVal a.start∧FVal a.over∧FVal a.fin∧Yc3 a.atStart:=by rw [hd7];simp only [and_assoc]
  have hkeep7:c7=false→c6=false:=fun h0=>(hc7.1 h0).1
  rw [YeF iatStart.len] at hG_7
  obtain ⟨l_7,hl7⟩:∃ l',l'=l_6++opt (a.atStart=[]) Yb1 (y7):=⟨_,rfl⟩
  rw [← hl7] at hG_7
  have hys_7:c7=false→l_7=[Yh Y7,Yh a.name]++opt (a.params=[]) Xd (Ya5 a.params)++opt (a.duration=1) Wn (numE a.duration)++opt (a.start=Y8) YdK (Y9 a.start)++opt (a.over=Y8) Yhu (Y9 a.over)++opt (a.fin=Y8) kEnd (Y9 a.fin)++opt (a.atStart=[]) Yb1 (effX a.atStart):=fun h0=>by rw [hl7,hys_6 (hkeep7 h0),hy7 h0]
  have hle_n7:=((hle_7.trans hly7).trans hlz7)
  have hle_8:=hle_n7
  refine Yp ?_
  refine Wp.drawK (Hq:=[(g4,_),(g3,_)]) T.mixed Zj Zj Zb ?_
  refine zW ?_;intros
  refine zG ?_;refine Yhd Zz Zz ?_
  refine zW ?_;intros
  refine Ye ?_
  refine Ye ?_
  refine YD ⟨by kernel_rfl,?_⟩
  refine Yj (Yl [_] _ Zz Zz Zz (Yec (iatEnd.mono hle_8) hs5) (fun v6 fy8 H6 hly8 hR6=>?_))
  obtain ⟨_,c8,y8,rfl,⟨cs6,rfl,hr6⟩,hc8,hy8⟩:=hR6
  obtain ⟨vk6,rfl,hY8⟩:=YG hr6
  refine ⟨(⟨hly8,Zx⟩),?_⟩
  refine Yj (Does.perm (H':=((g5,_)::Hs_7)++ [_,_,_]) Zq (Does.after (Yl ((g5,_)::Hs_7) _ Zz Zz Zz (YbP (kw:=Yhv) (hG_7.mono hly8) hY8 (YR Zh) Zi) (fun v7 fz_8 H7 hlz8 hR7=>?_))))
  obtain ⟨_,_,v_8,n_8,Hs_8,rfl,hG_8,hn_8⟩:=hR7
  refine ⟨(g,wrO c8)::(g4,_)::(g3,_)::(g5,lsO v_8)::Hs_8,Zq (l₁:=[_,_,_]) (l₂:=(g5,lsO v_8)::Hs_8),(⟨(hly8.trans hlz8),Zx⟩),?_⟩
  refine Ch.done ?_
  refine zWO ?_;intros
  have hd8:c8=false↔(b=false∧Xk a.name∧(∀ p∈a.params,Wb true p)∧FVal a.start∧FVal a.over∧FVal a.fin∧Yc3 a.atStart)∧Yc3 a.atEnd:=by rw [hc8,hb_7]
  have hb_8:c8=false↔b=false∧Xk a.name∧(∀ p∈a.params,Wb true p)∧FVal a.start∧FVal a.over∧FVal a.fin∧Yc3 a.atStart∧Yc3 a.atEnd:=by rw [hd8];simp only [and_assoc]
  have hkeep8:c8=false→c7=false:=fun h0=>(hc8.1 h0).1
  rw [YeF iatEnd.len] at hG_8
  obtain ⟨l_8,hl8⟩:∃ l',l'=l_7++opt (a.atEnd=[]) Yhv (y8):=⟨_,rfl⟩
  rw [← hl8] at hG_8
  have hys_8:c8=false→l_8=[Yh Y7,Yh a.name]++opt (a.params=[]) Xd (Ya5 a.params)++opt (a.duration=1) Wn (numE a.duration)++opt (a.start=Y8) YdK (Y9 a.start)++opt (a.over=Y8) Yhu (Y9 a.over)++opt (a.fin=Y8) kEnd (Y9 a.fin)++opt (a.atStart=[]) Yb1 (effX a.atStart)++opt (a.atEnd=[]) Yhv (effX a.atEnd):=fun h0=>by rw [hl8,hys_7 (hkeep8 h0),hy8 h0]
  have hle_n8:=((hle_8.trans hly8).trans hlz8)
  obtain ⟨Av,cv,rfl,_,_⟩:=hG_8.form
  refine zW ?_;intros
  refine YcC T (i:=1) (H':=[(g,wrO c8)]) rfl Zz Zz Zz Zz Zz (Zr _) (fun fz3 hle3 hf3=>?_)
  obtain ⟨A',c',he,hsl⟩:=hG_8.sl hle3 (fun p hp=>hf3 p (by simp [hp])) Zi
  injection he with he1 he2 he3
  subst he1 he3
  exact ⟨hle_n8.trans hle3,c8,_,rfl,Wu hsl,hb_8,fun h0=>by rw [hys_8 h0];simp only [durX,List.append_assoc]⟩
end Go.Proofs.YtbnpeechpebmeaaGreatDoor
