/- The texts PWalkO, PRefJ, PRefK, PRefL, laid together. Conditions: none. -/
import Derived.Test.YtbhlgkibgajajaaGreatDoorQPF
import Derived.Test.YtbhlgkibgajajaaGreatDoorQPG
import Derived.Test.YtbhlgkibgajajaaGreatDoorQPI
import Derived.Test.YtbhlgkibgajajaaGreatDoorQPB
import Derived.Test.YtbhlgkibgajajaaGreatDoorQPC
import Derived.Test.YtbhlgkibgajajaaGreatDoorQPD
import Derived.Test.YtbhlgkibgajajaaGreatDoorQPE
import Derived.Test.YtbhlgkibgajajaaGreatDoorQPH
import Derived.Test.YtbhlgkibgajajaaGreatDoorQPJ
set_option maxRecDepth 20000
namespace Go.Proofs.YtbhlgkibgajajaaGreatDoor
open Go.Lx Go.RowKit
attribute [local instance 10] Classical.propDecidable
def XA:ByteArray:=⟨#[58,97,99,116,105,111,110]⟩
def Y2:ByteArray:=⟨#[58,100,117,114,97,116,105,118,101,45,97,99,116,105,111,110]⟩
def Y5:ByteArray:=⟨#[58,112,97,114,97,109,101,116,101,114,115]⟩
def Yir:ByteArray:=⟨#[58,99,111,115,116]⟩
def WJ:ByteArray:=⟨#[58,112,114,101,99,111,110,100,105,116,105,111,110]⟩
def Yfe:ByteArray:=⟨#[58,101,102,102,101,99,116]⟩
def WK:ByteArray:=⟨#[58,100,117,114,97,116,105,111,110]⟩
def Yda:ByteArray:=⟨#[58,115,116,97,114,116]⟩
def Yg3:ByteArray:=⟨#[58,111,118,101,114]⟩
def kEnd:ByteArray:=⟨#[58,101,110,100]⟩
def Yck:ByteArray:=⟨#[58,97,116,45,115,116,97,114,116]⟩
def YhJ:ByteArray:=⟨#[58,97,116,45,101,110,100]⟩
theorem YK {o:ByteArray} (h:o.size≤100):Short o:=by unfold Short;omega
theorem YeD {fz:FZ} {n:Int} (h:I64 n):Xd fz (numE n) (.slice none 0 0):=⟨i64_2,h,Xp,Xp,Y0,IsSl.nil⟩
theorem XM {fz:FZ} {A:Option Addr} {n c:Nat} {l:List Sexpr} (h:Sl YF fz A n c l):Xd fz (Yv l) (.slice A n c):=⟨YcO,Xp,Xp,Xp,Y0,h.is⟩
noncomputable def opt (p:Prop) (kw:ByteArray) (x:Sexpr):List Sexpr:=if p then [] else [Yd kw,x]
theorem YdV {α:Type} {l:List α} {n:Nat} {kw:ByteArray} {x:Sexpr} (h:l.length=n):(if decide ((n:Int)=0)=true then ([]:List Sexpr) else [Yd kw,x])=opt (l=[]) kw x:=by
 unfold opt
 by_cases hl:l=[]
 ·rw [if_pos hl,if_pos (decide_eq_true ((len0 h).2 hl))]
 ·rw [if_neg hl,if_neg (by simpa using fun h0=>hl ((len0 h).1 h0))]
theorem YcN {p:Prop} {d:Decidable p} {kw:ByteArray} {x:Sexpr}:(if @decide p d=true then ([]:List Sexpr) else [Yd kw,x])=opt p kw x:=by
 unfold opt
 by_cases hp:p
 ·rw [if_pos hp,if_pos (by simpa using hp)]
 ·rw [if_neg hp,if_neg (by simpa using hp)]
noncomputable def YaJ (l:List Param):Sexpr:=Yv ((l.flatMap XO).map Yd)
noncomputable def actX (a:Action):Sexpr:=Yv ([Yd XA,Yd a.name]++opt (a.params=[]) Y5 (YaJ a.params)++opt (a.cost=1) Yir (numE a.cost)++opt (a.pre=Wn) WJ (YN a.pre)++opt (a.changes=[]) Yfe (effX a.changes))
def Ykb (a:Action):Prop:=Xn a.name∧0≤a.cost∧(∀ p∈a.params,XD true p)∧FVal a.pre∧Yc0 a.changes
def actSm (a:Action):Prop:=a.params.length≤1000000000∧FSm a.pre∧Ykj a.changes
set_option maxHeartbeats 4000000 in
theorem YfH {fz:FZ} {g:Nat} {b:Bool} {a:Action} {v1 v2 v3 v4 v5 v6:Value} (h:ActionR fz a v1 v2 v3 v4 v5 v6) (hs:actSm a):
 GFn Tryz.prog 35 [.pointer (some ⟨g,0,none⟩),.agg #[.string a.name,v1,.int .i64 a.cost,.string a.pre.op,.string a.pre.name,v2,v3,v4,v5,v6]] fz [(g,wrO b)] (MkR g b (Ykb a) (actX a) fz):=by
 obtain ⟨P1,p1,q1,rfl,ip⟩:=h.params
 obtain ⟨S2,s2,r2,rfl,_⟩:=h.pre.args
 obtain ⟨S3,s3,r3,rfl,_⟩:=h.pre.params
 obtain ⟨S4,s4,r4,rfl,_⟩:=h.pre.exprs
 obtain ⟨S5,s5,r5,rfl,_⟩:=h.pre.kids
 obtain ⟨S6,s6,r6,rfl,ichanges⟩:=h.changes
 obtain ⟨hs0,hs1,hs2⟩:=hs
 (refine GFn.of_wp Tryz.func35 rfl Tryz.ntmps35 rfl rfl (fun w0=>?_))
 (refine Yr (Yp (Yb Zz (Xi _ Zz Zz (fun g3=>?_)))))
 ((repeat (first | refine zSO ?_ | refine zA fun _=>?_)))
 rename_i g4
 refine Yr (Wp.mid (fun σ fz' H'=>∃ (b1:Bool) (g5:Nat) (v:Value) (Hs:HP),σ=[(5,.pointer (some ⟨g5,0,none⟩)),(4,.pointer (some ⟨g4,0,none⟩)),(3,.pointer (some ⟨g3,0,none⟩)),(0,.pointer (some ⟨g,0,none⟩))]∧Le fz fz'∧H'=(g,wrO b1)::(g4,.cells #[.int .i64 0,.int .i64 0,.int .i64 0,.int .i64 0,.string ⟨#[]⟩,.slice none 0 0] 64 (0,0))::(g3,.cells #[.string a.name,.slice P1 p1 q1,.int .i64 a.cost,.string a.pre.op,.string a.pre.name,.slice S2 s2 r2,.slice S3 s3 r3,.slice S4 s4 r4,.slice S5 s5 r5,.slice S6 s6 r6] 55 (0,0))::(g5,lsO v)::Hs∧Grow YF 64 fz' v 2 Hs [Yd XA,Yd a.name]∧(b1=false↔b=false∧Xn a.name)) ?_ ?_)
 ·(refine Wp.drawP [] (Hq:=[(g4,_),(g3,_)]) T.mixed Zj Zj (Zb) ?_)
  (((refine zG ?_));refine Yj Zz Zz (Wq (s:=XA)) ?_)
  ((repeat (first | refine zS ?_ | refine zA fun _=>?_)))
  (refine Yl ?_)
  (refine Yl ?_)
  (refine Yl ?_)
  (refine Yl ?_)
  (refine Yl ?_)
  (refine PK.done ⟨by kernel_rfl,?_⟩)
  (refine YV Zz Zz Zz ?_ ?_)
  ·refine Yh (Does.perm (@List.perm_middle _ _ [_,_] []).symm (YB [_] _ Zz Zz Zz (YaX h.name) (fun v6 fz6 H6 hle6 hR6=>?_)))
   obtain ⟨_,rfl,b1,rfl,hb1⟩:=hR6
   refine ⟨(⟨hle6,Zx⟩),?_⟩
   unfold sxV
   (refine YV Zz Zz Zz ?_ ?_)
   ·refine Yh (Yc T (cs:=Ym XA++Ym a.name) Zz Zz Zz Zz Zz Zz Zz Zz (fun gb=>⟨(⟨hle6,Zx⟩),?_⟩))
    (refine YV Zz Zz Zz ?_ ?_)
    ·refine PoS.qk (⟨hle6,Zx⟩) (Yj Zz Zz Y6 ?_)
     unfold sxV
     (refine Yf Zz Zz ?_)
     refine Yh (Xz T Zz Zz (fun g5=>⟨(⟨hle6,Zx⟩),?_⟩))
     (refine Yf Zz Zz ?_)
     refine PoS.hard0 Zj (Does.perm (Xm [0,2,3,4,1] Zz Zz) (Y1 T Zz Zz Zz Zz Zz Zz ?_))
     refine Po.done ?_
     ((repeat (first | refine zS ?_ | refine zA fun _=>?_)))
     exact midP (Xm [1,2,3,0,4] Zz Zz) ⟨b1,g5,_,[_],rfl,hle6,rfl,Grow.block (m:=2) (ys:=[(Yd XA,Ym XA),(Yd a.name,Ym a.name)]) rfl rfl (by intro p hp;simp only [List.mem_cons,List.not_mem_nil,or_false] at hp;rcases hp with rfl | rfl;exact Yq (YK Zh);exact Yq h.name) rfl Zh,hb1⟩ (Zw) (Zb)
    ·refine Yh (Xz T Zz Zz (fun g5=>⟨(⟨hle6,Zx⟩),?_⟩))
     (refine Yf Zz Zz ?_)
     refine PoS.qk (⟨hle6,Zx⟩) (Yj Zz Zz Y6 ?_)
     unfold sxV
     (refine Yf Zz Zz ?_)
     refine PoS.hard0 Zj (Does.perm (Xm [0,2,3,4,1] Zz Zz) (Y1 T Zz Zz Zz Zz Zz Zz ?_))
     refine Po.done ?_
     ((repeat (first | refine zS ?_ | refine zA fun _=>?_)))
     exact midP (Xm [1,2,3,0,4] Zz Zz) ⟨b1,g5,_,[_],rfl,hle6,rfl,Grow.block (m:=2) (ys:=[(Yd XA,Ym XA),(Yd a.name,Ym a.name)]) rfl rfl (by intro p hp;simp only [List.mem_cons,List.not_mem_nil,or_false] at hp;rcases hp with rfl | rfl;exact Yq (YK Zh);exact Yq h.name) rfl Zh,hb1⟩ (Zw) (Zb)
   ·refine Yh (Xz T Zz Zz (fun g5=>⟨(⟨hle6,Zx⟩),?_⟩))
    (refine Yf Zz Zz ?_)
    refine Yh (Yc T (cs:=Ym XA++Ym a.name) Zz Zz Zz Zz Zz Zz Zz Zz (fun gb=>⟨(⟨hle6,Zx⟩),?_⟩))
    (refine Yf Zz Zz ?_)
    refine PoS.qk (⟨hle6,Zx⟩) (Yj Zz Zz Y6 ?_)
    unfold sxV
    (refine Yf Zz Zz ?_)
    refine PoS.hard0 Zj (Does.perm (Xm [1,2,3,4,0] Zz Zz) (Y1 T Zz Zz Zz Zz Zz Zz ?_))
    refine Po.done ?_
    ((repeat (first | refine zS ?_ | refine zA fun _=>?_)))
    exact midP (Xm [1,2,3,0,4] Zz Zz) ⟨b1,g5,_,[_],rfl,hle6,rfl,Grow.block (m:=2) (ys:=[(Yd XA,Ym XA),(Yd a.name,Ym a.name)]) rfl rfl (by intro p hp;simp only [List.mem_cons,List.not_mem_nil,or_false] at hp;rcases hp with rfl | rfl;exact Yq (YK Zh);exact Yq h.name) rfl Zh,hb1⟩ (Zw) (Zb)
  ·refine Yh (Xz T Zz Zz (fun g5=>⟨(⟨(Le.refl _),Zx⟩),?_⟩))
   (refine Yf Zz Zz ?_)
   refine Yh (Does.perm (@List.perm_middle _ _ [_,_,_] []).symm (YB [_] _ Zz Zz Zz (YaX h.name) (fun v6 fz6 H6 hle6 hR6=>?_)))
   obtain ⟨_,rfl,b1,rfl,hb1⟩:=hR6
   refine ⟨(⟨hle6,Zx⟩),?_⟩
   unfold sxV
   (refine Yf Zz Zz ?_)
   refine Yh (Yc T (cs:=Ym XA++Ym a.name) Zz Zz Zz Zz Zz Zz Zz Zz (fun gb=>⟨(⟨hle6,Zx⟩),?_⟩))
   (refine Yf Zz Zz ?_)
   refine PoS.qk (⟨hle6,Zx⟩) (Yj Zz Zz Y6 ?_)
   unfold sxV
   (refine Yf Zz Zz ?_)
   refine PoS.hard0 Zj (Does.perm (Xm [2,1,3,4,0] Zz Zz) (Y1 T Zz Zz Zz Zz Zz Zz ?_))
   refine Po.done ?_
   ((repeat (first | refine zS ?_ | refine zA fun _=>?_)))
   exact midP (Xm [1,2,3,0,4] Zz Zz) ⟨b1,g5,_,[_],rfl,hle6,rfl,Grow.block (m:=2) (ys:=[(Yd XA,Ym XA),(Yd a.name,Ym a.name)]) rfl rfl (by intro p hp;simp only [List.mem_cons,List.not_mem_nil,or_false] at hp;rcases hp with rfl | rfl;exact Yq (YK Zh);exact Yq h.name) rfl Zh,hb1⟩ (Zw) (Zb)
 ·rintro σ fz1 H' ⟨b1,g5,v1,Hs1,rfl,hle1,rfl,hG1,hb1⟩
  have hys1:b1=false→[Yd XA,Yd a.name]=[Yd XA,Yd a.name]:=fun _=>rfl
  have hn1:2≤2:=Nat.le_refl _
  refine Yr (Wp.mid (fun σ fz' H'=>∃ bb:Bool,σ=[(5,.pointer (some ⟨g5,0,none⟩)),(4,.pointer (some ⟨g4,0,none⟩)),(3,.pointer (some ⟨g3,0,none⟩)),(0,.pointer (some ⟨g,0,none⟩))]∧fz1=fz'∧H'=(g,wrO bb)::(g4,.cells #[.int .i64 0,.int .i64 0,.int .i64 0,.int .i64 0,.string ⟨#[]⟩,.slice none 0 0] 64 (0,0))::(g3,.cells #[.string a.name,.slice P1 p1 q1,.int .i64 a.cost,.string a.pre.op,.string a.pre.name,.slice S2 s2 r2,.slice S3 s3 r3,.slice S4 s4 r4,.slice S5 s5 r5,.slice S6 s6 r6] 55 (0,0))::(g5,lsO v1)::Hs1∧(bb=false↔b1=false∧0≤a.cost)) ?_ ?_)
  ·cases b1
   ·((repeat (first | refine zS ?_ | refine zA fun _=>?_)))
    ((refine zG ?_;refine zC (fun c1=>?_) (fun c1=>?_)))
    ·((repeat (first | refine zS ?_ | refine zA fun _=>?_)))
     exact midN ⟨true,rfl,rfl,rfl,iff_of_false (by simp) (fun h0=>by have:=h0.2;omega)⟩ (Zw) (Zb)
    ·((repeat (first | refine zS ?_ | refine zA fun _=>?_)))
     exact midN ⟨false,rfl,rfl,rfl,iff_of_true rfl ⟨rfl,by omega⟩⟩ (Zw) (Zb)
   ·((repeat (first | refine zS ?_ | refine zA fun _=>?_)))
    exact midN ⟨true,rfl,rfl,rfl,iff_of_false (by simp) (fun h0=>by cases h0.1)⟩ (Zw) (Zb)
  ·rintro σ fz' H' ⟨bz,rfl,rfl,rfl,hbz⟩
   have hbz2:bz=false↔b=false∧Xn a.name∧0≤a.cost:=by rw [hbz,hb1,and_assoc]
   have hysz:bz=false→[Yd XA,Yd a.name]=[Yd XA,Yd a.name]:=fun _=>rfl
   have hle_2:=hle1
   refine Yr ?_
   (refine Wp.drawK (Hq:=[(g4,_),(g3,_)]) T.mixed Zj Zj (Zb) ?_)
   ((repeat (first | refine zS ?_ | refine zA fun _=>?_)))
   ((refine zG ?_));refine Ye8 Zz Zz ?_
   ((repeat (first | refine zS ?_ | refine zA fun _=>?_)))
   (refine Ye ?_)
   (refine Ye ?_)
   (refine Ye ?_)
   (refine YR ⟨by kernel_rfl,?_⟩)
   refine Ys (YB [_] _ Zz Zz Zz (WE (vars:=true) (ip.mono hle_2) (by rw [← ip.len];exact hs0)) (fun v6 fy2 H6 hly2 hR6=>?_))
   obtain ⟨_,⟨B6,cc6,rfl,hsl6⟩,c2,rfl,hc2⟩:=hR6
   refine ⟨(⟨hly2,Zx⟩),?_⟩
   refine Ch.qk (⟨hly2,Zx⟩) (Yj Zz Zz Y6 ?_)
   unfold sxV
   have hY2:Xd fy2 (YaJ a.params) (.slice B6 (3*p1) cc6):=XM hsl6
   have hy2:c2=false→YaJ a.params=YaJ a.params:=fun _=>rfl
   refine Ys (Does.perm (H':=((g5,_)::Hs1)++ [_,_,_]) List.perm_append_comm (Does.after (YB ((g5,_)::Hs1) _ Zz Zz Zz (Ybr (kw:=Y5) (hG1.mono hly2) hY2 (YK Zh) Zi) (fun v7 fz_2 H7 hlz2 hR7=>?_))))
   obtain ⟨_,_,v_2,n_2,Hs_2,rfl,hG_2,hn_2⟩:=hR7
   refine ⟨(g,wrO c2)::(g4,_)::(g3,_)::(g5,lsO v_2)::Hs_2,List.perm_append_comm (l₁:=[_,_,_]) (l₂:=(g5,lsO v_2)::Hs_2),(⟨(hly2.trans hlz2),Zx⟩),?_⟩
   refine Ch.done ?_
   ((repeat (first | refine zSO ?_ | refine zA fun _=>?_)))
   have hd2:c2=false↔(b=false∧Xn a.name∧0≤a.cost)∧(∀ p∈a.params,XD true p):=by rw [hc2,hbz2]
   have hb_2:c2=false↔b=false∧Xn a.name∧0≤a.cost∧(∀ p∈a.params,XD true p):=by rw [hd2];simp only [and_assoc]
   have hkeep2:c2=false→bz=false:=fun h0=>(hc2.1 h0).1
   rw [YdV ip.len] at hG_2
   obtain ⟨l_2,hl2⟩:∃ l',l'=[Yd XA,Yd a.name]++opt (a.params=[]) Y5 (YaJ a.params):=⟨_,rfl⟩
   rw [← hl2] at hG_2
   have hys_2:c2=false→l_2=[Yd XA,Yd a.name]++opt (a.params=[]) Y5 (YaJ a.params):=fun h0=>by rw [hl2]
   have hle_n2:=((hle_2.trans hly2).trans hlz2)
   have hle_3:=hle_n2
   refine Yr ?_
   (refine Wp.drawK (Hq:=[(g4,_),(g3,_)]) T.mixed Zj Zj (Zb) ?_)
   ((repeat (first | refine zS ?_ | refine zA fun _=>?_)))
   ((refine zG ?_));refine Ye8 Zz Zz ?_
   ((repeat (first | refine zS ?_ | refine zA fun _=>?_)))
   (((refine zG ?_));refine Yj Zz Zz Ydt ?_)
   unfold sxV
   (refine Ye ?_)
   (refine YR ⟨by kernel_rfl,?_⟩)
   have hly3:=Le.refl fz_2
   have hY3:Xd fz_2 (numE a.cost) (.slice none 0 0):=YeD h.cost
   refine Ys (Does.perm (H':=((g5,_)::Hs_2)++ [_,_,_]) List.perm_append_comm (Does.after (YB ((g5,_)::Hs_2) _ Zz Zz Zz (Ybr (kw:=Yir) (hG_2.mono hly3) hY3 (YK Zh) Zi) (fun v7 fz_3 H7 hlz3 hR7=>?_))))
   obtain ⟨_,_,v_3,n_3,Hs_3,rfl,hG_3,hn_3⟩:=hR7
   refine ⟨(g,wrO c2)::(g4,_)::(g3,_)::(g5,lsO v_3)::Hs_3,List.perm_append_comm (l₁:=[_,_,_]) (l₂:=(g5,lsO v_3)::Hs_3),(⟨(hly3.trans hlz3),Zx⟩),?_⟩
   refine Ch.done ?_
   ((repeat (first | refine zSO ?_ | refine zA fun _=>?_)))
   have hb_3:=hb_2
   have hkeep3:c2=false→c2=false:=fun h0=>h0
   have hy3:c2=false→numE a.cost=numE a.cost:=fun _=>rfl
   rw [YcN] at hG_3
   obtain ⟨l_3,hl3⟩:∃ l',l'=l_2++opt (a.cost=1) Yir (numE a.cost):=⟨_,rfl⟩
   rw [← hl3] at hG_3
   have hys_3:c2=false→l_3=[Yd XA,Yd a.name]++opt (a.params=[]) Y5 (YaJ a.params)++opt (a.cost=1) Yir (numE a.cost):=fun h0=>by rw [hl3,hys_2 (hkeep3 h0)]
   have hle_n3:=((hle_3.trans hly3).trans hlz3)
   have hle_4:=hle_n3
   refine Yr ?_
   (refine Wp.drawK (Hq:=[(g4,_),(g3,_)]) T.mixed Zj Zj (Zb) ?_)
   ((repeat (first | refine zS ?_ | refine zA fun _=>?_)))
   (((refine zG ?_));refine YJ (vs:=[.string a.pre.op,.string a.pre.name,.slice S2 s2 r2,.slice S3 s3 r3,.slice S4 s4 r4,.slice S5 s5 r5]) T 1 Zz Zz Zz Zz Zz Zz ?_)
   (((refine zG ?_));refine Yj Zz Zz Ycz ?_)
   unfold YbT
   (((refine zG ?_));refine Yj Zz Zz (Yey (b:=Wn) (h.pre.mono hle_4) YdB) ?_)
   ((repeat (first | refine zS ?_ | refine zA fun _=>?_)))
   (((refine zG ?_));refine YJ (vs:=[.string a.pre.op,.string a.pre.name,.slice S2 s2 r2,.slice S3 s3 r3,.slice S4 s4 r4,.slice S5 s5 r5]) T 1 Zz Zz Zz Zz Zz Zz ?_)
   (refine Ye ?_)
   (refine Ye ?_)
   (refine YR ⟨by kernel_rfl,?_⟩)
   refine Ys (YB [_] _ Zz Zz Zz (YaP (h.pre.mono hle_4) hs1) (fun v6 fy4 H6 hly4 hR6=>?_))
   obtain ⟨_,c4,y4,rfl,⟨cs6,rfl,hr6⟩,hc4,hy4⟩:=hR6
   obtain ⟨vk6,rfl,hY4⟩:=Yt hr6
   refine ⟨(⟨hly4,Zx⟩),?_⟩
   refine Ys (Does.perm (H':=((g5,_)::Hs_3)++ [_,_,_]) List.perm_append_comm (Does.after (YB ((g5,_)::Hs_3) _ Zz Zz Zz (Ybr (kw:=WJ) (hG_3.mono hly4) hY4 (YK Zh) Zi) (fun v7 fz_4 H7 hlz4 hR7=>?_))))
   obtain ⟨_,_,v_4,n_4,Hs_4,rfl,hG_4,hn_4⟩:=hR7
   refine ⟨(g,wrO c4)::(g4,_)::(g3,_)::(g5,lsO v_4)::Hs_4,List.perm_append_comm (l₁:=[_,_,_]) (l₂:=(g5,lsO v_4)::Hs_4),(⟨(hly4.trans hlz4),Zx⟩),?_⟩
   refine Ch.done ?_
   ((repeat (first | refine zSO ?_ | refine zA fun _=>?_)))
   have hd4:c4=false↔(b=false∧Xn a.name∧0≤a.cost∧(∀ p∈a.params,XD true p))∧FVal a.pre:=by rw [hc4,hb_3]
   have hb_4:c4=false↔b=false∧Xn a.name∧0≤a.cost∧(∀ p∈a.params,XD true p)∧FVal a.pre:=by rw [hd4];simp only [and_assoc]
   have hkeep4:c4=false→c2=false:=fun h0=>(hc4.1 h0).1
   rw [YcN] at hG_4
   obtain ⟨l_4,hl4⟩:∃ l',l'=l_3++opt (a.pre=Wn) WJ (y4):=⟨_,rfl⟩
   rw [← hl4] at hG_4
   have hys_4:c4=false→l_4=[Yd XA,Yd a.name]++opt (a.params=[]) Y5 (YaJ a.params)++opt (a.cost=1) Yir (numE a.cost)++opt (a.pre=Wn) WJ (YN a.pre):=fun h0=>by rw [hl4,hys_3 (hkeep4 h0),hy4 h0]
   have hle_n4:=((hle_4.trans hly4).trans hlz4)
   have hle_5:=hle_n4
   refine Yr ?_
   (refine Wp.drawK (Hq:=[(g4,_),(g3,_)]) T.mixed Zj Zj (Zb) ?_)
   ((repeat (first | refine zS ?_ | refine zA fun _=>?_)))
   ((refine zG ?_));refine Ye8 Zz Zz ?_
   ((repeat (first | refine zS ?_ | refine zA fun _=>?_)))
   (refine Ye ?_)
   (refine Ye ?_)
   (refine YR ⟨by kernel_rfl,?_⟩)
   refine Ys (YB [_] _ Zz Zz Zz (Ydx (ichanges.mono hle_5) hs2) (fun v6 fy5 H6 hly5 hR6=>?_))
   obtain ⟨_,c5,y5,rfl,⟨cs6,rfl,hr6⟩,hc5,hy5⟩:=hR6
   obtain ⟨vk6,rfl,hY5⟩:=Yt hr6
   refine ⟨(⟨hly5,Zx⟩),?_⟩
   refine Ys (Does.perm (H':=((g5,_)::Hs_4)++ [_,_,_]) List.perm_append_comm (Does.after (YB ((g5,_)::Hs_4) _ Zz Zz Zz (Ybr (kw:=Yfe) (hG_4.mono hly5) hY5 (YK Zh) Zi) (fun v7 fz_5 H7 hlz5 hR7=>?_))))
   obtain ⟨_,_,v_5,n_5,Hs_5,rfl,hG_5,hn_5⟩:=hR7
   refine ⟨(g,wrO c5)::(g4,_)::(g3,_)::(g5,lsO v_5)::Hs_5,List.perm_append_comm (l₁:=[_,_,_]) (l₂:=(g5,lsO v_5)::Hs_5),(⟨(hly5.trans hlz5),Zx⟩),?_⟩
   refine Ch.done ?_
   ((repeat (first | refine zSO ?_ | refine zA fun _=>?_)))
   have hd5:c5=false↔(b=false∧Xn a.name∧0≤a.cost∧(∀ p∈a.params,XD true p)∧FVal a.pre)∧Yc0 a.changes:=by rw [hc5,hb_4]
   have hb_5:c5=false↔b=false∧Xn a.name∧0≤a.cost∧(∀ p∈a.params,XD true p)∧FVal a.pre∧Yc0 a.changes:=by rw [hd5];simp only [and_assoc]
   have hkeep5:c5=false→c4=false:=fun h0=>(hc5.1 h0).1
   rw [YdV ichanges.len] at hG_5
   obtain ⟨l_5,hl5⟩:∃ l',l'=l_4++opt (a.changes=[]) Yfe (y5):=⟨_,rfl⟩
   rw [← hl5] at hG_5
   have hys_5:c5=false→l_5=[Yd XA,Yd a.name]++opt (a.params=[]) Y5 (YaJ a.params)++opt (a.cost=1) Yir (numE a.cost)++opt (a.pre=Wn) WJ (YN a.pre)++opt (a.changes=[]) Yfe (effX a.changes):=fun h0=>by rw [hl5,hys_4 (hkeep5 h0),hy5 h0]
   have hle_n5:=((hle_5.trans hly5).trans hlz5)
   obtain ⟨Av,cv,rfl,_,_⟩:=hG_5.form
   ((repeat (first | refine zS ?_ | refine zA fun _=>?_)))
   refine Yce T (i:=1) (H':=[(g,wrO c5)]) rfl Zz Zz Zz Zz Zz (List.Perm.refl _) (fun fz3 hle3 hf3=>?_)
   obtain ⟨A',c',he,hsl⟩:=hG_5.sl hle3 (fun p hp=>hf3 p (by simp [hp])) Zi
   injection he with he1 he2 he3
   subst he1 he3
   exact ⟨hle_n5.trans hle3,c5,_,rfl,XQ hsl,hb_5,fun h0=>by rw [hys_5 h0];simp only [actX,List.append_assoc]⟩
noncomputable def durX (a:Durative):Sexpr:=Yv ([Yd Y2,Yd a.name]++opt (a.params=[]) Y5 (YaJ a.params)++opt (a.duration=1) WK (numE a.duration)++opt (a.start=Wn) Yda (YN a.start)++opt (a.over=Wn) Yg3 (YN a.over)++opt (a.fin=Wn) kEnd (YN a.fin)++opt (a.atStart=[]) Yck (effX a.atStart)++opt (a.atEnd=[]) YhJ (effX a.atEnd))
def YjX (a:Durative):Prop:=Xn a.name∧(∀ p∈a.params,XD true p)∧FVal a.start∧FVal a.over∧FVal a.fin∧Yc0 a.atStart∧Yc0 a.atEnd
def durSm (a:Durative):Prop:=a.params.length≤1000000000∧FSm a.start∧FSm a.over∧FSm a.fin∧Ykj a.atStart∧Ykj a.atEnd
set_option maxHeartbeats 4000000 in
theorem Ydy {fz:FZ} {g:Nat} {b:Bool} {a:Durative} {v1 v2 v3 v4 v5 v6 v7 v8 v9 v10 v11 v12 v13 v14 v15:Value} (h:DurativeR fz a v1 v2 v3 v4 v5 v6 v7 v8 v9 v10 v11 v12 v13 v14 v15) (hs:durSm a):
 GFn Tryz.prog 36 [.pointer (some ⟨g,0,none⟩),.agg #[.string a.name,v1,.int .i64 a.duration,.string a.start.op,.string a.start.name,v2,v3,v4,v5,.string a.over.op,.string a.over.name,v6,v7,v8,v9,.string a.fin.op,.string a.fin.name,v10,v11,v12,v13,v14,v15]] fz [(g,wrO b)] (MkR g b (YjX a) (durX a) fz):=by
 obtain ⟨P1,p1,q1,rfl,ip⟩:=h.params
 obtain ⟨S2,s2,r2,rfl,_⟩:=h.start.args
 obtain ⟨S3,s3,r3,rfl,_⟩:=h.start.params
 obtain ⟨S4,s4,r4,rfl,_⟩:=h.start.exprs
 obtain ⟨S5,s5,r5,rfl,_⟩:=h.start.kids
 obtain ⟨S6,s6,r6,rfl,_⟩:=h.over.args
 obtain ⟨S7,s7,r7,rfl,_⟩:=h.over.params
 obtain ⟨S8,s8,r8,rfl,_⟩:=h.over.exprs
 obtain ⟨S9,s9,r9,rfl,_⟩:=h.over.kids
 obtain ⟨S10,s10,r10,rfl,_⟩:=h.fin.args
 obtain ⟨S11,s11,r11,rfl,_⟩:=h.fin.params
 obtain ⟨S12,s12,r12,rfl,_⟩:=h.fin.exprs
 obtain ⟨S13,s13,r13,rfl,_⟩:=h.fin.kids
 obtain ⟨S14,s14,r14,rfl,iatStart⟩:=h.atStart
 obtain ⟨S15,s15,r15,rfl,iatEnd⟩:=h.atEnd
 obtain ⟨hs0,hs1,hs2,hs3,hs4,hs5⟩:=hs
 (refine GFn.of_wp Tryz.func36 rfl Tryz.ntmps36 rfl rfl (fun w0=>?_))
 (refine Yr (Yp (Yb Zz (Xi _ Zz Zz (fun g3=>?_)))))
 ((repeat (first | refine zSO ?_ | refine zA fun _=>?_)))
 rename_i g4
 refine Yr (Wp.mid (fun σ fz' H'=>∃ (b1:Bool) (g5:Nat) (v:Value) (Hs:HP),σ=[(5,.pointer (some ⟨g5,0,none⟩)),(4,.pointer (some ⟨g4,0,none⟩)),(3,.pointer (some ⟨g3,0,none⟩)),(0,.pointer (some ⟨g,0,none⟩))]∧Le fz fz'∧H'=(g,wrO b1)::(g4,.cells #[.int .i64 0,.int .i64 0,.int .i64 0,.int .i64 0,.string ⟨#[]⟩,.slice none 0 0] 64 (0,0))::(g3,.cells #[.string a.name,.slice P1 p1 q1,.int .i64 a.duration,.string a.start.op,.string a.start.name,.slice S2 s2 r2,.slice S3 s3 r3,.slice S4 s4 r4,.slice S5 s5 r5,.string a.over.op,.string a.over.name,.slice S6 s6 r6,.slice S7 s7 r7,.slice S8 s8 r8,.slice S9 s9 r9,.string a.fin.op,.string a.fin.name,.slice S10 s10 r10,.slice S11 s11 r11,.slice S12 s12 r12,.slice S13 s13 r13,.slice S14 s14 r14,.slice S15 s15 r15] 58 (0,0))::(g5,lsO v)::Hs∧Grow YF 64 fz' v 2 Hs [Yd Y2,Yd a.name]∧(b1=false↔b=false∧Xn a.name)) ?_ ?_)
 ·(refine Wp.drawP [] (Hq:=[(g4,_),(g3,_)]) T.mixed Zj Zj (Zb) ?_)
  (((refine zG ?_));refine Yj Zz Zz (Wq (s:=Y2)) ?_)
  ((repeat (first | refine zS ?_ | refine zA fun _=>?_)))
  (refine Yl ?_)
  (refine Yl ?_)
  (refine Yl ?_)
  (refine Yl ?_)
  (refine Yl ?_)
  (refine PK.done ⟨by kernel_rfl,?_⟩)
  (refine YV Zz Zz Zz ?_ ?_)
  ·refine Yh (Does.perm (@List.perm_middle _ _ [_,_] []).symm (YB [_] _ Zz Zz Zz (YaX h.name) (fun v6 fz6 H6 hle6 hR6=>?_)))
   obtain ⟨_,rfl,b1,rfl,hb1⟩:=hR6
   refine ⟨(⟨hle6,Zx⟩),?_⟩
   unfold sxV
   (refine YV Zz Zz Zz ?_ ?_)
   ·refine Yh (Yc T (cs:=Ym Y2++Ym a.name) Zz Zz Zz Zz Zz Zz Zz Zz (fun gb=>⟨(⟨hle6,Zx⟩),?_⟩))
    (refine YV Zz Zz Zz ?_ ?_)
    ·refine PoS.qk (⟨hle6,Zx⟩) (Yj Zz Zz Y6 ?_)
     unfold sxV
     (refine Yf Zz Zz ?_)
     refine Yh (Xz T Zz Zz (fun g5=>⟨(⟨hle6,Zx⟩),?_⟩))
     (refine Yf Zz Zz ?_)
     refine PoS.hard0 Zj (Does.perm (Xm [0,2,3,4,1] Zz Zz) (Y1 T Zz Zz Zz Zz Zz Zz ?_))
     refine Po.done ?_
     ((repeat (first | refine zS ?_ | refine zA fun _=>?_)))
     exact midP (Xm [1,2,3,0,4] Zz Zz) ⟨b1,g5,_,[_],rfl,hle6,rfl,Grow.block (m:=2) (ys:=[(Yd Y2,Ym Y2),(Yd a.name,Ym a.name)]) rfl rfl (by intro p hp;simp only [List.mem_cons,List.not_mem_nil,or_false] at hp;rcases hp with rfl | rfl;exact Yq (YK Zh);exact Yq h.name) rfl Zh,hb1⟩ (Zw) (Zb)
    ·refine Yh (Xz T Zz Zz (fun g5=>⟨(⟨hle6,Zx⟩),?_⟩))
     (refine Yf Zz Zz ?_)
     refine PoS.qk (⟨hle6,Zx⟩) (Yj Zz Zz Y6 ?_)
     unfold sxV
     (refine Yf Zz Zz ?_)
     refine PoS.hard0 Zj (Does.perm (Xm [0,2,3,4,1] Zz Zz) (Y1 T Zz Zz Zz Zz Zz Zz ?_))
     refine Po.done ?_
     ((repeat (first | refine zS ?_ | refine zA fun _=>?_)))
     exact midP (Xm [1,2,3,0,4] Zz Zz) ⟨b1,g5,_,[_],rfl,hle6,rfl,Grow.block (m:=2) (ys:=[(Yd Y2,Ym Y2),(Yd a.name,Ym a.name)]) rfl rfl (by intro p hp;simp only [List.mem_cons,List.not_mem_nil,or_false] at hp;rcases hp with rfl | rfl;exact Yq (YK Zh);exact Yq h.name) rfl Zh,hb1⟩ (Zw) (Zb)
   ·refine Yh (Xz T Zz Zz (fun g5=>⟨(⟨hle6,Zx⟩),?_⟩))
    (refine Yf Zz Zz ?_)
    refine Yh (Yc T (cs:=Ym Y2++Ym a.name) Zz Zz Zz Zz Zz Zz Zz Zz (fun gb=>⟨(⟨hle6,Zx⟩),?_⟩))
    (refine Yf Zz Zz ?_)
    refine PoS.qk (⟨hle6,Zx⟩) (Yj Zz Zz Y6 ?_)
    unfold sxV
    (refine Yf Zz Zz ?_)
    refine PoS.hard0 Zj (Does.perm (Xm [1,2,3,4,0] Zz Zz) (Y1 T Zz Zz Zz Zz Zz Zz ?_))
    refine Po.done ?_
    ((repeat (first | refine zS ?_ | refine zA fun _=>?_)))
    exact midP (Xm [1,2,3,0,4] Zz Zz) ⟨b1,g5,_,[_],rfl,hle6,rfl,Grow.block (m:=2) (ys:=[(Yd Y2,Ym Y2),(Yd a.name,Ym a.name)]) rfl rfl (by intro p hp;simp only [List.mem_cons,List.not_mem_nil,or_false] at hp;rcases hp with rfl | rfl;exact Yq (YK Zh);exact Yq h.name) rfl Zh,hb1⟩ (Zw) (Zb)
  ·refine Yh (Xz T Zz Zz (fun g5=>⟨(⟨(Le.refl _),Zx⟩),?_⟩))
   (refine Yf Zz Zz ?_)
   refine Yh (Does.perm (@List.perm_middle _ _ [_,_,_] []).symm (YB [_] _ Zz Zz Zz (YaX h.name) (fun v6 fz6 H6 hle6 hR6=>?_)))
   obtain ⟨_,rfl,b1,rfl,hb1⟩:=hR6
   refine ⟨(⟨hle6,Zx⟩),?_⟩
   unfold sxV
   (refine Yf Zz Zz ?_)
   refine Yh (Yc T (cs:=Ym Y2++Ym a.name) Zz Zz Zz Zz Zz Zz Zz Zz (fun gb=>⟨(⟨hle6,Zx⟩),?_⟩))
   (refine Yf Zz Zz ?_)
   refine PoS.qk (⟨hle6,Zx⟩) (Yj Zz Zz Y6 ?_)
   unfold sxV
   (refine Yf Zz Zz ?_)
   refine PoS.hard0 Zj (Does.perm (Xm [2,1,3,4,0] Zz Zz) (Y1 T Zz Zz Zz Zz Zz Zz ?_))
   refine Po.done ?_
   ((repeat (first | refine zS ?_ | refine zA fun _=>?_)))
   exact midP (Xm [1,2,3,0,4] Zz Zz) ⟨b1,g5,_,[_],rfl,hle6,rfl,Grow.block (m:=2) (ys:=[(Yd Y2,Ym Y2),(Yd a.name,Ym a.name)]) rfl rfl (by intro p hp;simp only [List.mem_cons,List.not_mem_nil,or_false] at hp;rcases hp with rfl | rfl;exact Yq (YK Zh);exact Yq h.name) rfl Zh,hb1⟩ (Zw) (Zb)
 ·rintro σ fz1 H' ⟨b1,g5,v1,Hs1,rfl,hle1,rfl,hG1,hb1⟩
  have hys1:b1=false→[Yd Y2,Yd a.name]=[Yd Y2,Yd a.name]:=fun _=>rfl
  have hn1:2≤2:=Nat.le_refl _
  have hle_2:=hle1
  refine Yr ?_
  (refine Wp.drawK (Hq:=[(g4,_),(g3,_)]) T.mixed Zj Zj (Zb) ?_)
  ((repeat (first | refine zS ?_ | refine zA fun _=>?_)))
  ((refine zG ?_));refine Ye8 Zz Zz ?_
  ((repeat (first | refine zS ?_ | refine zA fun _=>?_)))
  (refine Ye ?_)
  (refine Ye ?_)
  (refine Ye ?_)
  (refine YR ⟨by kernel_rfl,?_⟩)
  refine Ys (YB [_] _ Zz Zz Zz (WE (vars:=true) (ip.mono hle_2) (by rw [← ip.len];exact hs0)) (fun v6 fy2 H6 hly2 hR6=>?_))
  obtain ⟨_,⟨B6,cc6,rfl,hsl6⟩,c2,rfl,hc2⟩:=hR6
  refine ⟨(⟨hly2,Zx⟩),?_⟩
  refine Ch.qk (⟨hly2,Zx⟩) (Yj Zz Zz Y6 ?_)
  unfold sxV
  have hY2:Xd fy2 (YaJ a.params) (.slice B6 (3*p1) cc6):=XM hsl6
  have hy2:c2=false→YaJ a.params=YaJ a.params:=fun _=>rfl
  refine Ys (Does.perm (H':=((g5,_)::Hs1)++ [_,_,_]) List.perm_append_comm (Does.after (YB ((g5,_)::Hs1) _ Zz Zz Zz (Ybr (kw:=Y5) (hG1.mono hly2) hY2 (YK Zh) Zi) (fun v7 fz_2 H7 hlz2 hR7=>?_))))
  obtain ⟨_,_,v_2,n_2,Hs_2,rfl,hG_2,hn_2⟩:=hR7
  refine ⟨(g,wrO c2)::(g4,_)::(g3,_)::(g5,lsO v_2)::Hs_2,List.perm_append_comm (l₁:=[_,_,_]) (l₂:=(g5,lsO v_2)::Hs_2),(⟨(hly2.trans hlz2),Zx⟩),?_⟩
  refine Ch.done ?_
  ((repeat (first | refine zSO ?_ | refine zA fun _=>?_)))
  have hd2:c2=false↔(b=false∧Xn a.name)∧(∀ p∈a.params,XD true p):=by rw [hc2,hb1]
  have hb_2:c2=false↔b=false∧Xn a.name∧(∀ p∈a.params,XD true p):=by rw [hd2];simp only [and_assoc]
  have hkeep2:c2=false→b1=false:=fun h0=>(hc2.1 h0).1
  rw [YdV ip.len] at hG_2
  obtain ⟨l_2,hl2⟩:∃ l',l'=[Yd Y2,Yd a.name]++opt (a.params=[]) Y5 (YaJ a.params):=⟨_,rfl⟩
  rw [← hl2] at hG_2
  have hys_2:c2=false→l_2=[Yd Y2,Yd a.name]++opt (a.params=[]) Y5 (YaJ a.params):=fun h0=>by rw [hl2]
  have hle_n2:=((hle_2.trans hly2).trans hlz2)
  have hle_3:=hle_n2
  refine Yr ?_
  (refine Wp.drawK (Hq:=[(g4,_),(g3,_)]) T.mixed Zj Zj (Zb) ?_)
  ((repeat (first | refine zS ?_ | refine zA fun _=>?_)))
  ((refine zG ?_));refine Ye8 Zz Zz ?_
  ((repeat (first | refine zS ?_ | refine zA fun _=>?_)))
  (((refine zG ?_));refine Yj Zz Zz Ydt ?_)
  unfold sxV
  (refine Ye ?_)
  (refine YR ⟨by kernel_rfl,?_⟩)
  have hly3:=Le.refl fz_2
  have hY3:Xd fz_2 (numE a.duration) (.slice none 0 0):=YeD h.duration
  refine Ys (Does.perm (H':=((g5,_)::Hs_2)++ [_,_,_]) List.perm_append_comm (Does.after (YB ((g5,_)::Hs_2) _ Zz Zz Zz (Ybr (kw:=WK) (hG_2.mono hly3) hY3 (YK Zh) Zi) (fun v7 fz_3 H7 hlz3 hR7=>?_))))
  obtain ⟨_,_,v_3,n_3,Hs_3,rfl,hG_3,hn_3⟩:=hR7
  refine ⟨(g,wrO c2)::(g4,_)::(g3,_)::(g5,lsO v_3)::Hs_3,List.perm_append_comm (l₁:=[_,_,_]) (l₂:=(g5,lsO v_3)::Hs_3),(⟨(hly3.trans hlz3),Zx⟩),?_⟩
  refine Ch.done ?_
  ((repeat (first | refine zSO ?_ | refine zA fun _=>?_)))
  have hb_3:=hb_2
  have hkeep3:c2=false→c2=false:=fun h0=>h0
  have hy3:c2=false→numE a.duration=numE a.duration:=fun _=>rfl
  rw [YcN] at hG_3
  obtain ⟨l_3,hl3⟩:∃ l',l'=l_2++opt (a.duration=1) WK (numE a.duration):=⟨_,rfl⟩
  rw [← hl3] at hG_3
  have hys_3:c2=false→l_3=[Yd Y2,Yd a.name]++opt (a.params=[]) Y5 (YaJ a.params)++opt (a.duration=1) WK (numE a.duration):=fun h0=>by rw [hl3,hys_2 (hkeep3 h0)]
  have hle_n3:=((hle_3.trans hly3).trans hlz3)
  have hle_4:=hle_n3
  refine Yr ?_
  (refine Wp.drawK (Hq:=[(g4,_),(g3,_)]) T.mixed Zj Zj (Zb) ?_)
  ((repeat (first | refine zS ?_ | refine zA fun _=>?_)))
  (((refine zG ?_));refine YJ (vs:=[.string a.start.op,.string a.start.name,.slice S2 s2 r2,.slice S3 s3 r3,.slice S4 s4 r4,.slice S5 s5 r5]) T 1 Zz Zz Zz Zz Zz Zz ?_)
  (((refine zG ?_));refine Yj Zz Zz Ycz ?_)
  unfold YbT
  (((refine zG ?_));refine Yj Zz Zz (Yey (b:=Wn) (h.start.mono hle_4) YdB) ?_)
  ((repeat (first | refine zS ?_ | refine zA fun _=>?_)))
  (((refine zG ?_));refine YJ (vs:=[.string a.start.op,.string a.start.name,.slice S2 s2 r2,.slice S3 s3 r3,.slice S4 s4 r4,.slice S5 s5 r5]) T 1 Zz Zz Zz Zz Zz Zz ?_)
  (refine Ye ?_)
  (refine Ye ?_)
  (refine YR ⟨by kernel_rfl,?_⟩)
  refine Ys (YB [_] _ Zz Zz Zz (YaP (h.start.mono hle_4) hs1) (fun v6 fy4 H6 hly4 hR6=>?_))
  obtain ⟨_,c4,y4,rfl,⟨cs6,rfl,hr6⟩,hc4,hy4⟩:=hR6
  obtain ⟨vk6,rfl,hY4⟩:=Yt hr6
  refine ⟨(⟨hly4,Zx⟩),?_⟩
  refine Ys (Does.perm (H':=((g5,_)::Hs_3)++ [_,_,_]) List.perm_append_comm (Does.after (YB ((g5,_)::Hs_3) _ Zz Zz Zz (Ybr (kw:=Yda) (hG_3.mono hly4) hY4 (YK Zh) Zi) (fun v7 fz_4 H7 hlz4 hR7=>?_))))
  obtain ⟨_,_,v_4,n_4,Hs_4,rfl,hG_4,hn_4⟩:=hR7
  refine ⟨(g,wrO c4)::(g4,_)::(g3,_)::(g5,lsO v_4)::Hs_4,List.perm_append_comm (l₁:=[_,_,_]) (l₂:=(g5,lsO v_4)::Hs_4),(⟨(hly4.trans hlz4),Zx⟩),?_⟩
  refine Ch.done ?_
  ((repeat (first | refine zSO ?_ | refine zA fun _=>?_)))
  have hd4:c4=false↔(b=false∧Xn a.name∧(∀ p∈a.params,XD true p))∧FVal a.start:=by rw [hc4,hb_3]
  have hb_4:c4=false↔b=false∧Xn a.name∧(∀ p∈a.params,XD true p)∧FVal a.start:=by rw [hd4];simp only [and_assoc]
  have hkeep4:c4=false→c2=false:=fun h0=>(hc4.1 h0).1
  rw [YcN] at hG_4
  obtain ⟨l_4,hl4⟩:∃ l',l'=l_3++opt (a.start=Wn) Yda (y4):=⟨_,rfl⟩
  rw [← hl4] at hG_4
  have hys_4:c4=false→l_4=[Yd Y2,Yd a.name]++opt (a.params=[]) Y5 (YaJ a.params)++opt (a.duration=1) WK (numE a.duration)++opt (a.start=Wn) Yda (YN a.start):=fun h0=>by rw [hl4,hys_3 (hkeep4 h0),hy4 h0]
  have hle_n4:=((hle_4.trans hly4).trans hlz4)
  have hle_5:=hle_n4
  refine Yr ?_
  (refine Wp.drawK (Hq:=[(g4,_),(g3,_)]) T.mixed Zj Zj (Zb) ?_)
  ((repeat (first | refine zS ?_ | refine zA fun _=>?_)))
  (((refine zG ?_));refine YJ (vs:=[.string a.over.op,.string a.over.name,.slice S6 s6 r6,.slice S7 s7 r7,.slice S8 s8 r8,.slice S9 s9 r9]) T 1 Zz Zz Zz Zz Zz Zz ?_)
  (((refine zG ?_));refine Yj Zz Zz Ycz ?_)
  unfold YbT
  (((refine zG ?_));refine Yj Zz Zz (Yey (b:=Wn) (h.over.mono hle_5) YdB) ?_)
  ((repeat (first | refine zS ?_ | refine zA fun _=>?_)))
  (((refine zG ?_));refine YJ (vs:=[.string a.over.op,.string a.over.name,.slice S6 s6 r6,.slice S7 s7 r7,.slice S8 s8 r8,.slice S9 s9 r9]) T 1 Zz Zz Zz Zz Zz Zz ?_)
  (refine Ye ?_)
  (refine Ye ?_)
  (refine YR ⟨by kernel_rfl,?_⟩)
  refine Ys (YB [_] _ Zz Zz Zz (YaP (h.over.mono hle_5) hs2) (fun v6 fy5 H6 hly5 hR6=>?_))
  obtain ⟨_,c5,y5,rfl,⟨cs6,rfl,hr6⟩,hc5,hy5⟩:=hR6
  obtain ⟨vk6,rfl,hY5⟩:=Yt hr6
  refine ⟨(⟨hly5,Zx⟩),?_⟩
  refine Ys (Does.perm (H':=((g5,_)::Hs_4)++ [_,_,_]) List.perm_append_comm (Does.after (YB ((g5,_)::Hs_4) _ Zz Zz Zz (Ybr (kw:=Yg3) (hG_4.mono hly5) hY5 (YK Zh) Zi) (fun v7 fz_5 H7 hlz5 hR7=>?_))))
  obtain ⟨_,_,v_5,n_5,Hs_5,rfl,hG_5,hn_5⟩:=hR7
  refine ⟨(g,wrO c5)::(g4,_)::(g3,_)::(g5,lsO v_5)::Hs_5,List.perm_append_comm (l₁:=[_,_,_]) (l₂:=(g5,lsO v_5)::Hs_5),(⟨(hly5.trans hlz5),Zx⟩),?_⟩
  refine Ch.done ?_
  ((repeat (first | refine zSO ?_ | refine zA fun _=>?_)))
  have hd5:c5=false↔(b=false∧Xn a.name∧(∀ p∈a.params,XD true p)∧FVal a.start)∧FVal a.over:=by rw [hc5,hb_4]
  have hb_5:c5=false↔b=false∧Xn a.name∧(∀ p∈a.params,XD true p)∧FVal a.start∧FVal a.over:=by rw [hd5];simp only [and_assoc]
  have hkeep5:c5=false→c4=false:=fun h0=>(hc5.1 h0).1
  rw [YcN] at hG_5
  obtain ⟨l_5,hl5⟩:∃ l',l'=l_4++opt (a.over=Wn) Yg3 (y5):=⟨_,rfl⟩
  rw [← hl5] at hG_5
  have hys_5:c5=false→l_5=[Yd Y2,Yd a.name]++opt (a.params=[]) Y5 (YaJ a.params)++opt (a.duration=1) WK (numE a.duration)++opt (a.start=Wn) Yda (YN a.start)++opt (a.over=Wn) Yg3 (YN a.over):=fun h0=>by rw [hl5,hys_4 (hkeep5 h0),hy5 h0]
  have hle_n5:=((hle_5.trans hly5).trans hlz5)
  have hle_6:=hle_n5
  refine Yr ?_
  (refine Wp.drawK (Hq:=[(g4,_),(g3,_)]) T.mixed Zj Zj (Zb) ?_)
  ((repeat (first | refine zS ?_ | refine zA fun _=>?_)))
  (((refine zG ?_));refine YJ (vs:=[.string a.fin.op,.string a.fin.name,.slice S10 s10 r10,.slice S11 s11 r11,.slice S12 s12 r12,.slice S13 s13 r13]) T 1 Zz Zz Zz Zz Zz Zz ?_)
  (((refine zG ?_));refine Yj Zz Zz Ycz ?_)
  unfold YbT
  (((refine zG ?_));refine Yj Zz Zz (Yey (b:=Wn) (h.fin.mono hle_6) YdB) ?_)
  ((repeat (first | refine zS ?_ | refine zA fun _=>?_)))
  (((refine zG ?_));refine YJ (vs:=[.string a.fin.op,.string a.fin.name,.slice S10 s10 r10,.slice S11 s11 r11,.slice S12 s12 r12,.slice S13 s13 r13]) T 1 Zz Zz Zz Zz Zz Zz ?_)
  (refine Ye ?_)
  (refine Ye ?_)
  (refine YR ⟨by kernel_rfl,?_⟩)
  refine Ys (YB [_] _ Zz Zz Zz (YaP (h.fin.mono hle_6) hs3) (fun v6 fy6 H6 hly6 hR6=>?_))
  obtain ⟨_,c6,y6,rfl,⟨cs6,rfl,hr6⟩,hc6,hy6⟩:=hR6
  obtain ⟨vk6,rfl,hY6⟩:=Yt hr6
  refine ⟨(⟨hly6,Zx⟩),?_⟩
  refine Ys (Does.perm (H':=((g5,_)::Hs_5)++ [_,_,_]) List.perm_append_comm (Does.after (YB ((g5,_)::Hs_5) _ Zz Zz Zz (Ybr (kw:=kEnd) (hG_5.mono hly6) hY6 (YK Zh) Zi) (fun v7 fz_6 H7 hlz6 hR7=>?_))))
  obtain ⟨_,_,v_6,n_6,Hs_6,rfl,hG_6,hn_6⟩:=hR7
  refine ⟨(g,wrO c6)::(g4,_)::(g3,_)::(g5,lsO v_6)::Hs_6,List.perm_append_comm (l₁:=[_,_,_]) (l₂:=(g5,lsO v_6)::Hs_6),(⟨(hly6.trans hlz6),Zx⟩),?_⟩
  refine Ch.done ?_
  ((repeat (first | refine zSO ?_ | refine zA fun _=>?_)))
  have hd6:c6=false↔(b=false∧Xn a.name∧(∀ p∈a.params,XD true p)∧FVal a.start∧FVal a.over)∧FVal a.fin:=by rw [hc6,hb_5]
  have hb_6:c6=false↔b=false∧Xn a.name∧(∀ p∈a.params,XD true p)∧FVal a.start∧FVal a.over∧FVal a.fin:=by rw [hd6];simp only [and_assoc]
  have hkeep6:c6=false→c5=false:=fun h0=>(hc6.1 h0).1
  rw [YcN] at hG_6
  obtain ⟨l_6,hl6⟩:∃ l',l'=l_5++opt (a.fin=Wn) kEnd (y6):=⟨_,rfl⟩
  rw [← hl6] at hG_6
  have hys_6:c6=false→l_6=[Yd Y2,Yd a.name]++opt (a.params=[]) Y5 (YaJ a.params)++opt (a.duration=1) WK (numE a.duration)++opt (a.start=Wn) Yda (YN a.start)++opt (a.over=Wn) Yg3 (YN a.over)++opt (a.fin=Wn) kEnd (YN a.fin):=fun h0=>by rw [hl6,hys_5 (hkeep6 h0),hy6 h0]
  have hle_n6:=((hle_6.trans hly6).trans hlz6)
  have hle_7:=hle_n6
  refine Yr ?_
  (refine Wp.drawK (Hq:=[(g4,_),(g3,_)]) T.mixed Zj Zj (Zb) ?_)
  ((repeat (first | refine zS ?_ | refine zA fun _=>?_)))
  ((refine zG ?_));refine Ye8 Zz Zz ?_
  ((repeat (first | refine zS ?_ | refine zA fun _=>?_)))
  (refine Ye ?_)
  (refine Ye ?_)
  (refine YR ⟨by kernel_rfl,?_⟩)
  refine Ys (YB [_] _ Zz Zz Zz (Ydx (iatStart.mono hle_7) hs4) (fun v6 fy7 H6 hly7 hR6=>?_))
  obtain ⟨_,c7,y7,rfl,⟨cs6,rfl,hr6⟩,hc7,hy7⟩:=hR6
  obtain ⟨vk6,rfl,hY7⟩:=Yt hr6
  refine ⟨(⟨hly7,Zx⟩),?_⟩
  refine Ys (Does.perm (H':=((g5,_)::Hs_6)++ [_,_,_]) List.perm_append_comm (Does.after (YB ((g5,_)::Hs_6) _ Zz Zz Zz (Ybr (kw:=Yck) (hG_6.mono hly7) hY7 (YK Zh) Zi) (fun v7 fz_7 H7 hlz7 hR7=>?_))))
  obtain ⟨_,_,v_7,n_7,Hs_7,rfl,hG_7,hn_7⟩:=hR7
  refine ⟨(g,wrO c7)::(g4,_)::(g3,_)::(g5,lsO v_7)::Hs_7,List.perm_append_comm (l₁:=[_,_,_]) (l₂:=(g5,lsO v_7)::Hs_7),(⟨(hly7.trans hlz7),Zx⟩),?_⟩
  refine Ch.done ?_
  ((repeat (first | refine zSO ?_ | refine zA fun _=>?_)))
  have hd7:c7=false↔(b=false∧Xn a.name∧(∀ p∈a.params,XD true p)∧FVal a.start∧FVal a.over∧FVal a.fin)∧Yc0 a.atStart:=by rw [hc7,hb_6]
  have hb_7:c7=false↔b=false∧Xn a.name∧(∀ p∈a.params,XD true p)∧FVal a.start∧FVal a.over∧FVal a.fin∧Yc0 a.atStart:=by rw [hd7];simp only [and_assoc]
  have hkeep7:c7=false→c6=false:=fun h0=>(hc7.1 h0).1
  rw [YdV iatStart.len] at hG_7
  obtain ⟨l_7,hl7⟩:∃ l',l'=l_6++opt (a.atStart=[]) Yck (y7):=⟨_,rfl⟩
  rw [← hl7] at hG_7
  have hys_7:c7=false→l_7=[Yd Y2,Yd a.name]++opt (a.params=[]) Y5 (YaJ a.params)++opt (a.duration=1) WK (numE a.duration)++opt (a.start=Wn) Yda (YN a.start)++opt (a.over=Wn) Yg3 (YN a.over)++opt (a.fin=Wn) kEnd (YN a.fin)++opt (a.atStart=[]) Yck (effX a.atStart):=fun h0=>by rw [hl7,hys_6 (hkeep7 h0),hy7 h0]
  have hle_n7:=((hle_7.trans hly7).trans hlz7)
  have hle_8:=hle_n7
  refine Yr ?_
  (refine Wp.drawK (Hq:=[(g4,_),(g3,_)]) T.mixed Zj Zj (Zb) ?_)
  ((repeat (first | refine zS ?_ | refine zA fun _=>?_)))
  ((refine zG ?_));refine Ye8 Zz Zz ?_
  ((repeat (first | refine zS ?_ | refine zA fun _=>?_)))
  (refine Ye ?_)
  (refine Ye ?_)
  (refine YR ⟨by kernel_rfl,?_⟩)
  refine Ys (YB [_] _ Zz Zz Zz (Ydx (iatEnd.mono hle_8) hs5) (fun v6 fy8 H6 hly8 hR6=>?_))
  obtain ⟨_,c8,y8,rfl,⟨cs6,rfl,hr6⟩,hc8,hy8⟩:=hR6
  obtain ⟨vk6,rfl,hY8⟩:=Yt hr6
  refine ⟨(⟨hly8,Zx⟩),?_⟩
  refine Ys (Does.perm (H':=((g5,_)::Hs_7)++ [_,_,_]) List.perm_append_comm (Does.after (YB ((g5,_)::Hs_7) _ Zz Zz Zz (Ybr (kw:=YhJ) (hG_7.mono hly8) hY8 (YK Zh) Zi) (fun v7 fz_8 H7 hlz8 hR7=>?_))))
  obtain ⟨_,_,v_8,n_8,Hs_8,rfl,hG_8,hn_8⟩:=hR7
  refine ⟨(g,wrO c8)::(g4,_)::(g3,_)::(g5,lsO v_8)::Hs_8,List.perm_append_comm (l₁:=[_,_,_]) (l₂:=(g5,lsO v_8)::Hs_8),(⟨(hly8.trans hlz8),Zx⟩),?_⟩
  refine Ch.done ?_
  ((repeat (first | refine zSO ?_ | refine zA fun _=>?_)))
  have hd8:c8=false↔(b=false∧Xn a.name∧(∀ p∈a.params,XD true p)∧FVal a.start∧FVal a.over∧FVal a.fin∧Yc0 a.atStart)∧Yc0 a.atEnd:=by rw [hc8,hb_7]
  have hb_8:c8=false↔b=false∧Xn a.name∧(∀ p∈a.params,XD true p)∧FVal a.start∧FVal a.over∧FVal a.fin∧Yc0 a.atStart∧Yc0 a.atEnd:=by rw [hd8];simp only [and_assoc]
  have hkeep8:c8=false→c7=false:=fun h0=>(hc8.1 h0).1
  rw [YdV iatEnd.len] at hG_8
  obtain ⟨l_8,hl8⟩:∃ l',l'=l_7++opt (a.atEnd=[]) YhJ (y8):=⟨_,rfl⟩
  rw [← hl8] at hG_8
  have hys_8:c8=false→l_8=[Yd Y2,Yd a.name]++opt (a.params=[]) Y5 (YaJ a.params)++opt (a.duration=1) WK (numE a.duration)++opt (a.start=Wn) Yda (YN a.start)++opt (a.over=Wn) Yg3 (YN a.over)++opt (a.fin=Wn) kEnd (YN a.fin)++opt (a.atStart=[]) Yck (effX a.atStart)++opt (a.atEnd=[]) YhJ (effX a.atEnd):=fun h0=>by rw [hl8,hys_7 (hkeep8 h0),hy8 h0]
  have hle_n8:=((hle_8.trans hly8).trans hlz8)
  obtain ⟨Av,cv,rfl,_,_⟩:=hG_8.form
  ((repeat (first | refine zS ?_ | refine zA fun _=>?_)))
  refine Yce T (i:=1) (H':=[(g,wrO c8)]) rfl Zz Zz Zz Zz Zz (List.Perm.refl _) (fun fz3 hle3 hf3=>?_)
  obtain ⟨A',c',he,hsl⟩:=hG_8.sl hle3 (fun p hp=>hf3 p (by simp [hp])) Zi
  injection he with he1 he2 he3
  subst he1 he3
  exact ⟨hle_n8.trans hle3,c8,_,rfl,XQ hsl,hb_8,fun h0=>by rw [hys_8 h0];simp only [durX,List.append_assoc]⟩
end Go.Proofs.YtbhlgkibgajajaaGreatDoor
set_option maxRecDepth 20000
namespace Go.Proofs.YtbhlgkibgajajaaGreatDoor
open Go.Lx Go.RowKit
attribute [local instance 10] Classical.propDecidable
end Go.Proofs.YtbhlgkibgajajaaGreatDoor
set_option maxRecDepth 20000
namespace Go.Proofs.YtbhlgkibgajajaaGreatDoor
open Go.Lx Go.RowKit
attribute [local instance 10] Classical.propDecidable
end Go.Proofs.YtbhlgkibgajajaaGreatDoor
set_option maxRecDepth 20000
namespace Go.Proofs.YtbhlgkibgajajaaGreatDoor
open Go.Lx Go.RowKit
attribute [local instance 10] Classical.propDecidable
theorem Ya8 {fz:FZ} {s:ByteArray} {A:Option Addr} {n c:Nat} {l:List Sexpr} (hs:Short s) (h1:Sl YF fz A n c l) (hn:n≤1000000000):
 GFn Tryz.prog 98 [.string s,.slice A n c] fz [] (fun v fz' H'=>H'=[]∧SxIs fz' v (Yv (Yd s::l))):=by
 (refine GFn.of_wp Tryz.func98 rfl Tryz.ntmps98 rfl rfl (fun w0=>?_))
 ((repeat (first | refine zS ?_ | refine zA fun _=>?_)))
 rename_i g4
 (((refine zG ?_));refine Yj Zz Zz (YeT (s:=s)) ?_)
 unfold sxV
 refine Yb Zz (Yc T (cs:=Ym s) Zz Zz Zz Zz Zz Zz Zz Zz (fun gb=>?_))
 ((repeat (first | refine zS ?_ | refine zA fun _=>?_)))
 refine Yb Zz (YaK T (Hr:=[_]) (n:=1) (l:=[Yd s]) Zz Zz Zz Zz Zz Zz Zz Zz (List.Perm.swap _ _ _) (Grow.block (ys:=[(Yd s,Ym s)]) rfl rfl (by simpa using Yq hs) rfl Zh) Yn h1 (by show _*72≤_;omega) Zi (fun v' Hs' hO'=>?_))
 obtain ⟨Av',cv',rfl,_,_⟩:=hO'.form
 ((repeat (first | refine zS ?_ | refine zA fun _=>?_)))
 refine Y4 T (i:=0) rfl Zz Zz Zz Zz Zz (fun fz3 hle3 hf3=>⟨rfl,?_⟩)
 obtain ⟨A',c',he,hsl⟩:=hO'.sl hle3 (fun p hp=>hf3 p (by simp [hp])) Zi
 injection he with he1 he2 he3
 subst he1 he3
 exact XQ hsl
theorem Yh9 {fz:FZ} {a:Atom} {va:Value} (h:AtomR fz a va) (hn:a.args.length≤1000000000):
 GFn Tryz.prog 100 [.agg #[.string a.name,va]] fz [] (fun v fz' H'=>H'=[]∧SxIs fz' v (Xj a.name a.args)):=by
 obtain ⟨A,n,c,rfl,ia⟩:=h.args
 have e0:YN (atomF a.name a.args)=Xj a.name a.args:=by rw [YaE,if_pos (show (atomF a.name a.args).op=kAtom from rfl)];rfl
 (refine GFn.of_wp Tryz.func100 rfl Tryz.ntmps100 rfl rfl (fun w0=>?_))
 (refine Yr (Yp (Yb Zz (Xi _ Zz Zz (fun g0=>?_)))))
 ((repeat (first | refine zS ?_ | refine zA fun _=>?_)))
 rename_i g2
 (refine Yb Zz (YB [] _ Zz Zz Zz (YjL (f:=atomF a.name a.args) ⟨by show kAtom.size≤_;decide,h.name,ia.is,IsSl.nil,IsSl.nil,IsSl.nil⟩ (.atom (.inl rfl) hn)) (fun v fz1 H1 hle1 hR1=>?_)))
 obtain ⟨rfl,cs0,rfl,hr0⟩:=hR1
 obtain ⟨vy0,rfl,hY0⟩:=Yt hr0
 obtain ⟨Ay0,ny0,by0,rfl,_⟩:=hY0.kids
 clear hr0
 ((repeat (first | refine zS ?_ | refine zA fun _=>?_)))
 refine Y4 T (i:=0) rfl Zz Zz Zz Zz Zz (fun fz3 hle3 hf3=>⟨rfl,?_⟩)
 rw [← e0]
 exact ⟨_,rfl,Yg (hY0.mono hle3)⟩
def GrdA (a:Atom):Prop:=Xn a.name∧∀ s∈a.args,Xn s
theorem YeF {fz:FZ} {a:Atom} {va:Value} (h:AtomR fz a va):QFn Tryz.prog 51 [.agg #[.string a.name,va]] fz (.bool (decide (GrdA a))):=by
 obtain ⟨A,n,c,rfl,ia⟩:=h.args
 have l1:=ia.len
 have s1:=ia.short
 refine GFn.quiet ?_
 (refine GFn.of_wp Tryz.func51 rfl Tryz.ntmps51 rfl rfl (fun w0=>?_))
 (refine Yr (Yp (Yb Zz (Xi _ Zz Zz (fun g0=>?_)))))
 ((repeat (first | refine zS ?_ | refine zA fun _=>?_)))
 refine YD (fun q σ fz' H'=>∃ k:Nat,k≤n∧q=n - k∧σ=[(3,.int .i64 k),(1,.pointer (some ⟨g0,0,none⟩))]∧fz=fz'∧H'=[(g0,.cells #[.string a.name,.slice A n c] 108 (0,0))]∧(∀ i,i<k→∀ x,a.args[i]?=some x→Xn x)) ⟨0,Nat.zero_le _,rfl,rfl,rfl,rfl,fun i hi=>absurd hi Zi⟩ (Zw) (Zb) ?_
 rintro q σ fz' H' ⟨k,hk,rfl,rfl,rfl,rfl,hh⟩
 ((repeat (first | refine zS ?_ | refine zA fun _=>?_)))
 ((refine zG ?_;refine zC (fun c1=>?_) (fun c1=>?_)))
 ·obtain ⟨x,hx⟩:=YG (l:=a.args) (k:=k) Zi
  ((repeat (first | refine zS ?_ | refine zA fun _=>?_)))
  (((refine zG ?_));refine YA T k Zz Zz Zz Zz Zz Zz ia (by first | rfl | omega) hx (fun p hp=>?_))
  (((refine zG ?_));refine Y9 T Zz Zz Zz hp (fun ix=>?_))
  (((refine zG ?_));refine Yz Zz Zz (Yau ix) (fun f1=>?_) (fun f1=>?_))
  ·((repeat (first | refine zS ?_ | refine zA fun _=>?_)))
   exact YP ⟨k+1,by omega,rfl,rfl,rfl,rfl,YZ hh hx (of_decide_eq_true f1)⟩ Zi (Zw) (Zb)
  ·((repeat (first | refine zS ?_ | refine zA fun _=>?_)))
   (exact ret1 rfl rfl (Zb) (Ya (fun h0=>of_decide_eq_false f1 (h0.2 x (List.mem_of_getElem? hx)))))
 ·have hA:=XW hh Zi
  ((repeat (first | refine zS ?_ | refine zA fun _=>?_)))
  (((refine zG ?_));refine Yz Zz Zz (Yau h.name) (fun f1=>?_) (fun f1=>?_))
  ·((repeat (first | refine zS ?_ | refine zA fun _=>?_)))
   (exact ret1 rfl rfl (Zb) (Yw ⟨of_decide_eq_true f1,hA⟩))
  ·((repeat (first | refine zS ?_ | refine zA fun _=>?_)))
   (exact ret1 rfl rfl (Zb) (Ya (fun h0=>of_decide_eq_false f1 h0.1)))
end Go.Proofs.YtbhlgkibgajajaaGreatDoor
