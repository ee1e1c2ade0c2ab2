/- The texts PCN, PCO, PCP, PCL, PCS, PCT, PCV, laid together. Conditions: none. -/
import Derived.Test.YtfjopfinkdhmaaaGreatDoorRYR
set_option linter.all false
noncomputable section
set_option maxRecDepth 20000
namespace Go.Proofs.YtfjopfinkdhmaaaGreatDoor
open Go.Lx Go.RowKit
attribute [local instance 10] Classical.propDecidable
open Go.Proofs.Tryz (prog)
def wPre:Bs:=⟨#[58,32,112,114,101,99,111,110,100,105,116,105,111,110]⟩
def wEff:Bs:=⟨#[58,32,101,102,102,101,99,116]⟩
def Yjg:Bs:=⟨#[58,32]⟩
def wAt:Bs:=⟨#[58,32,101,102,102,101,99,116,32,97,116,32]⟩
def Yb0:Bs:=⟨#[115,116,97,114,116]⟩
def Yj7:Bs:=⟨#[111,118,101,114]⟩
def wEnd:Bs:=⟨#[101,110,100]⟩
abbrev idN:Int→Int:=fun n=>n
def Zer (l:List (Bs × Int)):Prop:=∀ q∈l,q.2=0
theorem YaZ {p:Bs} {e:Int} {l:List (Bs × Int)} (h:e≠0):Xr idN ((p,e)::l)=(p,e):=by rw [Xr,if_neg h]
theorem W8 {p:Bs} {e:Int} {l:List (Bs × Int)} (h:e=0):Xr idN ((p,e)::l)=Xr idN l:=by rw [Xr,if_pos h]
theorem YdJ:∀ {a r:List (Bs × Int)},Zer a→Xr idN (a++r)=Xr idN r
 | [],r,_=>rfl
 | (p,e)::a,r,h=>by rw [List.cons_append,W8 (h (p,e) (by simp))];exact YdJ (fun q hq=>h q (by simp [hq]))
theorem YgH {α:Type} {g:α→List (Bs × Int)} {r:List (Bs × Int)}:∀ {l:List α},(∀ x∈l,Zer (g x))→Xr idN (l.flatMap g++r)=Xr idN r
 | [],_=>rfl
 | x::l,h=>by rw [List.flatMap_cons,List.append_assoc,YdJ (h x (by simp))];exact YgH (fun y hy=>h y (by simp [hy]))
theorem YiP {α:Type} {g:α→List (Bs × Int)} {r:List (Bs × Int)}:∀ {l:List α} {k:Nat} {x:α},l[k]?=some x→(∀ i,i<k→∀ y,l[i]?=some y→Zer (g y))→∃ r',Xr idN (l.flatMap g++r)=Xr idN (g x++r')
 | [],k,x,h,_=>by simp at h
 | y::l,0,x,h,_=>by simp at h;subst h;exact ⟨l.flatMap g++r,by rw [List.flatMap_cons,List.append_assoc]⟩
 | y::l,k+1,x,h,hh=>by
  obtain ⟨r',h'⟩:=YiP (g:=g) (r:=r) (l:=l) (k:=k) (x:=x) (by simpa using h) (fun i hi z hz=>hh (i+1) Zi z (by simpa using hz))
  exact ⟨r',by rw [List.flatMap_cons,List.append_assoc,YdJ (hh 0 Zi y rfl)];exact h'⟩
def actL (d:Domain) (all:List Param) (a:Action):List (Bs × Int):=[((Wx++a.name)++wPre,formM d all a.params a.pre),((Wx++a.name)++wEff,WT d all a.params a.changes false)]
def durL (d:Domain) (all:List Param) (a:Durative):List (Bs × Int):=
 [(((XC++a.name)++Yjg)++Yb0,Ybk d all a.params a.start),(((XC++a.name)++Yjg)++Yj7,Ybk d all a.params a.over),(((XC++a.name)++Yjg)++wEnd,Ybk d all a.params a.fin),
  (((XC++a.name)++wAt)++Yb0,WT d all a.params a.atStart true),(((XC++a.name)++wAt)++wEnd,WT d all a.params a.atEnd true)]
def YaK (d:Domain) (all:List Param):List (Bs × Int):=d.actions.flatMap (actL d all)++(d.duratives.flatMap (durL d all)++ [])
theorem Yh7 {A:List Change} {s:Nat} (h:s+(A.map WZ).sum≤1000000000):∀ x∈A,s+WZ x≤1000000000:=fun x hx=>by have:=Yin (w:=WZ) hx;omega
theorem nm_le {w n:Bs} {m:Nat} (h:n.size≤1000) (hw:w.size≤m):(w++n).size≤m+1000:=by rw [ByteArray.size_append];omega
theorem nm3 {w n c:Bs} (h:n.size≤1000) (hw:w.size≤1000) (hc:c.size≤1000):((w++n)++c).size≤10000:=by rw [ByteArray.size_append,ByteArray.size_append];omega
theorem YcD {a b:Bs} (h:a.size≤10000) (hb:b.size≤10000):a.size+b.size≤9223372036854775807:=by omega
variable {all:List Param} {d:Domain} {fz:FZ} {v:Value}
set_option maxHeartbeats 16000000 in
theorem YmC {p:Problem} (h:CkG fz v d p all) (hs:NmS d all) (hWa:∀ a∈d.actions,actW a≤1000000000) (hWd:∀ a∈d.duratives,durW a≤1000000000):
 QFn prog 81 [v] fz (resV (Xr idN (YaK d all))):=by
 have h0:=h
 obtain ⟨⟨vf,vpp,vg,vo,hck,hF,hPr,hFu,hO⟩,hw⟩:=h
 obtain ⟨gc,v1,v2,v3,v4,v5,v6,u1,u2,u3,u4,u5,u6,u7,Aa,na,ca,rfl,hc,hD,hP,hall⟩:=hck
 obtain ⟨A5,n5,b5,rfl,i5⟩:=hD.actions
 obtain ⟨A6,n6,b6,rfl,i6⟩:=hD.duratives
 have l5:=i5.len
 have l6:=i6.len
 have s5:=i5.short
 have s6:=i6.short
 refine GFn.quiet ?_
 refine zF Tryz.func81 Tryz.ntmps81 (fun w0=>?_)
 refine zV ?_;intros
 refine Yl (fun q σ fz' H'=>∃ k:Nat,k≤n5∧q=n5 - k∧σ=[(22,.int .i64 k),(21,.int .i64 n5),(20,.slice A5 n5 b5),(0,.pointer (some ⟨gc,0,none⟩))]∧fz=fz'∧H'=[]∧(∀ i,i<k→∀ x,d.actions[i]?=some x→Zer (actL d all x))) ⟨0,Z0 _,rfl,rfl,rfl,rfl,fun i hi=>absurd hi Zi⟩ Zw Zb ?_
 rintro q σ fz' H' ⟨k,hk,rfl,rfl,rfl,rfl,hh⟩
 refine zV ?_;intros
 refine zC (fun c1=>?_) (fun c1=>?_)
 ·obtain ⟨x,hx⟩:=Yn (l:=d.actions) (k:=k) Zi
  have hxm:=Zm hx
  have hxs:=hs.a x hxm
  have hxw:=hWa x hxm
  unfold actW at hxw
  obtain ⟨r',hr'⟩:=YiP (r:=d.duratives.flatMap (durL d all)++ []) hx hh
  have e1:Xr idN (YaK d all)=Xr idN (actL d all x++r'):=hr'
  refine zV ?_;intros
  refine zI i5 hx (fun p1 hp=>?_)
  refine zL hp ?_
  intro cs hcs
  obtain ⟨w1,w2,w3,w4,w5,w6,rfl,hR⟩:=Xz hcs
  have hpre:=hR.pre
  obtain ⟨Ap,np,cp,rfl,ip⟩:=hR.params
  obtain ⟨B0,e0,j0,rfl,_⟩:=hR.pre.args
  obtain ⟨B1,e1',j1,rfl,_⟩:=hR.pre.params
  obtain ⟨B2,e2,j2,rfl,_⟩:=hR.pre.exprs
  obtain ⟨B3,e3,j3,rfl,_⟩:=hR.pre.kids
  obtain ⟨B4,e4,j4,rfl,ic⟩:=hR.changes
  have lp:=ip.len
  refine zV ?_;intros
  ((refine zG ?_);refine Yp (vs:=[.string x.pre.op,.string x.pre.name,.slice B0 e0 j0,.slice B1 e1' j1,.slice B2 e2 j2,.slice B3 e3 j3]) T 0 Zz Zz Zz Zz Zz Zz ?_)
  refine zV ?_;intros
  ((refine zG ?_);refine Yw Zz Zz (YgU h0 ip hpre Zi) ?_)
  by_cases hz:formM d all x.params x.pre=0
  ·rw [hz,show errV 0=.nilIface from rfl]
   refine zV ?_;intros
   ((refine zG ?_);refine Yw Zz Zz (YfY h0 ip ic (Yh7 Zi)) ?_)
   by_cases hy:WT d all x.params x.changes false=0
   ·rw [hy,show errV 0=.nilIface from rfl]
    refine zV ?_;intros
    exact Yz ⟨k+1,by omega,rfl,rfl,rfl,rfl,YL hh hx (by intro q hq;simp only [actL,List.mem_cons,List.not_mem_nil,or_false] at hq;rcases hq with rfl | rfl<;>first | exact hz | exact hy)⟩ Zi Zw Zb
   ·rw [Yj hy]
    refine zV ?_;intros
    refine zG ?_;refine XK Zz Zz (YcD Zh Zi) ?_
    refine zV ?_;intros
    refine zG ?_;refine XK Zz Zz (YcD (Nat.le_trans (nm_le hxs (by decide:_≤1000)) Zh) Zh) ?_
    refine zV ?_;intros
    exact ret2 rfl rfl rfl Zb (by rw [e1,actL];simp only [List.cons_append];rw [W8 hz,YaZ hy,resV,Yj hy];rfl)
  ·rw [Yj hz]
   refine zV ?_;intros
   refine zG ?_;refine XK Zz Zz (YcD Zh Zi) ?_
   refine zV ?_;intros
   refine zG ?_;refine XK Zz Zz (YcD (Nat.le_trans (nm_le hxs (by decide:_≤1000)) Zh) Zh) ?_
   refine zV ?_;intros
   exact ret2 rfl rfl rfl Zb (by rw [e1,actL];simp only [List.cons_append];rw [YaZ hz,resV,Yj hz];rfl)
 ·have hza:∀ x∈d.actions,Zer (actL d all x):=Xs hh Zi
  have e0:Xr idN (YaK d all)=Xr idN (d.duratives.flatMap (durL d all)++ []):=YgH hza
  refine zV ?_;intros
  refine Yl (fun q σ fz' H'=>∃ K:Nat,K≤n6∧q=n6 - K∧σ=[(59,.int .i64 K),(58,.int .i64 n6),(57,.slice A6 n6 b6),(0,.pointer (some ⟨gc,0,none⟩))]∧Le fz fz'∧H'=[]∧(∀ i,i<K→∀ x,d.duratives[i]?=some x→Zer (durL d all x))) ⟨0,Z0 _,rfl,rfl,Le.refl _,rfl,fun i hi=>absurd hi Zi⟩ Zw Zb ?_
  rintro q σ fz1 H' ⟨K,hK,rfl,rfl,hlK,rfl,hhK⟩
  have h1:=h0.mono hlK
  have hc:=hlK _ _ hc
  have i6:=i6.mono hlK
  refine zV ?_;intros
  refine zC (fun c2=>?_) (fun c2=>?_)
  ·obtain ⟨x,hx⟩:=Yn (l:=d.duratives) (k:=K) Zi
   have hxm:=Zm hx
   have hxs:=hs.u x hxm
   have hxw:=hWd x hxm
   unfold durW at hxw
   obtain ⟨r',hr'⟩:=YiP (r:=[]) hx hhK
   have E1:Xr idN (YaK d all)=Xr idN (durL d all x++r'):=e0.trans hr'
   refine zV ?_;intros
   refine zI i6 hx (fun p1 hp=>?_)
   refine zL hp ?_
   intro cs hcs
   obtain ⟨w0,w1,w2,w3,w4,w5,w6,w7,w8,w9,w10,w11,w12,w13,w14,rfl,hR⟩:=Xm hcs
   have hst:=hR.start
   have hov:=hR.over
   have hfi:=hR.fin
   obtain ⟨Ap,np,cp,rfl,ip⟩:=hR.params
   obtain ⟨B0,e0,j0,rfl,_⟩:=hR.start.args
   obtain ⟨B1,e1,j1,rfl,_⟩:=hR.start.params
   obtain ⟨B2,e2,j2,rfl,_⟩:=hR.start.exprs
   obtain ⟨B3,e3,j3,rfl,_⟩:=hR.start.kids
   obtain ⟨B4,e4,j4,rfl,_⟩:=hR.over.args
   obtain ⟨B5,e5,j5,rfl,_⟩:=hR.over.params
   obtain ⟨B6,e6,j6,rfl,_⟩:=hR.over.exprs
   obtain ⟨B7,e7,j7,rfl,_⟩:=hR.over.kids
   obtain ⟨B8,e8,j8,rfl,_⟩:=hR.fin.args
   obtain ⟨B9,e9,j9,rfl,_⟩:=hR.fin.params
   obtain ⟨B10,e10,j10,rfl,_⟩:=hR.fin.exprs
   obtain ⟨B11,e11,j11,rfl,_⟩:=hR.fin.kids
   obtain ⟨B12,e12,j12,rfl,i12⟩:=hR.atStart
   obtain ⟨B13,e13,j13,rfl,i13⟩:=hR.atEnd
   have lp:=ip.len
   refine zVX ?_;intros
   rename_i g
   refine Yk (Wp.mid (fun σ fz' H'=>σ=[(9,.pointer (some ⟨g,0,none⟩)),(59,.int .i64 K),(58,.int .i64 n6),(57,.slice A6 n6 b6),(0,.pointer (some ⟨gc,0,none⟩))]∧Le fz1 fz'∧H'=[(g,.cells #[.string x.name,.slice Ap np cp,.int .i64 x.duration,.string x.start.op,.string x.start.name,.slice B0 e0 j0,.slice B1 e1 j1,.slice B2 e2 j2,.slice B3 e3 j3,.string x.over.op,.string x.over.name,.slice B4 e4 j4,.slice B5 e5 j5,.slice B6 e6 j6,.slice B7 e7 j7,.string x.fin.op,.string x.fin.name,.slice B8 e8 j8,.slice B9 e9 j9,.slice B10 e10 j10,.slice B11 e11 j11,.slice B12 e12 j12,.slice B13 e13 j13] 78 (0,0))]∧∀ f∈ [x.start,x.over,x.fin],Ybk d all x.params f=0) ?_ ?_)
   ·refine zV ?_;intros
    ((refine zG ?_);refine Yp (vs:=[.string x.start.op,.string x.start.name,.slice B0 e0 j0,.slice B1 e1 j1,.slice B2 e2 j2,.slice B3 e3 j3]) T 0 Zz Zz Zz Zz Zz Zz ?_)
    refine zV ?_;intros
    ((refine zG ?_);refine Yp (vs:=[.string x.over.op,.string x.over.name,.slice B4 e4 j4,.slice B5 e5 j5,.slice B6 e6 j6,.slice B7 e7 j7]) T 0 Zz Zz Zz Zz Zz Zz ?_)
    refine zV ?_;intros
    ((refine zG ?_);refine Yp (vs:=[.string x.fin.op,.string x.fin.name,.slice B8 e8 j8,.slice B9 e9 j9,.slice B10 e10 j10,.slice B11 e11 j11]) T 0 Zz Zz Zz Zz Zz Zz ?_)
    refine zV ?_;intros
    refine Ya Zz (Yc T (cs:=[.string x.start.op,.string x.start.name,.slice B0 e0 j0,.slice B1 e1 j1,.slice B2 e2 j2,.slice B3 e3 j3,.string x.over.op,.string x.over.name,.slice B4 e4 j4,.slice B5 e5 j5,.slice B6 e6 j6,.slice B7 e7 j7,.string x.fin.op,.string x.fin.name,.slice B8 e8 j8,.slice B9 e9 j9,.slice B10 e10 j10,.slice B11 e11 j11]) Zz Zz Zz Zz Zz Zz Zz Zz (fun gb=>?_))
    refine zW ?_;intros
    first | refine Wp.freeze Zz (fun fz2 hl2 hb2=>?_) | refine Seq.freeze Zz (fun fz2 hl2 hb2=>?_)
    have hL3:Sl Y1 fz2 (some ⟨gb,0,none⟩) 3 3 [x.start,x.over,x.fin]:=Xt hb2 (ys:=[(x.start,[.string x.start.op,.string x.start.name,.slice B0 e0 j0,.slice B1 e1 j1,.slice B2 e2 j2,.slice B3 e3 j3]),(x.over,[.string x.over.op,.string x.over.name,.slice B4 e4 j4,.slice B5 e5 j5,.slice B6 e6 j6,.slice B7 e7 j7]),(x.fin,[.string x.fin.op,.string x.fin.name,.slice B8 e8 j8,.slice B9 e9 j9,.slice B10 e10 j10,.slice B11 e11 j11])]) rfl rfl (by
     intro q hq
     simp only [List.mem_cons,List.not_mem_nil,or_false] at hq
     rcases hq with rfl | rfl | rfl
     ·exact YaG (hst.mono hl2)
     ·exact YaG (hov.mono hl2)
     ·exact YaG (hfi.mono hl2)) rfl Zh
    have h2:=h1.mono hl2
    have ip2:=ip.mono hl2
    have hcg:=hl2 _ _ hc
    refine zV ?_;intros
    refine Yl (fun q σ fz' H'=>∃ k:Nat,k≤3∧q=3 - k∧σ=[(71,.int .i64 k),(70,.int .i64 3),(69,.slice (some ⟨gb,0,none⟩) 3 3),(9,.pointer (some ⟨g,0,none⟩)),(59,.int .i64 K),(58,.int .i64 n6),(57,.slice A6 n6 b6),(0,.pointer (some ⟨gc,0,none⟩))]∧fz2=fz'∧H'=[(g,.cells #[.string x.name,.slice Ap np cp,.int .i64 x.duration,.string x.start.op,.string x.start.name,.slice B0 e0 j0,.slice B1 e1 j1,.slice B2 e2 j2,.slice B3 e3 j3,.string x.over.op,.string x.over.name,.slice B4 e4 j4,.slice B5 e5 j5,.slice B6 e6 j6,.slice B7 e7 j7,.string x.fin.op,.string x.fin.name,.slice B8 e8 j8,.slice B9 e9 j9,.slice B10 e10 j10,.slice B11 e11 j11,.slice B12 e12 j12,.slice B13 e13 j13] 78 (0,0))]∧(∀ i,i<k→∀ f,[x.start,x.over,x.fin][i]?=some f→Ybk d all x.params f=0)) ⟨0,Z0 _,rfl,rfl,rfl,rfl,fun i hi=>absurd hi Zi⟩ Zw Zb ?_
    rintro q σ fz' H' ⟨k,hk,rfl,rfl,rfl,rfl,hh3⟩
    refine zV ?_;intros
    refine zC (fun c3=>?_) (fun c3=>?_)
    ·obtain ⟨f,hf⟩:=Yn (l:=[x.start,x.over,x.fin]) (k:=k) (by show k<3;omega)
     have hfw:np+fW f≤1000000000:=by
      have:=Zm hf
      simp only [List.mem_cons,List.not_mem_nil,or_false] at this
      rcases this with rfl | rfl | rfl<;>omega
     obtain ⟨wn,hwn⟩:=Yn (l:=[Yb0,Yj7,wEnd]) (k:=k) (by show k<3;omega)
     have hwl:wn.size≤10:=by
      have:=Zm hwn
      simp only [List.mem_cons,List.not_mem_nil,or_false] at this
      rcases this with rfl | rfl | rfl<;>decide
     have hwv:([.string Yb0,.string Yj7,.string wEnd]:List Value)[k]?=some (.string wn):=by
      have:([.string Yb0,.string Yj7,.string wEnd]:List Value)=[Yb0,Yj7,wEnd].map Value.string:=rfl
      rw [this,List.getElem?_map,hwn];rfl
     refine zV ?_;intros
     refine zI hL3 hf (fun p3 hp3=>?_)
     refine zL hp3 ?_
     intro cs hcs
     obtain ⟨wa,wp,we,wk,rfl,hRf⟩:=YK hcs
     obtain ⟨E1',r1,q1,rfl,_⟩:=hRf.args
     obtain ⟨E2,r2,q2,rfl,_⟩:=hRf.params
     obtain ⟨E3,r3,q3,rfl,_⟩:=hRf.exprs
     obtain ⟨E4,r4,q4,rfl,_⟩:=hRf.kids
     refine zV ?_;intros
     refine zc (Yfg h2 ip2 hRf hfw) ?_
     by_cases hz:Ybk d all x.params f=0
     ·rw [hz,show errV 0=.nilIface from rfl]
      refine zV ?_;intros
      exact Yz ⟨k+1,by omega,rfl,rfl,rfl,rfl,YL hh3 hf hz⟩ Zi Zw Zb
     ·rw [Yj hz]
      refine zV ?_;intros
      refine Wp.drawK (Hq:=[_,_]) T.mixed Zj Zj Zb ?_
      refine zW ?_;intros
      refine zG ?_;refine XK Zz Zz (YcD Zh Zi) ?_
      refine zW ?_;intros
      refine zG ?_;refine XK Zz Zz (YcD (Nat.le_trans (nm_le hxs (by decide:_≤1000)) Zh) Zh) ?_
      refine Yf ?_
      refine zW ?_;intros
      refine Yf ?_
      refine Yf ?_
      refine Yf ?_
      refine zW ?_;intros
      refine Yf ?_
      refine Yf ?_
      refine YM ⟨by kernel_rfl,?_⟩
      refine Yt (Yc T (cs:=[.string Yb0,.string Yj7,.string wEnd]) Zz Zz Zz Zz Zz Zz Zz Zz (fun gn=>⟨(⟨(Le.refl _),Zx⟩),?_⟩))
      refine Ch.qk (⟨(Le.refl _),Zx⟩) (Y9 T Zz Zz Zz Zz Zz Zz Zi Zi ?_)
      refine Ch.qk (⟨(Le.refl _),Zx⟩) (Y0 T 0 Zz Zz Zz Zz (by rw [Int.toNat_natCast];exact hwv) ?_)
      refine Ch.qk (⟨(Le.refl _),Zx⟩) (XK Zz Zz (YcD (nm3 hxs Zh Zh) Zi) ?_)
      refine Ch.qk (⟨(Le.refl _),Zx⟩) (YJ Zz ?_)
      refine Ch.qk (⟨(Le.refl _),Zx⟩) (YJ Zz ?_)
      refine Ch.done ?_
      refine zV ?_;intros
      refine ret2 rfl rfl rfl Zb ?_
      have e2:Xr idN (durL d all x++r')=(((XC++x.name)++Yjg)++wn,Ybk d all x.params f):=by
       rw [durL]
       simp only [List.cons_append]
       obtain rfl | rfl | rfl:k=0∨k=1∨k=2:=by omega
       ·simp at hf hwn;subst hf;subst hwn;rw [YaZ hz]
       ·simp at hf hwn;subst hf;subst hwn;rw [W8 (hh3 0 Zi _ rfl),YaZ hz]
       ·simp at hf hwn;subst hf;subst hwn;rw [W8 (hh3 0 Zi _ rfl),W8 (hh3 1 Zi _ rfl),YaZ hz]
      rw [E1,e2,resV,Yj hz];rfl
    ·have hA:=Xs hh3 (by show 3≤k;omega)
     refine zV ?_;intros
     exact midN ⟨rfl,hl2,rfl,hA⟩ Zw Zb
   ·rintro σ fz2 H' ⟨rfl,hl2,rfl,hA⟩
    have h2:=h1.mono hl2
    have ip2:=ip.mono hl2
    have hcg:=hl2 _ _ hc
    have z1:Ybk d all x.params x.start=0:=hA _ (by simp)
    have z2:Ybk d all x.params x.over=0:=hA _ (by simp)
    have z3:Ybk d all x.params x.fin=0:=hA _ (by simp)
    refine zV ?_;intros
    refine Ya Zz (Yc T (cs:=[.slice B12 e12 j12,.slice B13 e13 j13]) Zz Zz Zz Zz Zz Zz Zz Zz (fun gl=>?_))
    refine zW ?_;intros
    refine Yl (fun q σ fz' H'=>∃ k:Nat,k≤2∧q=2 - k∧σ=[(100,.int .i64 k),(99,.int .i64 2),(98,.slice (some ⟨gl,0,none⟩) 2 2),(9,.pointer (some ⟨g,0,none⟩)),(59,.int .i64 K),(58,.int .i64 n6),(57,.slice A6 n6 b6),(0,.pointer (some ⟨gc,0,none⟩))]∧fz2=fz'∧H'=[(gl,.cells #[.slice B12 e12 j12,.slice B13 e13 j13] 73 (0,0)),(g,.cells #[.string x.name,.slice Ap np cp,.int .i64 x.duration,.string x.start.op,.string x.start.name,.slice B0 e0 j0,.slice B1 e1 j1,.slice B2 e2 j2,.slice B3 e3 j3,.string x.over.op,.string x.over.name,.slice B4 e4 j4,.slice B5 e5 j5,.slice B6 e6 j6,.slice B7 e7 j7,.string x.fin.op,.string x.fin.name,.slice B8 e8 j8,.slice B9 e9 j9,.slice B10 e10 j10,.slice B11 e11 j11,.slice B12 e12 j12,.slice B13 e13 j13] 78 (0,0))]∧(∀ i,i<k→∀ l,[x.atStart,x.atEnd][i]?=some l→WT d all x.params l true=0)) ⟨0,Z0 _,rfl,rfl,rfl,rfl,fun i hi=>absurd hi Zi⟩ Zw Zb ?_
    rintro q σ fz' H' ⟨k,hk,rfl,rfl,rfl,rfl,hh2⟩
    refine zV ?_;intros
    refine zC (fun c3=>?_) (fun c3=>?_)
    ·obtain ⟨l,hl⟩:=Yn (l:=[x.atStart,x.atEnd]) (k:=k) (by show k<2;omega)
     have hlw:np+(l.map WZ).sum≤1000000000:=by
      have:=Zm hl
      simp only [List.mem_cons,List.not_mem_nil,or_false] at this
      rcases this with rfl | rfl<;>omega
     obtain ⟨wn,hwn⟩:=Yn (l:=[Yb0,wEnd]) (k:=k) (by show k<2;omega)
     have hwl:wn.size≤10:=by
      have:=Zm hwn
      simp only [List.mem_cons,List.not_mem_nil,or_false] at this
      rcases this with rfl | rfl<;>decide
     have hwv:([.string Yb0,.string wEnd]:List Value)[k]?=some (.string wn):=by
      have:([.string Yb0,.string wEnd]:List Value)=[Yb0,wEnd].map Value.string:=rfl
      rw [this,List.getElem?_map,hwn];rfl
     obtain ⟨Bl,nl,cl,hlv,il⟩:∃ Bl nl cl,([.slice B12 e12 j12,.slice B13 e13 j13]:List Value)[k]?=some (.slice Bl nl cl)∧Sl changeL fz2 Bl nl cl l:=by
      obtain rfl | rfl:k=0∨k=1:=by omega
      ·simp at hl;subst hl;exact ⟨_,_,_,rfl,i12.mono hl2⟩
      ·simp at hl;subst hl;exact ⟨_,_,_,rfl,i13.mono hl2⟩
     refine zV ?_;intros
     refine zG ?_;refine Y9 T Zz Zz Zz Zz Zz Zz Zi Zi ?_
     rw [Int.toNat_natCast]
     refine zG ?_;refine Y0 T 0 Zz Zz Zz Zz hlv ?_
     refine zV ?_;intros
     refine zc (YfY h2 ip2 il (Yh7 hlw)) ?_
     by_cases hz:WT d all x.params l true=0
     ·rw [hz,show errV 0=.nilIface from rfl]
      refine zV ?_;intros
      exact Yz ⟨k+1,by omega,rfl,rfl,rfl,rfl,YL hh2 hl hz⟩ Zi Zw Zb
     ·rw [Yj hz]
      refine zV ?_;intros
      refine Wp.drawK (Hq:=[_,_]) T.mixed Zj Zj Zb ?_
      refine zW ?_;intros
      refine zG ?_;refine XK Zz Zz (YcD Zh Zi) ?_
      refine zW ?_;intros
      refine zG ?_;refine XK Zz Zz (YcD (Nat.le_trans (nm_le hxs (by decide:_≤1000)) Zh) Zh) ?_
      refine Yf ?_
      refine zW ?_;intros
      refine Yf ?_
      refine Yf ?_
      refine Yf ?_
      refine zW ?_;intros
      refine Yf ?_
      refine Yf ?_
      refine YM ⟨by kernel_rfl,?_⟩
      refine Yt (Yc T (cs:=[.string Yb0,.string wEnd]) Zz Zz Zz Zz Zz Zz Zz Zz (fun gn=>⟨(⟨(Le.refl _),Zx⟩),?_⟩))
      refine Ch.qk (⟨(Le.refl _),Zx⟩) (Y9 T Zz Zz Zz Zz Zz Zz Zi Zi ?_)
      refine Ch.qk (⟨(Le.refl _),Zx⟩) (Y0 T 0 Zz Zz Zz Zz (by rw [Int.toNat_natCast];exact hwv) ?_)
      refine Ch.qk (⟨(Le.refl _),Zx⟩) (XK Zz Zz (YcD (nm3 hxs Zh Zh) Zi) ?_)
      refine Ch.qk (⟨(Le.refl _),Zx⟩) (YJ Zz ?_)
      refine Ch.qk (⟨(Le.refl _),Zx⟩) (YJ Zz ?_)
      refine Ch.done ?_
      refine zV ?_;intros
      refine ret2 rfl rfl rfl Zb ?_
      have e2:Xr idN (durL d all x++r')=(((XC++x.name)++wAt)++wn,WT d all x.params l true):=by
       rw [durL]
       simp only [List.cons_append]
       rw [W8 z1,W8 z2,W8 z3]
       obtain rfl | rfl:k=0∨k=1:=by omega
       ·simp at hl hwn;subst hl;subst hwn;rw [YaZ hz]
       ·simp at hl hwn;subst hl;subst hwn;rw [W8 (hh2 0 Zi _ rfl),YaZ hz]
      rw [E1,e2,resV,Yj hz];rfl
    ·have hB:=Xs hh2 (by show 2≤k;omega)
     have y1:WT d all x.params x.atStart true=0:=hB _ (by simp)
     have y2:WT d all x.params x.atEnd true=0:=hB _ (by simp)
     refine zV ?_;intros
     exact Yz ⟨K+1,by omega,rfl,rfl,hlK.trans hl2,rfl,YL hhK hx (by intro q hq;simp only [durL,List.mem_cons,List.not_mem_nil,or_false] at hq;rcases hq with rfl | rfl | rfl | rfl | rfl<;>first | exact z1 | exact z2 | exact z3 | exact y1 | exact y2)⟩ Zi Zw Zb
  ·have hzd:∀ x∈d.duratives,Zer (durL d all x):=Xs hhK Zi
   refine zV ?_;intros
   exact ret2 rfl rfl rfl Zb (by rw [e0,YgH hzd];rfl)
variable {A:Option Addr} {c n:Nat}
theorem joinS_q {l:List Bs} (h:Sl strL fz A n c l) (hlen:(Lib.join (l.map (·.data.toList)) [32]).length≤1000000000):
 QFn prog 170 [.slice A n c,.string ⟨#[32]⟩] fz (.string (strOf (Lib.join (l.map (·.data.toList)) [32]))):=by
 unfold QFn
 refine ⟨⟨_,Tryz.func170,by decide,by decide⟩,fun w hw=>?_⟩
 have h1:=h.len
 have h2:=h.cap
 have h3:=h.short
 cases l with
 | nil=>
  simp at h1
  subst h1
  refine (Tryz.strings_Join_none A c ⟨#[32]⟩ w).mono fun e w' ⟨he,hb⟩=>⟨?_,by subst hb;exact Fr.refl _ _⟩
  rw [he];rfl
 | cons x r=>
  rcases h.elem with h0 | ⟨ad,rfl,hE⟩
  ·rw [h0] at h1;simp at h1
  ·have hc:∀ (j:Nat) y,(x::r)[j]?=some y→Yci fz (ad.add j)=some (.string y):=fun j y hy=>by
    have h4:=hE j y hy
    rw [show strL.size=1 from rfl,Nat.mul_one] at h4
    obtain ⟨v,hv,hcell⟩:=h4.cell rfl
    obtain ⟨e,_⟩:=hv
    simp at e
    rw [hcell,e]
   have hc0:=hc 0 x rfl
   have ha0:ad.add 0=ad:=by unfold Addr.add;rw [if_pos rfl]
   rw [ha0] at hc0
   obtain ⟨g,off,sp⟩:=ad
   cases sp with
   | some s=>
    unfold Yci at hc0
    split at hc0
    ·simp at hc0
    ·cases hc0
   | none=>
    have hcells:∀ (j:Nat) y,(x::r)[j]?=some y→w.cell? ⟨g,off+j,none⟩=some (.string y):=fun j y hy=>by
     rw [← Yi2];exact hw.cell (hc j y hy)
    have hg:g<w.heap.size:=by
     have h9:=hcells 0 x rfl
     simp only [World.cell?] at h9
     split at h9
     ·rename_i hq;exact (Array.getElem?_eq_some_iff.1 hq).1
     ·cases h9
    have:=Tryz.strings_Join g off c (x::r) ⟨#[32]⟩ w hcells hg Zi Zi (Nat.le_trans hlen Zh)
    rw [h1] at this
    exact this.mono fun e w' ⟨he,hb⟩=>⟨he,Ygz hb⟩
def Yk2 (name:Bs) (args:List Bs):Bs:=(name++⟨#[32]⟩)++strOf (Lib.join (args.map (·.data.toList)) [32])
def NmsS (l:List Bs):Prop:=l.length≤64∧∀ x∈l,x.size≤1000
theorem jt_len:∀ (l:List (List UInt8)),(∀ x∈l,x.length≤1000)→(Lib.joinTail [32] l).length≤l.length*1001
 | [],_=>by simp [Lib.joinTail]
 | x::r,h=>by
  have h1:=h x (by simp)
  have h2:=jt_len r (fun z hz=>h z (by simp [hz]))
  have h3:Lib.joinTail [32] (x::r)=([32]++x)++Lib.joinTail [32] r:=by simp [Lib.joinTail]
  rw [h3,List.length_append,List.length_append]
  simp only [List.length_cons,List.length_nil]
  omega
theorem join_len (l:List (List UInt8)) (h:∀ x∈l,x.length≤1000):(Lib.join l [32]).length≤l.length*1001:=by
 cases l with
 | nil=>simp [Lib.join_nil]
 | cons x r=>
  have h1:=h x (by simp)
  have h2:=jt_len r (fun z hz=>h z (by simp [hz]))
  rw [Lib.join_cons,List.length_append]
  simp only [List.length_cons]
  omega
theorem text_len {args:List Bs} (h:NmsS args):(Lib.join (args.map (·.data.toList)) [32]).length≤100000:=by
 have h1:=join_len (args.map (·.data.toList)) (fun x hx=>by obtain ⟨y,hy,rfl⟩:=List.mem_map.1 hx;exact h.2 y hy)
 rw [List.length_map] at h1
 have:=h.1
 omega
theorem Yk1 {name:Bs} {args:List Bs} (h:Sl strL fz A n c args) (hn:name.size≤1000) (ha:NmsS args):
 QFn prog 129 [.string name,.slice A n c] fz (.string (Yk2 name args)):=by
 have ht:=text_len ha
 refine GFn.quiet ?_
 refine zF Tryz.func129 Tryz.ntmps129 (fun w0=>?_)
 refine zV ?_;intros
 refine zG ?_;refine XK Zz Zz (by show _+1≤_;omega) ?_
 refine zV ?_;intros
 ((refine zG ?_);refine Yw Zz Zz (joinS_q h Zi) ?_)
 refine zV ?_;intros
 refine zG ?_;refine XK Zz Zz (by rw [ByteArray.size_append,Wo];show _+1+_≤_;omega) ?_
 refine zV ?_;intros
 exact zR (h:=rfl)
def YdS (tys all:List Param) (ks:List Bs) (name:Bs):List Param→List Bs→Prop
 | [],args=>Yk2 name args ∉ ks
 | p::r,args=>∃ x∈ofT tys p.typ all,YdS tys all ks name r (args++ [x])
theorem of_mem {tys:List Param} {t x:Bs} (h:x∈ofT tys t all) (ha:∀ o∈all,o.name.size≤1000):x.size≤1000:=by
 unfold ofT at h
 obtain ⟨o,ho,rfl⟩:=List.mem_map.1 h
 exact ha o (List.mem_filter.1 ho).1
theorem Ykw {l:List Bs} (h:Sl strL fz A n c l) (hn:n≤1000000000):
 GFn prog 172 [.slice A n c] fz [] (fun v fz' H'=>Grow strL 9 fz' v n H' l):=by
 have l1:=h.len
 refine zF Tryz.func172 Tryz.ntmps172 (fun w0=>?_)
 refine zV ?_;intros
 refine zG ?_;refine Ybh T Zz Zz Zz Zz (fun eA=>?_) (fun eA=>?_)
 ·subst eA
  have hl:l=[]:=by
   rcases h.elem with h0 | ⟨_,h0,_⟩
   ·exact List.eq_nil_of_length_eq_zero Zi
   ·cases h0
  subst hl
  simp at l1
  subst l1
  refine zV ?_;intros
  refine Yir (H':=[]) (H2:=[]) rfl rfl (Zr _) (fun fz3 hle3 _=>Grow.nil _ _ _)
 ·refine zV ?_;intros
  refine Ya Zz (YbS T Zz Zz Zz (fun gb=>?_))
  refine zV ?_;intros
  refine Ya Zz (WF T (Hr:=[]) (n:=0) (l:=[]) Zz Zz Zz Zz Zz Zz Zz Zz (Zr _) (Grow.block (ys:=[]) rfl rfl (by intro p hp;cases hp) rfl Zh) Ydr h (by show _*16≤_;omega) Zi (fun v' Hs' hO'=>?_))
  obtain ⟨Av',cv',rfl,_,_⟩:=hO'.form
  refine zV ?_;intros
  refine Yir (H':=Hs') (H2:=[]) rfl rfl (by simp) (fun fz3 hle3 _=>(hO'.mono hle3).of (by simp) Zi)
set_option maxHeartbeats 4000000 in
theorem YhA:∀ (ps:List Param) {fz:FZ} {v:Value} {d:Domain} {p:Problem} {all params:List Param} {gm:Nat} {m:List (Bs × Value)} {ks args:List Bs} {name:Bs} {A B:Option Addr} {na ca n c:Nat},CkG fz v d p all→fz gm=some (mapS m)→Yb4 m ks→Sl paramL fz B n c params→Sl strL fz A na ca args→params.drop na=ps→na≤n→n≤64→name.size≤1000→NmsS args→(∀ x∈all,x.name.size≤1000)→all.length≤1000000000→
 QFn prog 130 [v,.map (some gm),.string name,.slice B n c,.slice A na ca] fz (.bool (decide (YdS d.types all ks name ps args)))
 | ps,fz,v,d,p,all,params,gm,m,ks,args,name,A,B,na,ca,n,c,h,hgm,hks,h1,h2,hps,hnn,h64,hnm,hag,hal,hall0=>by
  have h0:=h
  obtain ⟨⟨vf,vpp,vg,vo,hck,hF,hPr,hFu,hO⟩,hw⟩:=h
  obtain ⟨gc,w1,w2,w3,w4,w5,w6,u1,u2,u3,u4,u5,u6,u7,Aa,nl,cl,rfl,hc,hD,hP,hall⟩:=hck
  have l1:=h1.len
  have l2:=h2.len
  have ll:=hall.len
  refine GFn.quiet ?_
  refine zF Tryz.func130 Tryz.ntmps130 (fun w0=>?_)
  refine zV ?_;intros
  refine zC (fun c1=>?_) (fun c1=>?_)
  ·have hnil:ps=[]:=by rw [← hps,List.drop_eq_nil_of_le Zi]
   subst hnil
   refine zV ?_;intros
   refine zc (Yk1 h2 hnm hag) ?_
   refine zV ?_;intros
   refine zG ?_;refine YaD (v:=.bool (decide (Yk2 name args∈ks))) T Zz Zz Zz Zz Zz Zz Zz hgm hks.get ?_
   refine zV ?_;intros
   (exact ret1 rfl rfl Zb (by
    by_cases h9:Yk2 name args∈ks
    ·rw [decide_eq_true h9,decide_eq_false (fun h8:YdS d.types all ks name [] args=>h8 h9)];rfl
    ·rw [decide_eq_false h9,decide_eq_true (show YdS d.types all ks name [] args from h9)];rfl))
  ·obtain ⟨x,hx⟩:=Yn (l:=params) (k:=na) Zi
   obtain ⟨r,hr⟩:∃ r,ps=x::r:=⟨params.drop (na+1),by rw [← hps];exact List.drop_eq_getElem_cons Zi |>.trans (by rw [(Zg hx).2])⟩
   have hr2:params.drop (na+1)=r:=by
    have h9:params.drop na=x::r:=by rw [hps,hr]
    rw [← List.drop_drop,h9];rfl
   rw [hr]
   refine zWN ?_;intros
   refine Wp.drawK (Hq:=[]) T.mixed Zj Zj Zb ?_
   refine zW ?_;intros
   refine zI h1 hx (fun p1 hp1=>?_)
   refine zW ?_;intros
   refine zH hp1.Param_typ (fun hxs=>?_)
   refine Yf ?_
   refine Yf ?_
   refine zW ?_;intros
   refine YM ⟨by kernel_rfl,?_⟩
   refine Yt (Ym [] [] Zz Zz Zz (of_q hF hw hall Zi) (fun v6 fz6 H6 hle6 hR6=>⟨(⟨hle6,by intro p hp;cases hp⟩),?_⟩))
   obtain ⟨rfl,B2,m2,c2,rfl,hof⟩:=hR6
   refine Ch.qk (⟨hle6,by intro p hp;cases hp⟩) (YU T Zz Zz Zz ?_)
   refine Ch.done ?_
   have lo:=hof.len
   have so:=hof.short
   refine zV ?_;intros
   refine Yl (fun q σ fz' H'=>∃ k:Nat,k≤m2∧q=m2 - k∧σ=[(40,.int .i64 k),(39,.int .i64 m2),(38,.slice B2 m2 c2),(0,.pointer (some ⟨gc,0,none⟩)),(1,.map (some gm)),(2,.string name),(3,.slice B n c),(4,.slice A na ca)]∧Le fz6 fz'∧H'=[]∧(∀ i,i<k→∀ y,(ofT d.types x.typ all)[i]?=some y→¬YdS d.types all ks name r (args++ [y]))) ⟨0,Z0 _,rfl,rfl,Le.refl _,rfl,fun i hi=>absurd hi Zi⟩ Zw Zb ?_
   rintro q σ fz1 H' ⟨k,hk,rfl,rfl,hl1,rfl,hh⟩
   have hle:=hle6.trans hl1
   refine zV ?_;intros
   refine zC (fun c2=>?_) (fun c2=>?_)
   ·obtain ⟨y,hy⟩:=Yn (l:=ofT d.types x.typ all) (k:=k) Zi
    have hof1:=hof.mono hl1
    have h21:=h2.mono hle
    have hag':NmsS (args++ [y]):=⟨by rw [List.length_append];simp;omega,fun z hz=>by
     rcases List.mem_append.1 hz with hz | hz
     ·exact hag.2 z hz
     ·simp at hz;subst hz;exact of_mem (Zm hy) hal⟩
    refine zV ?_;intros
    refine zI hof1 hy (fun p2 hp2=>?_)
    refine zH hp2 (fun hys=>?_)
    refine zV ?_;intros
    refine Ya Zz (Ym [] [] Zz Zz Zz (Ykw h21 Zi) (fun v7 fz7 H7 hle7 hR7=>?_))
    obtain ⟨Av,cv,rfl,_,_⟩:=hR7.form
    have hR8:Grow strL 9 fz7 (.slice Av na cv) na (H7++ []) args:=by rw [List.append_nil];exact hR7
    refine zV ?_;intros
    refine Ya Zz (Yc T (cs:=[.string y]) Zz Zz Zz Zz Zz Zz Zz Zz (fun gb=>?_))
    refine Ya Zz (YS T (Hr:=[_]) (n:=na) (d:=y) Zz Zz Zz Zz Zz Zz Zz Zz (Zr _) hR8 Ydr (.head _) ⟨rfl,hys⟩ (by show _*16≤_;omega) Zi (fun v' Hs' hO'=>?_))
    obtain ⟨Av',cv',rfl,_,_⟩:=hO'.form
    refine Seq.freezeAll (H1:=[]) (Zr _) (fun fz8 hle8 hf8=>?_)
    obtain ⟨A8,c8,e8,h8⟩:=hO'.sl hle8 (fun q hq=>hf8 q (by simp [hq])) Zi
    injection e8 with e81 e82 e83
    subst e81
    subst e83
    have hle9:=hle.trans (hle7.trans hle8)
    ((refine zG ?_);refine Wf Zz Zz (YhA r (h0.mono hle9) (hle9 _ _ hgm) hks (h1.mono hle9) h8 hr2 Zi h64 hnm hag' hal hall0) (fun f1=>?_) (fun f1=>?_))
    ·refine zV ?_;intros
     exact ret1 rfl rfl Zb (Yv (by rw [YdS];exact ⟨y,Zm hy,Zt f1⟩))
    ·refine zV ?_;intros
     exact Yz ⟨k+1,by omega,rfl,rfl,hl1.trans (hle7.trans hle8),rfl,YL (p:=fun y=>¬YdS d.types all ks name r (args++ [y])) hh hy (Zf f1)⟩ Zi Zw Zb
   ·have hA:=Xs (p:=fun y=>¬YdS d.types all ks name r (args++ [y])) hh Zi
    refine zV ?_;intros
    exact ret1 rfl rfl Zb (Yo (by rw [YdS];rintro ⟨y,hy,h9⟩;exact hA y hy h9))
 termination_by ps=>ps.length
 decreasing_by rw [hr];simp
def wDomainP:Bs:=⟨#[100,111,109,97,105,110]⟩
def Yg5:Bs:=⟨#[112,114,111,98,108,101,109]⟩
def wInitP:Bs:=⟨#[105,110,105,116]⟩
def Yjf:Bs:=⟨#[118,97,108,117,101,115]⟩
def wGoalP:Bs:=⟨#[103,111,97,108]⟩
def wLimitsP:Bs:=⟨#[108,105,109,105,116,115]⟩
def wTypesP:Bs:=⟨#[116,121,112,101,115]⟩
def txtV (v:Value_):Bs:=Yk2 v.fluent.name v.fluent.args
def OutV (d:Domain) (v:Value_):Prop:=∃ f,fstF d.functions v.fluent.name=some f∧(v.n<f.lo∨f.hi<v.n)
def Yf5 (d:Domain) (all:List Param):List Bs→List Value_→Int
 | _,[]=>0
 | ks,v::r=>
  if fluM d all [] v.fluent.name v.fluent.args≠0 then fluM d all [] v.fluent.name v.fluent.args
  else if OutV d v then 14
  else if txtV v∈ks then 4
  else Yf5 d all (ks++ [txtV v]) r
def WR (d:Domain) (all:List Param) (p:Problem):Bs × Int:=
 if p.domain≠d.name then (Yg5,8)
 else if Yb1 (fun a=>atomM d all [] a.name a.args) p.init≠0 then (wInitP,Yb1 (fun a=>atomM d all [] a.name a.args) p.init)
 else if Yf5 d all [] p.values≠0 then (Yjf,Yf5 d all [] p.values)
 else if ∃ f∈d.functions,YdS d.types all (p.values.map txtV) f.name f.params [] then (Yjf,3)
 else (⟨#[]⟩,0)
variable {vars:List Param}
theorem Yl7 {name:Bs} {args:List Bs} (h:fluM d all vars name args=0):∃ f,fstF d.functions name=some f∧args.length=f.params.length:=by
 unfold fluM at h
 cases hf:fstF d.functions name with
 | none=>rw [hf] at h;cases h
 | some f=>
  rw [hf] at h
  refine ⟨f,rfl,Classical.byContradiction fun h0=>?_⟩
  simp only [Ykz] at h
  rw [if_pos h0] at h
  cases h
theorem fstF_mem {l:List Function} {x:Bs} {f:Function} (h:fstF l x=some f):f∈l:=List.mem_of_find?_eq_some h
set_option maxHeartbeats 16000000 in
theorem Ykv {p:Problem} (h:CkG fz v d p all) (hs:NmS d all) (hpf:∀ f∈d.functions,f.params.length≤64) (hvs:∀ x∈p.values,x.fluent.name.size≤1000∧∀ a∈x.fluent.args,a.size≤1000) (hal:all.length≤1000000000):
 QFn prog 82 [v] fz (resV (WR d all p)):=by
 have h0:=h
 obtain ⟨⟨vf,vpp,vg,vo,hck,hF,hPr,hFu,hO⟩,hw⟩:=h
 obtain ⟨gc,v1,v2,v3,v4,v5,v6,u1,u2,u3,u4,u5,u6,u7,Aa,na,ca,rfl,hc,hD,hP,hall⟩:=hck
 obtain ⟨A4,n4,b4,rfl,i4⟩:=hD.functions
 obtain ⟨B2,m2,d2,rfl,i2⟩:=hP.init
 obtain ⟨B3,m3,d3,rfl,i3⟩:=hP.values
 obtain ⟨gf,mf,rfl,hgf,hmf⟩:=hFu
 have l4:=i4.len
 have l2:=i2.len
 have l3:=i3.len
 have s4:=i4.short
 have s2:=i2.short
 have s3:=i3.short
 refine GFn.quiet ?_
 refine zF Tryz.func82 Tryz.ntmps82 (fun w0=>?_)
 refine zV ?_;intros
 refine zC (fun x1=>?_) (fun x1=>?_)
 ·refine zV ?_;intros
  exact ret2 rfl rfl rfl Zb (by rw [WR,if_pos x1];rfl)
 ·have hdn:¬p.domain≠d.name:=fun h=>h x1
  refine zV ?_;intros
  refine Yl (fun q σ fz' H'=>∃ k:Nat,k≤m2∧q=m2 - k∧σ=[(32,.int .i64 k),(31,.int .i64 m2),(30,.slice B2 m2 d2),(0,.pointer (some ⟨gc,0,none⟩))]∧fz=fz'∧H'=[]∧(∀ i,i<k→∀ a,p.init[i]?=some a→atomM d all [] a.name a.args=0)) ⟨0,Z0 _,rfl,rfl,rfl,rfl,fun i hi=>absurd hi Zi⟩ Zw Zb ?_
  rintro q σ fz' H' ⟨k,hk,rfl,rfl,rfl,rfl,hh⟩
  refine zV ?_;intros
  refine zC (fun c1=>?_) (fun c1=>?_)
  ·obtain ⟨x,hx⟩:=Yn (l:=p.init) (k:=k) Zi
   refine zV ?_;intros
   refine zI i2 hx (fun p1 hp=>?_)
   refine zL hp ?_
   intro cs hcs
   obtain ⟨va,rfl,hR⟩:=Ww hcs
   obtain ⟨Ap,np,cp,rfl,ia⟩:=hR.args
   refine zV ?_;intros
   ((refine zG ?_);refine Yw Zz Zz (Yi1 h0 (Sl.nil (A:=none) (c:=0) Zi) ia) ?_)
   by_cases hz:atomM d all [] x.name x.args=0
   ·rw [hz,show errV 0=.nilIface from rfl]
    refine zV ?_;intros
    exact Yz ⟨k+1,by omega,rfl,rfl,rfl,rfl,YL (p:=fun a:Atom=>atomM d all [] a.name a.args=0) hh hx hz⟩ Zi Zw Zb
   ·rw [Yj hz]
    have e1:Yb1 (fun a:Atom=>atomM d all [] a.name a.args) p.init=atomM d all [] x.name x.args:=Ye1 (E:=fun a:Atom=>atomM d all [] a.name a.args) hx hh hz
    refine zV ?_;intros
    exact ret2 rfl rfl rfl Zb (by rw [WR,if_neg hdn,e1,if_pos hz,resV,Yj hz];rfl)
  ·have hA:=Xs hh Zi
   have e1:Yb1 (fun a:Atom=>atomM d all [] a.name a.args) p.init=0:=YcN hA
   refine zV ?_;intros
   refine Ya Zz (Yat (fun gm=>?_))
   refine zV ?_;intros
   refine Yl (fun q σ fz' H'=>∃ (k:Nat) (ms:List (Bs × Value)),k≤m3∧q=m3 - k∧σ=[(53,.int .i64 k),(52,.int .i64 m3),(51,.slice B3 m3 d3),(7,.map (some gm)),(0,.pointer (some ⟨gc,0,none⟩))]∧fz=fz'∧H'=[(gm,mapS ms)]∧Yb4 ms ((p.values.take k).map txtV)∧Yf5 d all [] p.values=Yf5 d all ((p.values.take k).map txtV) (p.values.drop k)) ⟨0,[],Z0 _,rfl,rfl,rfl,rfl,Yb4.nil,rfl⟩ Zw Zb ?_
   rintro q σ fz' H' ⟨k,ms,hk,rfl,rfl,rfl,rfl,hS,hV⟩
   refine zV ?_;intros
   refine zC (fun c2=>?_) (fun c2=>?_)
   ·obtain ⟨x,hx⟩:=Yn (l:=p.values) (k:=k) Zi
    have hxm:=Zm hx
    obtain ⟨hx1,hx2⟩:=hvs x hxm
    have hdr:p.values.drop k=x::p.values.drop (k+1):=by
     rw [List.drop_eq_getElem_cons Zi,(Zg hx).2]
    rw [hdr,Yf5] at hV
    refine zV ?_;intros
    refine zI i3 hx (fun p1 hp=>?_)
    refine zL hp ?_
    intro cs hcs
    obtain ⟨va,rfl,hR⟩:=Yae hcs
    obtain ⟨Ap,np,cp,rfl,ia⟩:=hR.fluent.args
    have la:=ia.len
    refine zV ?_;intros
    ((refine zG ?_);refine Yw Zz Zz (Yfi h0 (Sl.nil (A:=none) (c:=0) Zi) ia) ?_)
    by_cases hz:fluM d all [] x.fluent.name x.fluent.args=0
    ·obtain ⟨f,hf,hfl⟩:=Yl7 hz
     have hfp:=hpf f (fstF_mem hf)
     have hag:NmsS x.fluent.args:=⟨by omega,hx2⟩
     obtain ⟨C,n5,c5,hv5,h5⟩:=(hmf x.fluent.name).2 f hf
     rw [hz,show errV 0=.nilIface from rfl]
     rw [hz,if_neg Zh] at hV
     refine zWN ?_;intros
     refine Wp.drawK (Hq:=[_,_]) T.mixed Zj Zj Zb ?_
     refine zW ?_;intros
     refine zG ?_;refine YaD (v:=.agg #[.string f.name,.slice C n5 c5,.int .i64 f.lo,.int .i64 f.hi]) T Zz Zz Zz Zz Zz Zz Zz hgf (by rw [YiT,hv5];rfl) ?_
     refine Yf ?_
     refine Yf ?_
     refine YM ⟨by kernel_rfl,?_⟩
     refine Yt (YX T Zz Zz (fun gv=>⟨(⟨(Le.refl _),Zx⟩),?_⟩))
     refine Ch.hard0 Zj (YP T Zz Zz Zz Zz Zz Zz ?_)
     refine Ch.done ?_
     have hout:∀ {z:Int},OutV d x→Yf5 d all [] p.values=14:=fun ho=>by rw [hV,if_pos ho]
     have hnz:(14:Int)≠0:=by decide
     refine zW ?_;intros
     refine zC (fun c3=>?_) (fun c3=>?_)
     ·have e3:=hout (z:=0) ⟨f,hf,.inl c3⟩
      refine zV ?_;intros
      exact ret2 rfl rfl rfl Zb (by rw [WR,if_neg hdn,e1,if_neg Zh,e3,if_pos Zh];rfl)
     ·refine zW ?_;intros
      refine zC (fun c4=>?_) (fun c4=>?_)
      ·have e3:=hout (z:=0) ⟨f,hf,.inr c4⟩
       refine zV ?_;intros
       exact ret2 rfl rfl rfl Zb (by rw [WR,if_neg hdn,e1,if_neg Zh,e3,if_pos Zh];rfl)
      ·have hno:¬OutV d x:=by
        rintro ⟨f',hf',h9⟩
        rw [hf] at hf'
        injection hf' with hf'
        subst hf'
        exact h9.elim c3 c4
       rw [if_neg hno] at hV
       refine zV ?_;intros
       refine zc (Yk1 ia hx1 hag) ?_
       refine zV ?_;intros
       refine zG ?_;refine Yak (v:=.bool (decide (txtV x∈(p.values.take k).map txtV))) T 2 Zz Zz Zz Zz Zz Zz Zz Zz hS.get ?_
       by_cases hm:txtV x∈(p.values.take k).map txtV
       ·rw [if_pos hm] at hV
        rw [decide_eq_true hm]
        refine zV ?_;intros
        exact ret2 rfl rfl rfl Zb (by rw [WR,if_neg hdn,e1,if_neg Zh,hV,if_pos Zh];rfl)
       ·rw [if_neg hm] at hV
        rw [decide_eq_false hm]
        refine zV ?_;intros
        refine zc (Yk1 ia hx1 hag) ?_
        refine zV ?_;intros
        refine YE (Wb T (pre:=[_,_]) Zz Zz Zz Zz Zz Zz Zz (Zr _) ?_)
        refine zV ?_;intros
        have htk:(p.values.take (k+1)).map txtV=(p.values.take k).map txtV++ [txtV x]:=by rw [List.take_add_one,hx];simp
        exact Yz ⟨k+1,_,by omega,rfl,rfl,rfl,rfl,by rw [htk];exact hS.add (txtV x),by rw [htk];exact hV⟩ Zi Zw Zb
    ·rw [Yj hz]
     rw [if_pos hz] at hV
     refine zV ?_;intros
     exact ret2 rfl rfl rfl Zb (by rw [WR,if_neg hdn,e1,if_neg Zh,hV,if_pos hz,resV,Yj hz];rfl)
   ·have hk3:k=m3:=by omega
    rw [List.drop_eq_nil_of_le Zi,Yf5] at hV
    rw [Zl Zi] at hS
    refine zVX ?_;intros
    first | refine Wp.freeze Zz (fun fz2 hl2 hm2=>?_) | refine Seq.freeze Zz (fun fz2 hl2 hm2=>?_)
    have h2:=h0.mono hl2
    have i42:=i4.mono hl2
    have hc2:=hl2 _ _ hc
    refine zV ?_;intros
    refine Yl (fun q σ fz' H'=>∃ k:Nat,k≤n4∧q=n4 - k∧σ=[(114,.int .i64 k),(113,.int .i64 n4),(112,.slice A4 n4 b4),(7,.map (some gm)),(0,.pointer (some ⟨gc,0,none⟩))]∧fz2=fz'∧H'=[]∧(∀ i,i<k→∀ f,d.functions[i]?=some f→¬YdS d.types all (p.values.map txtV) f.name f.params [])) ⟨0,Z0 _,rfl,rfl,rfl,rfl,fun i hi=>absurd hi Zi⟩ Zw Zb ?_
    rintro q σ fz' H' ⟨k,hk,rfl,rfl,rfl,rfl,hh⟩
    refine zV ?_;intros
    refine zC (fun c3=>?_) (fun c3=>?_)
    ·obtain ⟨x,hx⟩:=Yn (l:=d.functions) (k:=k) Zi
     have hxm:=Zm hx
     refine zV ?_;intros
     refine zI i42 hx (fun p1 hp=>?_)
     refine zL hp ?_
     intro cs hcs
     obtain ⟨va,rfl,hR⟩:=Y6 hcs
     obtain ⟨Ap,np,cp,rfl,ia⟩:=hR.params
     have la:=ia.len
     have hfp:=hpf x hxm
     refine zV ?_;intros
     ((refine zG ?_);refine Wf Zz Zz (YhA x.params h2 hm2 hS ia (Sl.nil (A:=none) (c:=0) Zi) rfl Zi Zi (hs.f x hxm) ⟨by simp,by simp⟩ hs.o hal) (fun f1=>?_) (fun f1=>?_))
     ·refine zV ?_;intros
      exact ret2 rfl rfl rfl Zb (by rw [WR,if_neg hdn,e1,if_neg Zh,hV,if_neg Zh,if_pos ⟨x,hxm,Zt f1⟩];rfl)
     ·refine zV ?_;intros
      exact Yz ⟨k+1,by omega,rfl,rfl,rfl,rfl,YL (p:=fun f:Function=>¬YdS d.types all (p.values.map txtV) f.name f.params []) hh hx (Zf f1)⟩ Zi Zw Zb
    ·have hM:=Xs (p:=fun f:Function=>¬YdS d.types all (p.values.map txtV) f.name f.params []) hh Zi
     refine zV ?_;intros
     exact ret2 rfl rfl rfl Zb (by rw [WR,if_neg hdn,e1,if_neg Zh,hV,if_neg Zh,if_neg (fun ⟨f,hf,h9⟩=>hM f hf h9)];rfl)
def YhJ (d:Domain) (all:List Param) (p:Problem):Bs × Int:=
 let e:=if d.duratives=[] then formM d all [] p.goal else Ybk d all [] p.goal
 if e≠0 then (wGoalP,e) else (⟨#[]⟩,0)
theorem YjO {p:Problem} {e:Int} (he:(if d.duratives=[] then formM d all [] p.goal else Ybk d all [] p.goal)=e) (h:e≠0):resV (YhJ d all p)=.tuple #[.string wGoalP,errV e]:=by
 simp only [YhJ,he];rw [if_pos h];rfl
theorem YjP {p:Problem} {e:Int} (he:(if d.duratives=[] then formM d all [] p.goal else Ybk d all [] p.goal)=e) (h:e=0):resV (YhJ d all p)=.tuple #[.string ⟨#[]⟩,.nilIface]:=by
 simp only [YhJ,he];rw [if_neg (by rw [h];decide)];rfl
set_option maxHeartbeats 4000000 in
theorem cgoal_q {p:Problem} (h:CkG fz v d p all) (hW:fW p.goal≤1000000000):
 QFn prog 83 [v] fz (resV (YhJ d all p)):=by
 have h0:=h
 obtain ⟨⟨vf,vpp,vg,vo,hck,hF,hPr,hFu,hO⟩,hw⟩:=h
 obtain ⟨gc,v1,v2,v3,v4,v5,v6,u1,u2,u3,u4,u5,u6,u7,Aa,na,ca,rfl,hc,hD,hP,hall⟩:=hck
 obtain ⟨A6,n6,b6,rfl,i6⟩:=hD.duratives
 have hg:=hP.goal
 obtain ⟨B0,e0,j0,rfl,_⟩:=hP.goal.args
 obtain ⟨B1,e1,j1,rfl,_⟩:=hP.goal.params
 obtain ⟨B2,e2,j2,rfl,_⟩:=hP.goal.exprs
 obtain ⟨B3,e3,j3,rfl,_⟩:=hP.goal.kids
 have l6:=i6.len
 refine GFn.quiet ?_
 refine zF Tryz.func83 Tryz.ntmps83 (fun w0=>?_)
 refine zV ?_;intros
 refine zG ?_;refine WV Zz Zz ?_
 refine zV ?_;intros
 refine zC (fun x1=>?_) (fun x1=>?_)
 ·have e5:(if d.duratives=[] then formM d all [] p.goal else Ybk d all [] p.goal)=Ybk d all [] p.goal:=if_neg (by intro h9;rw [h9] at l6;simp at l6;omega)
  refine zV ?_;intros
  refine zG ?_;refine WV Zz Zz ?_
  refine zV ?_;intros
  refine zG ?_;refine YaE (vs:=[.string p.goal.op,.string p.goal.name,.slice B0 e0 j0,.slice B1 e1 j1,.slice B2 e2 j2,.slice B3 e3 j3]) T Zz Zz Zz hc Zz Zz ?_
  refine zV ?_;intros
  ((refine zG ?_);refine Yb9 Zz Zz Zz (Yfg h0 (Sl.nil (A:=none) (c:=0) Zi) hg Zi) ?_)
  by_cases hz:Ybk d all [] p.goal=0
  ·rw [hz,show errV 0=.nilIface from rfl]
   refine zV ?_;intros
   exact ret2 rfl rfl rfl Zb (by rw [YjP e5 hz])
  ·rw [Yj hz]
   refine zV ?_;intros
   exact ret2 rfl rfl rfl Zb (by rw [YjO e5 hz,Yj hz];rfl)
 ·have e5:(if d.duratives=[] then formM d all [] p.goal else Ybk d all [] p.goal)=formM d all [] p.goal:=if_pos (List.eq_nil_of_length_eq_zero Zi)
  refine zV ?_;intros
  refine zG ?_;refine YaE (vs:=[.string p.goal.op,.string p.goal.name,.slice B0 e0 j0,.slice B1 e1 j1,.slice B2 e2 j2,.slice B3 e3 j3]) T Zz Zz Zz hc Zz Zz ?_
  refine zV ?_;intros
  ((refine zG ?_);refine Yb9 Zz Zz Zz (YgU h0 (Sl.nil (A:=none) (c:=0) Zi) hg Zi) ?_)
  by_cases hz:formM d all [] p.goal=0
  ·rw [hz,show errV 0=.nilIface from rfl]
   refine zV ?_;intros
   exact ret2 rfl rfl rfl Zb (by rw [YjP e5 hz])
  ·rw [Yj hz]
   refine zV ?_;intros
   exact ret2 rfl rfl rfl Zb (by rw [YjO e5 hz,Yj hz];rfl)
mutual
def LongP:Formula→Prop
 | .mk _ _ _ params _ kids=>6<params.length∨LongPL kids
def LongPL:List Formula→Prop
 | []=>False
 | k::r=>LongP k∨LongPL r
end
theorem YfQ:∀ {l:List Formula},LongPL l↔∃ x∈l,LongP x
 | []=>by simp [LongPL]
 | k::r=>by rw [LongPL,YfQ (l:=r)];simp
theorem Yef (f:Formula):LongP f↔6<f.params.length∨∃ x∈f.kids,LongP x:=by cases f;rw [LongP,YfQ];rfl
theorem long_f:∀ (s:Nat) {fz:FZ} {f:Formula} {va vp ve vk:Value},SizeOf.sizeOf f≤s→FormulaR fz f va vp ve vk→
 QFn prog 62 [.agg #[.string f.op,.string f.name,va,vp,ve,vk]] fz (.bool (decide (LongP f)))
 | 0,_,f,_,_,_,_,hse,_=>by cases f;simp at hse
 | s+1,fz,f,va,vp,ve,vk,hse,hR=>by
  obtain ⟨B1,m1,d1,rfl,ia⟩:=hR.args
  obtain ⟨B2,m2,d2,rfl,ip⟩:=hR.params
  obtain ⟨B3,m3,d3,rfl,ie⟩:=hR.exprs
  obtain ⟨B4,m4,d4,rfl,ik⟩:=hR.kids
  have l2:=ip.len
  refine GFn.quiet ?_
  refine zF Tryz.func62 Tryz.ntmps62 (fun w0=>?_)
  refine Yk (Yr (Ya Zz (Xc _ Zz Zz (fun g0=>?_))))
  refine zV ?_;intros
  refine zC (fun x1=>?_) (fun x1=>?_)
  ·refine zV ?_;intros
   exact ret1 rfl rfl Zb (Yv ((Yef f).2 (.inl Zi)))
  ·refine zV ?_;intros
   ((refine zG ?_);refine Yw Zz Zz (Ybd (cap:=[]) (p:=LongP) ik (fun x hx cs hcs=>by
    obtain ⟨wa,wp,we,wk,rfl,hRx⟩:=YK hcs
    exact long_f s (by have:=Lx.Formula.kids_lt hx;omega) hRx)) ?_)
   refine zV ?_;intros
   (exact ret1 rfl rfl Zb (by
    by_cases h:∃ x∈f.kids,LongP x
    ·rw [decide_eq_true h,decide_eq_true ((Yef f).2 (.inr h))]
    ·rw [decide_eq_false h,decide_eq_false (fun h0=>((Yef f).1 h0).elim (fun h1=>x1 Zi) h)]))
variable {va ve vk vp:Value}
theorem YfP {f:Formula} (hR:FormulaR fz f va vp ve vk):
 QFn prog 62 [.agg #[.string f.op,.string f.name,va,vp,ve,vk]] fz (.bool (decide (LongP f))):=long_f _ (Zs _) hR
def YgW (c:Change):Prop:=6<c.params.length∨LongP c.when_
variable {cs:List Value}
theorem longC_q {c:Change} (h:changeL.rep fz c cs):QFn prog 118 [.agg cs.toArray] fz (.bool (decide (YgW c))):=by
 obtain ⟨v1,v2,v3,v4,v5,v6,v7,v8,rfl,hR⟩:=XH h
 obtain ⟨A1,n1,b1,rfl,ip⟩:=hR.params
 have hw:=hR.when_
 obtain ⟨A2,n2,b2,rfl,iw1⟩:=hR.when_.args
 obtain ⟨A3,n3,b3,rfl,iw2⟩:=hR.when_.params
 obtain ⟨A4,n4,b4,rfl,iw3⟩:=hR.when_.exprs
 obtain ⟨A5,n5,b5,rfl,iw4⟩:=hR.when_.kids
 obtain ⟨A6,n6,b6,rfl,iw5⟩:=hR.args
 obtain ⟨A7,n7,b7,rfl,iw6⟩:=hR.value.args
 obtain ⟨A8,n8,b8,rfl,iw7⟩:=hR.value.kids
 have l1:=ip.len
 refine GFn.quiet ?_
 refine zF Tryz.func118 Tryz.ntmps118 (fun w0=>?_)
 refine Yk (Yr (Ya Zz (Xc _ Zz Zz (fun g0=>?_))))
 refine zV ?_;intros
 refine zC (fun x1=>?_) (fun x1=>?_)
 ·refine zV ?_;intros
  exact ret1 rfl rfl Zb (Yv (.inl Zi))
 ·refine zV ?_;intros
  ((refine zG ?_);refine Yp (vs:=[.string c.when_.op,.string c.when_.name,.slice A2 n2 b2,.slice A3 n3 b3,.slice A4 n4 b4,.slice A5 n5 b5]) T 0 Zz Zz Zz Zz Zz Zz ?_)
  refine zc (YfP hw) ?_
  refine zV ?_;intros
  (exact ret1 rfl rfl Zb (by
   by_cases h:LongP c.when_
   ·rw [decide_eq_true h,decide_eq_true (show YgW c from .inr h)]
   ·rw [decide_eq_false h,decide_eq_false (show ¬YgW c from fun h0=>h0.elim (fun h1=>x1 Zi) h)]))
theorem YbO {l:List Change} (h:Sl changeL fz A n c l):
 QFn prog 69 [.slice A n c] fz (.bool (decide (∃ x∈l,YgW x))):=by
 refine GFn.quiet ?_
 refine zF Tryz.func69 Tryz.ntmps69 (fun w0=>?_)
 refine zV ?_;intros
 ((refine zG ?_);refine Yw Zz Zz (YdN (cap:=[]) (p:=YgW) h (fun x hx cs hcs=>longC_q hcs)) ?_)
 refine zV ?_;intros
 exact zR (h:=rfl)
theorem Yeh:QFn prog 61 [.slice A n c] fz (.bool (decide (6<n))):=by
 refine GFn.quiet ?_
 refine zF Tryz.func61 Tryz.ntmps61 (fun w0=>?_)
 refine zV ?_;intros
 refine zC (fun x1=>?_) (fun x1=>?_)
 ·refine zV ?_;intros
  exact ret1 rfl rfl Zb (Yv Zi)
 ·refine zV ?_;intros
  exact ret1 rfl rfl Zb (Yo Zi)
def YbY (fz:FZ) (g:Nat):Prop:=fz g=some (.cells #[.func (.func 61) #[] #[]] 140 (0,0))
variable {g:Nat}
theorem large2_q (hg:YbY fz g) {x:Predicate} (h:predicateL.rep fz x cs):
 QFn prog 64 [.agg cs.toArray,.pointer (some ⟨g,0,none⟩)] fz (.bool (decide (6<x.params.length))):=by
 unfold YbY at hg
 obtain ⟨v1,rfl,hR⟩:=XD h
 obtain ⟨A1,n1,b1,rfl,ip⟩:=hR.params
 have l1:=ip.len
 refine GFn.quiet ?_
 refine zF Tryz.func64 Tryz.ntmps64 (fun w0=>?_)
 refine Yk (Yr (Ya Zz (Xc _ Zz Zz (fun g0=>?_))))
 refine zV ?_;intros
 refine zv Yeh ?_
 refine zV ?_;intros
 exact zR (h:=by rw [l1])
theorem large3_q (hg:YbY fz g) {x:Function} (h:functionL.rep fz x cs):
 QFn prog 66 [.agg cs.toArray,.pointer (some ⟨g,0,none⟩)] fz (.bool (decide (6<x.params.length))):=by
 unfold YbY at hg
 obtain ⟨v1,rfl,hR⟩:=Y6 h
 obtain ⟨A1,n1,b1,rfl,ip⟩:=hR.params
 have l1:=ip.len
 refine GFn.quiet ?_
 refine zF Tryz.func66 Tryz.ntmps66 (fun w0=>?_)
 refine Yk (Yr (Ya Zz (Xc _ Zz Zz (fun g0=>?_))))
 refine zV ?_;intros
 refine zv Yeh ?_
 refine zV ?_;intros
 exact zR (h:=by rw [l1])
def LongA (a:Action):Prop:=6<a.params.length∨LongP a.pre∨∃ c∈a.changes,YgW c
theorem orNo {p q r:Prop} [Decidable q] [Decidable r] (h:¬p) (e:r↔p∨q):Value.bool (decide q)=Value.bool (decide r):=by
 by_cases hq:q
 ·rw [decide_eq_true hq,decide_eq_true (e.2 (.inr hq))]
 ·rw [decide_eq_false hq,decide_eq_false (fun h0=>(e.1 h0).elim h hq)]
theorem large4_q (hg:YbY fz g) {x:Action} (h:actionL.rep fz x cs):
 QFn prog 68 [.agg cs.toArray,.pointer (some ⟨g,0,none⟩)] fz (.bool (decide (LongA x))):=by
 unfold YbY at hg
 obtain ⟨v1,v2,v3,v4,v5,v6,rfl,hR⟩:=Xz h
 obtain ⟨A1,n1,b1,rfl,ip⟩:=hR.params
 have hw:=hR.pre
 obtain ⟨A2,n2,b2,rfl,iw1⟩:=hR.pre.args
 obtain ⟨A3,n3,b3,rfl,iw2⟩:=hR.pre.params
 obtain ⟨A4,n4,b4,rfl,iw3⟩:=hR.pre.exprs
 obtain ⟨A5,n5,b5,rfl,iw4⟩:=hR.pre.kids
 obtain ⟨A6,n6,b6,rfl,ic⟩:=hR.changes
 have l1:=ip.len
 refine GFn.quiet ?_
 refine zF Tryz.func68 Tryz.ntmps68 (fun w0=>?_)
 refine Yk (Yr (Ya Zz (Xc _ Zz Zz (fun g0=>?_))))
 refine zV ?_;intros
 ((refine zG ?_);refine WQ Zz Zz Zz Yeh (fun f1=>?_) (fun f1=>?_))
 ·refine zV ?_;intros
  exact ret1 rfl rfl Zb (Yv (.inl Zi))
 ·refine zV ?_;intros
  ((refine zG ?_);refine Yp (vs:=[.string x.pre.op,.string x.pre.name,.slice A2 n2 b2,.slice A3 n3 b3,.slice A4 n4 b4,.slice A5 n5 b5]) T 0 Zz Zz Zz Zz Zz Zz ?_)
  refine zb (YfP hw) (fun f2=>?_) (fun f2=>?_)
  ·refine zV ?_;intros
   exact ret1 rfl rfl Zb (Yv (.inr (.inl (Zt f2))))
  ·refine zV ?_;intros
   refine zc (YbO ic) ?_
   refine zV ?_;intros
   exact ret1 rfl rfl Zb (orNo (p:=6<x.params.length∨LongP x.pre) (fun h0=>h0.elim (fun h1=>f1 Zi) (Zf f2)) or_assoc.symm)
def YmD (a:Durative):Prop:=6<a.params.length∨LongP a.start∨LongP a.over∨LongP a.fin∨(∃ c∈a.atStart,YgW c)∨∃ c∈a.atEnd,YgW c
theorem large5_q (hg:YbY fz g) {x:Durative} (h:durativeL.rep fz x cs):
 QFn prog 71 [.agg cs.toArray,.pointer (some ⟨g,0,none⟩)] fz (.bool (decide (YmD x))):=by
 unfold YbY at hg
 obtain ⟨v1,v2,v3,v4,v5,v6,v7,v8,v9,v10,v11,v12,v13,v14,v15,rfl,hR⟩:=Xm h
 obtain ⟨A1,n1,b1,rfl,ip⟩:=hR.params
 have hw:=hR.start
 have ho:=hR.over
 have hf:=hR.fin
 obtain ⟨A2,n2,b2,rfl,_⟩:=hR.start.args
 obtain ⟨A3,n3,b3,rfl,_⟩:=hR.start.params
 obtain ⟨A4,n4,b4,rfl,_⟩:=hR.start.exprs
 obtain ⟨A5,n5,b5,rfl,_⟩:=hR.start.kids
 obtain ⟨C2,c2,e2,rfl,_⟩:=hR.over.args
 obtain ⟨C3,c3,e3,rfl,_⟩:=hR.over.params
 obtain ⟨C4,c4,e4,rfl,_⟩:=hR.over.exprs
 obtain ⟨C5,c5,e5,rfl,_⟩:=hR.over.kids
 obtain ⟨D2,d2,i2,rfl,_⟩:=hR.fin.args
 obtain ⟨D3,d3,i3,rfl,_⟩:=hR.fin.params
 obtain ⟨D4,d4,i4,rfl,_⟩:=hR.fin.exprs
 obtain ⟨D5,d5,i5,rfl,_⟩:=hR.fin.kids
 obtain ⟨A6,n6,b6,rfl,ic⟩:=hR.atStart
 obtain ⟨A7,n7,b7,rfl,id⟩:=hR.atEnd
 have l1:=ip.len
 refine GFn.quiet ?_
 refine zF Tryz.func71 Tryz.ntmps71 (fun w0=>?_)
 refine Yk (Yr (Ya Zz (Xc _ Zz Zz (fun g0=>?_))))
 refine zV ?_;intros
 ((refine zG ?_);refine WQ Zz Zz Zz Yeh (fun f1=>?_) (fun f1=>?_))
 ·refine zV ?_;intros
  exact ret1 rfl rfl Zb (Yv (.inl Zi))
 ·refine zV ?_;intros
  ((refine zG ?_);refine Yp (vs:=[.string x.start.op,.string x.start.name,.slice A2 n2 b2,.slice A3 n3 b3,.slice A4 n4 b4,.slice A5 n5 b5]) T 0 Zz Zz Zz Zz Zz Zz ?_)
  refine zb (YfP hw) (fun f2=>?_) (fun f2=>?_)
  ·refine zV ?_;intros
   exact ret1 rfl rfl Zb (Yv (.inr (.inl (Zt f2))))
  ·refine zV ?_;intros
   ((refine zG ?_);refine Yp (vs:=[.string x.over.op,.string x.over.name,.slice C2 c2 e2,.slice C3 c3 e3,.slice C4 c4 e4,.slice C5 c5 e5]) T 0 Zz Zz Zz Zz Zz Zz ?_)
   refine zb (YfP ho) (fun f3=>?_) (fun f3=>?_)
   ·refine zV ?_;intros
    exact ret1 rfl rfl Zb (Yv (.inr (.inr (.inl (Zt f3)))))
   ·refine zV ?_;intros
    ((refine zG ?_);refine Yp (vs:=[.string x.fin.op,.string x.fin.name,.slice D2 d2 i2,.slice D3 d3 i3,.slice D4 d4 i4,.slice D5 d5 i5]) T 0 Zz Zz Zz Zz Zz Zz ?_)
    refine zb (YfP hf) (fun f4=>?_) (fun f4=>?_)
    ·refine zV ?_;intros
     exact ret1 rfl rfl Zb (Yv (.inr (.inr (.inr (.inl (Zt f4))))))
    ·refine zV ?_;intros
     refine zb (YbO ic) (fun f5=>?_) (fun f5=>?_)
     ·refine zV ?_;intros
      exact ret1 rfl rfl Zb (Yv (.inr (.inr (.inr (.inr (.inl (Zt f5)))))))
     ·refine zV ?_;intros
      refine zc (YbO id) ?_
      refine zV ?_;intros
      (exact ret1 rfl rfl Zb (orNo (p:=6<x.params.length∨LongP x.start∨LongP x.over∨LongP x.fin∨∃ c∈x.atStart,YgW c) (fun h0=>by
       rcases h0 with h1 | h1 | h1 | h1 | h1
       ·exact f1 Zi
       ·exact Zf f2 h1
       ·exact Zf f3 h1
       ·exact Zf f4 h1
       ·exact Zf f5 h1) (by unfold YmD;simp only [or_assoc])))
def Ydm (d:Domain) (p:Problem) (all:List Param):Prop:=64<all.length∨64<d.types.length∨64<d.predicates.length∨64<d.functions.length∨64<d.actions.length∨64<d.duratives.length∨LongP p.goal∨(∃ x∈d.predicates,6<x.params.length)∨(∃ x∈d.functions,6<x.params.length)∨(∃ x∈d.actions,LongA x)∨∃ x∈d.duratives,YmD x
set_option maxHeartbeats 4000000 in
theorem large_q {p:Problem} {vf vg vo:Value} (h:CkR fz v d p all vf vp vg vo):
 QFn prog 29 [v] fz (.bool (decide (Ydm d p all))):=by
 obtain ⟨gc,v1,v2,v3,v4,v5,v6,u1,u2,u3,u4,u5,u6,u7,Aa,na,ca,rfl,hc,hD,hP,hall⟩:=h
 obtain ⟨A1,n1,b1,rfl,i1⟩:=hD.types
 obtain ⟨A2,n2,b2,rfl,i2⟩:=hD.constants
 obtain ⟨A3,n3,b3,rfl,i3⟩:=hD.predicates
 obtain ⟨A4,n4,b4,rfl,i4⟩:=hD.functions
 obtain ⟨A5,n5,b5,rfl,i5⟩:=hD.actions
 obtain ⟨A6,n6,b6,rfl,i6⟩:=hD.duratives
 have hg:=hP.goal
 obtain ⟨B0,e0,q0,rfl,_⟩:=hP.goal.args
 obtain ⟨B1,e1,q1,rfl,_⟩:=hP.goal.params
 obtain ⟨B2,e2,q2,rfl,_⟩:=hP.goal.exprs
 obtain ⟨B3,e3,q3,rfl,_⟩:=hP.goal.kids
 have l1:=i1.len
 have l3:=i3.len
 have l4:=i4.len
 have l5:=i5.len
 have l6:=i6.len
 have la:=hall.len
 refine GFn.quiet ?_
 refine zF Tryz.func29 Tryz.ntmps29 (fun w0=>?_)
 refine zV ?_;intros
 refine zG ?_;refine YaE (vs:=[.string d.name,.slice A1 n1 b1,.slice A2 n2 b2,.slice A3 n3 b3,.slice A4 n4 b4,.slice A5 n5 b5,.slice A6 n6 b6]) T Zz Zz Zz hc Zz Zz ?_
 refine zV ?_;intros
 refine zC (fun x0=>?_) (fun x0=>?_)
 ·refine zV ?_;intros
  exact ret1 rfl rfl Zb (Yv (.inl Zi))
 ·refine zV ?_;intros
  refine zC (fun x1=>?_) (fun x1=>?_)
  ·refine zV ?_;intros
   exact ret1 rfl rfl Zb (Yv (.inr (.inl Zi)))
  ·refine zV ?_;intros
   refine zC (fun x2=>?_) (fun x2=>?_)
   ·refine zV ?_;intros
    exact ret1 rfl rfl Zb (Yv (.inr (.inr (.inl Zi))))
   ·refine zV ?_;intros
    refine zC (fun x3=>?_) (fun x3=>?_)
    ·refine zV ?_;intros
     exact ret1 rfl rfl Zb (Yv (.inr (.inr (.inr (.inl Zi)))))
    ·refine zV ?_;intros
     refine zC (fun x4=>?_) (fun x4=>?_)
     ·refine zV ?_;intros
      exact ret1 rfl rfl Zb (Yv (.inr (.inr (.inr (.inr (.inl Zi))))))
     ·refine zV ?_;intros
      refine zC (fun x5=>?_) (fun x5=>?_)
      ·refine zV ?_;intros
       exact ret1 rfl rfl Zb (Yv (.inr (.inr (.inr (.inr (.inr (.inl Zi)))))))
      ·refine zVX ?_;intros
       refine Yk ?_
       refine zVX ?_;intros
       rename_i g3 g4
       first | refine Wp.freeze Zz (fun fz2 hl2 hb2=>?_) | refine Seq.freeze Zz (fun fz2 hl2 hb2=>?_)
       have hb:YbY fz2 g4:=hb2
       have hc2:=hl2 _ _ hc
       have hg2:=hg.mono hl2
       have j3:=i3.mono hl2
       have j4:=i4.mono hl2
       have j5:=i5.mono hl2
       have j6:=i6.mono hl2
       refine zV ?_;intros
       refine zG ?_;refine YaE (vs:=[.string p.goal.op,.string p.goal.name,.slice B0 e0 q0,.slice B1 e1 q1,.slice B2 e2 q2,.slice B3 e3 q3]) T Zz Zz Zz hc2 Zz Zz ?_
       refine zV ?_;intros
       refine zb (YfP hg2) (fun f6=>?_) (fun f6=>?_)
       ·refine zV ?_;intros
        exact ret1 rfl rfl Zb (Yv (.inr (.inr (.inr (.inr (.inr (.inr (.inl (Zt f6)))))))))
       ·refine zV ?_;intros
        refine zG ?_;refine WV Zz Zz ?_
        refine zV ?_;intros
        ((refine zG ?_);refine Wf Zz Zz (Ycz (cap:=[.pointer (some ⟨g4,0,none⟩)]) (p:=(fun x:Predicate=>6<x.params.length)) j3 (fun x hx cs hcs=>large2_q hb hcs)) (fun f7=>?_) (fun f7=>?_))
        ·refine zV ?_;intros
         exact ret1 rfl rfl Zb (Yv (.inr (.inr (.inr (.inr (.inr (.inr (.inr (.inl (Zt f7))))))))))
        ·refine zV ?_;intros
         refine zG ?_;refine WV Zz Zz ?_
         refine zV ?_;intros
         ((refine zG ?_);refine Wf Zz Zz (YcR (cap:=[.pointer (some ⟨g4,0,none⟩)]) (p:=(fun x:Function=>6<x.params.length)) j4 (fun x hx cs hcs=>large3_q hb hcs)) (fun f8=>?_) (fun f8=>?_))
         ·refine zV ?_;intros
          exact ret1 rfl rfl Zb (Yv (.inr (.inr (.inr (.inr (.inr (.inr (.inr (.inr (.inl (Zt f8)))))))))))
         ·refine zV ?_;intros
          refine zG ?_;refine WV Zz Zz ?_
          refine zV ?_;intros
          ((refine zG ?_);refine Wf Zz Zz (YdO (cap:=[.pointer (some ⟨g4,0,none⟩)]) (p:=LongA) j5 (fun x hx cs hcs=>large4_q hb hcs)) (fun f9=>?_) (fun f9=>?_))
          ·refine zV ?_;intros
           exact ret1 rfl rfl Zb (Yv (.inr (.inr (.inr (.inr (.inr (.inr (.inr (.inr (.inr (.inl (Zt f9))))))))))))
          ·refine zV ?_;intros
           refine zG ?_;refine WV Zz Zz ?_
           refine zV ?_;intros
           ((refine zG ?_);refine Yw Zz Zz (YcS (cap:=[.pointer (some ⟨g4,0,none⟩)]) (p:=YmD) j6 (fun x hx cs hcs=>large5_q hb hcs)) ?_)
           refine zV ?_;intros
           (exact ret1 rfl rfl Zb (by
            by_cases h9:∃ x∈d.duratives,YmD x
            ·rw [decide_eq_true h9,decide_eq_true (show Ydm d p all from (.inr (.inr (.inr (.inr (.inr (.inr (.inr (.inr (.inr (.inr h9)))))))))))]
            ·rw [decide_eq_false h9,decide_eq_false (show ¬Ydm d p all from fun h0=>by
              rcases h0 with h0 | h0 | h0 | h0 | h0 | h0 | h0 | h0 | h0 | h0 | h0
              ·exact x0 Zi
              ·exact x1 Zi
              ·exact x2 Zi
              ·exact x3 Zi
              ·exact x4 Zi
              ·exact x5 Zi
              ·exact Zf f6 h0
              ·exact Zf f7 h0
              ·exact Zf f8 h0
              ·exact Zf f9 h0
              ·exact h9 h0)]))
def Once {α:Type} (nm:α→Bs) (l:List α):Prop:=∀ (i j:Nat) (x y:α),i<j→l[i]?=some x→l[j]?=some y→nm x≠nm y
def MapH {α:Type} (nm:α→Bs) (V:α→Value→Prop) (m:List (Bs × Value)) (l:List α) (k:Nat):Prop:=∀ x,((∀ i y,i<k→l[i]?=some y→nm y≠x)→Lx.valS m x=none)∧∀ i y,i<k→l[i]?=some y→nm y=x→∃ v,Lx.valS m x=some v∧V y v
theorem MapH.zero {α:Type} {nm:α→Bs} {V:α→Value→Prop} {l:List α}:MapH nm V [] l 0:=fun x=>⟨fun _=>rfl,fun i y hi=>absurd hi Zi⟩
variable {k:Nat}
theorem MapH.add {α:Type} {nm:α→Bs} {V:α→Value→Prop} {m:List (Bs × Value)} {l:List α} {y:α} (h:MapH nm V m l k) (ho:Once nm l) (hy:l[k]?=some y) (hv:V y v):MapH nm V (updS m (nm y) v) l (k+1):=fun x=>by
 constructor
 ·intro hn
  have h1:nm y≠x:=hn k y Zi hy
  rw [Yd7,if_neg (fun e=>h1 e.symm)]
  exact (h x).1 (fun i z hi hz=>hn i z Zi hz)
 ·intro i z hi hz he
  by_cases hik:i=k
  ·subst hik
   rw [hy] at hz;injection hz with hz;subst hz
   exact ⟨v,by rw [Yd7,if_pos he.symm],hv⟩
  ·have h2:=ho i k z y Zi hz hy
   rw [Yd7,if_neg (fun e=>h2 (by rw [he,e]))]
   exact (h x).2 i z Zi hz he
theorem MapH.mono {α:Type} {nm:α→Bs} {V V':α→Value→Prop} {m:List (Bs × Value)} {l:List α} (h:MapH nm V m l k) (hV:∀ y v,V y v→V' y v):MapH nm V' m l k:=fun x=>⟨(h x).1,fun i y hi hy he=>by obtain ⟨v,h1,h2⟩:=(h x).2 i y hi hy he;exact ⟨v,h1,hV y v h2⟩⟩
def VPred (fz:FZ) (y:Predicate) (v:Value):Prop:=∃ A n c,v=.slice A n c∧Sl paramL fz A n c y.params
def VFun (fz:FZ) (y:Function) (v:Value):Prop:=∃ A n c,v=.agg #[.string y.name,.slice A n c,.int .i64 y.lo,.int .i64 y.hi]∧Sl paramL fz A n c y.params
def VObj (y:Param) (v:Value):Prop:=v=.string y.typ
theorem YhR {α:Type} {nm:α→Bs} {l:List α} {x:Bs} (h:(l.find? fun p=>decide (nm p=x))=none):∀ i y,i<l.length→l[i]?=some y→nm y≠x:=fun i y _ hy he=>by
 have:=List.find?_eq_none.1 h y (Zm hy)
 simp [he] at this
theorem YhQ {α:Type} {nm:α→Bs} {l:List α} {x:Bs} {y:α} (h:(l.find? fun p=>decide (nm p=x))=some y):∃ i,i<l.length∧l[i]?=some y∧nm y=x:=by
 obtain ⟨i,hi⟩:=List.getElem?_of_mem (List.mem_of_find?_eq_some h)
 exact ⟨i,(Zg hi).1,hi,by have:=List.find?_some h;simpa using this⟩
theorem prdR_of {m:List (Bs × Value)} {l:List Predicate} (hg:fz g=some (mapS m)) (h:MapH (·.name) (VPred fz) m l l.length):PrdR fz (.map (some g)) l:=⟨g,m,rfl,hg,fun x=>⟨fun hn=>(h x).1 (YhR (nm:=fun p:Predicate=>p.name) hn),fun y hy=>by
 obtain ⟨i,h1,h2,h3⟩:=YhQ (nm:=fun p:Predicate=>p.name) hy
 obtain ⟨v,h4,A,n,c,rfl,h5⟩:=(h x).2 i y h1 h2 h3
 exact ⟨A,n,c,h4,h5⟩⟩⟩
theorem funR_of {m:List (Bs × Value)} {l:List Function} (hg:fz g=some (mapS m)) (h:MapH (·.name) (VFun fz) m l l.length):FunR fz (.map (some g)) l:=⟨g,m,rfl,hg,fun x=>⟨fun hn=>(h x).1 (YhR (nm:=fun p:Function=>p.name) hn),fun y hy=>by
 obtain ⟨i,h1,h2,h3⟩:=YhQ (nm:=fun p:Function=>p.name) hy
 obtain ⟨v,h4,A,n,c,rfl,h5⟩:=(h x).2 i y h1 h2 h3
 exact ⟨A,n,c,h4,h5⟩⟩⟩
theorem tyF_none {l:List Param} {x:Bs} (h:tyF l x=none):∀ i y,i<l.length→l[i]?=some y→y.name≠x:=by
 induction l with
 | nil=>intro i y hi;simp at hi
 | cons p r ih=>
  rw [tyF] at h
  by_cases h1:x=p.name
  ·rw [if_pos h1] at h;cases h
  ·rw [if_neg h1] at h
   intro i y hi hy
   cases i with
   | zero=>simp at hy;subst hy;exact fun e=>h1 e.symm
   | succ i=>exact ih h i y (by simpa using hi) (by simpa using hy)
theorem tyF_at {l:List Param} {x u:Bs} (h:tyF l x=some u):∃ i y,i<l.length∧l[i]?=some y∧y.name=x∧y.typ=u:=by
 induction l with
 | nil=>cases h
 | cons p r ih=>
  rw [tyF] at h
  by_cases h1:x=p.name
  ·rw [if_pos h1] at h;injection h with h;exact ⟨0,p,by simp,rfl,h1.symm,h⟩
  ·rw [if_neg h1] at h
   obtain ⟨i,y,h2,h3,h4,h5⟩:=ih h
   exact ⟨i+1,y,by simpa using h2,by simpa using h3,h4,h5⟩
theorem objR_of {m:List (Bs × Value)} {l:List Param} (hg:fz g=some (mapS m)) (h:MapH (·.name) VObj m l l.length):ObjR fz (.map (some g)) l:=⟨g,m,rfl,hg,fun x=>by
 cases hr:tyF l x with
 | none=>rw [(h x).1 (tyF_none hr)];rfl
 | some u=>
  obtain ⟨i,y,h1,h2,h3,h4⟩:=tyF_at hr
  obtain ⟨v,h5,h6⟩:=(h x).2 i y h1 h2 h3
  rw [h5,show v=.string y.typ from h6,h4];rfl⟩
variable {u1 u2 u3 u4 u5 u6 u7 v1 v2 v3 v4 v5 v6:Value}
set_option maxHeartbeats 8000000 in
theorem Ymq {gc:Nat} {p:Problem} {vf:Value} {Aa:Option Addr} {na ca:Nat} (hD:DomainR fz d v1 v2 v3 v4 v5 v6) (hall:Sl paramL fz Aa na ca all)
 (op:Once (·.name) d.predicates) (of:Once (·.name) d.functions) (oo:Once (·.name) all):
 GFn prog 80 [.pointer (some ⟨gc,0,none⟩)] fz [(gc,.cells #[.string d.name,v1,v2,v3,v4,v5,v6,.string p.name,.string p.domain,u1,u2,u3,.string p.goal.op,.string p.goal.name,u4,u5,u6,u7,vf,.map none,.map none,.map none,.slice Aa na ca] 94 (0,0))]
  (fun v fz' H'=>v=.tuple #[]∧fz=fz'∧∃ go gg gp m1 m2 m3,H'=[(go,mapS m3),(gg,mapS m2),(gp,mapS m1),(gc,.cells #[.string d.name,v1,v2,v3,v4,v5,v6,.string p.name,.string p.domain,u1,u2,u3,.string p.goal.op,.string p.goal.name,u4,u5,u6,u7,vf,.map (some gp),.map (some gg),.map (some go),.slice Aa na ca] 94 (0,0))]∧
   MapH (·.name) (VPred fz) m1 d.predicates d.predicates.length∧MapH (·.name) (VFun fz) m2 d.functions d.functions.length∧MapH (·.name) VObj m3 all all.length):=by
 obtain ⟨A1,n1,b1,rfl,i1⟩:=hD.types
 obtain ⟨A2,n2,b2,rfl,i2⟩:=hD.constants
 obtain ⟨A3,n3,b3,rfl,i3⟩:=hD.predicates
 obtain ⟨A4,n4,b4,rfl,i4⟩:=hD.functions
 obtain ⟨A5,n5,b5,rfl,i5⟩:=hD.actions
 obtain ⟨A6,n6,b6,rfl,i6⟩:=hD.duratives
 have l3:=i3.len
 have l4:=i4.len
 have la:=hall.len
 have s3:=i3.short
 have s4:=i4.short
 have sa:=hall.short
 refine zF Tryz.func80 Tryz.ntmps80 (fun w0=>?_)
 refine zV ?_;intros
 refine Ya Zz (Yat (fun gp=>?_))
 refine Ya Zz (Yat (fun gg=>?_))
 refine Ya Zz (Yat (fun go=>?_))
 refine zV ?_;intros
 refine Yl (fun q σ fz' H'=>∃ (k:Nat) (m:List (Bs × Value)),k≤n3∧q=n3 - k∧σ=[(26,.int .i64 k),(25,.int .i64 n3),(24,.slice A3 n3 b3),(0,.pointer (some ⟨gc,0,none⟩))]∧fz=fz'∧H'=[(go,mapS []),(gg,mapS []),(gp,mapS m),(gc,.cells #[.string d.name,.slice A1 n1 b1,.slice A2 n2 b2,.slice A3 n3 b3,.slice A4 n4 b4,.slice A5 n5 b5,.slice A6 n6 b6,.string p.name,.string p.domain,u1,u2,u3,.string p.goal.op,.string p.goal.name,u4,u5,u6,u7,vf,.map (some gp),.map (some gg),.map (some go),.slice Aa na ca] 94 (0,0))]∧MapH (·.name) (VPred fz) m d.predicates k) ⟨0,[],Z0 _,rfl,rfl,rfl,rfl,MapH.zero⟩ Zw Zb ?_
 rintro q σ fz' H' ⟨k,m,hk,rfl,rfl,rfl,rfl,hm⟩
 refine zV ?_;intros
 refine zC (fun c24=>?_) (fun c24=>?_)
 ·obtain ⟨x,hx⟩:=Yn (l:=d.predicates) (k:=k) Zi
  refine zV ?_;intros
  refine zI i3 hx (fun p1 hp=>?_)
  refine zL hp ?_
  intro cs hcs
  obtain ⟨va,rfl,hR⟩:=XD hcs
  obtain ⟨Ap,np,cp,rfl,ip⟩:=hR.params
  refine zWN ?_;intros
  refine Wp.drawK (Hq:=[_,_,_,_,_]) T.mixed Zj Zj Zb ?_
  refine zW ?_;intros
  refine Yf ?_
  refine YM ⟨by kernel_rfl,?_⟩
  refine Ch.hard0 Zj (Wb T (pre:=[_,_,_]) Zz Zz Zz Zz Zz Zz Zz (Zr _) ?_)
  refine Ch.done ?_
  refine zV ?_;intros
  exact Yz ⟨k+1,_,by omega,rfl,rfl,rfl,rfl,hm.add op hx ⟨_,_,_,rfl,ip⟩⟩ Zi Zw Zb
 ·have hk3:k=d.predicates.length:=by omega
  subst hk3
  obtain ⟨m1,rfl⟩:∃ z,z=m:=⟨_,rfl⟩
  have hm1:=hm
  refine zV ?_;intros
  refine Yl (fun q σ fz' H'=>∃ (k:Nat) (m:List (Bs × Value)),k≤n4∧q=n4 - k∧σ=[(45,.int .i64 k),(44,.int .i64 n4),(43,.slice A4 n4 b4),(0,.pointer (some ⟨gc,0,none⟩))]∧fz=fz'∧H'=[(go,mapS []),(gg,mapS m),(gp,mapS m1),(gc,.cells #[.string d.name,.slice A1 n1 b1,.slice A2 n2 b2,.slice A3 n3 b3,.slice A4 n4 b4,.slice A5 n5 b5,.slice A6 n6 b6,.string p.name,.string p.domain,u1,u2,u3,.string p.goal.op,.string p.goal.name,u4,u5,u6,u7,vf,.map (some gp),.map (some gg),.map (some go),.slice Aa na ca] 94 (0,0))]∧MapH (·.name) (VFun fz) m d.functions k) ⟨0,[],Z0 _,rfl,rfl,rfl,rfl,MapH.zero⟩ Zw Zb ?_
  rintro q σ fz' H' ⟨k,m,hk,rfl,rfl,rfl,rfl,hm⟩
  refine zV ?_;intros
  refine zC (fun c43=>?_) (fun c43=>?_)
  ·obtain ⟨x,hx⟩:=Yn (l:=d.functions) (k:=k) Zi
   refine zV ?_;intros
   refine zI i4 hx (fun p1 hp=>?_)
   refine zL hp ?_
   intro cs hcs
   obtain ⟨va,rfl,hR⟩:=Y6 hcs
   obtain ⟨Ap,np,cp,rfl,ip⟩:=hR.params
   refine zWN ?_;intros
   refine Wp.drawK (Hq:=[_,_,_,_,_]) T.mixed Zj Zj Zb ?_
   refine zW ?_;intros
   refine Yf ?_
   refine YM ⟨by kernel_rfl,?_⟩
   refine Ch.hard0 Zj (Wb T (pre:=[_,_]) Zz Zz Zz Zz Zz Zz Zz (Zr _) ?_)
   refine Ch.done ?_
   refine zV ?_;intros
   exact Yz ⟨k+1,_,by omega,rfl,rfl,rfl,rfl,hm.add of hx ⟨_,_,_,rfl,ip⟩⟩ Zi Zw Zb
  ·have hk4:k=d.functions.length:=by omega
   subst hk4
   obtain ⟨m2,rfl⟩:∃ z,z=m:=⟨_,rfl⟩
   have hm2:=hm
   refine zV ?_;intros
   refine Yl (fun q σ fz' H'=>∃ (k:Nat) (m:List (Bs × Value)),k≤na∧q=na - k∧σ=[(62,.int .i64 k),(61,.int .i64 na),(60,.slice Aa na ca),(0,.pointer (some ⟨gc,0,none⟩))]∧fz=fz'∧H'=[(go,mapS m),(gg,mapS m2),(gp,mapS m1),(gc,.cells #[.string d.name,.slice A1 n1 b1,.slice A2 n2 b2,.slice A3 n3 b3,.slice A4 n4 b4,.slice A5 n5 b5,.slice A6 n6 b6,.string p.name,.string p.domain,u1,u2,u3,.string p.goal.op,.string p.goal.name,u4,u5,u6,u7,vf,.map (some gp),.map (some gg),.map (some go),.slice Aa na ca] 94 (0,0))]∧MapH (·.name) VObj m all k) ⟨0,[],Z0 _,rfl,rfl,rfl,rfl,MapH.zero⟩ Zw Zb ?_
   rintro q σ fz' H' ⟨k,m,hk,rfl,rfl,rfl,rfl,hm⟩
   refine zV ?_;intros
   refine zC (fun c60=>?_) (fun c60=>?_)
   ·obtain ⟨x,hx⟩:=Yn (l:=all) (k:=k) Zi
    refine zV ?_;intros
    refine zI hall hx (fun p1 hp=>?_)
    refine zL hp ?_
    intro cs hcs
    obtain ⟨rfl,hR⟩:=YV hcs
    refine zWN ?_;intros
    refine Wp.drawK (Hq:=[_,_,_,_,_]) T.mixed Zj Zj Zb ?_
    refine zW ?_;intros
    refine Yf ?_
    refine YM ⟨by kernel_rfl,?_⟩
    refine Ch.hard0 Zj (Wb T (pre:=[_]) Zz Zz Zz Zz Zz Zz Zz (Zr _) ?_)
    refine Ch.done ?_
    refine zV ?_;intros
    exact Yz ⟨k+1,_,by omega,rfl,rfl,rfl,rfl,hm.add oo hx rfl⟩ Zi Zw Zb
   ·have hk5:k=all.length:=by omega
    subst hk5
    refine zV ?_;intros
    exact Yap rfl Zb ⟨rfl,rfl,go,gg,gp,m1,m2,_,rfl,hm1,hm2,hm⟩
def Yab (d:Domain) (p:Problem):List Param:=d.constants++p.objects
set_option maxHeartbeats 1000000 in
theorem YlF {p:Problem} (hD:DomainR fz d v1 v2 v3 v4 v5 v6) (hP:ProblemR fz p u1 u2 u3 u4 u5 u6 u7) (hc:d.constants.length≤1000000000) (ho:p.objects.length≤1000000000):
 GFn prog 28 [.agg #[.string d.name,v1,v2,v3,v4,v5,v6],.agg #[.string p.name,.string p.domain,u1,u2,u3,.string p.goal.op,.string p.goal.name,u4,u5,u6,u7]] fz [] (fun v fz' H'=>Grow paramL 110 fz' v (d.constants.length+p.objects.length) H' (Yab d p)):=by
 obtain ⟨A1,n1,b1,rfl,i1⟩:=hD.types
 obtain ⟨A2,n2,b2,rfl,i2⟩:=hD.constants
 obtain ⟨A3,n3,b3,rfl,i3⟩:=hD.predicates
 obtain ⟨A4,n4,b4,rfl,i4⟩:=hD.functions
 obtain ⟨A5,n5,b5,rfl,i5⟩:=hD.actions
 obtain ⟨A6,n6,b6,rfl,i6⟩:=hD.duratives
 obtain ⟨B1,m1,d1,rfl,j1⟩:=hP.objects
 obtain ⟨B2,m2,d2,rfl,j2⟩:=hP.init
 obtain ⟨B3,m3,d3,rfl,j3⟩:=hP.values
 obtain ⟨B4,m4,d4,rfl,_⟩:=hP.goal.args
 obtain ⟨B5,m5,d5,rfl,_⟩:=hP.goal.params
 obtain ⟨B6,m6,d6,rfl,_⟩:=hP.goal.exprs
 obtain ⟨B7,m7,d7,rfl,_⟩:=hP.goal.kids
 have l2:=i2.len
 have l1:=j1.len
 refine zF Tryz.func28 Tryz.ntmps28 (fun w0=>?_)
 refine Yk (Yr (Ya Zz (Xc _ Zz Zz (fun g2=>?_))))
 refine Ya Zz (Xc _ Zz Zz (fun g3=>?_))
 refine zWO ?_;intros
 refine zWN ?_;intros
 refine Wp.drawK (Hq:=[_,_]) T.mixed Zj Zj Zb ?_
 refine zW ?_;intros
 refine Yf ?_
 refine zW ?_;intros
 refine Yf ?_
 refine Yf ?_
 refine YM ⟨by kernel_rfl,?_⟩
 refine Yt (Ym [] [_,_] Zz Zz Zz (YaP i2 Zi) (fun v6 fz6 H6 hle6 hR6=>⟨(⟨hle6,Zx⟩),?_⟩))
 obtain ⟨Av,cv,rfl,_,_⟩:=hR6.form
 refine Yt (WF T (Hr:=[_,_]) Zz Zz Zz Zz Zz Zz Zz Zz Zq hR6 WE (j1.mono hle6) (by show _*32≤_;omega) Zi (fun v7 H7 hO7=>⟨(⟨hle6,Zx⟩),?_⟩))
 obtain ⟨Aw,cw,rfl,_,_⟩:=hO7.form
 refine Ch.qk (⟨hle6,Zx⟩) (YJ Zz ?_)
 refine Ch.done ?_
 refine zW ?_;intros
 exact Yir (H':=H7) (H2:=[_,_]) rfl rfl Zq (fun fz8 hle8 _=>(hO7.mono hle8).of rfl Zi)
def XW (d:Domain) (all:List Param) (p:Problem):Nat→Bs × Int
 | 0=>match Yba d all with | some s=>(s,4) | none=>(⟨#[]⟩,0)
 | 1=>Xr (fun l=>if TwP [] (parN l) then 4 else 0) (Ybw d [])
 | 2=>Xr (fun l=>if ExP d.types l then 0 else 3) (Ybw d all)
 | 3=>YiZ d
 | 4=>Xr (fun n=>n) (numsL d)
 | 5=>Xr idN (YaK d all)
 | 6=>WR d all p
 | _=>YhJ d all p
theorem step1_q {l:List Param} (h:Sl paramL fz A n c l):QFn prog 75 [.slice A n c] fz (errV (if TwP [] (parN l) then 4 else 0)):=by
 refine GFn.quiet ?_
 refine zF Tryz.func75 Tryz.ntmps75 (fun w0=>?_)
 refine zV ?_;intros
 ((refine zG ?_);refine Yw Zz Zz (Yii h (Sl.nil (A:=none) (c:=0) Zi)) ?_)
 refine zV ?_;intros
 exact zR (h:=rfl)
structure LenS (d:Domain) (all:List Param):Prop where
 p:d.predicates.length≤1000000
 f:d.functions.length≤1000000
 o:all.length≤1000000
 a:d.actions.length≤1000000
 u:d.duratives.length≤1000000
theorem stepA0_q {p:Problem} {vf vg vo:Value} (h:CkR fz v d p all vf vp vg vo) (hs:NmS d all) (hl:LenS d all):
 QFn prog 31 [v,.int .i64 0] fz (resV (XW d all p 0)):=by
 have e0:(0:Int)=0:=rfl
 have hr:repV (Yba d all)=resV (XW d all p 0):=by unfold XW;cases Yba d all<;>rfl
 refine GFn.quiet ?_
 refine zF Tryz.func31 Tryz.ntmps31 (fun w0=>?_)
 refine zV ?_;intros
 ((refine zG ?_);refine Yw Zz Zz (names_q h hs ⟨hl.p,hl.f,hl.o,hl.a,hl.u⟩) ?_)
 rw [hr]
 refine zV ?_;intros
 exact ret2 rfl rfl rfl Zb rfl
theorem stepA1_q {p:Problem} {vf vg vo:Value} (h:CkR fz v d p all vf vp vg vo) (hs:NmS d all):
 QFn prog 31 [v,.int .i64 1] fz (resV (XW d all p 1)):=by
 have e0:¬(1:Int)=0:=by decide
 have e1:(1:Int)=1:=rfl
 refine GFn.quiet ?_
 refine zF Tryz.func31 Tryz.ntmps31 (fun w0=>?_)
 refine zV ?_;intros
 ((refine zG ?_);refine Yw Zz Zz (YlQ (ob:=false) (first:=[]) (capt:=[]) (E:=fun l=>if TwP [] (parN l) then 4 else 0) h hs (fun hle hs'=>step1_q hs')) ?_)
 rw [show resV (Xr (fun l=>if TwP [] (parN l) then 4 else 0) (Ybw d (if false=true then all else [])))=resV (XW d all p 1) from rfl]
 refine zV ?_;intros
 exact ret2 rfl rfl rfl Zb rfl
theorem stepA2_q {p:Problem} {vf vg vo:Value} (h:CkR fz v d p all vf vp vg vo) (hF:ForR fz vf d.types) (hs:NmS d all):
 QFn prog 31 [v,.int .i64 2] fz (resV (XW d all p 2)):=by
 have e0:¬(2:Int)=0:=by decide
 have e1:¬(2:Int)=1:=by decide
 have e2:(2:Int)=2:=rfl
 refine GFn.quiet ?_
 refine zF Tryz.func31 Tryz.ntmps31 (fun w0=>?_)
 refine zV ?_;intros
 refine zG ?_;refine WV Zz Zz ?_
 refine zV ?_;intros
 ((refine zG ?_);refine Yw Zz Zz (YlQ (ob:=true) (first:=[v]) (capt:=[]) (E:=fun l=>if ExP d.types l then 0 else 3) h hs (fun hle hs'=>YiS (h.mono hle) (hF.mono hle) hs')) ?_)
 rw [show resV (Xr (fun l=>if ExP d.types l then 0 else 3) (Ybw d (if true=true then all else [])))=resV (XW d all p 2) from rfl]
 refine zV ?_;intros
 exact ret2 rfl rfl rfl Zb rfl
theorem stepA3_q {p:Problem} {vf vg vo:Value} (h:CkR fz v d p all vf vp vg vo) (hs:NmS d all):
 QFn prog 31 [v,.int .i64 3] fz (resV (XW d all p 3)):=by
 have e0:¬(3:Int)=0:=by decide
 have e1:¬(3:Int)=1:=by decide
 have e2:¬(3:Int)=2:=by decide
 have e3:(3:Int)=3:=rfl
 refine GFn.quiet ?_
 refine zF Tryz.func31 Tryz.ntmps31 (fun w0=>?_)
 refine zV ?_;intros
 refine zc (cknd_q h hs) ?_
 rw [show resV (YiZ d)=resV (XW d all p 3) from rfl]
 refine zV ?_;intros
 exact ret2 rfl rfl rfl Zb rfl
theorem stepA4_q {p:Problem} {vf vg vo:Value} (h:CkR fz v d p all vf vp vg vo) (hs:NmS d all) (hn:∀ f∈d.functions,Ya3 f.lo∧Ya3 f.hi):
 QFn prog 31 [v,.int .i64 4] fz (resV (XW d all p 4)):=by
 have e0:¬(4:Int)=0:=by decide
 have e1:¬(4:Int)=1:=by decide
 have e2:¬(4:Int)=2:=by decide
 have e3:¬(4:Int)=3:=by decide
 have e4:(4:Int)=4:=rfl
 refine GFn.quiet ?_
 refine zF Tryz.func31 Tryz.ntmps31 (fun w0=>?_)
 refine zV ?_;intros
 refine zc (YlH h hs hn) ?_
 rw [show resV (Xr (fun n=>n) (numsL d))=resV (XW d all p 4) from rfl]
 refine zV ?_;intros
 exact ret2 rfl rfl rfl Zb rfl
theorem stepA6_q {p:Problem} (h:CkG fz v d p all) (hs:NmS d all) (hpf:∀ f∈d.functions,f.params.length≤64) (hvs:∀ x∈p.values,x.fluent.name.size≤1000∧∀ a∈x.fluent.args,a.size≤1000) (hal:all.length≤1000000000):
 QFn prog 31 [v,.int .i64 6] fz (resV (XW d all p 6)):=by
 have e0:¬(6:Int)=0:=by decide
 have e1:¬(6:Int)=1:=by decide
 have e2:¬(6:Int)=2:=by decide
 have e3:¬(6:Int)=3:=by decide
 have e4:¬(6:Int)=4:=by decide
 have e5:¬(6:Int)=5:=by decide
 have e6:(6:Int)=6:=rfl
 refine GFn.quiet ?_
 refine zF Tryz.func31 Tryz.ntmps31 (fun w0=>?_)
 refine zV ?_;intros
 refine zc (Ykv h hs hpf hvs hal) ?_
 rw [show resV (WR d all p)=resV (XW d all p 6) from rfl]
 refine zV ?_;intros
 exact ret2 rfl rfl rfl Zb rfl
theorem stepA7_q {p:Problem} (h:CkG fz v d p all) (hW:fW p.goal≤1000000000):
 QFn prog 31 [v,.int .i64 7] fz (resV (XW d all p 7)):=by
 have e0:¬(7:Int)=0:=by decide
 have e1:¬(7:Int)=1:=by decide
 have e2:¬(7:Int)=2:=by decide
 have e3:¬(7:Int)=3:=by decide
 have e4:¬(7:Int)=4:=by decide
 have e5:¬(7:Int)=5:=by decide
 have e6:¬(7:Int)=6:=by decide
 refine GFn.quiet ?_
 refine zF Tryz.func31 Tryz.ntmps31 (fun w0=>?_)
 refine zV ?_;intros
 refine zc (cgoal_q h hW) ?_
 rw [show resV (YhJ d all p)=resV (XW d all p 7) from rfl]
 refine zV ?_;intros
 exact ret2 rfl rfl rfl Zb rfl
def ckO (d:Domain) (p:Problem) (v1 v2 v3 v4 v5 v6 u1 u2 u3 u4 u5 u6 u7 vf vp vg vo va:Value):Obj:=.cells #[.string d.name,v1,v2,v3,v4,v5,v6,.string p.name,.string p.domain,u1,u2,u3,.string p.goal.op,.string p.goal.name,u4,u5,u6,u7,vf,vp,vg,vo,va] 94 (0,0)
set_option maxHeartbeats 1000000 in
theorem stepA5_f {gc:Nat} {p:Problem} {vf:Value} {Aa:Option Addr} {na ca:Nat} (hD:DomainR fz d v1 v2 v3 v4 v5 v6) (hP:ProblemR fz p u1 u2 u3 u4 u5 u6 u7) (hall:Sl paramL fz Aa na ca all)
 (hF:ForR fz vf d.types) (hw:WFT d.types) (op:Once (·.name) d.predicates) (of:Once (·.name) d.functions) (oo:Once (·.name) all) (hs:NmS d all) (hWa:∀ a∈d.actions,actW a≤1000000000) (hWd:∀ a∈d.duratives,durW a≤1000000000):
 GFn prog 31 [.pointer (some ⟨gc,0,none⟩),.int .i64 5] fz [(gc,ckO d p v1 v2 v3 v4 v5 v6 u1 u2 u3 u4 u5 u6 u7 vf (.map none) (.map none) (.map none) (.slice Aa na ca))] (fun v fz' H'=>H'=[]∧v=resV (XW d all p 5)∧CkG fz' (.pointer (some ⟨gc,0,none⟩)) d p all):=by
 have e0:¬(5:Int)=0:=by decide
 have e1:¬(5:Int)=1:=by decide
 have e2:¬(5:Int)=2:=by decide
 have e3:¬(5:Int)=3:=by decide
 have e4:¬(5:Int)=4:=by decide
 have e5:(5:Int)=5:=rfl
 unfold ckO
 refine zF Tryz.func31 Tryz.ntmps31 (fun w0=>?_)
 refine zV ?_;intros
 refine Ya Zz (Ym [_] [] Zz Zz Zz (Ymq hD hall op of oo) (fun v6' fz6 H6 hle6 hR6=>?_))
 obtain ⟨rfl,rfl,go,gg,gp,m1,m2,m3,rfl,h1,h2,h3⟩:=hR6
 refine zVX ?_;intros
 refine Wp.freezeAll (H1:=[]) (Zr _) (fun fz8 hle8 hf8=>?_)
 have hG:CkG fz8 (.pointer (some ⟨gc,0,none⟩)) d p all:=⟨⟨vf,.map (some gp),.map (some gg),.map (some go),⟨gc,v1,v2,v3,v4,v5,v6,u1,u2,u3,u4,u5,u6,u7,Aa,na,ca,rfl,hf8 (gc,_) (by simp),hD.mono hle8,hP.mono hle8,hall.mono hle8⟩,hF.mono hle8,
  prdR_of (hf8 (gp,mapS m1) (by simp)) (h1.mono fun y v hv=>by obtain ⟨A,n,c,e,h⟩:=hv;exact ⟨A,n,c,e,h.mono hle8⟩),
  funR_of (hf8 (gg,mapS m2) (by simp)) (h2.mono fun y v hv=>by obtain ⟨A,n,c,e,h⟩:=hv;exact ⟨A,n,c,e,h.mono hle8⟩),
  objR_of (hf8 (go,mapS m3) (by simp)) h3⟩,hw⟩
 refine zV ?_;intros
 refine zc (YmC hG hs hWa hWd) ?_
 rw [show resV (Xr idN (YaK d all))=resV (XW d all p 5) from rfl]
 refine zV ?_;intros
 exact ret2 rfl rfl rfl Zb ⟨rfl,rfl,hG⟩
end Go.Proofs.YtfjopfinkdhmaaaGreatDoor
