/- The texts UT, UV, PSize, QLx, QPl, QLm, laid together. Conditions: none. -/
import Derived.Test.YtacfpcbladaohaaGreatDoorSAT
set_option linter.all false
set_option maxHeartbeats 16000000
noncomputable section
set_option maxRecDepth 20000
open Go.Lx Go.RowKit
attribute [local instance 10] Classical.propDecidable
open Go.Proofs.Tryz (prog)
namespace Go.Proofs.YtacfpcbladaohaaGreatDoor
variable {α:Type} {A B:Option Addr} {fz:FZ} {n i k:Nat} {M:Mn} {W:Wd} {cs:List Value} {d:Domain} {u1 u2 u3 u4 u5 u6 u7 v1 v2 v3 v4 v5 v6 va vk ve vp:Value} {l:List α}
theorem Yl8 {ps:List Param} {c:Nat} (h:Sl paramL fz A n c ps) (hn:n<=2000000):
 GFn prog 69 [Zc A n c] fz [] (fun r fz' H'=>Grow strL 9 fz' r n H' (ps.map (·.name))):=by
 have lp:=h.len;have sp:=h.short;refine zF Tryz.func69 Tryz.ntmps69 (fun w0=>?_);refine zW ?_;refine Yi (fun q σ fz' H'=>∃ (k:Nat) (vo:Value) (Ho:HP),k<=n/\q=n - k/\σ=[(8,Zk k),(7,Zk n),(6,Zc A n c),(3,vo)]/\fz=fz'/\H'=Ho/\Grow strL 9 fz vo k Ho ((ps.take k).map (·.name))) ⟨0,_,[],Z0 _,rfl,rfl,rfl,rfl,Grow.nil _ _ _⟩ Zw Zb ?_;rintro q σ fz' H' ⟨k,vo,Ho,hk,rfl,rfl,rfl,rfl,hG⟩;obtain ⟨Ao,co,rfl,_,_⟩:=hG.form;refine wC ?_ ?_<;>intro c1
 ·obtain ⟨x,hx⟩:=Yc (l:=ps) (k:=k) Zi;refine wI h hx (fun p hp=>?_);refine zL hp ?_;intro cs hcs;obtain ⟨rfl,hR⟩:=Yz hcs;refine zW ?_;intros;refine Ya (Yb (cs:=[Zy x.name]) (fun gc=>?_));refine Ya (YD (Hr:=[_,_]) (d:=x.name) (Zr _) hG WP (.head _) ⟨rfl,hR.name⟩ (fun v' Hs' hO'=>?_));obtain ⟨Av',cv',rfl,_,_⟩:=hO'.form;exact wP (h:=by exact ⟨k+1,_,Hs',by omega,rfl,rfl,rfl,rfl,hO'.of (by rw [List.take_add_one,hx];simp) rfl⟩)
 have hk1:n=k:=by omega
 subst hk1;rw [show ps.take n=ps from Zl Zi] at hG;exact wR (h:=by exact hG)
def nmC (a:Action) (c:Change):List Bs:=c.params.map (·.name)++nmA a
def Yfy (M:Mn) (W:Wd) (a:Action) (as_:List Bs) (c:Change) (ls:List (List Bs)):List Atom:=
 (ls.filter fun l=>holdsW M W (nmC a c) (l++as_) (normV c.when_)).map fun l=>⟨c.name,c.args.map (valN (nmC a c) (l++as_))⟩
def Yfx (M:Mn) (W:Wd) (a:Action) (as_:List Bs) (k:Int) (c:Change):List Atom:=if c.kind=k then Yfy M W a as_ c (tupM M c.params) else []
def fireM (M:Mn) (W:Wd) (a:Action) (as_:List Bs) (k:Int):List Atom:=a.changes.flatMap (Yfx M W a as_ k)
theorem YpU {a:Action} {as_:List Bs} {c:Change} {ls:List (List Bs)}:(Yfy M W a as_ c ls).length<=ls.length:=by
 unfold Yfy;rw [List.length_map];exact List.length_filter_le _ _
theorem YpS {a:Action} {as_:List Bs} {k:Int} {l:List Change} {c:Change} (h:l[i]?=some c):(l.take (i+1)).flatMap (Yfx M W a as_ k)=(l.take i).flatMap (Yfx M W a as_ k)++Yfx M W a as_ k c:=by
 rw [List.take_add_one,h,List.flatMap_append];simp
theorem YnH {a:Action} {as_:List Bs} {c:Change} {ls:List (List Bs)} {l:List Bs} (h:ls[i]?=some l):Yfy M W a as_ c (ls.take (i+1))=Yfy M W a as_ c (ls.take i)++if holdsW M W (nmC a c) (l++as_) (normV c.when_)=true then [⟨c.name,c.args.map (valN (nmC a c) (l++as_))⟩] else []:=by
 unfold Yfy;rw [List.take_add_one,h,List.filter_append,List.map_append];by_cases hh:holdsW M W (nmC a c) (l++as_) (normV c.when_)=true<;>simp [hh]
theorem YjF {ps l:_} (h:l∈tupM M ps):l.length=ps.length:=by
 unfold tupM at h;split at h
 ·cases h
 have:=Yf4 M ps [[]] 0 (by simp) l h;omega
theorem Yio (hm:M.os.length<=6) {ps:List Param} (h:ps.length<=3):(tupM M ps).length<=216:=by
 unfold tupM;split
 ·exact Z0 _
 exact Yl4 hm h
structure FirC (c:Change):Prop where
 p:c.params.length<=3
 w:FmC c.when_
 a:c.args.length<=1000000000
theorem YpR {v vw:Value} {a:Action} {as_:List Bs} {m d:Nat} {kd:Int} (hM:MnR fz v M) (hW:WdR fz W vw) (ha:actionL.rep fz a cs) (hB:Sl strL fz B m d as_) (hl:a.params.length<=as_.length) (h6:as_.length<=1000000) (hC:∀ c∈a.changes,FirC c) (hn:a.changes.length<=1000000):
 GFn prog 50 [v,vw,.agg cs.toArray,Zc B m d,Zk kd] fz [] (fun r fz' H'=>∃ n,n<=216000000/\Grow atomL 67 fz' r n H' (fireM M W a as_ kd)):=by
 have hM0:=hM;have hmany:=hM.many;obtain ⟨⟨g,v1,v2,v3,v4,v5,v6,a7,a8,a9,a10,a11,a12,a13,a14,a15,a16,a17,vf,A,n,c,rfl,hg,hD,hF,hO⟩,hw,hm⟩:=hM;have hW0:=hW;obtain ⟨Wa,wn,wc,Wv,wm,wd,rfl,hWA,hWV⟩:=hW;obtain ⟨A0,n0,c0,A1,n1,c1,A2,n2,c2,A3,n3,c3,A4,n4,c4,A5,n5,c5,rfl,hR⟩:=Ybm ha;obtain ⟨_,_,_,e0,i0⟩:=id hR.params;cases e0;obtain ⟨_,_,_,e5,i5⟩:=id hR.changes;cases e5;have lb:=hB.len;have l0:=i0.len;have l5:=i5.len;have s5:=i5.short;have lnA:(nmA a).length=a.params.length:=by unfold nmA;rw [List.length_map]
 refine zF Tryz.func50 Tryz.ntmps50 (fun w0=>?_);refine pX (fun g6=>?_);refine pY (fun g7=>?_)
 first
 | refine Wp.freezeAll (H1:=[]) (H2:=[_,_]) (Zr _) (fun fz0 hle0 hf0=>?_)
 | refine Seq.freezeAll (H1:=[]) (H2:=[_,_]) (Zr _) (fun fz0 hle0 hf0=>?_)
 have hg7:=hf0 _ (.head _);have hg6:=hf0 _ (.tail _ (.head _));refine zW ?_;refine Yi (fun q σ fz' H'=>∃ (k:Nat) (vo:Value) (mo:Nat) (Ho:HP),k<=n5/\q=n5 - k/\σ=[(22,Zk k),(21,Zk n5),(20,Zc A5 n5 c5),(11,vo),(7,Zp g7),(6,Zp g6),(0,Zp g),(3,Zc B m d),(4,Zk kd)]/\Le fz0 fz'/\H'=Ho/\mo<=k*216/\
  Grow atomL 67 fz' vo mo Ho ((a.changes.take k).flatMap (Yfx M W a as_ kd)))
  ⟨0,_,0,[],Z0 _,rfl,rfl,Zd,rfl,by omega,Grow.nil _ _ _⟩ Zw Zb ?_
 rintro q σ fz1 Ho ⟨k,vo,mo,_,hk,rfl,rfl,hle1,rfl,hmo,hGo⟩;obtain ⟨Ao,co,rfl,_,_⟩:=hGo.form;have hle01:=hle0.trans hle1;refine wC ?_ ?_<;>intro e1;rotate_left 1
 ·have hkn:n5=k:=by omega
  subst hkn;rw [show a.changes.take n5=a.changes from Zl Zi] at hGo;exact wR (h:=by exact ⟨mo,by omega,hGo⟩)
 obtain ⟨x,hx⟩:=Yc (l:=a.changes) (k:=k) Zi;have hxm:=Zm hx;have hxC:=hC x hxm;have hnx:=YpS (M:=M) (W:=W) (a:=a) (as_:=as_) (k:=kd) hx;refine wI (i5.mono hle01) hx (fun p8 hp8=>?_);refine zL hp8 ?_;intro ds hds;have hds0:=hds;obtain ⟨X0,x0,y0,X1,x1,y1,X2,x2,y2,X3,x3,y3,X4,x4,y4,X5,x5,y5,X6,x6,y6,X7,x7,y7,rfl,hXR⟩:=Ycc hds;obtain ⟨_,_,_,e0,j0⟩:=id hXR.params;cases e0;obtain ⟨_,_,_,e0,j5⟩:=id hXR.args;cases e0;have k0:=j0.len;have k5:=j5.len;refine zW ?_;intros;rename_i g13;refine zC ?_ ?_<;>intro e2
 ·have hz:Yfx M W a as_ kd x=[]:=if_neg e2;exact wP (h:=by exact ⟨k+1,_,mo,Ho,by omega,rfl,rfl,hle1,rfl,by omega,by rw [hnx,hz,List.append_nil];exact hGo⟩)
 have hz:Yfx M W a as_ kd x=Yfy M W a as_ x (tupM M x.params):=if_pos Zi;refine zW ?_
 first
 | refine Wp.freezeAll (H1:=Ho) (H2:=[_]) (List.perm_append_singleton _ _).symm (fun fz2 hle2 hf2=>?_)
 | refine Seq.freezeAll (H1:=Ho) (H2:=[_]) (List.perm_append_singleton _ _).symm (fun fz2 hle2 hf2=>?_)
 have hg13:=hf2 _ (.head _);refine wG ?_;refine WM (vs:=[Zy x.when_.op,Zy x.when_.name,Zc X1 x1 y1,Zc X2 x2 y2,Zc X3 x3 y3,Zc X4 x4 y4]) hg13 ?_;refine Ya (Yh [] Ho Zz (YcF (hXR.when_.mono hle2) hxC.w.w) (fun v4 fz4 H4 hle4 hR4=>?_));obtain ⟨rfl,w1,w2,w3,w4,rfl,hN4⟩:=hR4;have hN4':=hN4;obtain ⟨⟨N1,r1,q1,rfl,_⟩,⟨N2,r2,q2,rfl,_⟩,⟨N3,r3,q3,rfl,_⟩,⟨N4,r4,q4,rfl,_⟩⟩:=hN4.sls;refine zW ?_;intros;rename_i g14
 first
 | refine Wp.freezeAll (H1:=Ho) (H2:=[_]) (List.perm_append_singleton _ _).symm (fun fz5 hle5 hf5=>?_)
 | refine Seq.freezeAll (H1:=Ho) (H2:=[_]) (List.perm_append_singleton _ _).symm (fun fz5 hle5 hf5=>?_)
 have hg14:=hf5 _ (.head _);have hle25:=hle4.trans hle5;have hg13':=hle25 _ _ hg13;have hle15:=hle2.trans hle25;have hle05:=hle01.trans hle15;refine zW ?_;refine Ya (Yh [] Ho Zz (Yl3 (hM0.mono hle05) (j0.mono hle15) (by have:=hxC.p;omega)) (fun v6 fz6 H6 hle6 hR6=>?_));obtain ⟨rfl,T6,t6,s6,rfl,iT⟩:=hR6;have lT:=iT.len;have hTl:=Yio (ps:=x.params) hmany hxC.p;have hle56:=hle15.trans hle6;rw [List.nil_append];refine zW ?_;refine Yi (fun q σ fz' H'=>∃ (j:Nat) (vo:Value) (mj:Nat),j<=t6/\q=t6 - j/\σ=[(38,Zk j),(37,Zk t6),(36,Zc T6 t6 s6),(14,Zp g14),(13,Zp g13),(22,Zk k),(21,Zk n5),(20,Zc A5 n5 c5),(11,vo),(7,Zp g7),(6,Zp g6),(0,Zp g),(3,Zc B m d),(4,Zk kd)]/\Le fz6 fz'/\mj<=mo+j/\
  Grow atomL 67 fz' vo mj H' ((a.changes.take k).flatMap (Yfx M W a as_ kd)++Yfy M W a as_ x ((tupM M x.params).take j)))
  ⟨0,_,mo,Z0 _,rfl,rfl,Zd,by omega,(hGo.mono (hle15.trans hle6)).of (by rw [List.take_zero];exact (List.append_nil _).symm) rfl⟩ Zw Zb ?_
 rintro q σ fz7 H7 ⟨j,vj,mj,hj,rfl,rfl,hle7,hmj,hGj⟩;obtain ⟨Aj,cj,rfl,_,_⟩:=hGj.form;have hle17:=hle56.trans hle7;have hle07:=hle01.trans hle17;have hle27:=(hle25.trans hle6).trans hle7;refine wC ?_ ?_<;>intro e3
 ·obtain ⟨l,hl'⟩:=Yc (l:=tupM M x.params) (k:=j) Zi;have hll:=YjF (Zm hl');have hfn:=YnH (M:=M) (W:=W) (a:=a) (as_:=as_) (c:=x) hl';have hg13'':=(hle6.trans hle7) _ _ hg13';have hg14':=(hle6.trans hle7) _ _ hg14;have hg7':=(hle1.trans hle17) _ _ hg7;have hg6':=(hle1.trans hle17) _ _ hg6;refine wI (iT.mono hle7) hl' (fun p9 hp9=>?_)
  ((refine zG ?_);refine XQ hp9 (fun S9 m9 d9 hsl=>?_));have l9:=hsl.len;refine zWN ?_;refine YS [] ?_;refine zW ?_;refine Yj ?_;refine zW ?_;refine Yj (Yj ?_);refine zW ?_;refine Yj ?_;refine zW ?_;refine pU ?_;refine Yf (Yh [] H7 Zz (Yl8 (j0.mono (hle2.trans hle27)) (by have:=hxC.p;omega)) (fun v8 fz8 H8 hle8 hR8=>⟨⟨hle8,by intro p hp;cases hp⟩,?_⟩));obtain ⟨A8,c8,rfl,_,_⟩:=hR8.form;refine Yf (Yh [] (H8++H7) Zz (Yiu (i0.mono (hle07.trans hle8)) Zi) (fun v9 fz9 H9 hle9 hR9=>⟨⟨hle8.trans hle9,by intro p hp;cases hp⟩,?_⟩));obtain ⟨rfl,A9,n9,c9,rfl,i9⟩:=hR9;have l9':=i9.len;rw [List.length_map] at l9';refine Yf (XF T (Hr:=H7) Zz Zz Zz Zz Zz Zz Zz Zz (show (H8++H7).Perm (H7++H8) from Zq) (hR8.mono hle9) WP i9 (by show _*16<=_;have:=hxC.p;omega) (by have:=hxC.p;omega) (fun v10 H10 hO10=>⟨⟨hle8.trans hle9,by intro p hp;cases hp⟩,?_⟩));obtain ⟨A10,c10,rfl,_,_⟩:=hO10.form;refine Yf (Yh [] (H7++H10) Zz (YbN (hsl.mono (hle8.trans hle9)) (by have:=hxC.p;omega)) (fun v11 fz11 H11 hle11 hR11=>⟨⟨(hle8.trans hle9).trans hle11,by intro p hp;cases hp⟩,?_⟩));obtain ⟨A11,c11,rfl,_,_⟩:=hR11.form;have hle711:=(hle8.trans hle9).trans hle11;refine Yf (XF T (Hr:=H7++H10) Zz Zz Zz Zz Zz Zz Zz Zz Zq hR11 WP (hB.mono (hle07.trans hle711)) (by show _*16<=_;have:=hxC.p;omega) (by have:=hxC.p;omega) (fun v12 H12 hO12=>⟨⟨hle711,by intro p hp;cases hp⟩,?_⟩));obtain ⟨A12,c12,rfl,_,_⟩:=hO12.form;refine Ch.qk ⟨hle711,by intro p hp;cases hp⟩ (YE ?_);refine Ch.qk ⟨hle711,by intro p hp;cases hp⟩ (YE ?_);refine Ch.done ?_;refine Ydn ?_
  first
  | refine Wp.freezeAll (H1:=H7) (H2:=H10++H12) (List.Perm.of_eq (List.append_assoc _ _ _)) (fun fz13 hle13 hf13=>?_)
  | refine Seq.freezeAll (H1:=H7) (H2:=H10++H12) (List.Perm.of_eq (List.append_assoc _ _ _)) (fun fz13 hle13 hf13=>?_)
  obtain ⟨B10,d10,e10,iN⟩:=(hO10.mono hle11).sl hle13 (fun p hp=>hf13 p (by simp [hp])) (by have:=hxC.p;omega);injection e10 with e101 e102 e103
  subst e101;subst e103;obtain ⟨B12,d12,e12,iX⟩:=hO12.sl hle13 (fun p hp=>hf13 p (by simp [hp])) (by have:=hxC.p;omega);injection e12 with e121 e122 e123
  subst e121;subst e123;have hnm:x.params.map (·.name)++a.params.map (·.name)=nmC a x:=rfl;rw [hnm] at iN;have hle713:=hle711.trans hle13;have hle013:=hle07.trans hle713;have hlN:(nmC a x).length<=(l++as_).length:=by unfold nmC;rw [List.length_append,List.length_append,List.length_map,lnA];omega
  have hp3:=hxC.p;have hnw:=hxC.w.nw;have hg13b:=hle713 _ _ hg13'';have hg14b:=hle713 _ _ hg14';have hg7b:=hle713 _ _ hg7';have hg6b:=hle713 _ _ hg6';have hNf:=hN4'.mono ((((hle5.trans hle6).trans hle7)).trans hle713);refine wG ?_;refine Xu (YfE _ (Zs _) (hM0.mono hle013) (hW0.mono hle013) hNf iN iX hlN Zi Zi hxC.w.sh) (fun f1=>?_) (fun f1=>?_);rotate_left 1
  ·have hfn':Yfy M W a as_ x ((tupM M x.params).take (j+1))=Yfy M W a as_ x ((tupM M x.params).take j):=by rw [hfn,f1];simp
   exact wP (h:=by exact ⟨j+1,_,mj,by omega,rfl,rfl,hle7.trans hle713,by omega,by rw [hfn'];exact hGj.mono hle713⟩)
  have hfn':Yfy M W a as_ x ((tupM M x.params).take (j+1))=Yfy M W a as_ x ((tupM M x.params).take j)++ [⟨x.name,x.args.map (valN (nmC a x) (l++as_))⟩]:=by rw [hfn,f1];simp
  refine zWN ?_;refine YS [] ?_;refine zW ?_;refine pU ?_;refine Yf (Yh [] H7 Zz (Yic (j5.mono ((hle2.trans hle27).trans hle713)) (by have:=hxC.a;omega) iN iX hlN) (fun v14 fz14 H14 hle14 hR14=>⟨⟨hle14,by intro p hp;cases hp⟩,?_⟩));obtain ⟨rfl,A14,c14,rfl,i14⟩:=hR14;refine Ch.qk ⟨hle14,by intro p hp;cases hp⟩ (Xy ?_);refine Yf (Yb (cs:=[Zy x.name,Zc A14 x5 c14]) (fun gb=>⟨⟨hle14,by intro p hp;cases hp⟩,?_⟩));refine Yf (YD (Hr:=[_]) (d:=⟨x.name,x.args.map (valN (nmC a x) (l++as_))⟩) (Zr _) (hGj.mono (hle713.trans hle14)) YbP (.head _) (Ycg (x:=⟨x.name,x.args.map (valN (nmC a x) (l++as_))⟩) ⟨hXR.name,i14.is⟩) (fun v15 H15 hO15=>⟨⟨hle14,by intro p hp;cases hp⟩,?_⟩));obtain ⟨A15,c15,rfl,_,_⟩:=hO15.form;refine Ch.qk ⟨hle14,by intro p hp;cases hp⟩ (YE ?_);refine Ch.done ?_;exact wP (h:=by exact ⟨j+1,_,mj+1,by omega,rfl,rfl,hle7.trans (hle713.trans hle14),by omega,by rw [hfn',<- List.append_assoc];exact hO15⟩)
 have hjt:t6=j:=by omega
 subst hjt;rw [show (tupM M x.params).take t6=tupM M x.params from Zl Zi] at hGj;exact wP (h:=by exact ⟨k+1,_,mj,H7,by omega,rfl,rfl,hle1.trans (hle15.trans (hle6.trans hle7)),rfl,by omega,by rw [hnx,hz];exact hGj⟩)
structure WB (n:Nat) (W:Wd):Prop where
 na:W.atoms.length<=n
 nv:W.values.length<=n
 a:∀ a∈W.atoms,a.args.length<=1000000000
 v:∀ v∈W.values,v.fluent.args.length<=1000000000
structure ActF (a:Action):Prop where
 c:ActC a
 f:∀ c∈a.changes,FirC c
 many:a.changes.length<=10
structure StepW (M:Mn) (W:Wd) (s:StepM) (a:Action) (W':Wd):Prop where
 mem:∀ x,x∈W'.atoms↔(x∈W.atoms/\x ∉ fireM M W a s.2 2)\/x∈fireM M W a s.2 1
 srt:∃ l,SortedBy cmpA l/\W'.atoms=cptM l
 nv:W'.values.length<=(numL a.changes).length+W.values.length
theorem YpT (hm:M.os.length<=6) {a:Action} {as_:List Bs} {k:Int} (hf:∀ c∈a.changes,FirC c) (hn:a.changes.length<=10):(fireM M W a as_ k).length<=2160:=by
 have h:=YlB (f:=Yfx M W a as_ k) (b:=216) (l:=a.changes) (fun c hc=>by
  unfold Yfx;split
  ·exact Nat.le_trans YpU (Yio hm (hf c hc).p)
  exact Z0 _)
 unfold fireM;exact Nat.le_trans h Zi
theorem YnG {a:Action} {as_:List Bs} {k:Int} (hf:∀ c∈a.changes,FirC c):∀ x∈fireM M W a as_ k,x.args.length<=1000000000:=fun x hx=>by
 obtain ⟨c,hc,h⟩:=List.mem_flatMap.1 hx;unfold Yfx at h;split at h
 ·obtain ⟨l,_,rfl⟩:=List.mem_map.1 h;rw [List.length_map];exact (hf c hc).a
 cases h
theorem apply_f {p:Problem} {vw:Value} {s:StepM} {nb:Nat} (hM:MaxF fz) (hD:DomainR fz d v1 v2 v3 v4 v5 v6) (hP:ProblemR fz p u1 u2 u3 u4 u5 u6 u7) (hS:ChkS d p) (h6:(objsM d p).length<=6) (hc:(YT d p).2=0) (hA:∀ a∈d.actions,ActF a)
 (hW:WdR fz W vw) (hs:Ycp.rep fz s [Zk 0,Zy s.1,va]) (hn:s.2.length<=1000000) (hWB:WB nb W) (hnb:nb<=1900000):
 GFn prog 24 [ZD d v1 v2 v3 v4 v5 v6,ZP p u1 u2 u3 u4 u5 u6 u7,vw,.agg #[Zk 0,Zy s.1,va]] fz [] (fun r fz' H'=>H'=[]/\∃ v e W',r=.tuple #[v,errV e]/\WdR fz' W' v/\(e=0↔∃ a,AppOk (mnM d p) W s a)/\(e=0->WB (nb+3000) W'/\∃ a,AppOk (mnM d p) W s a/\StepW (mnM d p) W s a W')):=by
 have hD0:=hD;have hP0:=hP;have hW0:=hW;have hs0:=hs;obtain ⟨Wa,wn,wc,Wv,wm,wd,rfl,hWA,hWV⟩:=hW;obtain ⟨va',he,hsn,hsa⟩:=hs;simp at he;subst he;obtain ⟨B,m,d',rfl,ia⟩:=hsa;have lW:=hWA.len;have lV:=hWV.len;have ls:=ia.len;have b1:=hWB.na;have b2:=hWB.nv;obtain ⟨⟨A1,n1,b1',rfl,i1⟩,⟨A2,n2,b2',rfl,i2⟩,⟨A3,n3,b3,rfl,i3⟩,⟨A4,n4,b4,rfl,i4⟩,⟨A5,n5,b5,rfl,i5⟩,⟨A6,n6,b6,rfl,i6⟩⟩:=hD.sls;obtain ⟨⟨B1,m1,d1,rfl,j1⟩,⟨B2,m2,d2,rfl,j2⟩,⟨B3,m3,d3,rfl,j3⟩⟩:=hP.sls;obtain ⟨⟨B4,m4,d4,rfl,_⟩,⟨B5,m5,d5,rfl,_⟩,⟨B6,m6,d6,rfl,_⟩,⟨B7,m7,d7,rfl,_⟩⟩:=hP.goal.sls;refine zF Tryz.func24 Tryz.ntmps24 (fun w0=>?_);refine pX (fun g4=>?_);refine pY (fun g5=>?_);refine pY (fun g6=>?_);refine pY (fun g7=>?_);refine zWO ?_;intros;rename_i g8;refine Wp.freezeAll (H1:=[_]) (H2:=[_,_,_,_]) (Zr _) (fun fz0 hle0 hf0=>?_);have hg7:=hf0 _ (.head _);have hg6:=hf0 _ (.tail _ (.head _));have hg5:=hf0 _ (.tail _ (.tail _ (.head _)));have hg4:=hf0 _ (.tail _ (.tail _ (.tail _ (.head _))));refine vK (q:=Ygv (hM.mono hle0) (hD0.mono hle0) (hP0.mono hle0) hS h6) (h:=fun r7 fz7 H7 hle7 hR7=>?_);obtain ⟨rfl,vm,rfl,hMn⟩:=hR7;have hmn:=hMn hc;rw [hc,show errV 0=.nilIface from rfl];have hle07:=hle0.trans hle7;have hg7:=hle7 _ _ hg7;have hg6:=hle7 _ _ hg6;refine zV ?_;refine Ya (Yh [] [_] Zz (appl_f hmn (hW0.mono hle07) (Ycp.mono hle07 hs0) (fun a ha=>(hA a ha).c) hn) (fun v8 fz8 H8 hle8 hR8=>?_));obtain ⟨cs,l,e,a,rfl,ha,hbad,hgood⟩:=hR8;refine Seq.perm (H':=[_]++H8) Zq ?_;by_cases h0:e=0;rotate_left 1
 ·rw [Yq h0];obtain ⟨hno,rfl⟩:=hbad h0;obtain ⟨X0,x0,y0,X1,x1,y1,X2,x2,y2,X3,x3,y3,X4,x4,y4,X5,x5,y5,rfl,hR⟩:=Ybm ha;refine zV ?_;intros;exact YaW T (vs:=[.agg #[Zn,Zn],.iface 86 (Zk e)]) ⟨⟨_,_,1,_,_,_,rfl,rfl,rfl,rfl,rfl,rfl⟩,rfl,trivial⟩ (fun fz3 hle3 hf3=>⟨rfl,_,e,⟨[],[]⟩,by rw [Yq h0],⟨_,_,_,_,_,_,rfl,Sl.nil,Sl.nil⟩,⟨fun h=>absurd h h0,fun ⟨b,hb⟩=>absurd hb (hno b)⟩,fun h=>absurd h h0⟩)
 subst h0;obtain ⟨hok,nv,hGv⟩:=hgood rfl;rw [show errV 0=.nilIface from rfl];have ha0:=ha;obtain ⟨X0,x0,y0,X1,x1,y1,X2,x2,y2,X3,x3,y3,X4,x4,y4,X5,x5,y5,rfl,hR⟩:=Ybm ha;obtain ⟨Av,cv,rfl,_,_⟩:=hGv.form;have hac:=hA a hok.typ.mem;have hlt:=hok.typ.len;have hmany:=hmn.many;have hle08:=hle07.trans hle8;have hg7:=hle8 _ _ hg7;have hg6:=hle8 _ _ hg6;refine zV ?_;intros;rename_i g12;refine Ya (Yh [] (_::_::H8) Zz (YpR (hmn.mono hle8) (hW0.mono hle08) ha0 (ia.mono hle08) Zi hn hac.f (by have:=hac.many;omega)) (fun v9 fz9 H9 hle9 hR9=>?_));obtain ⟨n9,hn9,hG9⟩:=hR9;obtain ⟨A9,c9,rfl,_,_⟩:=hG9.form;refine Seq.freezeAll (H1:=_::_::H8) (H2:=H9) Zq (fun fz10 hle10 hf10=>?_);obtain ⟨B10,d10,e10,iG⟩:=hG9.sl hle10 hf10 Zi;injection e10 with w1 w2 w3
 subst w1;subst w3;have hgone:WdR fz10 ⟨fireM (mnM d p) W a s.2 2,[]⟩ (.agg #[Zc A9 n9 c9,Zn]):=⟨_,_,_,_,_,_,rfl,iG,Sl.nil⟩;have hle810:=hle9.trans hle10;have hle010:=hle08.trans hle810;have hg7:=hle810 _ _ hg7;have hg6:=hle810 _ _ hg6;generalize hgl:fireM (mnM d p) W a s.2 2=gl at*;refine zV ?_;intros;rename_i g14 g15;refine Yi (fun q σ fz' H'=>∃ (k:Nat) (vo:Value) (mo:Nat) (Ho:HP),k<=wn/\q=wn - k/\σ=[(50,Zk k),(49,Zk wn),(48,Zc Wa wn wc),(15,Zp g15),(14,Zp g14),(13,Zc Av nv cv),(12,Zp g12),(10,vm),(8,Zp g8),(7,Zp g7),(6,Zp g6)]/\fz10=fz'/\
  H'=(g15,Zu #[vo,Zn] 56)::(g14,Zu #[Zc A9 n9 c9,Zn] 56)::(g12,Zu #[Zy a.name,Zc X0 x0 y0,Zk a.cost,Zy a.pre.op,Zy a.pre.name,Zc X1 x1 y1,Zc X2 x2 y2,Zc X3 x3 y3,Zc X4 x4 y4,Zc X5 x5 y5] 102)::(g8,Zu #[Zn,Zn] 56)::(H8++Ho)/\mo<=k/\Grow atomL 67 fz' vo mo Ho ((W.atoms.take k).filter fun x=>decide (x ∉ gl)))
  ⟨0,_,0,[],Z0 _,rfl,rfl,rfl,by rw [List.append_nil],Zs _,Grow.nil _ _ _⟩ Zw Zb ?_
 rintro q σ fz1 H' ⟨k,vo,mo,Ho,hk,rfl,rfl,rfl,rfl,hmo,hGo⟩;obtain ⟨Ao,co,rfl,_,_⟩:=hGo.form;refine vC ?_ ?_<;>intro e1
 ·obtain ⟨x,hx⟩:=Yc (l:=W.atoms) (k:=k) Zi;have hxm:=Zm hx;refine vI (hWA.mono hle010) hx (fun p1 hp1=>?_);refine zL hp1 ?_;intro ds hds;obtain ⟨vx,rfl,hRx⟩:=Xp hds;have hRx0:=hRx;obtain ⟨E1,r1,q1,rfl,_⟩:=hRx.args;refine zV ?_;intros;rename_i g17;refine zb (wis_q hgone hRx0) (fun f1=>?_) (fun f1=>?_)
  ·have f1:=Zt f1;exact vP (h:=by exact ⟨k+1,_,mo,Ho,by omega,rfl,rfl,rfl,rfl,by omega,hGo.of (by rw [List.take_add_one,hx,List.filter_append];simp [f1]) rfl⟩)
  have f1:=Zf f1;refine zV ?_;refine Ya (Yb (cs:=[Zy x.name,Zc E1 r1 q1]) (fun gb=>?_));refine Ya (YD (Hr:=_::_::_::_::_::_::H8) (d:=x) (Zr _) hGo YbP (.head _) (Ycg hRx) (fun v' Hs' hO'=>?_));obtain ⟨Av',cv',rfl,_,_⟩:=hO'.form;exact vP (h:=by exact ⟨k+1,_,mo+1,Hs',by omega,rfl,rfl,rfl,rfl,by omega,hO'.of (by rw [List.take_add_one,hx,List.filter_append];simp [f1]) rfl⟩)
 have hkn:wn=k:=by omega
 subst hkn;rw [show W.atoms.take wn=W.atoms from Zl Zi] at hGo;have hFl:=YpT (M:=mnM d p) (W:=W) (a:=a) (as_:=s.2) (k:=1) hmany hac.f hac.many;have hcm:=hac.many;refine zWN ?_;refine YS [_,_,_,_] ?_;refine zW ?_;refine Yj (Yj ?_);refine zW ?_;refine pU ?_;refine Yf (Does.post (Yh [] (_::_::_::_::(H8++Ho)) Zz (YpR (hmn.mono (hle8.trans hle810)) (hW0.mono hle010) (actionL.mono hle810 ha0) (ia.mono hle010) Zi hn hac.f Zi) (fun v6 fz6' H6 hle6' hR6=>⟨(_::_::_::_::(H8++Ho)),H6,Zq,fun fz6 hle6'' hf6=>?_⟩)));obtain ⟨n6,hn6,hG6⟩:=hR6;obtain ⟨B6',d6',rfl,iF⟩:=hG6.sl hle6'' hf6 Zi;have hle6:=hle6'.trans hle6'';have lF:=iF.len;refine ⟨⟨hle6,Zx⟩,?_⟩;refine Yf (XF T (Hr:=_::_::_::_::H8) Zz Zz Zz Zz Zz Zz Zz Zz (Zr _) (hGo.mono hle6) YbP iF (by show _*40<=_;omega) Zi (fun v10 H10 hO10=>⟨⟨hle6,Zx⟩,?_⟩));obtain ⟨A10,c10,rfl,_,_⟩:=hO10.form;refine Ch.hard0 (YP ?_);refine Ch.done ?_;have hg6:=hle6 _ _ hg6;have hle06:=hle010.trans hle6;have hlv:nv=(numL a.changes).length:=by have:=hGv.len;unfold valC at this;rw [List.length_map] at this;exact this.symm
 have hlc:=Ymn a.changes;refine zV ?_;refine Ya (XF T (Hr:=_::_::_::_::H10) Zz Zz Zz Zz Zz Zz Zz Zz ((((List.perm_append_comm.cons _).cons _).cons _).cons _) (hGv.mono (hle810.trans hle6)) Yb1 (hWV.mono hle06) (by show _*48<=_;omega) Zi (fun v11 H11 hO11=>?_));obtain ⟨A11,c11,rfl,_,_⟩:=hO11.form;refine zV ?_;refine Seq.freezeAll (H1:=[_,_,_,_]) (H2:=H10++H11) (Zr _) (fun fz12 hle12 hf12=>?_);obtain ⟨B12,d12,e12,iA⟩:=hO10.sl hle12 (fun p hp=>hf12 p (by simp [hp])) Zi;injection e12 with w1 w2 w3
 subst w1;subst w3;obtain ⟨B13,d13,e13,iV⟩:=hO11.sl hle12 (fun p hp=>hf12 p (by simp [hp])) Zi;injection e13 with w1 w2 w3
 subst w1;subst w3;have hfl:((W.atoms).filter fun x=>decide (x ∉ gl)).length<=W.atoms.length:=List.length_filter_le _ _;have hvl:(valC (mnM d p).d W (nmA a) s.2 a.changes).length=(numL a.changes).length:=by unfold valC;rw [List.length_map]
 have hva:∀ v∈valC (mnM d p).d W (nmA a) s.2 a.changes,v.fluent.args.length<=1000000000:=fun v hv=>by
  obtain ⟨c,hc,rfl⟩:=List.mem_map.1 hv;show (c.args.map _).length<=_;rw [List.length_map];exact (hac.c.c c (List.mem_filter.1 hc).1).args
 have hfa:=YnG (M:=mnM d p) (W:=W) (a:=a) (as_:=s.2) (k:=1) hac.f;have hwm:WdSm ⟨(W.atoms.filter fun x=>decide (x ∉ gl))++fireM (mnM d p) W a s.2 1,valC (mnM d p).d W (nmA a) s.2 a.changes++W.values⟩:=
  {na:=by rw [List.length_append];omega
   nv:=by rw [List.length_append];omega
   a:=fun y hy=>by
    rcases List.mem_append.1 hy with hy | hy
    ·exact hWB.a y (List.mem_filter.1 hy).1
    exact hfa y hy
   v:=fun y hy=>by
    rcases List.mem_append.1 hy with hy | hy
    ·exact hva y hy
    exact hWB.v y hy}
 refine Ya (Yh [] [_,_,_,_] Zz (Yn0 ⟨_,_,_,_,_,_,rfl,iA,iV⟩ hwm) (fun v13 fz13 H13 hle13 hR13=>?_));obtain ⟨rfl,W',hW',⟨lw,hp1,hs1,he1⟩,hp2⟩:=hR13;have hW0':=hW';obtain ⟨C1,k1,q1,C2,k2,q2,rfl,_,_⟩:=hW';refine zV ?_;refine YaW T (vs:=[.agg #[Zc C1 k1 q1,Zc C2 k2 q2],.nilIface]) ⟨⟨_,_,3,_,_,_,rfl,rfl,rfl,rfl,rfl,rfl⟩,rfl,trivial⟩ (fun fz14 hle14 hf14=>⟨rfl,_,0,W',rfl,hW0'.mono hle14,⟨fun _=>⟨a,hok⟩,fun _=>rfl⟩,fun _=>⟨?_,a,hok,⟨fun x=>?_,⟨lw,hs1,he1⟩,?_⟩⟩⟩)
 ·have hd:=YfT (valC (mnM d p).d W (nmA a) s.2 a.changes++W.values) [];have hcl:=Yjd lw lw.length;have hpl:=hp1.length_eq;rw [List.length_append] at hpl;exact
   {na:=by rw [he1];show (cpt lw lw.length).length<=_;omega
    nv:=by
     rw [hp2.length_eq];have h2:(dedV (valC (mnM d p).d W (nmA a) s.2 a.changes++W.values)).length<=0+(valC (mnM d p).d W (nmA a) s.2 a.changes++W.values).length:=hd.2;rw [List.length_append] at h2;show (dedV (valC (mnM d p).d W (nmA a) s.2 a.changes++W.values)).length<=_;omega
    a:=fun y hy=>by
     rw [he1,YfU,hp1.mem_iff] at hy;exact hwm.a y hy
    v:=fun y hy=>by
     rw [hp2.mem_iff] at hy;rcases hd.1 y hy with h | h
     ·cases h
     exact hwm.v y h}
 ·rw [he1,YfU,hp1.mem_iff,List.mem_append,List.mem_filter,<- hgl];simp
 have hd:(dedV (valC (mnM d p).d W (nmA a) s.2 a.changes++W.values)).length<=0+(valC (mnM d p).d W (nmA a) s.2 a.changes++W.values).length:=(YfT (valC (mnM d p).d W (nmA a) s.2 a.changes++W.values) []).2;rw [List.length_append] at hd;rw [hp2.length_eq];show (dedV (valC (mnM d p).d W (nmA a) s.2 a.changes++W.values)).length<=_;omega
theorem Yip {w:α->Nat}:((l.take k).map w).sum<=(l.map w).sum:=by
 conv=>rhs;rw [<- List.take_append_drop k l]
 rw [List.map_append,List.sum_append];omega
theorem Yiq {w:α->Nat} {x:α} (hx:l[k]?=some x):((l.take (k+1)).map w).sum=((l.take k).map w).sum+w x:=by
 rw [List.take_add_one,hx];simp
mutual
theorem ecount_le:∀ e:Lx.Expr,ecount e<=eW e
 | .mk a b c args kids=>by have:=ecountL_le kids;rw [ecount,eW];omega
theorem ecountL_le:∀ l:List Lx.Expr,ecountL l<=eWL l
 | []=>by simp [ecountL]
 | x::r=>by have h1:=ecount_le x;have h2:=ecountL_le r;rw [ecountL,eWL];omega
end
mutual
theorem fcount_le:∀ f:Formula,fcount f<=fW f
 | .mk a b c d exprs kids=>by have h1:=ecountL_le exprs;have h2:=fcountL_le kids;rw [fcount,fW];omega
theorem fcountL_le:∀ l:List Formula,fcountL l<=fWL l
 | []=>by simp [fcountL]
 | x::r=>by have h1:=fcount_le x;have h2:=fcountL_le r;rw [fcountL,fWL];omega
end
theorem Yoy:∀ (s:Nat) {fz:FZ} {e:Lx.Expr} {va vk:Value},SizeOf.sizeOf e<=s->ExprR fz e va vk->ecount e<=1000000000000->
 QFn prog 14 [.agg #[Zy e.op,Zy e.name,Zk e.n,va,vk]] fz (Zk (ecount e))
 | 0,_,e,_,_,hs,_,_=>by cases e;simp at hs
 | s+1,fz,e,va,vk,hs,h,hc=>by
  obtain ⟨⟨A,n,ca,rfl,ha⟩,⟨B,m,cb,rfl,hk⟩⟩:=h.sls;refine GFn.quiet ?_;have lk:=hk.len;have sk:=hk.short;have ec:=Yc2 e;refine zF Tryz.func14 Tryz.ntmps14 (fun w0=>?_);refine pX (fun g0=>?_);refine zW ?_;refine Yi (fun q σ fz' H'=>∃ (k:Nat) (c:Int),k<=m/\q=m - k/\σ=[(4,Zk k),(3,Zk c),(1,Zp g0)]/\fz=fz'/\H'=[(g0,Zu #[Zy e.op,Zy e.name,Zk e.n,Zc A n ca,Zc B m cb] 61)]/\c=((1+ecountL (e.kids.take k):Nat):Int)) ⟨0,_,Z0 _,rfl,rfl,rfl,rfl,rfl⟩ Zw Zb ?_;rintro q σ fz' H' ⟨k,c,hkm,rfl,rfl,rfl,rfl,hh⟩;refine wC ?_ ?_<;>intro c1
  ·obtain ⟨x,hx⟩:=Yc (l:=e.kids) (k:=k) Zi;have hxm:=Zm hx;have hlt:=Lx.Expr.kids_lt hxm;have hst:=Yc4 hx;have htk:=Yc3 (l:=e.kids) (k:=k+1);refine wI hk hx (fun p1 hp1=>?_);refine zL hp1 ?_;intro cs hcs;obtain ⟨wa,wk,rfl,hRx⟩:=Yw hcs;refine wG ?_;refine Yu (Yoy s Zi hRx Zi) ?_;exact wP (h:=by exact ⟨k+1,c+(ecount x:Nat),by omega,rfl,rfl,rfl,rfl,by omega⟩)
  rw [Zl Zi] at hh;exact wR (h:=by rw [hh,ec])
theorem Yox {e:Lx.Expr} (h:ExprR fz e va vk) (hc:ecount e<=1000000000000):
 QFn prog 14 [.agg #[Zy e.op,Zy e.name,Zk e.n,va,vk]] fz (Zk (ecount e)):=Yoy _ (Zs _) h hc
theorem size_f:∀ (s:Nat) {fz:FZ} {f:Formula} {va vp ve vk:Value},SizeOf.sizeOf f<=s->FormulaR fz f va vp ve vk->fcount f<=1000000000000->
 QFn prog 5 [.agg #[Zy f.op,Zy f.name,va,vp,ve,vk]] fz (Zk (fcount f))
 | 0,_,e,_,_,_,_,hs,_,_=>by cases e;simp at hs
 | s+1,fz,f,va,vp,ve,vk,hs,h,hc=>by
  obtain ⟨⟨A,n,ca,rfl,ha⟩,⟨B,m,cb,rfl,hp⟩,⟨C,r,cr,rfl,he⟩,⟨D,q0,cq,rfl,hk⟩⟩:=h.sls;refine GFn.quiet ?_;have lk:=hk.len;have sk:=hk.short;have le:=he.len;have se:=he.short;have ec:=Yem f;refine zF Tryz.func5 Tryz.ntmps5 (fun w0=>?_);refine pX (fun g0=>?_);refine zW ?_;refine Yi (fun q σ fz' H'=>∃ (k:Nat) (c:Int),k<=r/\q=r - k/\σ=[(4,Zk k),(3,Zk c),(1,Zp g0)]/\fz=fz'/\H'=[(g0,Zu #[Zy f.op,Zy f.name,Zc A n ca,Zc B m cb,Zc C r cr,Zc D q0 cq] 35)]/\c=((1+ecountL (f.exprs.take k):Nat):Int)) ⟨0,_,Z0 _,rfl,rfl,rfl,rfl,rfl⟩ Zw Zb ?_;rintro q σ fz' H' ⟨k,c,hkm,rfl,rfl,rfl,rfl,hh⟩;refine wC ?_ ?_<;>intro c1
  ·obtain ⟨x,hx⟩:=Yc (l:=f.exprs) (k:=k) Zi;have hxm:=Zm hx;have hst:=Yc4 hx;have htk:=Yc3 (l:=f.exprs) (k:=k+1);refine wI he hx (fun p1 hp1=>?_);refine zL hp1 ?_;intro cs hcs;obtain ⟨wa,wk,rfl,hRx⟩:=Yw hcs;refine wG ?_;refine Yu (Yox hRx Zi) ?_;exact wP (h:=by exact ⟨k+1,c+(ecount x:Nat),by omega,rfl,rfl,rfl,rfl,by omega⟩)
  rw [Zl Zi] at hh;refine zW ?_;refine Yi (fun q σ fz' H'=>∃ (k:Nat) (c:Int),k<=q0/\q=q0 - k/\σ=[(5,Zk k),(3,Zk c),(1,Zp g0)]/\fz=fz'/\H'=[(g0,Zu #[Zy f.op,Zy f.name,Zc A n ca,Zc B m cb,Zc C r cr,Zc D q0 cq] 35)]/\c=((1+ecountL f.exprs+fcountL (f.kids.take k):Nat):Int)) ⟨0,c,Z0 _,rfl,rfl,rfl,rfl,by rw [hh];simp [fcountL]⟩ Zw Zb ?_;rintro q σ fz' H' ⟨k,c,hkm,rfl,rfl,rfl,rfl,hh⟩;refine wC ?_ ?_<;>intro c2
  ·obtain ⟨x,hx⟩:=Yc (l:=f.kids) (k:=k) Zi;have hxm:=Zm hx;have hlt:=Formula.kids_lt hxm;have hst:=Yfo hx;have htk:=Yfn (l:=f.kids) (k:=k+1);refine wI hk hx (fun p1 hp1=>?_);refine zL hp1 ?_;intro cs hcs;obtain ⟨w1,w2,w3,w4,rfl,hRx⟩:=Yn hcs;refine wG ?_;refine Yu (size_f s Zi hRx Zi) ?_;exact wP (h:=by exact ⟨k+1,c+(fcount x:Nat),by omega,rfl,rfl,rfl,rfl,by omega⟩)
  rw [Zl Zi] at hh;exact wR (h:=by rw [hh,ec])
theorem Ydv {f:Formula} (h:FormulaR fz f va vp ve vk) (hc:fcount f<=1000000000000):
 QFn prog 5 [.agg #[Zy f.op,Zy f.name,va,vp,ve,vk]] fz (Zk (fcount f)):=size_f _ (Zs _) h hc
def hvC (c:Change):Nat:=1+c.params.length+c.args.length+fcount c.when_+ecount c.value
def YbL (l:List Change):Nat:=(l.map hvC).sum
theorem hvC_le (c:Change):hvC c<=1*YW c:=by
 have h1:=fcount_le c.when_;have h2:=ecount_le c.value;unfold hvC YW;omega
theorem YgN (l:List Change):YbL l<=(l.map YW).sum:=by
 have:=Yir hvC_le l;unfold YbL;omega
theorem Yly {ca:Nat} {l:List Change} (h1:Sl changeL fz A n ca l) (hc:YbL l<=1000000000000):
 QFn prog 83 [Zc A n ca] fz (Zk (YbL l)):=by
 refine GFn.quiet ?_;have l1:=h1.len;have s1:=h1.short;refine zF Tryz.func83 Tryz.ntmps83 (fun w0=>?_);refine zW ?_;refine Yi (fun q σ fz' H'=>∃ (k:Nat) (c:Int),k<=n/\q=n - k/\σ=[(4,Zk k),(3,Zk c),(0,Zc A n ca)]/\fz=fz'/\H'=[]/\c=((((l.take k).map hvC).sum:Nat):Int)) ⟨0,_,Z0 _,rfl,rfl,rfl,rfl,rfl⟩ Zw Zb ?_;rintro q σ fz' H' ⟨k,c,hkm,rfl,rfl,rfl,rfl,hh⟩;refine wC ?_ ?_<;>intro c1
 ·obtain ⟨x,hx⟩:=Yc (l:=l) (k:=k) Zi;have hst:=Yiq (w:=hvC) hx;have htk:=Yip (w:=hvC) (l:=l) (k:=k+1);unfold YbL at hc;have hvx:hvC x=1+x.params.length+x.args.length+fcount x.when_+ecount x.value:=rfl;refine wI h1 hx (fun p1 hp1=>?_);refine wG ?_;refine XQ hp1.Change_params (fun P1 pn1 pc1 ip=>?_);have lp:=ip.len;refine wI h1 hx (fun p2 hp2=>?_);refine wG ?_;refine XQ hp2.Change_args (fun P2 pn2 pc2 ia=>?_);have la:=ia.len;refine wI h1 hx (fun p3 hp3=>?_);refine wL hp3.Change_when_ ?_;intro cs3 hcs3;obtain ⟨w1,w2,w3,w4,rfl,hR3⟩:=Yn hcs3
  ((refine zG ?_);refine Yu (Ydv hR3 Zi) ?_);refine wI h1 hx (fun p4 hp4=>?_);refine wL hp4.Change_value ?_;intro cs4 hcs4;obtain ⟨u1,u2,rfl,hR4⟩:=Yw hcs4
  ((refine zG ?_);refine Yu (Yox hR4 Zi) ?_);exact wP (h:=by exact ⟨k+1,c+(1+pn1+pn2+(fcount x.when_:Nat)+(ecount x.value:Nat)),by omega,rfl,rfl,rfl,rfl,by omega⟩)
 rw [Zl Zi] at hh;exact wR (h:=by rw [hh];rfl)
def laA (a:Action):Nat:=1+fcount a.pre+YbL a.changes
def laU (a:Durative):Nat:=1+fcount a.start+fcount a.over+fcount a.fin+YbL a.atStart+YbL a.atEnd
def Ykl (d:Domain) (p:Problem):Nat:=d.types.length+d.constants.length+d.predicates.length+d.functions.length+p.objects.length+p.init.length+p.values.length+fcount p.goal+(d.actions.map laA).sum+(d.duratives.map laU).sum
theorem laA_le (a:Action):laA a<=1*actW a:=by
 have h1:=fcount_le a.pre;have h2:=YgN a.changes;unfold laA actW;omega
theorem laU_le (a:Durative):laU a<=1*durW a:=by
 have h1:=fcount_le a.start;have h2:=fcount_le a.over;have h3:=fcount_le a.fin;have h4:=YgN a.atStart;have h5:=YgN a.atEnd;unfold laU durW;omega
theorem Ypi (d:Domain) (p:Problem):Ykl d p<=domW d+prbW p:=by
 have h1:=Yir laA_le d.actions;have h2:=Yir laU_le d.duratives;have h3:=fcount_le p.goal;have h4:=XH Yj3 d.predicates;have h5:=XH YmD d.functions;have h6:=XH YkS p.init;have h7:=XH YhD p.values;unfold Ykl domW prbW;omega
theorem Ynv {p:Problem} (h:DomainR fz d v1 v2 v3 v4 v5 v6) (hp:ProblemR fz p u1 u2 u3 u4 u5 u6 u7) (hn:Ykl d p<=1000000000000:=by omega):
 QFn prog 33 [ZD d v1 v2 v3 v4 v5 v6,ZP p u1 u2 u3 u4 u5 u6 u7] fz (Zo (decide (2000<Ykl d p))):=by
 obtain ⟨A1,n1,b1,rfl,i1⟩:=h.types;have l1:=i1.len;obtain ⟨A2,n2,b2,rfl,i2⟩:=h.constants;have l2:=i2.len;obtain ⟨A3,n3,b3,rfl,i3⟩:=h.predicates;have l3:=i3.len;obtain ⟨A4,n4,b4,rfl,i4⟩:=h.functions;have l4:=i4.len;obtain ⟨A5,n5,b5,rfl,i5⟩:=h.actions;have l5:=i5.len;obtain ⟨A6,n6,b6,rfl,i6⟩:=h.duratives;have l6:=i6.len;have s5:=i5.short;have s6:=i6.short;obtain ⟨C1,m1,e1,rfl,j1⟩:=hp.objects;have k1:=j1.len;obtain ⟨C2,m2,e2,rfl,j2⟩:=hp.init;have k2:=j2.len;obtain ⟨C3,m3,e3,rfl,j3⟩:=hp.values;have k3:=j3.len;have hg:=hp.goal;obtain ⟨⟨U1,w1,z1,rfl,_⟩,⟨U2,w2,z2,rfl,_⟩,⟨U3,w3,z3,rfl,_⟩,⟨U4,w4,z4,rfl,_⟩⟩:=hp.goal.sls;refine GFn.quiet ?_;have hnn:Ykl d p=d.types.length+d.constants.length+d.predicates.length+d.functions.length+p.objects.length+p.init.length+p.values.length+fcount p.goal+(d.actions.map laA).sum+(d.duratives.map laU).sum:=rfl;refine zF Tryz.func33 Tryz.ntmps33 (fun w0=>?_);refine pX (fun g0=>?_);refine pY (fun g1=>?_);refine wG ?_;refine Ye (vs:=[Zy p.goal.op,Zy p.goal.name,Zc U1 w1 z1,Zc U2 w2 z2,Zc U3 w3 z3,Zc U4 w4 z4]) 0 ?_
 ((refine zG ?_);refine Yu (Ydv hg Zi) ?_);refine zW ?_;refine Yi (fun q σ fz' H'=>∃ (k:Nat) (c:Int),k<=n5/\q=n5 - k/\σ=[(6,Zk k),(5,Zk c),(2,Zp g0)]/\fz=fz'/\H'=[(g0,Zu #[Zy d.name,Zc A1 n1 b1,Zc A2 n2 b2,Zc A3 n3 b3,Zc A4 n4 b4,Zc A5 n5 b5,Zc A6 n6 b6] 28)]/\c=((n1+n2+n3+n4+m1+m2+m3+fcount p.goal+((d.actions.take k).map laA).sum:Nat):Int)) ⟨0,(n1:Int)+n2+n3+n4+m1+m2+m3+(fcount p.goal:Nat),Z0 _,rfl,rfl,rfl,rfl,by simp⟩ Zw (List.Sublist.cons _ (List.Sublist.refl _)) ?_;rintro q σ fz' H' ⟨k,c,hkm,rfl,rfl,rfl,rfl,hh⟩;refine wC ?_ ?_<;>intro c1
 ·obtain ⟨x,hx⟩:=Yc (l:=d.actions) (k:=k) Zi;have hst:=Yiq (w:=laA) hx;have htk:=Yip (w:=laA) (l:=d.actions) (k:=k+1);have hvx:laA x=1+fcount x.pre+YbL x.changes:=rfl;refine wI i5 hx (fun pp1 hp1=>?_);refine wL hp1.Action_pre ?_;intro cs1 hcs1;obtain ⟨s1,s2,s3,s4,rfl,hR1⟩:=Yn hcs1
  ((refine zG ?_);refine Yu (Ydv hR1 Zi) ?_);refine wI i5 hx (fun pp2 hp2=>?_);refine wG ?_;refine XQ hp2.Action_changes (fun P2 pn2 pc2 ic=>?_)
  ((refine zG ?_);refine Yu (Yly ic Zi) ?_);exact wP (h:=by exact ⟨k+1,c+(1+(fcount x.pre:Nat)+(YbL x.changes:Nat)),by omega,rfl,rfl,rfl,rfl,by omega⟩)
 rw [Zl Zi] at hh;refine zW ?_;refine Yi (fun q σ fz' H'=>∃ (k:Nat) (c:Int),k<=n6/\q=n6 - k/\σ=[(7,Zk k),(5,Zk c),(2,Zp g0)]/\fz=fz'/\H'=[(g0,Zu #[Zy d.name,Zc A1 n1 b1,Zc A2 n2 b2,Zc A3 n3 b3,Zc A4 n4 b4,Zc A5 n5 b5,Zc A6 n6 b6] 28)]/\c=((n1+n2+n3+n4+m1+m2+m3+fcount p.goal+(d.actions.map laA).sum+((d.duratives.take k).map laU).sum:Nat):Int)) ⟨0,c,Z0 _,rfl,rfl,rfl,rfl,by rw [hh];simp⟩ Zw Zb ?_;rintro q σ fz' H' ⟨k,c,hkm,rfl,rfl,rfl,rfl,hh⟩;refine wC ?_ ?_<;>intro c2
 ·obtain ⟨x,hx⟩:=Yc (l:=d.duratives) (k:=k) Zi;have hst:=Yiq (w:=laU) hx;have htk:=Yip (w:=laU) (l:=d.duratives) (k:=k+1);have hvx:laU x=1+fcount x.start+fcount x.over+fcount x.fin+YbL x.atStart+YbL x.atEnd:=rfl;refine wI i6 hx (fun pp1 hp1=>?_);refine zL hp1 ?_;intro cs1 hcs1;obtain ⟨r0,r1,r2,r3,r4,r5,r6,r7,r8,r9,r10,r11,r12,r13,r14,rfl,hR⟩:=Xx hcs1;obtain ⟨P,p1,q1,rfl,ip⟩:=hR.params;have hS1:=hR.start;have hS2:=hR.over;have hS3:=hR.fin;obtain ⟨⟨V1,a1,y1,rfl,_⟩,⟨V2,a2,y2,rfl,_⟩,⟨V3,a3,y3,rfl,_⟩,⟨V4,a4,y4,rfl,_⟩⟩:=hR.start.sls;obtain ⟨⟨V5,a5,y5,rfl,_⟩,⟨V6,a6,y6,rfl,_⟩,⟨V7,a7,y7,rfl,_⟩,⟨V8,a8,y8,rfl,_⟩⟩:=hR.over.sls;obtain ⟨⟨V9,a9,y9,rfl,_⟩,⟨V10,a10,y10,rfl,_⟩,⟨V11,a11,y11,rfl,_⟩,⟨V12,a12,y12,rfl,_⟩⟩:=hR.fin.sls;obtain ⟨V13,a13,y13,rfl,ia⟩:=hR.atStart;obtain ⟨V14,a14,y14,rfl,ie⟩:=hR.atEnd;refine zW ?_;intros
  ((refine zG ?_);refine Ye (vs:=[Zy x.start.op,Zy x.start.name,Zc V1 a1 y1,Zc V2 a2 y2,Zc V3 a3 y3,Zc V4 a4 y4]) 0 ?_);refine wG ?_;refine Yu (Ydv hS1 Zi) ?_;refine wG ?_;refine Ye (vs:=[Zy x.over.op,Zy x.over.name,Zc V5 a5 y5,Zc V6 a6 y6,Zc V7 a7 y7,Zc V8 a8 y8]) 0 ?_;refine wG ?_;refine Yu (Ydv hS2 Zi) ?_;refine wG ?_;refine Ye (vs:=[Zy x.fin.op,Zy x.fin.name,Zc V9 a9 y9,Zc V10 a10 y10,Zc V11 a11 y11,Zc V12 a12 y12]) 0 ?_;refine wG ?_;refine Yu (Ydv hS3 Zi) ?_;refine wG ?_;refine Yu (Yly ia Zi) ?_;refine wG ?_;refine Yu (Yly ie Zi) ?_;exact wP (h:=by exact ⟨k+1,c+(1+(fcount x.start:Nat)+(fcount x.over:Nat)+(fcount x.fin:Nat)+(YbL x.atStart:Nat)+(YbL x.atEnd:Nat)),by omega,rfl,rfl,rfl,rfl,by omega⟩)
 rw [Zl Zi] at hh;refine wC ?_ ?_<;>intro c3
 ·exact wR (h:=by exact Ym Zi)
 exact wR (h:=by exact Yg Zi)
mutual
def spreadM:Formula->Nat
 | .mk _ _ _ params _ kids=>spreadL kids+params.length
def spreadL:List Formula->Nat
 | []=>0
 | k::r=>max (spreadM k) (spreadL r)
end
mutual
theorem spread_le:∀ f:Formula,spreadM f<=fW f
 | .mk a b c d exprs kids=>by have h:=spreadL_le kids;rw [spreadM,fW];omega
theorem spreadL_le:∀ l:List Formula,spreadL l<=fWL l
 | []=>by simp [spreadL]
 | x::r=>by have h1:=spread_le x;have h2:=spreadL_le r;rw [spreadL,fWL];omega
end
theorem kid_fW {f k:Formula} (h:k∈f.kids):fW k<=fW f:=by
 have:=Y2 (w:=fW) h;rw [Ya6 f];omega
theorem YjK (f:Formula):spreadM f=spreadL f.kids+f.params.length:=by cases f;rw [spreadM];rfl
theorem Yf8:∀ (a b:List Formula),spreadL (a++b)=max (spreadL a) (spreadL b)
 | [],b=>by simp [spreadL]
 | x::a,b=>by rw [List.cons_append,spreadL,spreadL,Yf8 a b];omega
theorem Yfd {l:List Formula} {x:Formula} (hx:l[k]?=some x):spreadL (l.take (k+1))=max (spreadL (l.take k)) (spreadM x):=by
 rw [List.take_add_one,hx,Yf8];simp [spreadL]
theorem Yl7:∀ (s:Nat) {fz:FZ} {f:Formula} {va vp ve vk:Value},SizeOf.sizeOf f<=s->FormulaR fz f va vp ve vk->fW f<=1000000000000->
 QFn prog 34 [.agg #[Zy f.op,Zy f.name,va,vp,ve,vk]] fz (Zk (spreadM f))
 | 0,_,e,_,_,_,_,hs,_,_=>by cases e;simp at hs
 | s+1,fz,f,va,vp,ve,vk,hs,h,hc=>by
  obtain ⟨⟨A,n,ca,rfl,ha⟩,⟨B,m,cb,rfl,hp⟩,⟨C,r,cr,rfl,he⟩,⟨D,q0,cq,rfl,hk⟩⟩:=h.sls;refine GFn.quiet ?_;have lk:=hk.len;have sk:=hk.short;have lp:=hp.len;have ec:=YjK f;have el:=spread_le f;refine zF Tryz.func34 Tryz.ntmps34 (fun w0=>?_);refine pX (fun g0=>?_);refine zW ?_;refine Yi (fun q σ fz' H'=>∃ (k:Nat) (c:Int),k<=q0/\q=q0 - k/\σ=[(4,Zk k),(3,Zk c),(1,Zp g0)]/\fz=fz'/\H'=[(g0,Zu #[Zy f.op,Zy f.name,Zc A n ca,Zc B m cb,Zc C r cr,Zc D q0 cq] 35)]/\c=((spreadL (f.kids.take k):Nat):Int)) ⟨0,_,Z0 _,rfl,rfl,rfl,rfl,rfl⟩ Zw Zb ?_;rintro q σ fz' H' ⟨k,c,hkm,rfl,rfl,rfl,rfl,hh⟩;refine wC ?_ ?_<;>intro c1
  ·obtain ⟨x,hx⟩:=Yc (l:=f.kids) (k:=k) Zi;have hxm:=Zm hx;have hlt:=Formula.kids_lt hxm;have hst:=Yfd hx;have hxw:=kid_fW hxm;refine wI hk hx (fun p1 hp1=>?_);refine zL hp1 ?_;intro cs hcs;obtain ⟨w1,w2,w3,w4,rfl,hRx⟩:=Yn hcs;refine wG ?_;refine Yu (Yl7 s Zi hRx Zi) ?_;exact wP (h:=by exact ⟨k+1,max c (spreadM x:Nat),by omega,rfl,rfl,rfl,rfl,by omega⟩)
  rw [Zl Zi] at hh;exact wR (h:=by rw [hh,ec];exact congrArg (Value.int .i64) Zi)
theorem Yit {f:Formula} (h:FormulaR fz f va vp ve vk) (hc:fW f<=1000000000000):
 QFn prog 34 [.agg #[Zy f.op,Zy f.name,va,vp,ve,vk]] fz (Zk (spreadM f)):=Yl7 _ (Zs _) h hc
structure FitA (x:Action):Prop where
 params:x.params.length<=3
 many:x.changes.length<=10
 c:∀ c∈x.changes,c.params.length<=3
structure Fit14 (d:Domain) (p:Problem):Prop where
 os:d.constants.length+p.objects.length<=6
 acts:d.actions.length<=8
 init:p.init.length<=40
 a:∀ a∈d.actions,FitA a
theorem Ypk {p:Problem} (h:DomainR fz d v1 v2 v3 v4 v5 v6) (hp:ProblemR fz p u1 u2 u3 u4 u5 u6 u7) (hd:domW d<=1000000000) (hw:prbW p<=1000000000):
 GFn prog 13 [ZD d v1 v2 v3 v4 v5 v6,ZP p u1 u2 u3 u4 u5 u6 u7] fz [] (fun r _ H'=>H'=[]/\∃ b,r=Zo b/\(b=false->Fit14 d p)):=by
 have h0:=h;have hp0:=hp;have hn:=Ypi d p;obtain ⟨A1,n1,b1,rfl,i1⟩:=h.types;obtain ⟨A2,n2,b2,rfl,i2⟩:=h.constants;have l2:=i2.len;have s2:=i2.short;obtain ⟨A3,n3,b3,rfl,i3⟩:=h.predicates;obtain ⟨A4,n4,b4,rfl,i4⟩:=h.functions;obtain ⟨A5,n5,b5,rfl,i5⟩:=h.actions;have l5:=i5.len;obtain ⟨A6,n6,b6,rfl,i6⟩:=h.duratives;have s5:=i5.short;obtain ⟨C1,m1,e1,rfl,j1⟩:=hp.objects;have k1:=j1.len;have t1:=j1.short;obtain ⟨C2,m2,e2,rfl,j2⟩:=hp.init;have k2:=j2.len;obtain ⟨C3,m3,e3,rfl,j3⟩:=hp.values;have hg:=hp.goal;have hgw:fW p.goal<=prbW p:=by unfold prbW;omega
 have hgc:=fcount_le p.goal;obtain ⟨⟨U1,w1,z1,rfl,_⟩,⟨U2,w2,z2,rfl,_⟩,⟨U3,w3,z3,rfl,_⟩,⟨U4,w4,z4,rfl,_⟩⟩:=hp.goal.sls;refine zF Tryz.func13 Tryz.ntmps13 (fun w0=>?_);refine pX (fun g0=>?_);refine pY (fun g1=>?_);refine wb (Ynv h0 hp0) (fun f1=>?_) (fun f1=>?_)
 ·exact wR (h:=by exact ⟨rfl,true,rfl,Za⟩)
 refine wC ?_ ?_<;>intro c1
 ·exact wR (h:=by exact ⟨rfl,true,rfl,Za⟩)
 refine wC ?_ ?_<;>intro c2
 ·exact wR (h:=by exact ⟨rfl,true,rfl,Za⟩)
 refine wC ?_ ?_<;>intro c3
 ·exact wR (h:=by exact ⟨rfl,true,rfl,Za⟩)
 refine wG ?_;refine Ye (vs:=[Zy p.goal.op,Zy p.goal.name,Zc U1 w1 z1,Zc U2 w2 z2,Zc U3 w3 z3,Zc U4 w4 z4]) 0 ?_
 ((refine zG ?_);refine Yu (Yit hg Zi) ?_);refine wC ?_ ?_<;>intro c4
 ·exact wR (h:=by exact ⟨rfl,true,rfl,Za⟩)
 refine wG ?_;refine Ye (vs:=[Zy p.goal.op,Zy p.goal.name,Zc U1 w1 z1,Zc U2 w2 z2,Zc U3 w3 z3,Zc U4 w4 z4]) 0 ?_
 ((refine zG ?_);refine Yu (Ydv hg Zi) ?_);refine wC ?_ ?_<;>intro c5
 ·exact wR (h:=by exact ⟨rfl,true,rfl,Za⟩)
 refine zW ?_;refine Yi (fun q σ fz' H'=>∃ (k:Nat),k<=n5/\q=n5 - k/\σ=[(5,Zk k),(2,Zp g0)]/\fz=fz'/\H'=[(g0,Zu #[Zy d.name,Zc A1 n1 b1,Zc A2 n2 b2,Zc A3 n3 b3,Zc A4 n4 b4,Zc A5 n5 b5,Zc A6 n6 b6] 28)]/\(∀ i,i<k->∀ x,d.actions[i]?=some x->FitA x)) ⟨0,Z0 _,rfl,rfl,rfl,rfl,fun i hi=>absurd hi Zi⟩ Zw (List.Sublist.cons _ (List.Sublist.refl _)) ?_;rintro q σ fz' H' ⟨k,hkm,rfl,rfl,rfl,rfl,hfit⟩;refine wC ?_ ?_<;>intro c6
 ·obtain ⟨x,hx⟩:=Yc (l:=d.actions) (k:=k) Zi;have hxw:actW x<=domW d:=by
   have:=Y2 (w:=actW) (Zm hx);unfold domW;omega
  have hxe:actW x=1+x.params.length+fW x.pre+(x.changes.map YW).sum:=rfl;have hxc:=fcount_le x.pre;refine wI i5 hx (fun pp1 hp1=>?_);refine zL hp1 ?_;intro cs1 hcs1;obtain ⟨r1,r2,r3,r4,r5,r6,rfl,hR⟩:=Y7 hcs1;obtain ⟨P,p1,q1,rfl,ip⟩:=hR.params;have hS1:=hR.pre;obtain ⟨⟨V1,a1,y1,rfl,_⟩,⟨V2,a2,y2,rfl,_⟩,⟨V3,a3,y3,rfl,_⟩,⟨V4,a4,y4,rfl,_⟩⟩:=hR.pre.sls;obtain ⟨W1,o1,f2,rfl,ic⟩:=hR.changes;have lc:=ic.len;have lpp:=ip.len;have sc:=ic.short;refine Ya (XR (fun ga=>?_));refine wC ?_ ?_<;>intro d1
  ·exact wR (h:=by exact ⟨rfl,true,rfl,Za⟩)
  refine wG ?_;refine Ye (vs:=[Zy x.pre.op,Zy x.pre.name,Zc V1 a1 y1,Zc V2 a2 y2,Zc V3 a3 y3,Zc V4 a4 y4]) 0 ?_
  ((refine zG ?_);refine Yu (Yit hS1 Zi) ?_);refine wC ?_ ?_<;>intro d2
  ·exact wR (h:=by exact ⟨rfl,true,rfl,Za⟩)
  refine wG ?_;refine Ye (vs:=[Zy x.pre.op,Zy x.pre.name,Zc V1 a1 y1,Zc V2 a2 y2,Zc V3 a3 y3,Zc V4 a4 y4]) 0 ?_
  ((refine zG ?_);refine Yu (Ydv hS1 Zi) ?_);refine wC ?_ ?_<;>intro d3
  ·exact wR (h:=by exact ⟨rfl,true,rfl,Za⟩)
  refine wC ?_ ?_<;>intro d4
  ·exact wR (h:=by exact ⟨rfl,true,rfl,Za⟩)
  refine zW ?_;refine Yi (fun q σ fz' H'=>∃ (k':Nat),k'<=o1/\q=o1 - k'/\σ=[(7,Zk k'),(6,Zp ga),(5,Zk k),(2,Zp g0)]/\fz=fz'/\H'=[(ga,Zu #[Zy x.name,Zc P p1 q1,Zk x.cost,Zy x.pre.op,Zy x.pre.name,Zc V1 a1 y1,Zc V2 a2 y2,Zc V3 a3 y3,Zc V4 a4 y4,Zc W1 o1 f2] 102),(g0,Zu #[Zy d.name,Zc A1 n1 b1,Zc A2 n2 b2,Zc A3 n3 b3,Zc A4 n4 b4,Zc A5 n5 b5,Zc A6 n6 b6] 28)]/\(∀ i,i<k'->∀ c,x.changes[i]?=some c->c.params.length<=3)) ⟨0,Z0 _,rfl,rfl,rfl,rfl,fun i hi=>absurd hi Zi⟩ Zw Zb ?_;rintro q σ fz' H' ⟨k',hkm',rfl,rfl,rfl,rfl,hfc⟩;refine wC ?_ ?_<;>intro c7
  ·obtain ⟨ch,hch⟩:=Yc (l:=x.changes) (k:=k') Zi;have hcw:=Y2 (w:=YW) (Zm hch);have hce:YW ch=1+ch.params.length+fW ch.when_+ch.args.length+eW ch.value:=rfl;have hcc:=fcount_le ch.when_;have hcs:=spread_le ch.when_;refine wI ic hch (fun pp2 hp2=>?_);refine wG ?_;refine XQ hp2.Change_params (fun P2 pn2 pc2 ipc=>?_);have lpc:=ipc.len;refine wI ic hch (fun pp3 hp3=>?_);refine wL hp3.Change_when_ ?_;intro cs3 hcs3;obtain ⟨w1,w2,w3,w4,rfl,hR3⟩:=Yn hcs3;refine wG ?_;refine Yu (Yit hR3 Zi) ?_;refine wC ?_ ?_<;>intro e1
   ·exact wR (h:=by exact ⟨rfl,true,rfl,Za⟩)
   refine wI ic hch (fun pp4 hp4=>?_);refine wL hp4.Change_when_ ?_;intro cs4 hcs4;obtain ⟨x1,x2,x3,x4,rfl,hR4⟩:=Yn hcs4;refine wG ?_;refine Yu (Ydv hR4 Zi) ?_;refine wC ?_ ?_<;>intro e2
   ·exact wR (h:=by exact ⟨rfl,true,rfl,Za⟩)
   exact wP (h:=by exact ⟨k'+1,by omega,rfl,rfl,rfl,rfl,Yx hfc hch Zi⟩)
  refine zW ?_;exact Wr ⟨k+1,by omega,rfl,rfl,rfl,rfl,Yx hfit hx ⟨by omega,by omega,fun c hc=>by
   obtain ⟨i,hi⟩:=List.getElem?_of_mem hc;exact hfc i (by have:=(Zg hi).1;omega) c hi⟩⟩ Zi Zw (List.Sublist.cons _ (List.Sublist.refl _))
 refine zW ?_;exact ret1 rfl rfl Zb ⟨rfl,false,rfl,fun _=>⟨by omega,by omega,by omega,fun a ha=>by
  obtain ⟨i,hi⟩:=List.getElem?_of_mem ha;exact hfit i (by have:=(Zg hi).1;omega) a hi⟩⟩
theorem Ypj {p:Problem} (h:DomainR fz d v1 v2 v3 v4 v5 v6) (hp:ProblemR fz p u1 u2 u3 u4 u5 u6 u7) (hd:domW d<=1000000000:=by omega) (hw:prbW p<=1000000000:=by omega):
 GFn prog 4 [ZD d v1 v2 v3 v4 v5 v6,ZP p u1 u2 u3 u4 u5 u6 u7] fz [] (fun r _ H'=>H'=[]/\∃ b,r=Zo b/\(b=false->Fit14 d p)):=by
 have h0:=h;have hp0:=hp;obtain ⟨⟨A1,n1,b1,rfl,i1⟩,⟨A2,n2,b2,rfl,i2⟩,⟨A3,n3,b3,rfl,i3⟩,⟨A4,n4,b4,rfl,i4⟩,⟨A5,n5,b5,rfl,i5⟩,⟨A6,n6,b6,rfl,i6⟩⟩:=h.sls;obtain ⟨⟨C1,m1,e1,rfl,j1⟩,⟨C2,m2,e2,rfl,j2⟩,⟨C3,m3,e3,rfl,j3⟩⟩:=hp.sls;obtain ⟨⟨U1,w1,z1,rfl,_⟩,⟨U2,w2,z2,rfl,_⟩,⟨U3,w3,z3,rfl,_⟩,⟨U4,w4,z4,rfl,_⟩⟩:=hp.goal.sls;refine zF Tryz.func4 Tryz.ntmps4 (fun w0=>?_);refine pX (fun g0=>?_);refine pY (fun g1=>?_);refine wK (q:=Ypk h0 hp0 hd hw) (h:=fun v1 fz1 H1 hle1 hR1=>?_);obtain ⟨rfl,b,rfl,hfit⟩:=hR1;cases b with
 | true=>
  exact wR (h:=by exact ⟨rfl,true,rfl,Za⟩)
 | false=>
  refine wC ?_ ?_<;>intro c1
  ·exact wR (h:=by exact ⟨rfl,true,rfl,Za⟩)
  refine wC ?_ ?_<;>intro c2
  ·exact wR (h:=by exact ⟨rfl,true,rfl,Za⟩)
  exact wR (h:=by exact ⟨rfl,false,rfl,fun _=>hfit rfl⟩)
end Go.Proofs.YtacfpcbladaohaaGreatDoor
namespace Go.Proofs.YtacfpcbladaohaaGreatDoor
variable {α:Type} {i:Nat} {s:Bs} {d:Domain} {E:EnvM} {K:Kn} {S:List Atom} {b:Bool}
theorem byte_of {b:UInt8} (h:s.data.toList[i]?=some b):i<s.size/\Yac s i=b.toNat:=by
 have hlt:i<s.size:=(Zg h).1;obtain ⟨c,h1,h2⟩:=YbC hlt;refine ⟨hlt,?_⟩;rw [h2];have h3:s.data.toList[i]?=some c:=by
  have:s[i]?=s.data[i]?:=by
   rw [getElem?_pos s i hlt,Array.getElem?_eq_getElem (show i<s.data.size from hlt)];rfl
  rw [this] at h1;simpa using h1
 rw [h] at h3;injection h3 with h3
 rw [h3]
theorem YbI (h:YZ s):PlnS s:=by
 refine ⟨Nat.le_trans h.2.2.1 Zh,fun b hb=>?_⟩;obtain ⟨i,hi⟩:=List.getElem?_of_mem hb;obtain ⟨hlt,he⟩:=byte_of hi;have:=h.1 i hlt;unfold Ybf LetP DigP at this;unfold PlnB;rw [he] at this;omega
theorem pln_var (h:VarP s):PlnS s:=by
 obtain ⟨h1,h2,h3,h4⟩:=h;refine ⟨Nat.le_trans h2 Zh,fun b hb=>?_⟩;obtain ⟨i,hi⟩:=List.getElem?_of_mem hb;obtain ⟨hlt,he⟩:=byte_of hi;cases i with
 | zero=>rw [he] at h3;unfold PlnB;omega
 | succ i=>
  have hx:(s.extract 1 s.size).data.toList[i]?=some b:=by
   rw [ByteArray.data_extract,Array.toList_extract];have hs:s.size=s.data.toList.length:=rfl;show (List.extract s.data.toList 1 s.size)[i]?=_;rw [List.extract,List.getElem?_take_of_lt Zi,List.getElem?_drop,Nat.add_comm];exact hi
  exact (YbI h4).2 b (Zm hx)
theorem Ymj (h:Yfb s):PlnS s:=h.elim YbI pln_var
theorem YlV:∀ (n:Nat) {f:Formula},SizeOf.sizeOf f<=n->HSh f->ShN f
 | 0,f,h,_=>by cases f;simp at h
 | n+1,f,h,hs=>.mk hs.same (fun h1=>hs.head h1) (fun k hk=>YlV n (by have:=Formula.kids_lt hk;omega) (hs.kid hk))
theorem HSh.join {op:Bs} {ns:List Formula} (hop:op=kAnd\/op=kOr) (h:∀ n∈ns,HSh n):HSh (joinF op ns):=by
 have a1:¬op=kSame:=by rcases hop with rfl | rfl<;>decide+kernel
 have a2:¬(op=kNot\/QuF op):=by rcases hop with rfl | rfl<;>(unfold QuF;decide+kernel)
 have a3:¬op=kAtom:=by rcases hop with rfl | rfl<;>decide+kernel
 refine .mk (fun e=>absurd e a1) (fun e=>absurd e a2) (fun e=>absurd e a3) (fun e=>absurd (.inl e) a2) (Z0 _) (fun k hk=>?_);have hk:k∈joinL op ns:=hk;unfold joinL at hk;obtain ⟨n,hn,hkn⟩:=List.mem_flatMap.1 hk;split at hkn
 ·exact (h n hn).kid hkn
 rw [List.mem_singleton] at hkn;subst hkn;exact h k hn
theorem HSh.cmp {op:Bs} {a b:Lx.Expr} (hop:op=kLt\/op=kLe\/op=kEq):HSh (cmpF op a b):=by
 have a1:¬op=kSame:=by rcases hop with rfl | rfl | rfl<;>decide+kernel
 have a2:¬(op=kNot\/QuF op):=by rcases hop with rfl | rfl | rfl<;>(unfold QuF;decide+kernel)
 have a3:¬op=kAtom:=by rcases hop with rfl | rfl | rfl<;>decide+kernel
 exact .mk (fun e=>absurd e a1) (fun e=>absurd e a2) (fun e=>absurd e a3) (fun e=>absurd (.inl e) a2) (Z0 _) (fun k hk=>by cases hk)
theorem HSh.zero:HSh YdD:=by
 have a1:¬YdD.op=kSame:=by decide+kernel
 have a2:¬(YdD.op=kNot\/QuF YdD.op):=by unfold QuF;decide+kernel
 have a3:¬YdD.op=kAtom:=by decide+kernel
 exact .mk (fun e=>absurd e a1) (fun e=>absurd e a2) (fun e=>absurd e a3) (fun e=>absurd (.inl e) a2) (Z0 _) (fun k hk=>by cases hk)
theorem kid_w {f k:Formula} (h:k∈f.kids):fW k<=fW f:=by
 have:=Y2 (w:=fW) h;rw [Ya6 f];omega
theorem Ymp:∀ (n:Nat) {f:Formula} (sg:Bool),SizeOf.sizeOf f<=n->FOk f->fW f<=1500000->HSh (normM sg f)
 | 0,f,_,h,_,_=>by cases f;simp at h
 | n+1,f,sg,hsz,hok,hw=>by
  have hall:=XT.1 hok;obtain ⟨⟨f1,f2,f3⟩,⟨k,hk,r1,r2,r3,r4⟩,hpar⟩:=hall.1;have ih:∀ (sg':Bool) (x:Formula),x∈f.kids->HSh (normM sg' x):=fun sg' x hx=>Ymp n sg' (by have:=Formula.kids_lt hx;omega) (hall.2.2 x hx) (Nat.le_trans (kid_w hx) hw)
  have hone:∀ sg':Bool,f.kids.length=1->HSh (headN (f.kids.map (normM sg'))):=fun sg' h1=>by
   obtain ⟨x,hx⟩:=List.length_eq_one_iff.1 h1;rw [hx];exact ih sg' x (by rw [hx];simp)
  have hmap:∀ sg':Bool,∀ x∈f.kids.map (normM sg'),HSh x:=fun sg' x hx=>by
   obtain ⟨y,hy,rfl⟩:=List.mem_map.1 hx;exact ih sg' y hy
  have hw2:=Ya6 f;rw [WD];by_cases w1:f.op=kNot
  ·rw [if_pos w1];have e:WJ f=some (0,false,1):=by
    unfold WJ;rw [w1,if_neg (by decide+kernel),if_neg (by unfold CmpOp;decide+kernel),if_neg (by decide+kernel),if_pos rfl]
   rw [e] at hk;injection hk with hk
   subst hk;exact hone _ r3
  rw [if_neg w1];by_cases w2:f.op=kImply
  ·rw [if_pos w2];have e:WJ f=some (0,false,2):=by
    unfold WJ;rw [w2,if_neg (by decide+kernel),if_neg (by unfold CmpOp;decide+kernel),if_neg (by decide+kernel),if_neg (by decide+kernel),if_pos rfl]
   rw [e] at hk;injection hk with hk
   subst hk;have hl:f.kids.length=2:=r3;obtain ⟨x,y,hxy⟩:∃ x y,f.kids=[x,y]:=by
    match hf:f.kids,hl with
    | [x,y],_=>exact ⟨x,y,rfl⟩
   rw [hxy];refine HSh.join (by split<;>simp) (fun z hz=>?_);rcases List.mem_cons.1 hz with rfl | hz
   ·exact ih _ x (by rw [hxy];simp)
   rw [List.mem_singleton] at hz;subst hz;exact ih _ y (by rw [hxy];simp)
  rw [if_neg w2];by_cases w3:f.op=kAnd
  ·rw [if_pos w3];exact HSh.join (by split<;>simp) (hmap sg)
  rw [if_neg w3];by_cases w4:f.op=kOr
  ·rw [if_pos w4];exact HSh.join (by split<;>simp) (hmap sg)
  rw [if_neg w4];by_cases w5:QuF f.op
  ·rw [if_pos w5];have e:WJ f=some (0,true,1):=by
    unfold WJ;rcases w5 with w5 | w5
    ·rw [w5,if_neg (by decide+kernel),if_neg (by unfold CmpOp;decide+kernel),if_neg (by decide+kernel),if_neg (by decide+kernel),if_neg (by decide+kernel),if_pos (by simp)]
    rw [w5,if_neg (by decide+kernel),if_neg (by unfold CmpOp;decide+kernel),if_neg (by decide+kernel),if_neg (by decide+kernel),if_neg (by decide+kernel),if_pos (by simp)]
   rw [e] at hk;injection hk with hk
   subst hk;have hq:∀ op,op=kForall\/op=kExists->¬op=kSame/\¬op=kAtom/\¬op=kNot:=by
    rintro op (rfl | rfl)<;>decide+kernel
   have hop:QuF (if sg=true then f.op else if f.op=kForall then kExists else kForall):=by
    split
    ·exact w5
    split
    ·exact .inr rfl
    exact .inl rfl
   obtain ⟨q1,q2,q3⟩:=hq _ hop;refine .mk (fun e=>absurd e q1) (fun _ h=>by cases h) (fun e=>absurd e q2) (fun e=>absurd e q3) (by show f.params.length<=_;omega) (fun x hx=>?_);have hx:x∈ [headN (f.kids.map (normM sg))]:=hx;rw [List.mem_singleton] at hx;subst hx;exact hone _ r3
  rw [if_neg w5];by_cases w6:f.op=kLt
  ·rw [if_pos w6];split
   ·exact HSh.cmp (.inl rfl)
   exact HSh.cmp (.inr (.inl rfl))
  rw [if_neg w6];by_cases w7:f.op=kLe
  ·rw [if_pos w7];split
   ·exact HSh.cmp (.inr (.inl rfl))
   exact HSh.cmp (.inl rfl)
  rw [if_neg w7];by_cases w8:f.op=kEq
  ·rw [if_pos w8];split
   ·exact HSh.cmp (.inr (.inr rfl))
   have a1:¬kOr=kSame:=by decide+kernel
   have a2:¬(kOr=kNot\/QuF kOr):=by unfold QuF;decide+kernel
   have a3:¬kOr=kAtom:=by decide+kernel
   refine .mk (fun e=>absurd e a1) (fun e=>absurd e a2) (fun e=>absurd e a3) (fun e=>absurd (.inl e) a2) (Z0 _) (fun x hx=>?_);rcases List.mem_cons.1 hx with rfl | hx
   ·exact HSh.cmp (.inl rfl)
   rw [List.mem_singleton] at hx;subst hx;exact HSh.cmp (.inl rfl)
  rw [if_neg w8];have hao:f.op=kAtom\/f.op=kSame:=by
   unfold WJ at hk;by_cases h0:f.op=kAtom\/f.op=kSame
   ·exact h0
   rw [if_neg h0,if_neg (fun h=>by unfold CmpOp at h;rcases h with h | h | h;exact w6 h;exact w7 h;exact w8 h),if_neg (fun h=>h.elim w3 w4),if_neg w1,if_neg w2,if_neg (show ¬(f.op=kForall\/f.op=kExists) from w5)] at hk;cases hk
  have e:k=(0,false,0):=by
   unfold WJ at hk;rw [if_pos hao] at hk;injection hk with hk
   exact hk.symm
  subst e;have hk0:f.kids=[]:=List.eq_nil_of_length_eq_zero r3;have hn1:¬(f.op=kNot\/QuF f.op):=fun h=>h.elim w1 w5
  have hf:HSh f:=by
   refine .mk (fun e=>Nat.le_of_eq (f2 e).2.symm) (fun e=>absurd e hn1) (fun e=>⟨YbI (f1 e),by omega,fun t ht=>Ymj (f3 hao t ht)⟩) (fun e=>absurd (.inl e) hn1) Zi (fun x hx=>by rw [hk0] at hx;cases hx)
  cases sg with
  | true=>rw [if_pos rfl];exact hf
  | false=>
   rw [if_neg Zh];have a1:¬kNot=kSame:=by decide+kernel
   have a3:¬kNot=kAtom:=by decide+kernel
   refine .mk (fun e=>absurd e a1) (fun _ h=>by cases h) (fun e=>absurd e a3) (fun _ x hx=>?_) (Z0 _) (fun x hx=>?_)
   ·have hx:x∈ [f]:=hx;rw [List.mem_singleton] at hx;subst hx;exact hao
   have hx:x∈ [f]:=hx;rw [List.mem_singleton] at hx;subst hx;exact hf
theorem YaZ {f:Formula} (hw:fW f<=1500000):HSh (normV f):=by
 unfold normV;split
 ·rename_i h;exact Ymp _ true (Zs _) h.1 hw
 exact HSh.zero
theorem YmQ {K:Kn} (hO:∀ o∈K.os,PlnS o.name) {most:Nat}:∀ (ps:List Param) (out:List (List Bs)),(∀ l∈out,∀ t∈l,PlnS t)->∀ l∈ps.foldl (Yd5 K most) out,∀ t∈l,PlnS t
 | [],_,h=>h
 | p::ps,out,h=>YmQ hO ps _ (fun l hl t ht=>by
  unfold Yd5 at hl;obtain ⟨l0,h1,h2⟩:=List.mem_flatMap.1 (List.mem_of_mem_take hl);obtain ⟨o,ho,rfl⟩:=List.mem_map.1 h2;rcases List.mem_append.1 ht with ht | ht
  ·exact h l0 h1 t ht
  rw [List.mem_singleton] at ht;subst ht;obtain ⟨q,hq,e⟩:=Ylp ho;exact e ▸ hO q hq)
theorem Yo4 {l:List Change} {c:Change} (h:c∈normC l):∃ c0∈l,c={c0 with when_:=normV c0.when_}:=by
 unfold normC at h;obtain ⟨c0,h1,rfl⟩:=List.mem_map.1 h;exact ⟨c0,(List.mem_filter.1 h1).1,rfl⟩
theorem YmM {l:List Change} (hok:YeA l) (hw:(l.map YW).sum<=1400000:=by omega):∀ c∈normC l,CSh c:=by
 intro c hc;obtain ⟨c0,h0,rfl⟩:=Yo4 hc;have h1:=Y2 (w:=YW) h0;have h2:YW c0=1+c0.params.length+fW c0.when_+c0.args.length+eW c0.value:=rfl;obtain ⟨⟨n1,n2⟩,_,_,_⟩:=hok c0 h0;exact ⟨YaZ Zi,YbI n1,by show c0.args.length<=_;omega,fun t ht=>Ymj (n2 t ht),by show c0.params.length<=_;omega⟩
theorem Yk4 {l:List Change} (hw:(l.map YW).sum<=1400000):l.length<=2000000/\∀ c∈l,fW c.when_<=1400000:=by
 refine ⟨?_,fun c hc=>?_⟩
 ·have:=XH (w:=YW) (fun c=>by unfold YW;omega) l;omega
 have h1:=Y2 (w:=YW) hc;have h2:YW c=1+c.params.length+fW c.when_+c.args.length+eW c.value:=rfl;omega
theorem andW (l:List Formula):fW (andF l)=1+(l.map fW).sum:=by
 rw [Ya6];show 1+0+0+0+(l.map fW).sum=_;omega
theorem apt_of {p:Problem} (hc:(YT d p).2=0) (hd:domW d<=1300000) (hp:prbW p<=1300000):Apt d p:=by
 have hok:=Yh9 hc;obtain ⟨hL,hT64,hp6⟩:=Ygz hok.lim;obtain ⟨_,_,d3,_,_,d6,d7⟩:=hok.dok.1;obtain ⟨_,_,p3,_,p5⟩:=hok.pok.2.1;have wA:∀ a∈d.actions,actW a<=1300000:=fun a ha=>by
  have:=Y2 (w:=actW) ha;unfold domW at hd;omega
 have wD:∀ a∈d.duratives,durW a<=1300000:=fun a ha=>by
  have:=Y2 (w:=durW) ha;unfold domW at hd;omega
 have hos:∀ o∈(knM d p).os,PlnS o.name:=fun o ho=>by
  rcases List.mem_append.1 ho with ho | ho
  ·have:=(d3 o ho).1;exact YbI (by simpa using this)
  have:=(p3 o ho).1;exact YbI (by simpa using this)
 have eA:∀ a:Action,actW a=1+a.params.length+fW a.pre+(a.changes.map YW).sum:=fun _=>rfl
 have eD:∀ a:Durative,durW a=1+a.params.length+fW a.start+fW a.over+fW a.fin+(a.atStart.map YW).sum+(a.atEnd.map YW).sum:=fun _=>rfl
 refine ⟨fun a ha=>?_,⟨by have:=hL.a;omega,by have:=hL.u;omega,fun a ha=>?_,fun a ha=>?_,fun a ha=>?_⟩,hos,fun _ s hs=>?_⟩
 ·have h1:=Y2 (w:=YcK) ha;have h2:YcK a=1+a.args.length:=rfl;have h3:=p5 a ha;unfold prbW at hp;exact ⟨YbI h3.1,by omega,fun t ht=>YbI (h3.2 t ht)⟩
 ·have h1:=wA a ha;have h2:=eA a;obtain ⟨h3,h4⟩:=Yk4 (l:=a.changes) Zi;exact ⟨by omega,by omega,h3,fun c hc=>Nat.le_trans (h4 c hc) Zh⟩
 ·have h1:=wD a ha;have h2:=eD a;obtain ⟨h3,h4⟩:=Yk4 (l:=a.atStart) Zi;obtain ⟨h5,h6⟩:=Yk4 (l:=a.atEnd) Zi;exact ⟨by omega,by omega,by omega,by omega,h3,h5,fun c hc=>Nat.le_trans (h4 c hc) Zh,fun c hc=>Nat.le_trans (h6 c hc) Zh⟩
 ·have h1:=wA a ha;have h2:=eA a;have h3:=YmM (d6 a ha).2.2.2.2;exact ⟨YlV _ (Zs _) (YaZ Zi),fun c hc=>YlV _ (Zs _) (h3 c hc).when_⟩
 obtain ⟨s0,h0,rfl⟩:=List.mem_map.1 hs;have hargs:∀ a∈(Ybn (knM d p) s0).arguments,a.length=s0.params.length/\∀ t∈a,PlnS t:=fun a ha=>
  ⟨Ye4 ha,YmQ hos s0.params [[]] (by simp) a ha⟩
 rcases List.mem_append.1 h0 with h0 | h0
 ·obtain ⟨a,ha,rfl⟩:=List.mem_map.1 h0;have h1:=wA a ha;have h2:=eA a;exact ⟨YaZ Zi,YaZ Zi,fun c hc=>(by cases hc),YmM (d6 a ha).2.2.2.2,hargs⟩
 obtain ⟨a,ha,rfl⟩:=List.mem_map.1 h0;have h1:=wD a ha;have h2:=eD a;obtain ⟨_,_,_,_,_,o1,o2⟩:=d7 a ha;refine ⟨YaZ ?_,YaZ ?_,YmM o1,YmM o2,hargs⟩
 ·rw [andW];simp only [List.map_cons,List.map_nil,List.sum_cons,List.sum_nil];omega
 rw [andW];simp only [List.map_cons,List.map_nil,List.sum_cons,List.sum_nil];omega
theorem chsm_w {c:Change} (h:YW c<=100000000):ChSm c:=by
 unfold YW at h;exact ⟨by omega,by omega,Ydx _ (Zs _) Zi,Yp5 _ (Zs _) Zi⟩
theorem YlH {l:List Change} (h:(l.map YW).sum<=100000000):YqI l:=by
 have:=XH YlO l;exact ⟨by omega,fun c hc=>chsm_w (by have:=Y2 (w:=YW) hc;omega)⟩
theorem Yqj {p:Problem} (hd:domW d<=1300000) (hp:prbW p<=1300000):ChkS d p:=by
 unfold domW at hd;unfold prbW at hp;have l3:=XH Yj3 d.predicates;have l4:=XH YmD d.functions;have l5:=XH actW_pos d.actions;have l6:=XH durW_pos d.duratives;have l7:=XH YkS p.init;have l8:=XH YhD p.values;have p3:∀ p∈d.predicates,p.params.length<=100000000:=fun p hp=>by have:=Y2 (w:=Yj4) hp;have e:Yj4 p=1+p.params.length:=rfl;omega
 have p4:∀ p∈d.functions,p.params.length<=100000000:=fun p hp=>by have:=Y2 (w:=funW) hp;have e:funW p=1+p.params.length:=rfl;omega
 have p5:∀ x∈d.actions,actW x<=100000000:=fun p hp=>by have:=Y2 (w:=actW) hp;omega
 have p6:∀ x∈d.duratives,durW x<=100000000:=fun p hp=>by have:=Y2 (w:=durW) hp;omega
 refine ⟨⟨by omega,by omega,by omega,fun p hp=>Nat.le_trans (p3 p hp) Zh,by omega,fun p hp=>Nat.le_trans (p4 p hp) Zh,by omega,fun x hx=>?_,by omega,fun x hx=>?_⟩,⟨by omega,by omega,fun a ha=>?_,by omega,fun v hv=>?_,Ydx _ (Zs _) Zi⟩,fun a ha=>Nat.le_trans (p5 a ha) Zh,fun a ha=>Nat.le_trans (p6 a ha) Zh,by omega⟩
 ·have:=p5 x hx;unfold actW at this;exact ⟨by omega,Ydx _ (Zs _) Zi,YlH Zi⟩
 ·have:=p6 x hx;unfold durW at this;exact ⟨by omega,Ydx _ (Zs _) Zi,Ydx _ (Zs _) Zi,Ydx _ (Zs _) Zi,YlH Zi,YlH Zi⟩
 ·have:=Y2 (w:=YcK) ha;have e:YcK a=1+a.args.length:=rfl;omega
 have:=Y2 (w:=Yb2) hv;have e:Yb2 v=1+YcK v.fluent:=rfl;have e2:YcK v.fluent=1+v.fluent.args.length:=rfl;omega
def bD:Bs:=⟨#[100]⟩
def bP:Bs:=⟨#[112]⟩
def bOn:Bs:=⟨#[111,110]⟩
def WA:Bs:=⟨#[115,101,101,110]⟩
def bKey:Bs:=⟨#[107,101,121]⟩
def YlR:Bs:=⟨#[108,111,111,107]⟩
def atmF (n:Bs):Formula:=.mk kAtom n [] [] [] []
def addC (k:Int) (n:Bs):Change:=⟨k,[],Xd,n,[],nilE⟩
def YdL:Durative:=⟨YlR,[],2,Xd,atmF bOn,Xd,[addC 1 bOn],[addC 1 WA,addC 2 bOn]⟩
def Xk:Domain:=⟨bD,[],[],[⟨bOn,[]⟩,⟨WA,[]⟩,⟨bKey,[]⟩],[],[],[YdL]⟩
def YaI:Problem:=⟨bP,bD,[],[],[],atmF WA⟩
theorem nilP {p:α->Prop}:∀ x∈([]:List α),p x:=fun _ h=>by cases h
theorem Ynp (h1:0<s.size) (h2:s.size<=32) (h3:∀ b∈s.data.toList,LetP b.toNat) (h4:s.data.toList ∉ Ybq.map (·.data.toList)):YZ s:=by
 refine ⟨fun i hi=>.inl ?_,fun h=>by rw [h] at h1;exact absurd h1 Zh,h2,fun h=>h4 (List.mem_map.2 ⟨s,h,rfl⟩)⟩;obtain ⟨b,hb,hb2⟩:=YbC (s:=s) (k:=i) hi;rw [hb2];refine h3 b ?_;have:=YmC hi;rw [getElem?_pos s i hi] at hb;injection hb with hb
 rw [hb] at this;exact Zm this
def WrdP (s:Bs):Prop:=0<s.size/\s.size<=32/\(∀ b∈s.data.toList,(97<=(b.toNat:Int)/\(b.toNat:Int)<=122)\/(48<=(b.toNat:Int)/\(b.toNat:Int)<=57)\/b∈SymL)/\¬PreP s Yb7/\¬DigP (Yac s 0)
instance {s:Bs}:Decidable (WrdP s):=inferInstanceAs (Decidable (_/\_))
theorem wd_ok (h:WrdP s):WordT s:=by
 obtain ⟨h1,h2,h3,h4,h5⟩:=h;refine ⟨fun h=>by rw [h] at h1;exact absurd h1 Zh,h2,h3,fun hn=>?_⟩;have h6:=hn.1 0 (by rw [YcL,if_neg h4];exact h1);rw [YcL,if_neg h4] at h6;exact h5 h6
theorem nD:YZ bD:=Ynp Zh Zh (by unfold LetP;decide) Zh
theorem nP:YZ bP:=Ynp Zh Zh (by unfold LetP;decide) Zh
theorem nOn:YZ bOn:=Ynp Zh Zh (by unfold LetP;decide) Zh
theorem nSeen:YZ WA:=Ynp Zh Zh (by unfold LetP;decide) Zh
theorem nKey:YZ bKey:=Ynp Zh Zh (by unfold LetP;decide) Zh
theorem nLook:YZ YlR:=Ynp Zh Zh (by unfold LetP;decide) Zh
theorem xl {ks:List Sexpr} (h:∀ k∈ks,XOk k):XOk (YJ ks):=Ybd.2 ⟨.inr (.inr ⟨rfl,rfl,rfl⟩),h⟩
theorem xw (h:WordT s):XOk (Yl s):=Ybd.2 ⟨.inl ⟨rfl,h,rfl,rfl⟩,by intro k hk;cases hk⟩
theorem xc {k:Sexpr} {r:List Sexpr} (h:XOk k) (h2:∀ j∈r,XOk j):∀ j∈k::r,XOk j:=List.forall_mem_cons.2 ⟨h,h2⟩
theorem x0:∀ j∈([]:List Sexpr),XOk j:=nilP
theorem xk {r:List Sexpr} (h:WrdP s) (h2:∀ j∈r,XOk j):∀ j∈Yl s::r,XOk j:=xc (xw (wd_ok h)) h2
theorem opA (l:List Formula):(andF l).op=kAnd:=rfl
theorem opT:Xd.op=kAnd:=rfl
theorem opM (n:Bs):(atmF n).op=kAtom:=rfl
theorem YeY:YY Xd=YJ []:=by
 rw [YfQ];have h1:¬kAnd=kAtom:=by decide
 have h2:¬kAnd=kSame:=by decide
 have h3:¬CmpOp kAnd:=by unfold CmpOp;decide
 have h4:¬(kAnd=kForall\/kAnd=kExists):=by decide
 simp [Xd,Formula.op,Formula.kids,h1,h2,h3,h4]
theorem YcZ (n:Bs):YY (atmF n)=Wg n []:=by
 rw [YfQ,opM,if_pos rfl];rfl
theorem Ykx {l:List Formula} (h:l≠ []):YY (andF l)=YJ (Yl kAnd::l.map YY):=by
 rw [YfQ];have h1:¬kAnd=kAtom:=by decide
 have h2:¬kAnd=kSame:=by decide
 have h3:¬CmpOp kAnd:=by unfold CmpOp;decide
 have h4:¬(kAnd=kForall\/kAnd=kExists):=by decide
 simp [andF,Formula.op,Formula.kids,h1,h2,h3,h4,h]
theorem Ylz {l:List Formula} (h:∀ k∈l,FOk k):FOk (andF l):=by
 have h1:¬kAnd=kAtom:=by decide
 have h2:¬kAnd=kSame:=by decide
 have h3:¬CmpOp kAnd:=by unfold CmpOp;decide
 refine XT.2 ⟨⟨⟨fun h=>absurd h h1,fun h=>absurd h h2,fun h=>absurd h (by rw [opA];decide)⟩,⟨(0,false,l.length),?_,fun _ _=>⟨rfl,rfl⟩,rfl,rfl,fun _=>rfl⟩,nilP⟩,nilP,h⟩;rw [WJ,opA,if_neg Zh,if_neg h3,if_pos (.inl rfl)];rfl
theorem YpN {n:Bs} (h:YZ n):FOk (atmF n):=by
 refine XT.2 ⟨⟨⟨fun _=>h,fun h=>absurd h (by rw [opM];decide),fun _=>nilP⟩,⟨(0,false,0),?_,fun h=>absurd rfl h,rfl,rfl,fun _=>rfl⟩,nilP⟩,nilP,nilP⟩;rw [WJ,opM,if_pos (.inl rfl)]
theorem xOn:XOk (Wg bOn []):=xl (xk (by decide+kernel) x0)
theorem xSeen:XOk (Wg WA []):=xl (xk (by decide+kernel) x0)
theorem YdN:FVal Xd:=⟨Ylz (l:=[]) nilP,by rw [YeY];exact ⟨xl x0,by decide,by decide⟩⟩
theorem fv_on:FVal (atmF bOn):=⟨YpN nOn,by rw [YcZ];exact ⟨xOn,by decide,by decide⟩⟩
theorem fv_seen:FVal (atmF WA):=⟨YpN nSeen,by rw [YcZ];exact ⟨xSeen,by decide,by decide⟩⟩
theorem xAnd {r:List Sexpr} (h:∀ j∈r,XOk j):XOk (YJ (Yl kAnd::r)):=xl (xk (by decide+kernel) h)
theorem fv_a1:FVal (andF [Xd]):=⟨Ylz (List.forall_mem_cons.2 ⟨YdN.1,nilP⟩),by
 rw [Ykx (by simp)];simp only [List.map_cons,List.map_nil,YeY];exact ⟨xAnd (xc (xl x0) x0),by decide,by decide⟩⟩
theorem fv_a3:FVal (andF [Xd,atmF bOn,Xd]):=⟨Ylz (List.forall_mem_cons.2 ⟨YdN.1,List.forall_mem_cons.2 ⟨fv_on.1,List.forall_mem_cons.2 ⟨YdN.1,nilP⟩⟩⟩),by
 rw [Ykx (by simp)];simp only [List.map_cons,List.map_nil,YeY,YcZ];exact ⟨xAnd (xc (xl x0) (xc xOn (xc (xl x0) x0))),by decide,by decide⟩⟩
theorem ch_ok {k:Int} {n:Bs} (hk:k=1\/k=2) (hn:YZ n):ChOk (addC k n):=⟨⟨hn,nilP⟩,.inl ⟨hk,rfl⟩,.inl rfl,nilP⟩
theorem lampU_ok:YnJ YdL:=⟨nLook,nilP,YdN,fv_on,YdN,List.forall_mem_cons.2 ⟨ch_ok (.inl rfl) nOn,nilP⟩,List.forall_mem_cons.2 ⟨ch_ok (.inl rfl) nSeen,List.forall_mem_cons.2 ⟨ch_ok (.inr rfl) nOn,nilP⟩⟩⟩
theorem lampD_ok:DomOk Xk:=⟨nD,nilP,nilP,List.forall_mem_cons.2 ⟨⟨nOn,nilP⟩,List.forall_mem_cons.2 ⟨⟨nSeen,nilP⟩,List.forall_mem_cons.2 ⟨⟨nKey,nilP⟩,nilP⟩⟩⟩,nilP,nilP,List.forall_mem_cons.2 ⟨lampU_ok,nilP⟩⟩
theorem lampP_ok:PrbOk YaI:=⟨nP,nD,nilP,nilP,nilP⟩
theorem chX_1 (n:Bs):chX (addC 1 n)=Wg n []:=by simp [chX,chX2,chX1,addC,Num5]
theorem chX_2 (n:Bs):chX (addC 2 n)=YJ [Yl kNot,Wg n []]:=by simp [chX,chX2,chX1,addC,Num5]
theorem atm_ne (n:Bs):¬atmF n=Xd:=fun h=>absurd (congrArg Formula.op h) (by show ¬kAtom=kAnd;decide)
theorem durX_l:durX YdL=YJ [Yl Xz,Yl YlR,Yl WT,numE 2,Yl Ykp,Wg bOn [],Yl Yde,YJ [Yl kAnd,Wg bOn []],Yl Ykq,YJ [Yl kAnd,Wg WA [],YJ [Yl kNot,Wg bOn []]]]:=by
 simp [durX,YdL,opt,effX,chX_1,chX_2,atm_ne,YcZ]
theorem domX_l:domX Xk=YJ [Yl Xw,YJ [Yl WQ,Yl bD],YJ [Yl W5,YJ [Yl bOn],YJ [Yl WA],YJ [Yl bKey]],durX YdL]:=by
 simp [domX,Xk,grp,YaH,Ylm]
theorem Ypp:XVal (domX Xk):=by
 rw [domX_l,durX_l];refine ⟨?_,by decide,by decide⟩;refine xl (xk (by decide+kernel) (xc (xl (xk (by decide+kernel) (xk (by decide+kernel) x0))) (xc (xl (xk (by decide+kernel) (xc xOn (xc xSeen (xc (xl (xk (by decide+kernel) x0)) x0))))) (xc ?_ x0))));refine xl (xk (by decide+kernel) (xk (by decide+kernel) (xk (by decide+kernel) (xc ?_ (xk (by decide+kernel) (xc xOn (xk (by decide+kernel) (xc (xAnd (xc xOn x0)) (xk (by decide+kernel) (xc (xAnd (xc xSeen (xc (xl (xk (by decide+kernel) (xc xOn x0))) x0))) x0))))))))));exact Ybd.2 ⟨.inr (.inl ⟨rfl,rfl,rfl,by unfold Yex;decide⟩),nilP⟩
theorem prbX_l:prbX YaI=YJ [Yl Xw,YJ [Yl WN,Yl bP],YJ [Yl XP,Yl bD],YJ [Yl Ydq,Wg WA []]]:=by
 have h:¬(kAtom=kAnd):=by decide
 simp [prbX,YaI,grp,YaH,YnE,atmF,Formula.op,h];rw [show YY (Formula.mk kAtom WA [] [] [] [])=_ from YcZ WA]
theorem Ypo:XVal (prbX YaI):=by
 rw [prbX_l];exact ⟨xl (xk (by decide+kernel) (xc (xl (xk (by decide+kernel) (xk (by decide+kernel) x0))) (xc (xl (xk (by decide+kernel) (xk (by decide+kernel) x0))) (xc (xl (xk (by decide+kernel) (xc xSeen x0))) x0)))),by decide,by decide⟩
theorem e1:¬WA=bOn:=by decide
theorem e2:¬bKey=bOn:=by decide
theorem e3:¬bKey=WA:=by decide
theorem l_names:Ya1 Xk []=none:=by simp [Ya1,Ygu,Yd6,YhW,Xk,nmd,repM,e1,e2,e3]
theorem l_tw:¬TwP [] (parN []):=fun ⟨k,x,h,_⟩=>by simp [parN] at h
theorem l_ex:ExP [] []:=nilP
theorem l_atom {n:Bs} (h:n=bOn\/n=WA):atomM Xk [] [] n []=0:=by
 have h1:fstP Xk.predicates n=some ⟨n,[]⟩:=by
  rcases h with rfl | rfl
  ·simp [fstP,Xk]
  simp [fstP,Xk,Ne.symm e1]
 rw [atomM,h1];simp [YdS,YX]
theorem l_true:formM Xk [] [] Xd=0:=by
 have h4:¬(Yhf kAnd):=by unfold Yhf;decide
 rw [YaR,if_neg Zh,if_neg (by show ¬ownM Xk [] [] kAnd [] []≠0;rw [ownM,if_neg Zh,if_neg h4];decide)];rw [if_neg (by show ¬exprML Xk [] _ []≠0;rw [exprML];decide)];show formML Xk [] _ []=0;rw [formML]
theorem l_lit:LitP Xd:=Ymw rfl |>.2 nilP
theorem l_atm {n:Bs} (h:n=bOn\/n=WA):formM Xk [] [] (atmF n)=0:=by rw [YaR,opM,if_pos rfl];exact l_atom h
theorem l_litA (n:Bs):LitP (atmF n):=(Ymv (by show ¬kAtom=kNot;decide) (by show ¬kAtom=kAnd;decide)).2 (.inl rfl)
theorem l_ch {k:Int} {n:Bs} (hk:k=1\/k=2) (h:n=bOn\/n=WA):YaO Xk [] [] (addC k n) true=0:=by
 have hp:Yie (addC k n):=⟨rfl,rfl⟩;have hn:¬NumC (addC k n):=fun h=>by rcases hk with rfl | rfl;exact h.1 rfl;exact h.2 rfl
 rw [YmS (vars:=[]) (fun h=>h.1 hp) l_tw l_ex,if_neg (by show ¬formM Xk [] [] Xd≠0;rw [l_true];decide),if_pos hn];exact l_atom h
theorem long_t:¬LongP Xd:=by rw [Yd8];simp [Xd,Formula.params,Formula.kids]
theorem long_a (n:Bs):¬LongP (atmF n):=by rw [Yd8];simp [atmF,Formula.params,Formula.kids]
theorem Ymx:(YT Xk YaI).2=0:=by
 have ho:objsM Xk YaI=[]:=rfl;have hl:¬LargeM Xk YaI []:=by
  simp [LargeM,Xk,YaI,YdL,YnU,YhA,addC,long_t,long_a]
 have hn:newM Xk.types=0:=by
  show newM []=0;rw [newM,if_neg l_tw];simp
 have h0:(stepM Xk [] YaI 0).2=0:=by simp [stepM,l_names]
 have h1:(stepM Xk [] YaI 1).2=0:=by simp [stepM,YbK,Xk,YdL,YX,l_tw]
 have h2:(stepM Xk [] YaI 2).2=0:=by simp [stepM,YbK,Xk,YdL,YX,l_ex]
 have h3:(stepM Xk [] YaI 3).2=0:=rfl;have h4:(stepM Xk [] YaI 4).2=0:=by simp [stepM,numsL,Xk,YdL,YX,Yhy]
 have h5:(stepM Xk [] YaI 5).2=0:=by
  have a1:XS Xk [] [] [addC 1 bOn] true=0:=by rw [XS,Yav,if_pos (l_ch (.inl rfl) (.inl rfl)),Yav]
  have a2:XS Xk [] [] [addC 1 WA,addC 2 bOn] true=0:=by rw [XS,Yav,if_pos (l_ch (.inl rfl) (.inr rfl)),Yav,if_pos (l_ch (.inr rfl) (.inl rfl)),Yav]
  have a3:Yaz Xk [] [] Xd=0:=by rw [Yaz,if_pos l_lit];exact l_true
  have a4:Yaz Xk [] [] (atmF bOn)=0:=by rw [Yaz,if_pos (l_litA _)];exact l_atm (.inl rfl)
  show (YX idN (YaS Xk [])).2=0;have:YaS Xk []=durL Xk [] YdL:=by simp [YaS,Xk]
  rw [this];simp only [durL,YdL,a1,a2,a3,a4];rfl
 have h6:(stepM Xk [] YaI 6).2=0:=by simp [stepM,W0,Xk,YaI,Yav,Yij]
 have h7:(stepM Xk [] YaI 7).2=0:=by
  have a:Yaz Xk [] [] YaI.goal=0:=by show Yaz Xk [] [] (atmF WA)=0;rw [Yaz,if_pos (l_litA _)];exact l_atm (.inr rfl)
  have e:(if Xk.duratives=[] then formM Xk [] [] YaI.goal else Yaz Xk [] [] YaI.goal)=0:=by rw [if_neg (by simp [Xk])];exact a
  simp only [stepM,Ykv,e,ne_eq,not_true_eq_false,if_false]
 rw [YT,ho,if_neg (fun h=>h ⟨lampD_ok,Ypp⟩),if_neg (fun h=>h ⟨fv_seen,lampP_ok,Ypo⟩),if_neg hl,if_neg (fun h=>h hn)];simp only [Yel,h0,h1,h2,h3,h4,h5,h6,h7,if_true,Nat.zero_add,Nat.reduceAdd]
theorem Ypm:domW Xk<=1300000:=by decide
theorem Ypl:prbW YaI<=1300000:=by decide
theorem Ymy:Apt Xk YaI:=apt_of Ymx Ypm Ypl
theorem Ykm:ChkS Xk YaI:=Yqj Ypm Ypl
theorem Ygr (l:List Formula):normM true (andF l)=joinF kAnd (l.map (normM true)):=by
 rw [WD,opA,if_neg Zh,if_neg Zh,if_pos rfl];rfl
theorem Yo3 (n:Bs):normM true (atmF n)=atmF n:=by
 have h:¬QuF kAtom:=by unfold QuF;decide
 rw [WD,opM,if_neg Zh,if_neg Zh,if_neg Zh,if_neg Zh,if_neg h,if_neg Zh,if_neg Zh,if_neg Zh,if_pos rfl]
theorem YeT:normM true Xd=Xd:=Ygr []
theorem norm_0:normV Xd=Xd:=by rw [normV,if_pos YdN,YeT]
theorem norm_1:normV (andF [Xd])=Xd:=by rw [normV,if_pos fv_a1,Ygr];simp only [List.map_cons,List.map_nil,YeT];simp [joinF,joinL,Xd,Formula.op,Formula.kids]
theorem norm_3:normV (andF [Xd,atmF bOn,Xd])=andF [atmF bOn]:=by
 have h:¬kAtom=kAnd:=by decide
 rw [normV,if_pos fv_a3,Ygr];simp only [List.map_cons,List.map_nil,YeT,Yo3];simp [joinF,joinL,Xd,atmF,andF,Formula.op,Formula.kids,h]
def aOn:Atom:=⟨bOn,[]⟩
def Yeu:Atom:=⟨WA,[]⟩
theorem YiW (K:Kn) (S:List Atom) (E:EnvM):holdsM K S E Xd=true:=by
 rw [XB,opT,if_neg Zh,if_neg Zh,if_neg Zh,if_pos rfl];show allH K S E []=true;rw [allH]
theorem Ylx (K:Kn) (S:List Atom) (E:EnvM):holdsM K S E (andF [atmF bOn])=decide (aOn∈S):=by
 rw [XB,opA,if_neg Zh,if_neg Zh,if_neg Zh,if_pos rfl];show allH K S E [atmF bOn]=_;rw [allH,allH,Bool.and_true,XB,opM,if_pos rfl];rfl
def s0:Schema:=⟨YlR,[],Xd,andF [atmF bOn],normV (andF [atmF bOn]),Xd,[addC 1 bOn],[addC 1 WA],false,[[]]⟩
theorem sch_l (K:Kn):schL K Xk=[s0]:=by
 have c1:normC [addC 1 bOn]=[addC 1 bOn]:=by simp [normC,addC,norm_0]
 have c2:normC [addC 1 WA,addC 2 bOn]=[addC 1 WA]:=by simp [normC,addC,norm_0]
 simp [schL,schB,Xk,YdL,schD,Ybn,c1,c2,norm_1,norm_3,Yc6,s0]
theorem Yqv {n:Bs}:YbE K [addC 1 n] E S=if (⟨n,[]⟩:Atom)∈S then (S,false) else (S++ [⟨n,[]⟩],true):=by
 simp only [YbE,List.foldl_cons,List.foldl_nil,addC,addM,YiW,bndA,List.map_nil];by_cases h:(⟨n,[]⟩:Atom)∈S<;>simp [h]
theorem Yle {s:Schema} {d:Bool} (h:s.arguments=[[]]):Xq K [s] S [[b]] [[d]]=⟨(Yah K s [] S b d).S,[[(Yah K s [] S b d).b]],[[(Yah K s [] S b d).d]],(Yah K s [] S b d).n⟩:=by
 simp [Xq,rndN,stepW,rowN,Ym8,h]
theorem on_ne:¬Yeu=aOn:=fun h=>e1 (congrArg Atom.name h)
theorem inst_1 (K:Kn):Yah K s0 [] [] false false=⟨[aOn],true,false,true⟩:=by
 have e:s0.early=[addC 1 bOn]:=rfl;have l:s0.late=[addC 1 WA]:=rfl;have s:s0.start=Xd:=rfl;have a:s0.all=andF [atmF bOn]:=rfl;simp [Yah,e,l,s,a,YiW,Ylx,Yqv,aOn]
theorem inst_2 (K:Kn):Yah K s0 [] [aOn] true false=⟨[aOn,Yeu],true,true,true⟩:=by
 have e:s0.early=[addC 1 bOn]:=rfl;have l:s0.late=[addC 1 WA]:=rfl;have s:s0.start=Xd:=rfl;have a:s0.all=andF [atmF bOn]:=rfl;have o:=on_ne;simp only [aOn,Yeu] at o;simp [Yah,e,l,s,a,YiW,Ylx,Yqv,aOn,Yeu,e1]
theorem inst_3 (K:Kn):Yah K s0 [] [aOn,Yeu] true true=⟨[aOn,Yeu],true,true,false⟩:=by
 have e:s0.early=[addC 1 bOn]:=rfl;have l:s0.late=[addC 1 WA]:=rfl;have s:s0.start=Xd:=rfl;have a:s0.all=andF [atmF bOn]:=rfl;simp [Yah,e,l,s,a,YiW,Ylx,Yqv,aOn,Yeu]
theorem exp_l (K:Kn):expM K Xk []=⟨[aOn,Yeu],[[true]],[[true]],false⟩:=by
 have h0:exN0 [s0]=[[false]]:=rfl;have r1:=Yle (K:=K) (s:=s0) (S:=[]) (b:=false) (d:=false) rfl;have r2:=Yle (K:=K) (s:=s0) (S:=[aOn]) (b:=true) (d:=false) rfl;have r3:=Yle (K:=K) (s:=s0) (S:=[aOn,Yeu]) (b:=true) (d:=true) rfl;rw [inst_1] at r1;rw [inst_2] at r2;rw [inst_3] at r3;rw [expM,sch_l,h0,exM];rw [show meas (totB [s0]) (totB [s0]) ⟨[],[[false]],[[false]],false⟩+1=4097+1+1+1 from rfl];rw [YfR (by rw [r1];simp),r1,YfR (by rw [r2];simp),r2,YlG (.inl (by rw [r3])),r3]
theorem Ypn {S0:List Atom} (h:YqC S0 (YgJ YaI.init)):S0=[]:=List.eq_nil_iff_forall_not_mem.2 fun a ha=>by
 have:=YgI.1 ((h.2 a).1 ha);cases this
theorem lamp_E:Yad Xk YaI []=0:=by
 rw [Yad,if_neg (fun h=>h Ymx),expE];have hs:schE (knM Xk YaI) Xk=0:=by
  rw [schE,sch_l,if_neg (by show ¬4096<1;decide),if_neg];rintro ⟨s,h,hb⟩;rw [List.mem_singleton] at h;subst h;exact absurd hb.1 Zh
 rw [if_neg (fun h=>h hs),exp_l,if_neg (by show ¬4096<2;decide)]
theorem lamp_l {l:List Atom} (h:l.Perm (expM K Xk []).S) (hs:Yjs l):l=[aOn,Yeu]:=by
 rw [exp_l] at h;have hc:cmpA aOn Yeu<0:=by decide+kernel
 have h2:l.length=2:=h.length_eq
 match l,h2 with
 | [a,b],_=>
  have ha:a=aOn\/a=Yeu:=by simpa using h.mem_iff.1 (List.mem_cons_self ..)
  have hd:([aOn,Yeu]:List Atom).Nodup:=by simp;exact fun h=>on_ne h.symm
  have hn:=h.nodup_iff.2 hd;have hb:b=aOn\/b=Yeu:=by simpa using h.mem_iff.1 (List.mem_cons_of_mem _ (List.mem_cons_self ..))
  rcases ha with rfl | rfl
  ·rcases hb with rfl | rfl
   ·simp at hn
   rfl
  rcases hb with rfl | rfl
  ·exact absurd hc (hs 0 1 _ _ Zh rfl rfl)
  simp at hn
theorem lamp_i (K:Kn):Ydr (schL K Xk) (expM K Xk []).D=[(YlR,[])]:=by rw [sch_l,exp_l];rfl
end Go.Proofs.YtacfpcbladaohaaGreatDoor
