/- The texts UT, UV, PNum, QNum, Rcm, QLw, PSize, QLx, QPl, laid together. Conditions: none. -/
import Derived.Test.YtdbfccanbbbjkaaGreatDoorSAT
set_option linter.all false
set_option maxHeartbeats 16000000
noncomputable section
set_option maxRecDepth 20000
open Go.Lx Go.RowKit
attribute [local instance 10] Classical.propDecidable
open Go.Proofs.Tryz (prog)
namespace Go.Proofs.YtdbfccanbbbjkaaGreatDoor
variable {A B:Option Addr} {fz:FZ} {n i:Nat} {M:Mn} {W:Wd} {cs:List Value} {d:Domain} {u1 u2 u3 u4 u5 u6 u7 v1 v2 v3 v4 v5 v6 va:Value}
theorem snames_g {ps:List Param} {c:Nat} (h:Sl paramL fz A n c ps) (hn:n<=1000000):
 GFn prog 89 [Zc A n c] fz [] (fun r fz' H'=>Grow strL 9 fz' r n H' (ps.map (·.name))):=by
 have lp:=h.len;have sp:=h.short;refine zF Tryz.func89 Tryz.ntmps89 (fun w0=>?_);refine zW ?_;refine Yl (fun q σ fz' H'=>∃ (k:Nat) (vo:Value) (Ho:HP),k<=n/\q=n - k/\σ=[(8,Zk k),(7,Zk n),(6,Zc A n c),(3,vo)]/\fz=fz'/\H'=Ho/\Grow strL 9 fz vo k Ho ((ps.take k).map (·.name))) ⟨0,_,[],Z0 _,rfl,rfl,rfl,rfl,Grow.nil _ _ _⟩ Zw Zb ?_;rintro q σ fz' H' ⟨k,vo,Ho,hk,rfl,rfl,rfl,rfl,hG⟩;obtain ⟨Ao,co,rfl,_,_⟩:=hG.form;refine wC ?_ ?_<;>intro c1
 ·obtain ⟨x,hx⟩:=Ye (l:=ps) (k:=k) Zi;refine wI h hx (fun p hp=>?_);refine zL hp ?_;intro cs hcs;obtain ⟨rfl,hR⟩:=YK hcs;refine zW ?_;intros;refine Yc (Yb (cs:=[Zy x.name]) (fun gc=>?_));refine Yc (YC (Hr:=[_,_]) (d:=x.name) (Zr _) hG W0 (.head _) ⟨rfl,hR.name⟩ (fun v' Hs' hO'=>?_));obtain ⟨Av',cv',rfl,_,_⟩:=hO'.form;exact wP (h:=by exact ⟨k+1,_,Hs',by omega,rfl,rfl,rfl,rfl,hO'.of (by rw [List.take_add_one,hx];simp) rfl⟩)
 have hk1:n=k:=by omega
 subst hk1;rw [show ps.take n=ps from Zl Zi] at hG;exact wR (h:=by exact hG)
def nmC (a:Action) (c:Change):List Bs:=c.params.map (·.name)++nmA a
def Yfw (M:Mn) (W:Wd) (a:Action) (as_:List Bs) (c:Change) (ls:List (List Bs)):List Atom:=
 (ls.filter fun l=>holdsW M W (nmC a c) (l++as_) (normV c.when_)).map fun l=>⟨c.name,c.args.map (valN (nmC a c) (l++as_))⟩
def Yfv (M:Mn) (W:Wd) (a:Action) (as_:List Bs) (k:Int) (c:Change):List Atom:=if c.kind=k then Yfw M W a as_ c (tupM M c.params) else []
def fireM (M:Mn) (W:Wd) (a:Action) (as_:List Bs) (k:Int):List Atom:=a.changes.flatMap (Yfv M W a as_ k)
theorem Ypw {a:Action} {as_:List Bs} {c:Change} {ls:List (List Bs)}:(Yfw M W a as_ c ls).length<=ls.length:=by
 unfold Yfw;rw [List.length_map];exact List.length_filter_le _ _
theorem Ypu {a:Action} {as_:List Bs} {k:Int} {l:List Change} {c:Change} (h:l[i]?=some c):(l.take (i+1)).flatMap (Yfv M W a as_ k)=(l.take i).flatMap (Yfv M W a as_ k)++Yfv M W a as_ k c:=by
 rw [List.take_add_one,h,List.flatMap_append];simp
theorem Ynw {a:Action} {as_:List Bs} {c:Change} {ls:List (List Bs)} {l:List Bs} (h:ls[i]?=some l):Yfw M W a as_ c (ls.take (i+1))=Yfw M W a as_ c (ls.take i)++if holdsW M W (nmC a c) (l++as_) (normV c.when_)=true then [⟨c.name,c.args.map (valN (nmC a c) (l++as_))⟩] else []:=by
 unfold Yfw;rw [List.take_add_one,h,List.filter_append,List.map_append];by_cases hh:holdsW M W (nmC a c) (l++as_) (normV c.when_)=true<;>simp [hh]
theorem Yjt {ps l:_} (h:l∈tupM M ps):l.length=ps.length:=by
 unfold tupM at h;split at h
 ·cases h
 have:=YfV M ps [[]] 0 (by simp) l h;omega
theorem Yh8 (hm:M.os.length<=6) {ps:List Param} (h:ps.length<=3):(tupM M ps).length<=216:=by
 unfold tupM;split
 ·exact Z0 _
 exact YlX hm h
structure FirC (c:Change):Prop where
 p:c.params.length<=3
 w:FmC c.when_
 a:c.args.length<=1000000000
theorem Ypt {v vw:Value} {a:Action} {as_:List Bs} {m d:Nat} {kd:Int} (hM:MnR fz v M) (hW:WdR fz W vw) (ha:actionL.rep fz a cs) (hB:Sl strL fz B m d as_) (hl:a.params.length<=as_.length) (h6:as_.length<=1000000) (hC:∀ c∈a.changes,FirC c) (hn:a.changes.length<=1000000):
 GFn prog 44 [v,vw,.agg cs.toArray,Zc B m d,Zk kd] fz [] (fun r fz' H'=>∃ n,n<=216000000/\Grow atomL 55 fz' r n H' (fireM M W a as_ kd)):=by
 have hM0:=hM;have hmany:=hM.many;obtain ⟨⟨g,v1,v2,v3,v4,v5,v6,a7,a8,a9,a10,a11,a12,a13,a14,a15,a16,a17,vf,A,n,c,rfl,hg,hD,hF,hO⟩,hw,hm⟩:=hM;have hW0:=hW;obtain ⟨Wa,wn,wc,Wv,wm,wd,rfl,hWA,hWV⟩:=hW;obtain ⟨A0,n0,c0,A1,n1,c1,A2,n2,c2,A3,n3,c3,A4,n4,c4,A5,n5,c5,rfl,hR⟩:=Ybh ha;obtain ⟨_,_,_,e0,i0⟩:=id hR.params;cases e0;obtain ⟨_,_,_,e5,i5⟩:=id hR.changes;cases e5;have lb:=hB.len;have l0:=i0.len;have l5:=i5.len;have s5:=i5.short;have lnA:(nmA a).length=a.params.length:=by unfold nmA;rw [List.length_map]
 refine zF Tryz.func44 Tryz.ntmps44 (fun w0=>?_);refine pX (fun g6=>?_);refine pY (fun g7=>?_)
 first
 | refine Wp.freezeAll (H1:=[]) (H2:=[_,_]) (Zr _) (fun fz0 hle0 hf0=>?_)
 | refine Seq.freezeAll (H1:=[]) (H2:=[_,_]) (Zr _) (fun fz0 hle0 hf0=>?_)
 have hg7:=hf0 _ (.head _);have hg6:=hf0 _ (.tail _ (.head _));refine zW ?_;refine Yl (fun q σ fz' H'=>∃ (k:Nat) (vo:Value) (mo:Nat) (Ho:HP),k<=n5/\q=n5 - k/\σ=[(22,Zk k),(21,Zk n5),(20,Zc A5 n5 c5),(11,vo),(7,Zp g7),(6,Zp g6),(0,Zp g),(3,Zc B m d),(4,Zk kd)]/\Le fz0 fz'/\H'=Ho/\mo<=k*216/\
  Grow atomL 55 fz' vo mo Ho ((a.changes.take k).flatMap (Yfv M W a as_ kd)))
  ⟨0,_,0,[],Z0 _,rfl,rfl,Zd,rfl,by omega,Grow.nil _ _ _⟩ Zw Zb ?_
 rintro q σ fz1 Ho ⟨k,vo,mo,_,hk,rfl,rfl,hle1,rfl,hmo,hGo⟩;obtain ⟨Ao,co,rfl,_,_⟩:=hGo.form;have hle01:=hle0.trans hle1;refine wC ?_ ?_<;>intro e1;rotate_left 1
 ·have hkn:n5=k:=by omega
  subst hkn;rw [show a.changes.take n5=a.changes from Zl Zi] at hGo;exact wR (h:=by exact ⟨mo,by omega,hGo⟩)
 obtain ⟨x,hx⟩:=Ye (l:=a.changes) (k:=k) Zi;have hxm:=Zm hx;have hxC:=hC x hxm;have hnx:=Ypu (M:=M) (W:=W) (a:=a) (as_:=as_) (k:=kd) hx;refine wI (i5.mono hle01) hx (fun p8 hp8=>?_);refine zL hp8 ?_;intro ds hds;have hds0:=hds;obtain ⟨X0,x0,y0,X1,x1,y1,X2,x2,y2,X3,x3,y3,X4,x4,y4,X5,x5,y5,X6,x6,y6,X7,x7,y7,rfl,hXR⟩:=Ycc hds;obtain ⟨_,_,_,e0,j0⟩:=id hXR.params;cases e0;obtain ⟨_,_,_,e0,j5⟩:=id hXR.args;cases e0;have k0:=j0.len;have k5:=j5.len;refine zW ?_;intros;rename_i g13;refine zC ?_ ?_<;>intro e2
 ·have hz:Yfv M W a as_ kd x=[]:=if_neg e2;exact wP (h:=by exact ⟨k+1,_,mo,Ho,by omega,rfl,rfl,hle1,rfl,by omega,by rw [hnx,hz,List.append_nil];exact hGo⟩)
 have hz:Yfv M W a as_ kd x=Yfw M W a as_ x (tupM M x.params):=if_pos Zi;refine zW ?_
 first
 | refine Wp.freezeAll (H1:=Ho) (H2:=[_]) (List.perm_append_singleton _ _).symm (fun fz2 hle2 hf2=>?_)
 | refine Seq.freezeAll (H1:=Ho) (H2:=[_]) (List.perm_append_singleton _ _).symm (fun fz2 hle2 hf2=>?_)
 have hg13:=hf2 _ (.head _);refine wG ?_;refine WX (vs:=[Zy x.when_.op,Zy x.when_.name,Zc X1 x1 y1,Zc X2 x2 y2,Zc X3 x3 y3,Zc X4 x4 y4]) hg13 ?_;refine Yc (Yj [] Ho Zz (Yer (hXR.when_.mono hle2) hxC.w.w) (fun v4 fz4 H4 hle4 hR4=>?_));obtain ⟨rfl,w1,w2,w3,w4,rfl,hN4⟩:=hR4;have hN4':=hN4;obtain ⟨⟨N1,r1,q1,rfl,_⟩,⟨N2,r2,q2,rfl,_⟩,⟨N3,r3,q3,rfl,_⟩,⟨N4,r4,q4,rfl,_⟩⟩:=hN4.sls;refine zW ?_;intros;rename_i g14
 first
 | refine Wp.freezeAll (H1:=Ho) (H2:=[_]) (List.perm_append_singleton _ _).symm (fun fz5 hle5 hf5=>?_)
 | refine Seq.freezeAll (H1:=Ho) (H2:=[_]) (List.perm_append_singleton _ _).symm (fun fz5 hle5 hf5=>?_)
 have hg14:=hf5 _ (.head _);have hle25:=hle4.trans hle5;have hg13':=hle25 _ _ hg13;have hle15:=hle2.trans hle25;have hle05:=hle01.trans hle15;refine zW ?_;refine Yc (Yj [] Ho Zz (YlW (hM0.mono hle05) (j0.mono hle15) (by have:=hxC.p;omega)) (fun v6 fz6 H6 hle6 hR6=>?_));obtain ⟨rfl,T6,t6,s6,rfl,iT⟩:=hR6;have lT:=iT.len;have hTl:=Yh8 (ps:=x.params) hmany hxC.p;have hle56:=hle15.trans hle6;rw [List.nil_append];refine zW ?_;refine Yl (fun q σ fz' H'=>∃ (j:Nat) (vo:Value) (mj:Nat),j<=t6/\q=t6 - j/\σ=[(38,Zk j),(37,Zk t6),(36,Zc T6 t6 s6),(14,Zp g14),(13,Zp g13),(22,Zk k),(21,Zk n5),(20,Zc A5 n5 c5),(11,vo),(7,Zp g7),(6,Zp g6),(0,Zp g),(3,Zc B m d),(4,Zk kd)]/\Le fz6 fz'/\mj<=mo+j/\
  Grow atomL 55 fz' vo mj H' ((a.changes.take k).flatMap (Yfv M W a as_ kd)++Yfw M W a as_ x ((tupM M x.params).take j)))
  ⟨0,_,mo,Z0 _,rfl,rfl,Zd,by omega,(hGo.mono (hle15.trans hle6)).of (by rw [List.take_zero];exact (List.append_nil _).symm) rfl⟩ Zw Zb ?_
 rintro q σ fz7 H7 ⟨j,vj,mj,hj,rfl,rfl,hle7,hmj,hGj⟩;obtain ⟨Aj,cj,rfl,_,_⟩:=hGj.form;have hle17:=hle56.trans hle7;have hle07:=hle01.trans hle17;have hle27:=(hle25.trans hle6).trans hle7;refine wC ?_ ?_<;>intro e3
 ·obtain ⟨l,hl'⟩:=Ye (l:=tupM M x.params) (k:=j) Zi;have hll:=Yjt (Zm hl');have hfn:=Ynw (M:=M) (W:=W) (a:=a) (as_:=as_) (c:=x) hl';have hg13'':=(hle6.trans hle7) _ _ hg13';have hg14':=(hle6.trans hle7) _ _ hg14;have hg7':=(hle1.trans hle17) _ _ hg7;have hg6':=(hle1.trans hle17) _ _ hg6;refine wI (iT.mono hle7) hl' (fun p9 hp9=>?_)
  ((refine zG ?_);refine X8 hp9 (fun S9 m9 d9 hsl=>?_));have l9:=hsl.len;refine zWN ?_;refine Y0 [] ?_;refine zW ?_;refine Yk ?_;refine zW ?_;refine Yk (Yk ?_);refine zW ?_;refine Yk ?_;refine zW ?_;refine pU ?_;refine Yf (Yj [] H7 Zz (snames_g (j0.mono (hle2.trans hle27)) (by have:=hxC.p;omega)) (fun v8 fz8 H8 hle8 hR8=>⟨⟨hle8,by intro p hp;cases hp⟩,?_⟩));obtain ⟨A8,c8,rfl,_,_⟩:=hR8.form;refine Yf (Yj [] (H8++H7) Zz (Yie (i0.mono (hle07.trans hle8)) Zi) (fun v9 fz9 H9 hle9 hR9=>⟨⟨hle8.trans hle9,by intro p hp;cases hp⟩,?_⟩));obtain ⟨rfl,A9,n9,c9,rfl,i9⟩:=hR9;have l9':=i9.len;rw [List.length_map] at l9';refine Yf (XT T (Hr:=H7) Zz Zz Zz Zz Zz Zz Zz Zz (show (H8++H7).Perm (H7++H8) from Zq) (hR8.mono hle9) W0 i9 (by show _*16<=_;have:=hxC.p;omega) (by have:=hxC.p;omega) (fun v10 H10 hO10=>⟨⟨hle8.trans hle9,by intro p hp;cases hp⟩,?_⟩));obtain ⟨A10,c10,rfl,_,_⟩:=hO10.form;refine Yf (Yj [] (H7++H10) Zz (YbK (hsl.mono (hle8.trans hle9)) (by have:=hxC.p;omega)) (fun v11 fz11 H11 hle11 hR11=>⟨⟨(hle8.trans hle9).trans hle11,by intro p hp;cases hp⟩,?_⟩));obtain ⟨A11,c11,rfl,_,_⟩:=hR11.form;have hle711:=(hle8.trans hle9).trans hle11;refine Yf (XT T (Hr:=H7++H10) Zz Zz Zz Zz Zz Zz Zz Zz Zq hR11 W0 (hB.mono (hle07.trans hle711)) (by show _*16<=_;have:=hxC.p;omega) (by have:=hxC.p;omega) (fun v12 H12 hO12=>⟨⟨hle711,by intro p hp;cases hp⟩,?_⟩));obtain ⟨A12,c12,rfl,_,_⟩:=hO12.form;refine Ch.qk ⟨hle711,by intro p hp;cases hp⟩ (YO ?_);refine Ch.qk ⟨hle711,by intro p hp;cases hp⟩ (YO ?_);refine Ch.done ?_;refine Ydl ?_
  first
  | refine Wp.freezeAll (H1:=H7) (H2:=H10++H12) (List.Perm.of_eq (List.append_assoc _ _ _)) (fun fz13 hle13 hf13=>?_)
  | refine Seq.freezeAll (H1:=H7) (H2:=H10++H12) (List.Perm.of_eq (List.append_assoc _ _ _)) (fun fz13 hle13 hf13=>?_)
  obtain ⟨B10,d10,e10,iN⟩:=(hO10.mono hle11).sl hle13 (fun p hp=>hf13 p (by simp [hp])) (by have:=hxC.p;omega);injection e10 with e101 e102 e103
  subst e101;subst e103;obtain ⟨B12,d12,e12,iX⟩:=hO12.sl hle13 (fun p hp=>hf13 p (by simp [hp])) (by have:=hxC.p;omega);injection e12 with e121 e122 e123
  subst e121;subst e123;have hnm:x.params.map (·.name)++a.params.map (·.name)=nmC a x:=rfl;rw [hnm] at iN;have hle713:=hle711.trans hle13;have hle013:=hle07.trans hle713;have hlN:(nmC a x).length<=(l++as_).length:=by unfold nmC;rw [List.length_append,List.length_append,List.length_map,lnA];omega
  have hp3:=hxC.p;have hnw:=hxC.w.nw;have hg13b:=hle713 _ _ hg13'';have hg14b:=hle713 _ _ hg14';have hg7b:=hle713 _ _ hg7';have hg6b:=hle713 _ _ hg6';have hNf:=hN4'.mono ((((hle5.trans hle6).trans hle7)).trans hle713);refine wG ?_;refine XL (Yh4 _ (Zs _) (hM0.mono hle013) (hW0.mono hle013) hNf iN iX hlN Zi Zi hxC.w.sh) (fun f1=>?_) (fun f1=>?_);rotate_left 1
  ·have hfn':Yfw M W a as_ x ((tupM M x.params).take (j+1))=Yfw M W a as_ x ((tupM M x.params).take j):=by rw [hfn,f1];simp
   exact wP (h:=by exact ⟨j+1,_,mj,by omega,rfl,rfl,hle7.trans hle713,by omega,by rw [hfn'];exact hGj.mono hle713⟩)
  have hfn':Yfw M W a as_ x ((tupM M x.params).take (j+1))=Yfw M W a as_ x ((tupM M x.params).take j)++ [⟨x.name,x.args.map (valN (nmC a x) (l++as_))⟩]:=by rw [hfn,f1];simp
  refine zWN ?_;refine Y0 [] ?_;refine zW ?_;refine pU ?_;refine Yf (Yj [] H7 Zz (YhY (j5.mono ((hle2.trans hle27).trans hle713)) (by have:=hxC.a;omega) iN iX hlN) (fun v14 fz14 H14 hle14 hR14=>⟨⟨hle14,by intro p hp;cases hp⟩,?_⟩));obtain ⟨rfl,A14,c14,rfl,i14⟩:=hR14;refine Ch.qk ⟨hle14,by intro p hp;cases hp⟩ (XE ?_);refine Yf (Yb (cs:=[Zy x.name,Zc A14 x5 c14]) (fun gb=>⟨⟨hle14,by intro p hp;cases hp⟩,?_⟩));refine Yf (YC (Hr:=[_]) (d:=⟨x.name,x.args.map (valN (nmC a x) (l++as_))⟩) (Zr _) (hGj.mono (hle713.trans hle14)) YbM (.head _) (Ycg (x:=⟨x.name,x.args.map (valN (nmC a x) (l++as_))⟩) ⟨hXR.name,i14.is⟩) (fun v15 H15 hO15=>⟨⟨hle14,by intro p hp;cases hp⟩,?_⟩));obtain ⟨A15,c15,rfl,_,_⟩:=hO15.form;refine Ch.qk ⟨hle14,by intro p hp;cases hp⟩ (YO ?_);refine Ch.done ?_;exact wP (h:=by exact ⟨j+1,_,mj+1,by omega,rfl,rfl,hle7.trans (hle713.trans hle14),by omega,by rw [hfn',<- List.append_assoc];exact hO15⟩)
 have hjt:t6=j:=by omega
 subst hjt;rw [show (tupM M x.params).take t6=tupM M x.params from Zl Zi] at hGj;exact wP (h:=by exact ⟨k+1,_,mj,H7,by omega,rfl,rfl,hle1.trans (hle15.trans (hle6.trans hle7)),rfl,by omega,by rw [hnx,hz];exact hGj⟩)
structure WB (n:Nat) (W:Wd):Prop where
 na:W.atoms.length<=n
 nv:W.values.length<=n
 a:∀ a∈W.atoms,a.args.length<=1000000000
 v:∀ v∈W.values,v.fluent.args.length<=1000000000
structure ActF (a:Action):Prop where
 c:ActC a
 f:∀ c∈a.changes,FirC c
 many:a.changes.length<=10
structure StepW (M:Mn) (W:Wd) (s:StepM) (a:Action) (W':Wd):Prop where
 mem:∀ x,x∈W'.atoms↔(x∈W.atoms/\x ∉ fireM M W a s.2 2)\/x∈fireM M W a s.2 1
theorem Ypv (hm:M.os.length<=6) {a:Action} {as_:List Bs} {k:Int} (hf:∀ c∈a.changes,FirC c) (hn:a.changes.length<=10):(fireM M W a as_ k).length<=2160:=by
 have h:=Ylu (f:=Yfv M W a as_ k) (b:=216) (l:=a.changes) (fun c hc=>by
  unfold Yfv;split
  ·exact Nat.le_trans Ypw (Yh8 hm (hf c hc).p)
  exact Z0 _)
 unfold fireM;exact Nat.le_trans h Zi
theorem Ynv {a:Action} {as_:List Bs} {k:Int} (hf:∀ c∈a.changes,FirC c):∀ x∈fireM M W a as_ k,x.args.length<=1000000000:=fun x hx=>by
 obtain ⟨c,hc,h⟩:=List.mem_flatMap.1 hx;unfold Yfv at h;split at h
 ·obtain ⟨l,_,rfl⟩:=List.mem_map.1 h;rw [List.length_map];exact (hf c hc).a
 cases h
theorem apply_f {p:Problem} {vw:Value} {s:StepM} {nb:Nat} (hM:MaxF fz) (hD:DomainR fz d v1 v2 v3 v4 v5 v6) (hP:ProblemR fz p u1 u2 u3 u4 u5 u6 u7) (hS:ChkS d p) (h6:(objsM d p).length<=6) (hc:(Y3 d p).2=0) (hA:∀ a∈d.actions,ActF a)
 (hW:WdR fz W vw) (hs:Ya4.rep fz s [Zk 0,Zy s.1,va]) (hn:s.2.length<=1000000) (hWB:WB nb W) (hnb:nb<=1900000):
 GFn prog 21 [ZD d v1 v2 v3 v4 v5 v6,ZP p u1 u2 u3 u4 u5 u6 u7,vw,.agg #[Zk 0,Zy s.1,va]] fz [] (fun r fz' H'=>H'=[]/\∃ v e W',r=.tuple #[v,errV e]/\WdR fz' W' v/\(e=0↔∃ a,AppOk (mnM d p) W s a)/\(e=0->WB (nb+3000) W'/\∃ a,AppOk (mnM d p) W s a/\StepW (mnM d p) W s a W')):=by
 have hD0:=hD;have hP0:=hP;have hW0:=hW;have hs0:=hs;obtain ⟨Wa,wn,wc,Wv,wm,wd,rfl,hWA,hWV⟩:=hW;obtain ⟨va',he,hsn,hsa⟩:=hs;simp at he;subst he;obtain ⟨B,m,d',rfl,ia⟩:=hsa;have lW:=hWA.len;have lV:=hWV.len;have ls:=ia.len;have b1:=hWB.na;have b2:=hWB.nv;obtain ⟨⟨A1,n1,b1',rfl,i1⟩,⟨A2,n2,b2',rfl,i2⟩,⟨A3,n3,b3,rfl,i3⟩,⟨A4,n4,b4,rfl,i4⟩,⟨A5,n5,b5,rfl,i5⟩,⟨A6,n6,b6,rfl,i6⟩⟩:=hD.sls;obtain ⟨⟨B1,m1,d1,rfl,j1⟩,⟨B2,m2,d2,rfl,j2⟩,⟨B3,m3,d3,rfl,j3⟩⟩:=hP.sls;obtain ⟨⟨B4,m4,d4,rfl,_⟩,⟨B5,m5,d5,rfl,_⟩,⟨B6,m6,d6,rfl,_⟩,⟨B7,m7,d7,rfl,_⟩⟩:=hP.goal.sls;refine zF Tryz.func21 Tryz.ntmps21 (fun w0=>?_);refine pX (fun g4=>?_);refine pY (fun g5=>?_);refine pY (fun g6=>?_);refine pY (fun g7=>?_);refine zWO ?_;intros;rename_i g8;refine Wp.freezeAll (H1:=[_]) (H2:=[_,_,_,_]) (Zr _) (fun fz0 hle0 hf0=>?_);have hg7:=hf0 _ (.head _);have hg6:=hf0 _ (.tail _ (.head _));have hg5:=hf0 _ (.tail _ (.tail _ (.head _)));have hg4:=hf0 _ (.tail _ (.tail _ (.tail _ (.head _))));refine vK (q:=Yiy (hM.mono hle0) (hD0.mono hle0) (hP0.mono hle0) hS h6) (h:=fun r7 fz7 H7 hle7 hR7=>?_);obtain ⟨rfl,vm,rfl,hMn⟩:=hR7;have hmn:=hMn hc;rw [hc,show errV 0=.nilIface from rfl];have hle07:=hle0.trans hle7;have hg7:=hle7 _ _ hg7;have hg6:=hle7 _ _ hg6;refine zV ?_;refine Yc (Yj [] [_] Zz (appl_f hmn (hW0.mono hle07) (Ya4.mono hle07 hs0) (fun a ha=>(hA a ha).c) hn) (fun v8 fz8 H8 hle8 hR8=>?_));obtain ⟨cs,l,e,a,rfl,ha,hbad,hgood⟩:=hR8;refine Seq.perm (H':=[_]++H8) Zq ?_;by_cases h0:e=0;rotate_left 1
 ·rw [YA h0];obtain ⟨hno,rfl⟩:=hbad h0;obtain ⟨X0,x0,y0,X1,x1,y1,X2,x2,y2,X3,x3,y3,X4,x4,y4,X5,x5,y5,rfl,hR⟩:=Ybh ha;refine zV ?_;intros;exact YaV T (vs:=[.agg #[Zn,Zn],.iface 84 (Zk e)]) ⟨⟨_,_,1,_,_,_,rfl,rfl,rfl,rfl,rfl,rfl⟩,rfl,trivial⟩ (fun fz3 hle3 hf3=>⟨rfl,_,e,⟨[],[]⟩,by rw [YA h0],⟨_,_,_,_,_,_,rfl,Sl.nil,Sl.nil⟩,⟨fun h=>absurd h h0,fun ⟨b,hb⟩=>absurd hb (hno b)⟩,fun h=>absurd h h0⟩)
 subst h0;obtain ⟨hok,nv,hGv⟩:=hgood rfl;rw [show errV 0=.nilIface from rfl];have ha0:=ha;obtain ⟨X0,x0,y0,X1,x1,y1,X2,x2,y2,X3,x3,y3,X4,x4,y4,X5,x5,y5,rfl,hR⟩:=Ybh ha;obtain ⟨Av,cv,rfl,_,_⟩:=hGv.form;have hac:=hA a hok.typ.mem;have hlt:=hok.typ.len;have hmany:=hmn.many;have hle08:=hle07.trans hle8;have hg7:=hle8 _ _ hg7;have hg6:=hle8 _ _ hg6;refine zV ?_;intros;rename_i g12;refine Yc (Yj [] (_::_::H8) Zz (Ypt (hmn.mono hle8) (hW0.mono hle08) ha0 (ia.mono hle08) Zi hn hac.f (by have:=hac.many;omega)) (fun v9 fz9 H9 hle9 hR9=>?_));obtain ⟨n9,hn9,hG9⟩:=hR9;obtain ⟨A9,c9,rfl,_,_⟩:=hG9.form;refine Seq.freezeAll (H1:=_::_::H8) (H2:=H9) Zq (fun fz10 hle10 hf10=>?_);obtain ⟨B10,d10,e10,iG⟩:=hG9.sl hle10 hf10 Zi;injection e10 with w1 w2 w3
 subst w1;subst w3;have hgone:WdR fz10 ⟨fireM (mnM d p) W a s.2 2,[]⟩ (.agg #[Zc A9 n9 c9,Zn]):=⟨_,_,_,_,_,_,rfl,iG,Sl.nil⟩;have hle810:=hle9.trans hle10;have hle010:=hle08.trans hle810;have hg7:=hle810 _ _ hg7;have hg6:=hle810 _ _ hg6;generalize hgl:fireM (mnM d p) W a s.2 2=gl at*;refine zV ?_;intros;rename_i g14 g15;refine Yl (fun q σ fz' H'=>∃ (k:Nat) (vo:Value) (mo:Nat) (Ho:HP),k<=wn/\q=wn - k/\σ=[(50,Zk k),(49,Zk wn),(48,Zc Wa wn wc),(15,Zp g15),(14,Zp g14),(13,Zc Av nv cv),(12,Zp g12),(10,vm),(8,Zp g8),(7,Zp g7),(6,Zp g6)]/\fz10=fz'/\
  H'=(g15,Zu #[vo,Zn] 52)::(g14,Zu #[Zc A9 n9 c9,Zn] 52)::(g12,Zu #[Zy a.name,Zc X0 x0 y0,Zk a.cost,Zy a.pre.op,Zy a.pre.name,Zc X1 x1 y1,Zc X2 x2 y2,Zc X3 x3 y3,Zc X4 x4 y4,Zc X5 x5 y5] 91)::(g8,Zu #[Zn,Zn] 52)::(H8++Ho)/\mo<=k/\Grow atomL 55 fz' vo mo Ho ((W.atoms.take k).filter fun x=>decide (x ∉ gl)))
  ⟨0,_,0,[],Z0 _,rfl,rfl,rfl,by rw [List.append_nil],Zs _,Grow.nil _ _ _⟩ Zw Zb ?_
 rintro q σ fz1 H' ⟨k,vo,mo,Ho,hk,rfl,rfl,rfl,rfl,hmo,hGo⟩;obtain ⟨Ao,co,rfl,_,_⟩:=hGo.form;refine vC ?_ ?_<;>intro e1
 ·obtain ⟨x,hx⟩:=Ye (l:=W.atoms) (k:=k) Zi;have hxm:=Zm hx;refine vI (hWA.mono hle010) hx (fun p1 hp1=>?_);refine zL hp1 ?_;intro ds hds;obtain ⟨vx,rfl,hRx⟩:=Xu hds;have hRx0:=hRx;obtain ⟨E1,r1,q1,rfl,_⟩:=hRx.args;refine zV ?_;intros;rename_i g17;refine zb (wis_q hgone hRx0) (fun f1=>?_) (fun f1=>?_)
  ·have f1:=Zt f1;exact vP (h:=by exact ⟨k+1,_,mo,Ho,by omega,rfl,rfl,rfl,rfl,by omega,hGo.of (by rw [List.take_add_one,hx,List.filter_append];simp [f1]) rfl⟩)
  have f1:=Zf f1;refine zV ?_;refine Yc (Yb (cs:=[Zy x.name,Zc E1 r1 q1]) (fun gb=>?_));refine Yc (YC (Hr:=_::_::_::_::_::_::H8) (d:=x) (Zr _) hGo YbM (.head _) (Ycg hRx) (fun v' Hs' hO'=>?_));obtain ⟨Av',cv',rfl,_,_⟩:=hO'.form;exact vP (h:=by exact ⟨k+1,_,mo+1,Hs',by omega,rfl,rfl,rfl,rfl,by omega,hO'.of (by rw [List.take_add_one,hx,List.filter_append];simp [f1]) rfl⟩)
 have hkn:wn=k:=by omega
 subst hkn;rw [show W.atoms.take wn=W.atoms from Zl Zi] at hGo;have hFl:=Ypv (M:=mnM d p) (W:=W) (a:=a) (as_:=s.2) (k:=1) hmany hac.f hac.many;have hcm:=hac.many;refine zWN ?_;refine Y0 [_,_,_,_] ?_;refine zW ?_;refine Yk (Yk ?_);refine zW ?_;refine pU ?_;refine Yf (Does.post (Yj [] (_::_::_::_::(H8++Ho)) Zz (Ypt (hmn.mono (hle8.trans hle810)) (hW0.mono hle010) (actionL.mono hle810 ha0) (ia.mono hle010) Zi hn hac.f Zi) (fun v6 fz6' H6 hle6' hR6=>⟨(_::_::_::_::(H8++Ho)),H6,Zq,fun fz6 hle6'' hf6=>?_⟩)));obtain ⟨n6,hn6,hG6⟩:=hR6;obtain ⟨B6',d6',rfl,iF⟩:=hG6.sl hle6'' hf6 Zi;have hle6:=hle6'.trans hle6'';have lF:=iF.len;refine ⟨⟨hle6,Zx⟩,?_⟩;refine Yf (XT T (Hr:=_::_::_::_::H8) Zz Zz Zz Zz Zz Zz Zz Zz (Zr _) (hGo.mono hle6) YbM iF (by show _*40<=_;omega) Zi (fun v10 H10 hO10=>⟨⟨hle6,Zx⟩,?_⟩));obtain ⟨A10,c10,rfl,_,_⟩:=hO10.form;refine Ch.hard0 (Yw ?_);refine Ch.done ?_;have hg6:=hle6 _ _ hg6;have hle06:=hle010.trans hle6;have hlv:nv=(numL a.changes).length:=by have:=hGv.len;unfold valC at this;rw [List.length_map] at this;exact this.symm
 have hlc:=Ymf a.changes;refine zV ?_;refine Yc (XT T (Hr:=_::_::_::_::H10) Zz Zz Zz Zz Zz Zz Zz Zz ((((List.perm_append_comm.cons _).cons _).cons _).cons _) (hGv.mono (hle810.trans hle6)) YbY (hWV.mono hle06) (by show _*48<=_;omega) Zi (fun v11 H11 hO11=>?_));obtain ⟨A11,c11,rfl,_,_⟩:=hO11.form;refine zV ?_;refine Seq.freezeAll (H1:=[_,_,_,_]) (H2:=H10++H11) (Zr _) (fun fz12 hle12 hf12=>?_);obtain ⟨B12,d12,e12,iA⟩:=hO10.sl hle12 (fun p hp=>hf12 p (by simp [hp])) Zi;injection e12 with w1 w2 w3
 subst w1;subst w3;obtain ⟨B13,d13,e13,iV⟩:=hO11.sl hle12 (fun p hp=>hf12 p (by simp [hp])) Zi;injection e13 with w1 w2 w3
 subst w1;subst w3;have hfl:((W.atoms).filter fun x=>decide (x ∉ gl)).length<=W.atoms.length:=List.length_filter_le _ _;have hvl:(valC (mnM d p).d W (nmA a) s.2 a.changes).length=(numL a.changes).length:=by unfold valC;rw [List.length_map]
 have hva:∀ v∈valC (mnM d p).d W (nmA a) s.2 a.changes,v.fluent.args.length<=1000000000:=fun v hv=>by
  obtain ⟨c,hc,rfl⟩:=List.mem_map.1 hv;show (c.args.map _).length<=_;rw [List.length_map];exact (hac.c.c c (List.mem_filter.1 hc).1).args
 have hfa:=Ynv (M:=mnM d p) (W:=W) (a:=a) (as_:=s.2) (k:=1) hac.f;have hwm:WdSm ⟨(W.atoms.filter fun x=>decide (x ∉ gl))++fireM (mnM d p) W a s.2 1,valC (mnM d p).d W (nmA a) s.2 a.changes++W.values⟩:=
  {na:=by rw [List.length_append];omega
   nv:=by rw [List.length_append];omega
   a:=fun y hy=>by
    rcases List.mem_append.1 hy with hy | hy
    ·exact hWB.a y (List.mem_filter.1 hy).1
    exact hfa y hy
   v:=fun y hy=>by
    rcases List.mem_append.1 hy with hy | hy
    ·exact hva y hy
    exact hWB.v y hy}
 refine Yc (Yj [] [_,_,_,_] Zz (YnO ⟨_,_,_,_,_,_,rfl,iA,iV⟩ hwm) (fun v13 fz13 H13 hle13 hR13=>?_));obtain ⟨rfl,W',hW',⟨lw,hp1,_,he1⟩,hp2⟩:=hR13;have hW0':=hW';obtain ⟨C1,k1,q1,C2,k2,q2,rfl,_,_⟩:=hW';refine zV ?_;refine YaV T (vs:=[.agg #[Zc C1 k1 q1,Zc C2 k2 q2],.nilIface]) ⟨⟨_,_,3,_,_,_,rfl,rfl,rfl,rfl,rfl,rfl⟩,rfl,trivial⟩ (fun fz14 hle14 hf14=>⟨rfl,_,0,W',rfl,hW0'.mono hle14,⟨fun _=>⟨a,hok⟩,fun _=>rfl⟩,fun _=>⟨?_,a,hok,⟨fun x=>?_⟩⟩⟩)
 ·have hd:=YiY (valC (mnM d p).d W (nmA a) s.2 a.changes++W.values) [];have hcl:=Yi0 lw lw.length;have hpl:=hp1.length_eq;rw [List.length_append] at hpl;exact
   {na:=by rw [he1];show (cpt lw lw.length).length<=_;omega
    nv:=by
     rw [hp2.length_eq];have h2:(dedV (valC (mnM d p).d W (nmA a) s.2 a.changes++W.values)).length<=0+(valC (mnM d p).d W (nmA a) s.2 a.changes++W.values).length:=hd.2;rw [List.length_append] at h2;show (dedV (valC (mnM d p).d W (nmA a) s.2 a.changes++W.values)).length<=_;omega
    a:=fun y hy=>by
     rw [he1,YfL,hp1.mem_iff] at hy;exact hwm.a y hy
    v:=fun y hy=>by
     rw [hp2.mem_iff] at hy;rcases hd.1 y hy with h | h
     ·cases h
     exact hwm.v y h}
 rw [he1,YfL,hp1.mem_iff,List.mem_append,List.mem_filter,<- hgl];simp
end Go.Proofs.YtdbfccanbbbjkaaGreatDoor
namespace Go.Proofs.YtdbfccanbbbjkaaGreatDoor
end Go.Proofs.YtdbfccanbbbjkaaGreatDoor
namespace Go.Proofs.YtdbfccanbbbjkaaGreatDoor
variable {α:Type} {fz:FZ} {va vb vk ve vp u1 u2 u3 u4 u5 u6 u7 v1 v2 v3 v4 v5 v6:Value} {A:Option Addr} {n k:Nat} {d:Domain} {l:List α}
def cmpT:List Bs->List Bs->Int
 | [],l=> -(l.length:Int)
 | x::xs,[]=>((x::xs).length:Int)
 | x::xs,y::ys=>if ltB x y=true then -1 else if x=y then cmpT xs ys else 1
def cmpR (a b:Atom):Int:=if a.name=b.name then cmpT a.args b.args else if ltB a.name b.name=true then -1 else 1
theorem ltB_irr (a:Bs):ltB a a=false:=by
 cases h:ltB a a with
 | false=>rfl
 | true=>
  have:∀ l:List UInt8,Op.bytesLess l l=false:=fun l=>by
   induction l with
   | nil=>rfl
   | cons x r ih=>simp [Op.bytesLess,ih]
  unfold ltB at h;rw [this] at h;cases h
theorem YkA:∀ (l l':List Bs),cmpT l l'=0↔l=l'
 | [],[]=>by simp [cmpT]
 | [],_::_=>by simp [cmpT];omega
 | _::_,[]=>by simp [cmpT];omega
 | x::xs,y::ys=>by
  rw [cmpT];by_cases h:x=y
  ·subst h;rw [if_neg (by rw [ltB_irr];decide),if_pos rfl,YkA xs ys];simp
  rw [if_neg h];constructor
  ·intro h1;split at h1<;>simp at h1
  intro h1;exact absurd (List.cons.inj h1).1 h
theorem YkB (a b:Atom):cmpR a b=0↔a=b:=by
 unfold cmpR;by_cases h:a.name=b.name
 ·rw [if_pos h,YkA];cases a;cases b;simp at h ⊢;simp [h]
 rw [if_neg h];constructor
 ·intro h1;split at h1<;>simp at h1
 intro h1;exact absurd (by rw [h1]) h
theorem rcmp_q {a b:Atom} (ha:AtomR fz a va) (hb:AtomR fz b vb):QFn prog 22 [.agg #[Zy a.name,va],.agg #[Zy b.name,vb]] fz (Zk (cmpR a b)):=by
 obtain ⟨A,n,c,rfl,ia⟩:=ha.args;obtain ⟨B,m,d,rfl,ib⟩:=hb.args;have la:=ia.len;have lb:=ib.len;have sa:=ia.short;have sb:=ib.short;refine qF Tryz.func22 Tryz.ntmps22 (fun w0=>?_);refine pX (fun g0=>?_);refine pY (fun g1=>?_);refine wC ?_ ?_<;>intro c1
 ·refine wG ?_;refine YeG (fun h1=>?_) (fun h1=>?_)
  ·exact wR (h:=by rw [cmpR,if_neg c1,if_pos h1])
  exact wR (h:=by rw [cmpR,if_neg c1,if_neg (by rw [h1];decide)])
 have hv:cmpR a b=cmpT a.args b.args:=by rw [cmpR,if_pos c1]
 refine zW ?_;refine Wn n (fun k=>[(5,Zk k),(3,Zp g1),(2,Zp g0)]) [(g1,Zu #[Zy b.name,Zc B m d] 55),(g0,Zu #[Zy a.name,Zc A n c] 55)] (fun k=>k<=m/\cmpT (a.args.drop k) (b.args.drop k)=cmpT a.args b.args) ⟨Z0 _,rfl⟩ ?_;intro k hk hh;obtain ⟨hkm,hcm⟩:=hh;refine wC ?_ ?_<;>intro c2
 ·obtain ⟨x,hx⟩:=Ye (l:=a.args) (k:=k) Zi;have ex:a.args.drop k=x::a.args.drop (k+1):=by
   obtain ⟨h1,h2⟩:=Zg hx;rw [<- h2];exact List.drop_eq_getElem_cons h1
  refine wC ?_ ?_<;>intro c3
  ·obtain ⟨y,hy⟩:=Ye (l:=b.args) (k:=k) Zi;have ey:b.args.drop k=y::b.args.drop (k+1):=by
    obtain ⟨h1,h2⟩:=Zg hy;rw [<- h2];exact List.drop_eq_getElem_cons h1
   rw [ex,ey] at hcm;refine wI ia hx (fun p1 hp1=>?_);refine zH hp1 (fun hs1=>?_);refine wI ib hy (fun p2 hp2=>?_);refine zH hp2 (fun hs2=>?_);refine wG ?_;refine YeG (fun h1=>?_) (fun h1=>?_)
   ·exact wR (h:=by rw [hv,<- hcm,cmpT,if_pos h1])
   refine wI ia hx (fun p3 hp3=>?_);refine zH hp3 (fun hs3=>?_);refine wI ib hy (fun p4 hp4=>?_);refine zH hp4 (fun hs4=>?_);refine wG ?_;refine YhC (fun h2 h3=>?_) (fun h2=>?_)
   ·exact wR (h:=by rw [hv,<- hcm,cmpT,if_neg (by rw [h1];decide),if_neg h3])
   have h3:x=y:=h2.resolve_left (by rw [h1];decide);refine zW ?_;refine Ww ⟨k+1,by omega,rfl,rfl,rfl,rfl,by omega,?_⟩ Zi Zw Zb;rw [<- hcm,cmpT,if_neg (by rw [h1];decide),if_pos h3]
  have ey:b.args.drop k=[]:=List.drop_eq_nil_of_le Zi;have hkm2:k=m:=by omega
  rw [ex,ey,cmpT,<- ex,List.length_drop] at hcm;exact wR (h:=by rw [hv,<- hcm];exact congrArg (Value.int .i64) Zi)
 have hk2:k=n:=by omega
 subst hk2;rw [List.drop_eq_nil_of_le Zi,cmpT,List.length_drop] at hcm;exact wR (h:=by rw [hv,<- hcm];exact congrArg (Value.int .i64) Zi)
theorem rhas_q {c:Nat} {l:List Atom} {a:Atom} (hl:Sl atomL fz A n c l) (ha:AtomR fz a va):QFn prog 9 [Zc A n c,.agg #[Zy a.name,va]] fz (Zo (decide (a∈l))):=by
 obtain ⟨B,m,d,rfl,ia⟩:=ha.args;have l1:=hl.len;have s1:=hl.short;refine qF Tryz.func9 Tryz.ntmps9 (fun w0=>?_);refine pX (fun g0=>?_);refine zW ?_;refine Wn n (fun k=>[(5,Zk k),(3,Zp g0),(0,Zc A n c)]) [(g0,Zu #[Zy a.name,Zc B m d] 55)] (fun k=>a ∉ l.take k) (by simp) ?_;intro k hk hh;refine wC ?_ ?_<;>intro c1
 ·obtain ⟨x,hx⟩:=Ye (l:=l) (k:=k) Zi;refine wI hl hx (fun p1 hp1=>?_);refine zL hp1 ?_;intro cs hcs;obtain ⟨vx,rfl,hR⟩:=Xu hcs;refine wc (rcmp_q hR ha) ?_;refine wC ?_ ?_<;>intro c2
  ·have e:x=a:=(YkB _ _).1 c2;exact wR (h:=by exact Yq (e ▸ Zm hx))
  refine zW ?_;refine Ww ⟨k+1,by omega,rfl,rfl,rfl,rfl,?_⟩ Zi Zw Zb;rw [List.take_add_one,hx];intro h;rcases List.mem_append.1 h with h | h
  ·exact hh h
  simp at h;subst h;exact c2 ((YkB _ _).2 rfl)
 rw [Zl Zi] at hh;exact wR (h:=by exact Yi hh)
theorem Yh9 {w:α->Nat}:((l.take k).map w).sum<=(l.map w).sum:=by
 conv=>rhs;rw [<- List.take_append_drop k l]
 rw [List.map_append,List.sum_append];omega
theorem Yia {w:α->Nat} {x:α} (hx:l[k]?=some x):((l.take (k+1)).map w).sum=((l.take k).map w).sum+w x:=by
 rw [List.take_add_one,hx];simp
mutual
theorem ecount_le:∀ e:Lx.Expr,ecount e<=eW e
 | .mk a b c args kids=>by have:=ecountL_le kids;rw [ecount,eW];omega
theorem ecountL_le:∀ l:List Lx.Expr,ecountL l<=eWL l
 | []=>by simp [ecountL]
 | x::r=>by have h1:=ecount_le x;have h2:=ecountL_le r;rw [ecountL,eWL];omega
end
mutual
theorem fcount_le:∀ f:Formula,fcount f<=fW f
 | .mk a b c d exprs kids=>by have h1:=ecountL_le exprs;have h2:=fcountL_le kids;rw [fcount,fW];omega
theorem fcountL_le:∀ l:List Formula,fcountL l<=fWL l
 | []=>by simp [fcountL]
 | x::r=>by have h1:=fcount_le x;have h2:=fcountL_le r;rw [fcountL,fWL];omega
end
theorem Yom:∀ (s:Nat) {fz:FZ} {e:Lx.Expr} {va vk:Value},SizeOf.sizeOf e<=s->ExprR fz e va vk->ecount e<=1000000000000->
 QFn prog 47 [.agg #[Zy e.op,Zy e.name,Zk e.n,va,vk]] fz (Zk (ecount e))
 | 0,_,e,_,_,hs,_,_=>by cases e;simp at hs
 | s+1,fz,e,va,vk,hs,h,hc=>by
  obtain ⟨⟨A,n,ca,rfl,ha⟩,⟨B,m,cb,rfl,hk⟩⟩:=h.sls;refine GFn.quiet ?_;have lk:=hk.len;have sk:=hk.short;have ec:=Yc0 e;refine zF Tryz.func47 Tryz.ntmps47 (fun w0=>?_);refine pX (fun g0=>?_);refine zW ?_;refine Yl (fun q σ fz' H'=>∃ (k:Nat) (c:Int),k<=m/\q=m - k/\σ=[(4,Zk k),(3,Zk c),(1,Zp g0)]/\fz=fz'/\H'=[(g0,Zu #[Zy e.op,Zy e.name,Zk e.n,Zc A n ca,Zc B m cb] 93)]/\c=((1+ecountL (e.kids.take k):Nat):Int)) ⟨0,_,Z0 _,rfl,rfl,rfl,rfl,rfl⟩ Zw Zb ?_;rintro q σ fz' H' ⟨k,c,hkm,rfl,rfl,rfl,rfl,hh⟩;refine wC ?_ ?_<;>intro c1
  ·obtain ⟨x,hx⟩:=Ye (l:=e.kids) (k:=k) Zi;have hxm:=Zm hx;have hlt:=Lx.Expr.kids_lt hxm;have hst:=Yc2 hx;have htk:=Yc1 (l:=e.kids) (k:=k+1);refine wI hk hx (fun p1 hp1=>?_);refine zL hp1 ?_;intro cs hcs;obtain ⟨wa,wk,rfl,hRx⟩:=YE hcs;refine wG ?_;refine Yt (Yom s Zi hRx Zi) ?_;exact wP (h:=by exact ⟨k+1,c+(ecount x:Nat),by omega,rfl,rfl,rfl,rfl,by omega⟩)
  rw [Zl Zi] at hh;exact wR (h:=by rw [hh,ec])
theorem Yol {e:Lx.Expr} (h:ExprR fz e va vk) (hc:ecount e<=1000000000000):
 QFn prog 47 [.agg #[Zy e.op,Zy e.name,Zk e.n,va,vk]] fz (Zk (ecount e)):=Yom _ (Zs _) h hc
theorem size_f:∀ (s:Nat) {fz:FZ} {f:Formula} {va vp ve vk:Value},SizeOf.sizeOf f<=s->FormulaR fz f va vp ve vk->fcount f<=1000000000000->
 QFn prog 26 [.agg #[Zy f.op,Zy f.name,va,vp,ve,vk]] fz (Zk (fcount f))
 | 0,_,e,_,_,_,_,hs,_,_=>by cases e;simp at hs
 | s+1,fz,f,va,vp,ve,vk,hs,h,hc=>by
  obtain ⟨⟨A,n,ca,rfl,ha⟩,⟨B,m,cb,rfl,hp⟩,⟨C,r,cr,rfl,he⟩,⟨D,q0,cq,rfl,hk⟩⟩:=h.sls;refine GFn.quiet ?_;have lk:=hk.len;have sk:=hk.short;have le:=he.len;have se:=he.short;have ec:=Yed f;refine zF Tryz.func26 Tryz.ntmps26 (fun w0=>?_);refine pX (fun g0=>?_);refine zW ?_;refine Yl (fun q σ fz' H'=>∃ (k:Nat) (c:Int),k<=r/\q=r - k/\σ=[(4,Zk k),(3,Zk c),(1,Zp g0)]/\fz=fz'/\H'=[(g0,Zu #[Zy f.op,Zy f.name,Zc A n ca,Zc B m cb,Zc C r cr,Zc D q0 cq] 35)]/\c=((1+ecountL (f.exprs.take k):Nat):Int)) ⟨0,_,Z0 _,rfl,rfl,rfl,rfl,rfl⟩ Zw Zb ?_;rintro q σ fz' H' ⟨k,c,hkm,rfl,rfl,rfl,rfl,hh⟩;refine wC ?_ ?_<;>intro c1
  ·obtain ⟨x,hx⟩:=Ye (l:=f.exprs) (k:=k) Zi;have hxm:=Zm hx;have hst:=Yc2 hx;have htk:=Yc1 (l:=f.exprs) (k:=k+1);refine wI he hx (fun p1 hp1=>?_);refine zL hp1 ?_;intro cs hcs;obtain ⟨wa,wk,rfl,hRx⟩:=YE hcs;refine wG ?_;refine Yt (Yol hRx Zi) ?_;exact wP (h:=by exact ⟨k+1,c+(ecount x:Nat),by omega,rfl,rfl,rfl,rfl,by omega⟩)
  rw [Zl Zi] at hh;refine zW ?_;refine Yl (fun q σ fz' H'=>∃ (k:Nat) (c:Int),k<=q0/\q=q0 - k/\σ=[(5,Zk k),(3,Zk c),(1,Zp g0)]/\fz=fz'/\H'=[(g0,Zu #[Zy f.op,Zy f.name,Zc A n ca,Zc B m cb,Zc C r cr,Zc D q0 cq] 35)]/\c=((1+ecountL f.exprs+fcountL (f.kids.take k):Nat):Int)) ⟨0,c,Z0 _,rfl,rfl,rfl,rfl,by rw [hh];simp [fcountL]⟩ Zw Zb ?_;rintro q σ fz' H' ⟨k,c,hkm,rfl,rfl,rfl,rfl,hh⟩;refine wC ?_ ?_<;>intro c2
  ·obtain ⟨x,hx⟩:=Ye (l:=f.kids) (k:=k) Zi;have hxm:=Zm hx;have hlt:=Formula.kids_lt hxm;have hst:=Yfn hx;have htk:=Yfm (l:=f.kids) (k:=k+1);refine wI hk hx (fun p1 hp1=>?_);refine zL hp1 ?_;intro cs hcs;obtain ⟨w1,w2,w3,w4,rfl,hRx⟩:=Yx hcs;refine wG ?_;refine Yt (size_f s Zi hRx Zi) ?_;exact wP (h:=by exact ⟨k+1,c+(fcount x:Nat),by omega,rfl,rfl,rfl,rfl,by omega⟩)
  rw [Zl Zi] at hh;exact wR (h:=by rw [hh,ec])
theorem YdP {f:Formula} (h:FormulaR fz f va vp ve vk) (hc:fcount f<=1000000000000):
 QFn prog 26 [.agg #[Zy f.op,Zy f.name,va,vp,ve,vk]] fz (Zk (fcount f)):=size_f _ (Zs _) h hc
def hvC (c:Change):Nat:=1+c.params.length+c.args.length+fcount c.when_+ecount c.value
def YbH (l:List Change):Nat:=(l.map hvC).sum
theorem hvC_le (c:Change):hvC c<=1*Y2 c:=by
 have h1:=fcount_le c.when_;have h2:=ecount_le c.value;unfold hvC Y2;omega
theorem YgF (l:List Change):YbH l<=(l.map Y2).sum:=by
 have:=Yib hvC_le l;unfold YbH;omega
theorem Ylp {ca:Nat} {l:List Change} (h1:Sl changeL fz A n ca l) (hc:YbH l<=1000000000000):
 QFn prog 46 [Zc A n ca] fz (Zk (YbH l)):=by
 refine GFn.quiet ?_;have l1:=h1.len;have s1:=h1.short;refine zF Tryz.func46 Tryz.ntmps46 (fun w0=>?_);refine zW ?_;refine Yl (fun q σ fz' H'=>∃ (k:Nat) (c:Int),k<=n/\q=n - k/\σ=[(4,Zk k),(3,Zk c),(0,Zc A n ca)]/\fz=fz'/\H'=[]/\c=((((l.take k).map hvC).sum:Nat):Int)) ⟨0,_,Z0 _,rfl,rfl,rfl,rfl,rfl⟩ Zw Zb ?_;rintro q σ fz' H' ⟨k,c,hkm,rfl,rfl,rfl,rfl,hh⟩;refine wC ?_ ?_<;>intro c1
 ·obtain ⟨x,hx⟩:=Ye (l:=l) (k:=k) Zi;have hst:=Yia (w:=hvC) hx;have htk:=Yh9 (w:=hvC) (l:=l) (k:=k+1);unfold YbH at hc;have hvx:hvC x=1+x.params.length+x.args.length+fcount x.when_+ecount x.value:=rfl;refine wI h1 hx (fun p1 hp1=>?_);refine wG ?_;refine X8 hp1.Change_params (fun P1 pn1 pc1 ip=>?_);have lp:=ip.len;refine wI h1 hx (fun p2 hp2=>?_);refine wG ?_;refine X8 hp2.Change_args (fun P2 pn2 pc2 ia=>?_);have la:=ia.len;refine wI h1 hx (fun p3 hp3=>?_);refine wL hp3.Change_when_ ?_;intro cs3 hcs3;obtain ⟨w1,w2,w3,w4,rfl,hR3⟩:=Yx hcs3
  ((refine zG ?_);refine Yt (YdP hR3 Zi) ?_);refine wI h1 hx (fun p4 hp4=>?_);refine wL hp4.Change_value ?_;intro cs4 hcs4;obtain ⟨u1,u2,rfl,hR4⟩:=YE hcs4
  ((refine zG ?_);refine Yt (Yol hR4 Zi) ?_);exact wP (h:=by exact ⟨k+1,c+(1+pn1+pn2+(fcount x.when_:Nat)+(ecount x.value:Nat)),by omega,rfl,rfl,rfl,rfl,by omega⟩)
 rw [Zl Zi] at hh;exact wR (h:=by rw [hh];rfl)
def laA (a:Action):Nat:=1+fcount a.pre+YbH a.changes
def laU (a:Durative):Nat:=1+fcount a.start+fcount a.over+fcount a.fin+YbH a.atStart+YbH a.atEnd
def Yj6 (d:Domain) (p:Problem):Nat:=d.types.length+d.constants.length+d.predicates.length+d.functions.length+p.objects.length+p.init.length+p.values.length+fcount p.goal+(d.actions.map laA).sum+(d.duratives.map laU).sum
theorem laA_le (a:Action):laA a<=1*actW a:=by
 have h1:=fcount_le a.pre;have h2:=YgF a.changes;unfold laA actW;omega
theorem laU_le (a:Durative):laU a<=1*durW a:=by
 have h1:=fcount_le a.start;have h2:=fcount_le a.over;have h3:=fcount_le a.fin;have h4:=YgF a.atStart;have h5:=YgF a.atEnd;unfold laU durW;omega
theorem Yo1 (d:Domain) (p:Problem):Yj6 d p<=domW d+prbW p:=by
 have h1:=Yib laA_le d.actions;have h2:=Yib laU_le d.duratives;have h3:=fcount_le p.goal;have h4:=XP YjQ d.predicates;have h5:=XP Ymy d.functions;have h6:=XP YkG p.init;have h7:=XP Yhs p.values;unfold Yj6 domW prbW;omega
theorem Ynm {p:Problem} (h:DomainR fz d v1 v2 v3 v4 v5 v6) (hp:ProblemR fz p u1 u2 u3 u4 u5 u6 u7) (hn:Yj6 d p<=1000000000000:=by omega):
 QFn prog 24 [ZD d v1 v2 v3 v4 v5 v6,ZP p u1 u2 u3 u4 u5 u6 u7] fz (Zo (decide (2000<Yj6 d p))):=by
 obtain ⟨A1,n1,b1,rfl,i1⟩:=h.types;have l1:=i1.len;obtain ⟨A2,n2,b2,rfl,i2⟩:=h.constants;have l2:=i2.len;obtain ⟨A3,n3,b3,rfl,i3⟩:=h.predicates;have l3:=i3.len;obtain ⟨A4,n4,b4,rfl,i4⟩:=h.functions;have l4:=i4.len;obtain ⟨A5,n5,b5,rfl,i5⟩:=h.actions;have l5:=i5.len;obtain ⟨A6,n6,b6,rfl,i6⟩:=h.duratives;have l6:=i6.len;have s5:=i5.short;have s6:=i6.short;obtain ⟨C1,m1,e1,rfl,j1⟩:=hp.objects;have k1:=j1.len;obtain ⟨C2,m2,e2,rfl,j2⟩:=hp.init;have k2:=j2.len;obtain ⟨C3,m3,e3,rfl,j3⟩:=hp.values;have k3:=j3.len;have hg:=hp.goal;obtain ⟨⟨U1,w1,z1,rfl,_⟩,⟨U2,w2,z2,rfl,_⟩,⟨U3,w3,z3,rfl,_⟩,⟨U4,w4,z4,rfl,_⟩⟩:=hp.goal.sls;refine GFn.quiet ?_;have hnn:Yj6 d p=d.types.length+d.constants.length+d.predicates.length+d.functions.length+p.objects.length+p.init.length+p.values.length+fcount p.goal+(d.actions.map laA).sum+(d.duratives.map laU).sum:=rfl;refine zF Tryz.func24 Tryz.ntmps24 (fun w0=>?_);refine pX (fun g0=>?_);refine pY (fun g1=>?_);refine wG ?_;refine Yg (vs:=[Zy p.goal.op,Zy p.goal.name,Zc U1 w1 z1,Zc U2 w2 z2,Zc U3 w3 z3,Zc U4 w4 z4]) 0 ?_
 ((refine zG ?_);refine Yt (YdP hg Zi) ?_);refine zW ?_;refine Yl (fun q σ fz' H'=>∃ (k:Nat) (c:Int),k<=n5/\q=n5 - k/\σ=[(6,Zk k),(5,Zk c),(2,Zp g0)]/\fz=fz'/\H'=[(g0,Zu #[Zy d.name,Zc A1 n1 b1,Zc A2 n2 b2,Zc A3 n3 b3,Zc A4 n4 b4,Zc A5 n5 b5,Zc A6 n6 b6] 28)]/\c=((n1+n2+n3+n4+m1+m2+m3+fcount p.goal+((d.actions.take k).map laA).sum:Nat):Int)) ⟨0,(n1:Int)+n2+n3+n4+m1+m2+m3+(fcount p.goal:Nat),Z0 _,rfl,rfl,rfl,rfl,by simp⟩ Zw (List.Sublist.cons _ (List.Sublist.refl _)) ?_;rintro q σ fz' H' ⟨k,c,hkm,rfl,rfl,rfl,rfl,hh⟩;refine wC ?_ ?_<;>intro c1
 ·obtain ⟨x,hx⟩:=Ye (l:=d.actions) (k:=k) Zi;have hst:=Yia (w:=laA) hx;have htk:=Yh9 (w:=laA) (l:=d.actions) (k:=k+1);have hvx:laA x=1+fcount x.pre+YbH x.changes:=rfl;refine wI i5 hx (fun pp1 hp1=>?_);refine wL hp1.Action_pre ?_;intro cs1 hcs1;obtain ⟨s1,s2,s3,s4,rfl,hR1⟩:=Yx hcs1
  ((refine zG ?_);refine Yt (YdP hR1 Zi) ?_);refine wI i5 hx (fun pp2 hp2=>?_);refine wG ?_;refine X8 hp2.Action_changes (fun P2 pn2 pc2 ic=>?_)
  ((refine zG ?_);refine Yt (Ylp ic Zi) ?_);exact wP (h:=by exact ⟨k+1,c+(1+(fcount x.pre:Nat)+(YbH x.changes:Nat)),by omega,rfl,rfl,rfl,rfl,by omega⟩)
 rw [Zl Zi] at hh;refine zW ?_;refine Yl (fun q σ fz' H'=>∃ (k:Nat) (c:Int),k<=n6/\q=n6 - k/\σ=[(7,Zk k),(5,Zk c),(2,Zp g0)]/\fz=fz'/\H'=[(g0,Zu #[Zy d.name,Zc A1 n1 b1,Zc A2 n2 b2,Zc A3 n3 b3,Zc A4 n4 b4,Zc A5 n5 b5,Zc A6 n6 b6] 28)]/\c=((n1+n2+n3+n4+m1+m2+m3+fcount p.goal+(d.actions.map laA).sum+((d.duratives.take k).map laU).sum:Nat):Int)) ⟨0,c,Z0 _,rfl,rfl,rfl,rfl,by rw [hh];simp⟩ Zw Zb ?_;rintro q σ fz' H' ⟨k,c,hkm,rfl,rfl,rfl,rfl,hh⟩;refine wC ?_ ?_<;>intro c2
 ·obtain ⟨x,hx⟩:=Ye (l:=d.duratives) (k:=k) Zi;have hst:=Yia (w:=laU) hx;have htk:=Yh9 (w:=laU) (l:=d.duratives) (k:=k+1);have hvx:laU x=1+fcount x.start+fcount x.over+fcount x.fin+YbH x.atStart+YbH x.atEnd:=rfl;refine wI i6 hx (fun pp1 hp1=>?_);refine zL hp1 ?_;intro cs1 hcs1;obtain ⟨r0,r1,r2,r3,r4,r5,r6,r7,r8,r9,r10,r11,r12,r13,r14,rfl,hR⟩:=XG hcs1;obtain ⟨P,p1,q1,rfl,ip⟩:=hR.params;have hS1:=hR.start;have hS2:=hR.over;have hS3:=hR.fin;obtain ⟨⟨V1,a1,y1,rfl,_⟩,⟨V2,a2,y2,rfl,_⟩,⟨V3,a3,y3,rfl,_⟩,⟨V4,a4,y4,rfl,_⟩⟩:=hR.start.sls;obtain ⟨⟨V5,a5,y5,rfl,_⟩,⟨V6,a6,y6,rfl,_⟩,⟨V7,a7,y7,rfl,_⟩,⟨V8,a8,y8,rfl,_⟩⟩:=hR.over.sls;obtain ⟨⟨V9,a9,y9,rfl,_⟩,⟨V10,a10,y10,rfl,_⟩,⟨V11,a11,y11,rfl,_⟩,⟨V12,a12,y12,rfl,_⟩⟩:=hR.fin.sls;obtain ⟨V13,a13,y13,rfl,ia⟩:=hR.atStart;obtain ⟨V14,a14,y14,rfl,ie⟩:=hR.atEnd;refine zW ?_;intros
  ((refine zG ?_);refine Yg (vs:=[Zy x.start.op,Zy x.start.name,Zc V1 a1 y1,Zc V2 a2 y2,Zc V3 a3 y3,Zc V4 a4 y4]) 0 ?_);refine wG ?_;refine Yt (YdP hS1 Zi) ?_;refine wG ?_;refine Yg (vs:=[Zy x.over.op,Zy x.over.name,Zc V5 a5 y5,Zc V6 a6 y6,Zc V7 a7 y7,Zc V8 a8 y8]) 0 ?_;refine wG ?_;refine Yt (YdP hS2 Zi) ?_;refine wG ?_;refine Yg (vs:=[Zy x.fin.op,Zy x.fin.name,Zc V9 a9 y9,Zc V10 a10 y10,Zc V11 a11 y11,Zc V12 a12 y12]) 0 ?_;refine wG ?_;refine Yt (YdP hS3 Zi) ?_;refine wG ?_;refine Yt (Ylp ia Zi) ?_;refine wG ?_;refine Yt (Ylp ie Zi) ?_;exact wP (h:=by exact ⟨k+1,c+(1+(fcount x.start:Nat)+(fcount x.over:Nat)+(fcount x.fin:Nat)+(YbH x.atStart:Nat)+(YbH x.atEnd:Nat)),by omega,rfl,rfl,rfl,rfl,by omega⟩)
 rw [Zl Zi] at hh;refine wC ?_ ?_<;>intro c3
 ·exact wR (h:=by exact Yq Zi)
 exact wR (h:=by exact Yi Zi)
mutual
def spreadM:Formula->Nat
 | .mk _ _ _ params _ kids=>spreadL kids+params.length
def spreadL:List Formula->Nat
 | []=>0
 | k::r=>max (spreadM k) (spreadL r)
end
mutual
theorem spread_le:∀ f:Formula,spreadM f<=fW f
 | .mk a b c d exprs kids=>by have h:=spreadL_le kids;rw [spreadM,fW];omega
theorem spreadL_le:∀ l:List Formula,spreadL l<=fWL l
 | []=>by simp [spreadL]
 | x::r=>by have h1:=spread_le x;have h2:=spreadL_le r;rw [spreadL,fWL];omega
end
theorem kid_fW {f k:Formula} (h:k∈f.kids):fW k<=fW f:=by
 have:=Xb (w:=fW) h;rw [Ybu f];omega
theorem Yok (f:Formula):spreadM f=spreadL f.kids+f.params.length:=by cases f;rw [spreadM];rfl
theorem YfZ:∀ (a b:List Formula),spreadL (a++b)=max (spreadL a) (spreadL b)
 | [],b=>by simp [spreadL]
 | x::a,b=>by rw [List.cons_append,spreadL,spreadL,YfZ a b];omega
theorem Yjy {l:List Formula} {x:Formula} (hx:l[k]?=some x):spreadL (l.take (k+1))=max (spreadL (l.take k)) (spreadM x):=by
 rw [List.take_add_one,hx,YfZ];simp [spreadL]
theorem Yl1:∀ (s:Nat) {fz:FZ} {f:Formula} {va vp ve vk:Value},SizeOf.sizeOf f<=s->FormulaR fz f va vp ve vk->fW f<=1000000000000->
 QFn prog 25 [.agg #[Zy f.op,Zy f.name,va,vp,ve,vk]] fz (Zk (spreadM f))
 | 0,_,e,_,_,_,_,hs,_,_=>by cases e;simp at hs
 | s+1,fz,f,va,vp,ve,vk,hs,h,hc=>by
  obtain ⟨⟨A,n,ca,rfl,ha⟩,⟨B,m,cb,rfl,hp⟩,⟨C,r,cr,rfl,he⟩,⟨D,q0,cq,rfl,hk⟩⟩:=h.sls;refine GFn.quiet ?_;have lk:=hk.len;have sk:=hk.short;have lp:=hp.len;have ec:=Yok f;have el:=spread_le f;refine zF Tryz.func25 Tryz.ntmps25 (fun w0=>?_);refine pX (fun g0=>?_);refine zW ?_;refine Yl (fun q σ fz' H'=>∃ (k:Nat) (c:Int),k<=q0/\q=q0 - k/\σ=[(4,Zk k),(3,Zk c),(1,Zp g0)]/\fz=fz'/\H'=[(g0,Zu #[Zy f.op,Zy f.name,Zc A n ca,Zc B m cb,Zc C r cr,Zc D q0 cq] 35)]/\c=((spreadL (f.kids.take k):Nat):Int)) ⟨0,_,Z0 _,rfl,rfl,rfl,rfl,rfl⟩ Zw Zb ?_;rintro q σ fz' H' ⟨k,c,hkm,rfl,rfl,rfl,rfl,hh⟩;refine wC ?_ ?_<;>intro c1
  ·obtain ⟨x,hx⟩:=Ye (l:=f.kids) (k:=k) Zi;have hxm:=Zm hx;have hlt:=Formula.kids_lt hxm;have hst:=Yjy hx;have hxw:=kid_fW hxm;refine wI hk hx (fun p1 hp1=>?_);refine zL hp1 ?_;intro cs hcs;obtain ⟨w1,w2,w3,w4,rfl,hRx⟩:=Yx hcs;refine wG ?_;refine Yt (Yl1 s Zi hRx Zi) ?_;exact wP (h:=by exact ⟨k+1,max c (spreadM x:Nat),by omega,rfl,rfl,rfl,rfl,by omega⟩)
  rw [Zl Zi] at hh;exact wR (h:=by rw [hh,ec];exact congrArg (Value.int .i64) Zi)
theorem Yid {f:Formula} (h:FormulaR fz f va vp ve vk) (hc:fW f<=1000000000000):
 QFn prog 25 [.agg #[Zy f.op,Zy f.name,va,vp,ve,vk]] fz (Zk (spreadM f)):=Yl1 _ (Zs _) h hc
structure FitA (x:Action):Prop where
 params:x.params.length<=3
 many:x.changes.length<=10
 c:∀ c∈x.changes,c.params.length<=3
structure Fit14 (d:Domain) (p:Problem):Prop where
 os:d.constants.length+p.objects.length<=6
 acts:d.actions.length<=8
 init:p.init.length<=40
 a:∀ a∈d.actions,FitA a
theorem Yo3 {p:Problem} (h:DomainR fz d v1 v2 v3 v4 v5 v6) (hp:ProblemR fz p u1 u2 u3 u4 u5 u6 u7) (hd:domW d<=1000000000) (hw:prbW p<=1000000000):
 GFn prog 11 [ZD d v1 v2 v3 v4 v5 v6,ZP p u1 u2 u3 u4 u5 u6 u7] fz [] (fun r _ H'=>H'=[]/\∃ b,r=Zo b/\(b=false->Fit14 d p)):=by
 have h0:=h;have hp0:=hp;have hn:=Yo1 d p;obtain ⟨A1,n1,b1,rfl,i1⟩:=h.types;obtain ⟨A2,n2,b2,rfl,i2⟩:=h.constants;have l2:=i2.len;have s2:=i2.short;obtain ⟨A3,n3,b3,rfl,i3⟩:=h.predicates;obtain ⟨A4,n4,b4,rfl,i4⟩:=h.functions;obtain ⟨A5,n5,b5,rfl,i5⟩:=h.actions;have l5:=i5.len;obtain ⟨A6,n6,b6,rfl,i6⟩:=h.duratives;have s5:=i5.short;obtain ⟨C1,m1,e1,rfl,j1⟩:=hp.objects;have k1:=j1.len;have t1:=j1.short;obtain ⟨C2,m2,e2,rfl,j2⟩:=hp.init;have k2:=j2.len;obtain ⟨C3,m3,e3,rfl,j3⟩:=hp.values;have hg:=hp.goal;have hgw:fW p.goal<=prbW p:=by unfold prbW;omega
 have hgc:=fcount_le p.goal;obtain ⟨⟨U1,w1,z1,rfl,_⟩,⟨U2,w2,z2,rfl,_⟩,⟨U3,w3,z3,rfl,_⟩,⟨U4,w4,z4,rfl,_⟩⟩:=hp.goal.sls;refine zF Tryz.func11 Tryz.ntmps11 (fun w0=>?_);refine pX (fun g0=>?_);refine pY (fun g1=>?_);refine wb (Ynm h0 hp0) (fun f1=>?_) (fun f1=>?_)
 ·exact wR (h:=by exact ⟨rfl,true,rfl,Za⟩)
 refine wC ?_ ?_<;>intro c1
 ·exact wR (h:=by exact ⟨rfl,true,rfl,Za⟩)
 refine wC ?_ ?_<;>intro c2
 ·exact wR (h:=by exact ⟨rfl,true,rfl,Za⟩)
 refine wC ?_ ?_<;>intro c3
 ·exact wR (h:=by exact ⟨rfl,true,rfl,Za⟩)
 refine wG ?_;refine Yg (vs:=[Zy p.goal.op,Zy p.goal.name,Zc U1 w1 z1,Zc U2 w2 z2,Zc U3 w3 z3,Zc U4 w4 z4]) 0 ?_
 ((refine zG ?_);refine Yt (Yid hg Zi) ?_);refine wC ?_ ?_<;>intro c4
 ·exact wR (h:=by exact ⟨rfl,true,rfl,Za⟩)
 refine wG ?_;refine Yg (vs:=[Zy p.goal.op,Zy p.goal.name,Zc U1 w1 z1,Zc U2 w2 z2,Zc U3 w3 z3,Zc U4 w4 z4]) 0 ?_
 ((refine zG ?_);refine Yt (YdP hg Zi) ?_);refine wC ?_ ?_<;>intro c5
 ·exact wR (h:=by exact ⟨rfl,true,rfl,Za⟩)
 refine zW ?_;refine Yl (fun q σ fz' H'=>∃ (k:Nat),k<=n5/\q=n5 - k/\σ=[(5,Zk k),(2,Zp g0)]/\fz=fz'/\H'=[(g0,Zu #[Zy d.name,Zc A1 n1 b1,Zc A2 n2 b2,Zc A3 n3 b3,Zc A4 n4 b4,Zc A5 n5 b5,Zc A6 n6 b6] 28)]/\(∀ i,i<k->∀ x,d.actions[i]?=some x->FitA x)) ⟨0,Z0 _,rfl,rfl,rfl,rfl,fun i hi=>absurd hi Zi⟩ Zw (List.Sublist.cons _ (List.Sublist.refl _)) ?_;rintro q σ fz' H' ⟨k,hkm,rfl,rfl,rfl,rfl,hfit⟩;refine wC ?_ ?_<;>intro c6
 ·obtain ⟨x,hx⟩:=Ye (l:=d.actions) (k:=k) Zi;have hxw:actW x<=domW d:=by
   have:=Xb (w:=actW) (Zm hx);unfold domW;omega
  have hxe:actW x=1+x.params.length+fW x.pre+(x.changes.map Y2).sum:=rfl;have hxc:=fcount_le x.pre;refine wI i5 hx (fun pp1 hp1=>?_);refine zL hp1 ?_;intro cs1 hcs1;obtain ⟨r1,r2,r3,r4,r5,r6,rfl,hR⟩:=Xg hcs1;obtain ⟨P,p1,q1,rfl,ip⟩:=hR.params;have hS1:=hR.pre;obtain ⟨⟨V1,a1,y1,rfl,_⟩,⟨V2,a2,y2,rfl,_⟩,⟨V3,a3,y3,rfl,_⟩,⟨V4,a4,y4,rfl,_⟩⟩:=hR.pre.sls;obtain ⟨W1,o1,f2,rfl,ic⟩:=hR.changes;have lc:=ic.len;have lpp:=ip.len;have sc:=ic.short;refine Yc (YS (fun ga=>?_));refine wC ?_ ?_<;>intro d1
  ·exact wR (h:=by exact ⟨rfl,true,rfl,Za⟩)
  refine wG ?_;refine Yg (vs:=[Zy x.pre.op,Zy x.pre.name,Zc V1 a1 y1,Zc V2 a2 y2,Zc V3 a3 y3,Zc V4 a4 y4]) 0 ?_
  ((refine zG ?_);refine Yt (Yid hS1 Zi) ?_);refine wC ?_ ?_<;>intro d2
  ·exact wR (h:=by exact ⟨rfl,true,rfl,Za⟩)
  refine wG ?_;refine Yg (vs:=[Zy x.pre.op,Zy x.pre.name,Zc V1 a1 y1,Zc V2 a2 y2,Zc V3 a3 y3,Zc V4 a4 y4]) 0 ?_
  ((refine zG ?_);refine Yt (YdP hS1 Zi) ?_);refine wC ?_ ?_<;>intro d3
  ·exact wR (h:=by exact ⟨rfl,true,rfl,Za⟩)
  refine wC ?_ ?_<;>intro d4
  ·exact wR (h:=by exact ⟨rfl,true,rfl,Za⟩)
  refine zW ?_;refine Yl (fun q σ fz' H'=>∃ (k':Nat),k'<=o1/\q=o1 - k'/\σ=[(7,Zk k'),(6,Zp ga),(5,Zk k),(2,Zp g0)]/\fz=fz'/\H'=[(ga,Zu #[Zy x.name,Zc P p1 q1,Zk x.cost,Zy x.pre.op,Zy x.pre.name,Zc V1 a1 y1,Zc V2 a2 y2,Zc V3 a3 y3,Zc V4 a4 y4,Zc W1 o1 f2] 91),(g0,Zu #[Zy d.name,Zc A1 n1 b1,Zc A2 n2 b2,Zc A3 n3 b3,Zc A4 n4 b4,Zc A5 n5 b5,Zc A6 n6 b6] 28)]/\(∀ i,i<k'->∀ c,x.changes[i]?=some c->c.params.length<=3)) ⟨0,Z0 _,rfl,rfl,rfl,rfl,fun i hi=>absurd hi Zi⟩ Zw Zb ?_;rintro q σ fz' H' ⟨k',hkm',rfl,rfl,rfl,rfl,hfc⟩;refine wC ?_ ?_<;>intro c7
  ·obtain ⟨ch,hch⟩:=Ye (l:=x.changes) (k:=k') Zi;have hcw:=Xb (w:=Y2) (Zm hch);have hce:Y2 ch=1+ch.params.length+fW ch.when_+ch.args.length+eW ch.value:=rfl;have hcc:=fcount_le ch.when_;have hcs:=spread_le ch.when_;refine wI ic hch (fun pp2 hp2=>?_);refine wG ?_;refine X8 hp2.Change_params (fun P2 pn2 pc2 ipc=>?_);have lpc:=ipc.len;refine wI ic hch (fun pp3 hp3=>?_);refine wL hp3.Change_when_ ?_;intro cs3 hcs3;obtain ⟨w1,w2,w3,w4,rfl,hR3⟩:=Yx hcs3;refine wG ?_;refine Yt (Yid hR3 Zi) ?_;refine wC ?_ ?_<;>intro e1
   ·exact wR (h:=by exact ⟨rfl,true,rfl,Za⟩)
   refine wI ic hch (fun pp4 hp4=>?_);refine wL hp4.Change_when_ ?_;intro cs4 hcs4;obtain ⟨x1,x2,x3,x4,rfl,hR4⟩:=Yx hcs4;refine wG ?_;refine Yt (YdP hR4 Zi) ?_;refine wC ?_ ?_<;>intro e2
   ·exact wR (h:=by exact ⟨rfl,true,rfl,Za⟩)
   exact wP (h:=by exact ⟨k'+1,by omega,rfl,rfl,rfl,rfl,YF hfc hch Zi⟩)
  refine zW ?_;exact Ww ⟨k+1,by omega,rfl,rfl,rfl,rfl,YF hfit hx ⟨by omega,by omega,fun c hc=>by
   obtain ⟨i,hi⟩:=List.getElem?_of_mem hc;exact hfc i (by have:=(Zg hi).1;omega) c hi⟩⟩ Zi Zw (List.Sublist.cons _ (List.Sublist.refl _))
 refine zW ?_;exact ret1 rfl rfl Zb ⟨rfl,false,rfl,fun _=>⟨by omega,by omega,by omega,fun a ha=>by
  obtain ⟨i,hi⟩:=List.getElem?_of_mem ha;exact hfit i (by have:=(Zg hi).1;omega) a hi⟩⟩
theorem Yo2 {p:Problem} (h:DomainR fz d v1 v2 v3 v4 v5 v6) (hp:ProblemR fz p u1 u2 u3 u4 u5 u6 u7) (hd:domW d<=1000000000:=by omega) (hw:prbW p<=1000000000:=by omega):
 GFn prog 4 [ZD d v1 v2 v3 v4 v5 v6,ZP p u1 u2 u3 u4 u5 u6 u7] fz [] (fun r _ H'=>H'=[]/\∃ b,r=Zo b/\(b=false->Fit14 d p)):=by
 have h0:=h;have hp0:=hp;obtain ⟨⟨A1,n1,b1,rfl,i1⟩,⟨A2,n2,b2,rfl,i2⟩,⟨A3,n3,b3,rfl,i3⟩,⟨A4,n4,b4,rfl,i4⟩,⟨A5,n5,b5,rfl,i5⟩,⟨A6,n6,b6,rfl,i6⟩⟩:=h.sls;obtain ⟨⟨C1,m1,e1,rfl,j1⟩,⟨C2,m2,e2,rfl,j2⟩,⟨C3,m3,e3,rfl,j3⟩⟩:=hp.sls;obtain ⟨⟨U1,w1,z1,rfl,_⟩,⟨U2,w2,z2,rfl,_⟩,⟨U3,w3,z3,rfl,_⟩,⟨U4,w4,z4,rfl,_⟩⟩:=hp.goal.sls;refine zF Tryz.func4 Tryz.ntmps4 (fun w0=>?_);refine pX (fun g0=>?_);refine pY (fun g1=>?_);refine wK (q:=Yo3 h0 hp0 hd hw) (h:=fun v1 fz1 H1 hle1 hR1=>?_);obtain ⟨rfl,b,rfl,hfit⟩:=hR1;cases b with
 | true=>
  exact wR (h:=by exact ⟨rfl,true,rfl,Za⟩)
 | false=>
  refine wC ?_ ?_<;>intro c1
  ·exact wR (h:=by exact ⟨rfl,true,rfl,Za⟩)
  refine wC ?_ ?_<;>intro c2
  ·exact wR (h:=by exact ⟨rfl,true,rfl,Za⟩)
  exact wR (h:=by exact ⟨rfl,false,rfl,fun _=>hfit rfl⟩)
end Go.Proofs.YtdbfccanbbbjkaaGreatDoor
namespace Go.Proofs.YtdbfccanbbbjkaaGreatDoor
variable {i:Nat} {s:Bs} {d:Domain}
theorem byte_of {b:UInt8} (h:s.data.toList[i]?=some b):i<s.size/\Ya2 s i=b.toNat:=by
 have hlt:i<s.size:=(Zg h).1;obtain ⟨c,h1,h2⟩:=Ybx hlt;refine ⟨hlt,?_⟩;rw [h2];have h3:s.data.toList[i]?=some c:=by
  have:s[i]?=s.data[i]?:=by
   rw [getElem?_pos s i hlt,Array.getElem?_eq_getElem (show i<s.data.size from hlt)];rfl
  rw [this] at h1;simpa using h1
 rw [h] at h3;injection h3 with h3
 rw [h3]
theorem YbD (h:Xh s):PlnS s:=by
 refine ⟨Nat.le_trans h.2.2.1 Zh,fun b hb=>?_⟩;obtain ⟨i,hi⟩:=List.getElem?_of_mem hb;obtain ⟨hlt,he⟩:=byte_of hi;have:=h.1 i hlt;unfold Yba LetP DigP at this;unfold PlnB;rw [he] at this;omega
theorem pln_var (h:VarP s):PlnS s:=by
 obtain ⟨h1,h2,h3,h4⟩:=h;refine ⟨Nat.le_trans h2 Zh,fun b hb=>?_⟩;obtain ⟨i,hi⟩:=List.getElem?_of_mem hb;obtain ⟨hlt,he⟩:=byte_of hi;cases i with
 | zero=>rw [he] at h3;unfold PlnB;omega
 | succ i=>
  have hx:(s.extract 1 s.size).data.toList[i]?=some b:=by
   rw [ByteArray.data_extract,Array.toList_extract];have hs:s.size=s.data.toList.length:=rfl;show (List.extract s.data.toList 1 s.size)[i]?=_;rw [List.extract,List.getElem?_take_of_lt Zi,List.getElem?_drop,Nat.add_comm];exact hi
  exact (YbD h4).2 b (Zm hx)
theorem Ymb (h:Ye9 s):PlnS s:=h.elim YbD pln_var
theorem YlM:∀ (n:Nat) {f:Formula},SizeOf.sizeOf f<=n->HSh f->ShN f
 | 0,f,h,_=>by cases f;simp at h
 | n+1,f,h,hs=>.mk hs.same (fun h1=>hs.head h1) (fun k hk=>YlM n (by have:=Formula.kids_lt hk;omega) (hs.kid hk))
theorem HSh.join {op:Bs} {ns:List Formula} (hop:op=kAnd\/op=kOr) (h:∀ n∈ns,HSh n):HSh (joinF op ns):=by
 have a1:¬op=kSame:=by rcases hop with rfl | rfl<;>decide+kernel
 have a2:¬(op=kNot\/QuF op):=by rcases hop with rfl | rfl<;>(unfold QuF;decide+kernel)
 have a3:¬op=kAtom:=by rcases hop with rfl | rfl<;>decide+kernel
 refine .mk (fun e=>absurd e a1) (fun e=>absurd e a2) (fun e=>absurd e a3) (fun e=>absurd (.inl e) a2) (Z0 _) (fun k hk=>?_);have hk:k∈joinL op ns:=hk;unfold joinL at hk;obtain ⟨n,hn,hkn⟩:=List.mem_flatMap.1 hk;split at hkn
 ·exact (h n hn).kid hkn
 rw [List.mem_singleton] at hkn;subst hkn;exact h k hn
theorem HSh.cmp {op:Bs} {a b:Lx.Expr} (hop:op=kLt\/op=kLe\/op=kEq):HSh (cmpF op a b):=by
 have a1:¬op=kSame:=by rcases hop with rfl | rfl | rfl<;>decide+kernel
 have a2:¬(op=kNot\/QuF op):=by rcases hop with rfl | rfl | rfl<;>(unfold QuF;decide+kernel)
 have a3:¬op=kAtom:=by rcases hop with rfl | rfl | rfl<;>decide+kernel
 exact .mk (fun e=>absurd e a1) (fun e=>absurd e a2) (fun e=>absurd e a3) (fun e=>absurd (.inl e) a2) (Z0 _) (fun k hk=>by cases hk)
theorem HSh.zero:HSh Ydx:=by
 have a1:¬Ydx.op=kSame:=by decide+kernel
 have a2:¬(Ydx.op=kNot\/QuF Ydx.op):=by unfold QuF;decide+kernel
 have a3:¬Ydx.op=kAtom:=by decide+kernel
 exact .mk (fun e=>absurd e a1) (fun e=>absurd e a2) (fun e=>absurd e a3) (fun e=>absurd (.inl e) a2) (Z0 _) (fun k hk=>by cases hk)
theorem kid_w {f k:Formula} (h:k∈f.kids):fW k<=fW f:=by
 have:=Xb (w:=fW) h;rw [Ybu f];omega
theorem Ymh:∀ (n:Nat) {f:Formula} (sg:Bool),SizeOf.sizeOf f<=n->FOk f->fW f<=1500000->HSh (normM sg f)
 | 0,f,_,h,_,_=>by cases f;simp at h
 | n+1,f,sg,hsz,hok,hw=>by
  have hall:=WQ.1 hok;obtain ⟨⟨f1,f2,f3⟩,⟨k,hk,r1,r2,r3,r4⟩,hpar⟩:=hall.1;have ih:∀ (sg':Bool) (x:Formula),x∈f.kids->HSh (normM sg' x):=fun sg' x hx=>Ymh n sg' (by have:=Formula.kids_lt hx;omega) (hall.2.2 x hx) (Nat.le_trans (kid_w hx) hw)
  have hone:∀ sg':Bool,f.kids.length=1->HSh (headN (f.kids.map (normM sg'))):=fun sg' h1=>by
   obtain ⟨x,hx⟩:=List.length_eq_one_iff.1 h1;rw [hx];exact ih sg' x (by rw [hx];simp)
  have hmap:∀ sg':Bool,∀ x∈f.kids.map (normM sg'),HSh x:=fun sg' x hx=>by
   obtain ⟨y,hy,rfl⟩:=List.mem_map.1 hx;exact ih sg' y hy
  have hw2:=Ybu f;rw [WP];by_cases w1:f.op=kNot
  ·rw [if_pos w1];have e:WY f=some (0,false,1):=by
    unfold WY;rw [w1,if_neg (by decide+kernel),if_neg (by unfold CmpOp;decide+kernel),if_neg (by decide+kernel),if_pos rfl]
   rw [e] at hk;injection hk with hk
   subst hk;exact hone _ r3
  rw [if_neg w1];by_cases w2:f.op=kImply
  ·rw [if_pos w2];have e:WY f=some (0,false,2):=by
    unfold WY;rw [w2,if_neg (by decide+kernel),if_neg (by unfold CmpOp;decide+kernel),if_neg (by decide+kernel),if_neg (by decide+kernel),if_pos rfl]
   rw [e] at hk;injection hk with hk
   subst hk;have hl:f.kids.length=2:=r3;obtain ⟨x,y,hxy⟩:∃ x y,f.kids=[x,y]:=by
    match hf:f.kids,hl with
    | [x,y],_=>exact ⟨x,y,rfl⟩
   rw [hxy];refine HSh.join (by split<;>simp) (fun z hz=>?_);rcases List.mem_cons.1 hz with rfl | hz
   ·exact ih _ x (by rw [hxy];simp)
   rw [List.mem_singleton] at hz;subst hz;exact ih _ y (by rw [hxy];simp)
  rw [if_neg w2];by_cases w3:f.op=kAnd
  ·rw [if_pos w3];exact HSh.join (by split<;>simp) (hmap sg)
  rw [if_neg w3];by_cases w4:f.op=kOr
  ·rw [if_pos w4];exact HSh.join (by split<;>simp) (hmap sg)
  rw [if_neg w4];by_cases w5:QuF f.op
  ·rw [if_pos w5];have e:WY f=some (0,true,1):=by
    unfold WY;rcases w5 with w5 | w5
    ·rw [w5,if_neg (by decide+kernel),if_neg (by unfold CmpOp;decide+kernel),if_neg (by decide+kernel),if_neg (by decide+kernel),if_neg (by decide+kernel),if_pos (by simp)]
    rw [w5,if_neg (by decide+kernel),if_neg (by unfold CmpOp;decide+kernel),if_neg (by decide+kernel),if_neg (by decide+kernel),if_neg (by decide+kernel),if_pos (by simp)]
   rw [e] at hk;injection hk with hk
   subst hk;have hq:∀ op,op=kForall\/op=kExists->¬op=kSame/\¬op=kAtom/\¬op=kNot:=by
    rintro op (rfl | rfl)<;>decide+kernel
   have hop:QuF (if sg=true then f.op else if f.op=kForall then kExists else kForall):=by
    split
    ·exact w5
    split
    ·exact .inr rfl
    exact .inl rfl
   obtain ⟨q1,q2,q3⟩:=hq _ hop;refine .mk (fun e=>absurd e q1) (fun _ h=>by cases h) (fun e=>absurd e q2) (fun e=>absurd e q3) (by show f.params.length<=_;omega) (fun x hx=>?_);have hx:x∈ [headN (f.kids.map (normM sg))]:=hx;rw [List.mem_singleton] at hx;subst hx;exact hone _ r3
  rw [if_neg w5];by_cases w6:f.op=kLt
  ·rw [if_pos w6];split
   ·exact HSh.cmp (.inl rfl)
   exact HSh.cmp (.inr (.inl rfl))
  rw [if_neg w6];by_cases w7:f.op=kLe
  ·rw [if_pos w7];split
   ·exact HSh.cmp (.inr (.inl rfl))
   exact HSh.cmp (.inl rfl)
  rw [if_neg w7];by_cases w8:f.op=kEq
  ·rw [if_pos w8];split
   ·exact HSh.cmp (.inr (.inr rfl))
   have a1:¬kOr=kSame:=by decide+kernel
   have a2:¬(kOr=kNot\/QuF kOr):=by unfold QuF;decide+kernel
   have a3:¬kOr=kAtom:=by decide+kernel
   refine .mk (fun e=>absurd e a1) (fun e=>absurd e a2) (fun e=>absurd e a3) (fun e=>absurd (.inl e) a2) (Z0 _) (fun x hx=>?_);rcases List.mem_cons.1 hx with rfl | hx
   ·exact HSh.cmp (.inl rfl)
   rw [List.mem_singleton] at hx;subst hx;exact HSh.cmp (.inl rfl)
  rw [if_neg w8];have hao:f.op=kAtom\/f.op=kSame:=by
   unfold WY at hk;by_cases h0:f.op=kAtom\/f.op=kSame
   ·exact h0
   rw [if_neg h0,if_neg (fun h=>by unfold CmpOp at h;rcases h with h | h | h;exact w6 h;exact w7 h;exact w8 h),if_neg (fun h=>h.elim w3 w4),if_neg w1,if_neg w2,if_neg (show ¬(f.op=kForall\/f.op=kExists) from w5)] at hk;cases hk
  have e:k=(0,false,0):=by
   unfold WY at hk;rw [if_pos hao] at hk;injection hk with hk
   exact hk.symm
  subst e;have hk0:f.kids=[]:=List.eq_nil_of_length_eq_zero r3;have hn1:¬(f.op=kNot\/QuF f.op):=fun h=>h.elim w1 w5
  have hf:HSh f:=by
   refine .mk (fun e=>Nat.le_of_eq (f2 e).2.symm) (fun e=>absurd e hn1) (fun e=>⟨YbD (f1 e),by omega,fun t ht=>Ymb (f3 hao t ht)⟩) (fun e=>absurd (.inl e) hn1) Zi (fun x hx=>by rw [hk0] at hx;cases hx)
  cases sg with
  | true=>rw [if_pos rfl];exact hf
  | false=>
   rw [if_neg Zh];have a1:¬kNot=kSame:=by decide+kernel
   have a3:¬kNot=kAtom:=by decide+kernel
   refine .mk (fun e=>absurd e a1) (fun _ h=>by cases h) (fun e=>absurd e a3) (fun _ x hx=>?_) (Z0 _) (fun x hx=>?_)
   ·have hx:x∈ [f]:=hx;rw [List.mem_singleton] at hx;subst hx;exact hao
   have hx:x∈ [f]:=hx;rw [List.mem_singleton] at hx;subst hx;exact hf
theorem Yb6 {f:Formula} (hw:fW f<=1500000):HSh (normV f):=by
 unfold normV;split
 ·rename_i h;exact Ymh _ true (Zs _) h.1 hw
 exact HSh.zero
theorem YmM {K:Kn} (hO:∀ o∈K.os,PlnS o.name) {most:Nat}:∀ (ps:List Param) (out:List (List Bs)),(∀ l∈out,∀ t∈l,PlnS t)->∀ l∈ps.foldl (YdZ K most) out,∀ t∈l,PlnS t
 | [],_,h=>h
 | p::ps,out,h=>YmM hO ps _ (fun l hl t ht=>by
  unfold YdZ at hl;obtain ⟨l0,h1,h2⟩:=List.mem_flatMap.1 (List.mem_of_mem_take hl);obtain ⟨o,ho,rfl⟩:=List.mem_map.1 h2;rcases List.mem_append.1 ht with ht | ht
  ·exact h l0 h1 t ht
  rw [List.mem_singleton] at ht;subst ht;obtain ⟨q,hq,e⟩:=Ylg ho;exact e ▸ hO q hq)
theorem YoQ {l:List Change} {c:Change} (h:c∈normC l):∃ c0∈l,c={c0 with when_:=normV c0.when_}:=by
 unfold normC at h;obtain ⟨c0,h1,rfl⟩:=List.mem_map.1 h;exact ⟨c0,(List.mem_filter.1 h1).1,rfl⟩
theorem YmI {l:List Change} (hok:Yeu l) (hw:(l.map Y2).sum<=1400000:=by omega):∀ c∈normC l,CSh c:=by
 intro c hc;obtain ⟨c0,h0,rfl⟩:=YoQ hc;have h1:=Xb (w:=Y2) h0;have h2:Y2 c0=1+c0.params.length+fW c0.when_+c0.args.length+eW c0.value:=rfl;obtain ⟨⟨n1,n2⟩,_,_,_⟩:=hok c0 h0;exact ⟨Yb6 Zi,YbD n1,by show c0.args.length<=_;omega,fun t ht=>Ymb (n2 t ht),by show c0.params.length<=_;omega⟩
theorem YkV {l:List Change} (hw:(l.map Y2).sum<=1400000):l.length<=2000000/\∀ c∈l,fW c.when_<=1400000:=by
 refine ⟨?_,fun c hc=>?_⟩
 ·have:=XP (w:=Y2) (fun c=>by unfold Y2;omega) l;omega
 have h1:=Xb (w:=Y2) hc;have h2:Y2 c=1+c.params.length+fW c.when_+c.args.length+eW c.value:=rfl;omega
theorem andW (l:List Formula):fW (andF l)=1+(l.map fW).sum:=by
 rw [Ybu];show 1+0+0+0+(l.map fW).sum=_;omega
theorem apt_of {p:Problem} (hc:(Y3 d p).2=0) (hd:domW d<=1300000) (hp:prbW p<=1300000):Apt d p:=by
 have hok:=YkD hc;obtain ⟨hL,hT64,hp6⟩:=Ygs hok.lim;obtain ⟨_,_,d3,_,_,d6,d7⟩:=hok.dok.1;obtain ⟨_,_,p3,_,p5⟩:=hok.pok.2.1;have wA:∀ a∈d.actions,actW a<=1300000:=fun a ha=>by
  have:=Xb (w:=actW) ha;unfold domW at hd;omega
 have wD:∀ a∈d.duratives,durW a<=1300000:=fun a ha=>by
  have:=Xb (w:=durW) ha;unfold domW at hd;omega
 have hos:∀ o∈(knM d p).os,PlnS o.name:=fun o ho=>by
  rcases List.mem_append.1 ho with ho | ho
  ·have:=(d3 o ho).1;exact YbD (by simpa using this)
  have:=(p3 o ho).1;exact YbD (by simpa using this)
 have eA:∀ a:Action,actW a=1+a.params.length+fW a.pre+(a.changes.map Y2).sum:=fun _=>rfl
 have eD:∀ a:Durative,durW a=1+a.params.length+fW a.start+fW a.over+fW a.fin+(a.atStart.map Y2).sum+(a.atEnd.map Y2).sum:=fun _=>rfl
 refine ⟨fun a ha=>?_,⟨by have:=hL.a;omega,by have:=hL.u;omega,fun a ha=>?_,fun a ha=>?_,fun a ha=>?_⟩,hos,fun _ s hs=>?_⟩
 ·have h1:=Xb (w:=YcJ) ha;have h2:YcJ a=1+a.args.length:=rfl;have h3:=p5 a ha;unfold prbW at hp;exact ⟨YbD h3.1,by omega,fun t ht=>YbD (h3.2 t ht)⟩
 ·have h1:=wA a ha;have h2:=eA a;obtain ⟨h3,h4⟩:=YkV (l:=a.changes) Zi;exact ⟨by omega,by omega,h3,fun c hc=>Nat.le_trans (h4 c hc) Zh⟩
 ·have h1:=wD a ha;have h2:=eD a;obtain ⟨h3,h4⟩:=YkV (l:=a.atStart) Zi;obtain ⟨h5,h6⟩:=YkV (l:=a.atEnd) Zi;exact ⟨by omega,by omega,by omega,by omega,h3,h5,fun c hc=>Nat.le_trans (h4 c hc) Zh,fun c hc=>Nat.le_trans (h6 c hc) Zh⟩
 ·have h1:=wA a ha;have h2:=eA a;have h3:=YmI (d6 a ha).2.2.2.2;exact ⟨YlM _ (Zs _) (Yb6 Zi),fun c hc=>YlM _ (Zs _) (h3 c hc).when_⟩
 obtain ⟨s0,h0,rfl⟩:=List.mem_map.1 hs;have hargs:∀ a∈(Ybi (knM d p) s0).arguments,a.length=s0.params.length/\∀ t∈a,PlnS t:=fun a ha=>
  ⟨Ye2 ha,YmM hos s0.params [[]] (by simp) a ha⟩
 rcases List.mem_append.1 h0 with h0 | h0
 ·obtain ⟨a,ha,rfl⟩:=List.mem_map.1 h0;have h1:=wA a ha;have h2:=eA a;exact ⟨Yb6 Zi,Yb6 Zi,fun c hc=>(by cases hc),YmI (d6 a ha).2.2.2.2,hargs⟩
 obtain ⟨a,ha,rfl⟩:=List.mem_map.1 h0;have h1:=wD a ha;have h2:=eD a;obtain ⟨_,_,_,_,_,o1,o2⟩:=d7 a ha;refine ⟨Yb6 ?_,Yb6 ?_,YmI o1,YmI o2,hargs⟩
 ·rw [andW];simp only [List.map_cons,List.map_nil,List.sum_cons,List.sum_nil];omega
 rw [andW];simp only [List.map_cons,List.map_nil,List.sum_cons,List.sum_nil];omega
theorem chsm_w {c:Change} (h:Y2 c<=100000000):ChSm c:=by
 unfold Y2 at h;exact ⟨by omega,by omega,Yfl _ (Zs _) Zi,YpK _ (Zs _) Zi⟩
theorem Ylz {l:List Change} (h:(l.map Y2).sum<=100000000):Yqh l:=by
 have:=XP YlF l;exact ⟨by omega,fun c hc=>chsm_w (by have:=Xb (w:=Y2) hc;omega)⟩
theorem YpY {p:Problem} (hd:domW d<=1300000) (hp:prbW p<=1300000):ChkS d p:=by
 unfold domW at hd;unfold prbW at hp;have l3:=XP YjQ d.predicates;have l4:=XP Ymy d.functions;have l5:=XP actW_pos d.actions;have l6:=XP durW_pos d.duratives;have l7:=XP YkG p.init;have l8:=XP Yhs p.values;have p3:∀ p∈d.predicates,p.params.length<=100000000:=fun p hp=>by have:=Xb (w:=YjR) hp;have e:YjR p=1+p.params.length:=rfl;omega
 have p4:∀ p∈d.functions,p.params.length<=100000000:=fun p hp=>by have:=Xb (w:=funW) hp;have e:funW p=1+p.params.length:=rfl;omega
 have p5:∀ x∈d.actions,actW x<=100000000:=fun p hp=>by have:=Xb (w:=actW) hp;omega
 have p6:∀ x∈d.duratives,durW x<=100000000:=fun p hp=>by have:=Xb (w:=durW) hp;omega
 refine ⟨⟨by omega,by omega,by omega,fun p hp=>Nat.le_trans (p3 p hp) Zh,by omega,fun p hp=>Nat.le_trans (p4 p hp) Zh,by omega,fun x hx=>?_,by omega,fun x hx=>?_⟩,⟨by omega,by omega,fun a ha=>?_,by omega,fun v hv=>?_,Yfl _ (Zs _) Zi⟩,fun a ha=>Nat.le_trans (p5 a ha) Zh,fun a ha=>Nat.le_trans (p6 a ha) Zh,by omega⟩
 ·have:=p5 x hx;unfold actW at this;exact ⟨by omega,Yfl _ (Zs _) Zi,Ylz Zi⟩
 ·have:=p6 x hx;unfold durW at this;exact ⟨by omega,Yfl _ (Zs _) Zi,Yfl _ (Zs _) Zi,Yfl _ (Zs _) Zi,Ylz Zi,Ylz Zi⟩
 ·have:=Xb (w:=YcJ) ha;have e:YcJ a=1+a.args.length:=rfl;omega
 have:=Xb (w:=YbZ) hv;have e:YbZ v=1+YcJ v.fluent:=rfl;have e2:YcJ v.fluent=1+v.fluent.args.length:=rfl;omega
end Go.Proofs.YtdbfccanbbbjkaaGreatDoor
