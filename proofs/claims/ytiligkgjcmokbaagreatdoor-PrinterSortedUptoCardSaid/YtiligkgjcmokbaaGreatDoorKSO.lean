/- The texts NE, laid together. Conditions: none. -/
import Derived.Test.YtiligkgjcmokbaaGreatDoorKSN
set_option linter.all false
set_option maxHeartbeats 16000000
set_option maxRecDepth 20000
namespace Go.Lx
variable {α:Type} {i j:Nat}
theorem at_L {P L M:List α} (hj:j=P.length+i) (hi:i<L.length):(P++(L++M))[j]?=L[i]?:=by
 subst hj;rw [List.getElem?_append_right Zi,show P.length+i - P.length=i by omega,List.getElem?_append_left hi]
theorem at_R {P L R Q:List α} (hj:j=P.length+L.length+i) (hi:i<R.length):(P++(L++(R++Q)))[j]?=R[i]?:=by
 subst hj;rw [List.getElem?_append_right Zi,List.getElem?_append_right Zi,show P.length+L.length+i - P.length - L.length=i by omega,List.getElem?_append_left hi]
theorem Ynl {α:Type} {l:List α} {k:Nat} (h:k<l.length):∃ x,l[k]?=some x:=⟨l[k],List.getElem?_eq_getElem h⟩
section
variable {α:Type} {cmp:α->α->Int}
def mrgC (cmp:α->α->Int) (l r:List α):List α:=XB (ltC cmp) l r
theorem mrgC_len {l r:List α}:(mrgC cmp l r).length=l.length+r.length:=Yd1 _ _
theorem YkF {r:List α}:mrgC cmp [] r=r:=Xw _
theorem Yja {l:List α}:mrgC cmp l []=l:=XX _
variable {c:Nat}
theorem YpF (w:SWk (ltC cmp)) {x:α} {R:List α} (hR:SrtS (ltC cmp) R) (h1:∀ e y,c=e+1->R[e]?=some y->cmp y x<0) (h2:∀ y,R[c]?=some y->¬cmp y x<0) (hc:c<=R.length):mrgC cmp [x] R=R.take c++x::R.drop c:=by
 unfold mrgC;have sx:SrtS (ltC cmp) [x]:=List.pairwise_cons.2 ⟨by simp,List.Pairwise.nil⟩;rw [YcC w (L:=[x]) (R:=R) (c:=0) (e:=c) sx hR (fun c' h=>by cases h) (fun e' he u v hu hv=>by
  have:u=x:=by simpa using hu.symm
  subst this;exact h1 e' v he hv) (by simp) hc]
 rw [List.take_zero,Xw,List.drop_zero];rw [YcC w (L:=[x]) (R:=R.drop c) (c:=1) (e:=0) sx (hR.sublist (List.drop_sublist _ _)) (fun c' h u v hu hv=>by
  have e0:c'=0:=by omega
  subst e0;have:u=x:=by simpa using hu.symm
  subst this;rw [List.getElem?_drop] at hv;exact h2 v hv) (fun e' h=>by cases h) (by simp) (by simp)]
 simp [XX,Xw]
theorem Yn5 (w:SWk (ltC cmp)) {x:α} {L:List α} (hL:SrtS (ltC cmp) L) (h1:∀ e y,c=e+1->L[e]?=some y->¬cmp x y<0) (h2:∀ y,L[c]?=some y->cmp x y<0) (hc:c<=L.length):mrgC cmp L [x]=L.take c++x::L.drop c:=by
 have h:=YkP w (s1:=L.take c) (s2:=L.drop c) (x:=x) (by rw [List.take_append_drop];exact hL) (fun y hy=>h2 y (by rw [List.getElem?_drop] at hy;exact hy)) (fun k hk z hz=>h1 k z (by rw [List.length_take] at hk;omega) (by rw [List.getElem?_take_of_lt (by rw [List.length_take] at hk;omega)] at hz;exact hz));rw [List.take_append_drop] at h;exact h
end
end Go.Lx
namespace Go.Proofs.YtiligkgjcmokbaaGreatDoor
open Go.Lx Go.RowKit
attribute [local instance 10] Classical.propDecidable
open Go.Proofs.Tryz (prog)
variable {α:Type} {fz:FZ} {g n:Nat} {t:TypeId}
def SymG {α:Type} (Λ:Lay α) (fm:FuncId) (fz:FZ) (g n cap fc:Nat) (t:TypeId) (cmp:α->α->Int) (s:Nat):Prop:=∀ {cur:List Value} {P L R Q:List α} {a m b:Int},L.length+R.length<=s->0<L.length->0<R.length->SrtS (ltC cmp) L->SrtS (ltC cmp) R->GrowB Λ t fz g n cap cur (P++(L++(R++Q)))->
 a=(P.length:Nat)->m=(P.length+L.length:Nat)->b=(P.length+L.length+R.length:Nat)->
 GFn prog fm [Zv g n cap,Zk a,Zk m,Zk b,.func (.func fc) #[] #[]] fz [(g,Zu cur.toArray t)]
  (fun _ fz' H'=>fz=fz'/\∃ cur',H'=[(g,Zu (List.toArray cur') t)]/\GrowB Λ t fz g n cap cur' (P++(mrgC cmp L R++Q)))
theorem symW {p:Prop} (h:p:=by
 first
  | refine zF Tryz.func249 Tryz.ntmps249 (fun w0=>?_)
  | refine zF Tryz.func126 Tryz.ntmps126 (fun w0=>?_)
  | refine zF Tryz.func129 Tryz.ntmps129 (fun w0=>?_)
  | refine zF Tryz.func131 Tryz.ntmps131 (fun w0=>?_)
  | refine zF Tryz.func133 Tryz.ntmps133 (fun w0=>?_)
  | refine zF Tryz.func139 Tryz.ntmps139 (fun w0=>?_)
 refine zW ?_;intros;refine zC ?_ ?_<;>intro c1
 ·have hL1:L.length=1:=by omega
  obtain ⟨x,rfl⟩:=List.length_eq_one_iff.1 hL1;rw [show [x].length=1 from rfl] at*;obtain ⟨cx,hx1,hx2⟩:=Wf hB (at_L (j:=P.length) (i:=0) rfl hL);refine zW ?_;intros;refine Yi (fun q σ fz' H'=>∃ i j:Nat,i<=j/\j<=R.length/\(∀ e y,i=e+1->R[e]?=some y->cmp y x<0)/\(∀ y,R[j]?=some y->¬cmp y x<0)/\q=j - i/\σ=[(11,Zk (P.length+1+j:Nat)),(10,Zk (P.length+1+i:Nat)),(0,Zv g n cap),(1,Zk (P.length:Nat)),(4,.func (.func fc) #[] #[])]/\fz=fz'/\H'=[(g,Zu cur.toArray t)]) ⟨0,R.length,Z0 _,Zs _,fun e y h=>by omega,fun y h=>by simp at h,rfl,rfl,rfl,rfl⟩ Zw Zb ?_;rintro q σ fz' H' ⟨i,j,hij,hj,h1,h2,rfl,rfl,rfl,rfl⟩;refine zW ?_;intros;refine zC ?_ ?_<;>intro c2
  ·obtain ⟨h,hh⟩:∃ h,(P.length+1+i+(P.length+1+j)) / 2=P.length+1+h:=⟨(i+j) / 2,by omega⟩;obtain ⟨y,hy⟩:=Ynl (l:=R) (k:=h) Zi;obtain ⟨cy,hy1,hy2⟩:=Wf hB ((at_R (j:=P.length+1+h) (i:=h) rfl Zi).trans hy);have lx:=Lay.len _ hx1;have ly:=Lay.len _ hy1;refine zW ?_;intros;refine zG ?_;refine Wm ?_ (hw:=wrapU Zi);refine zG ?_;refine YmW Zz Zz Zh half ?_;refine zG ?_;refine Wm ?_ (hw:=YQ Zi);rw [hh];refine zW ?_;intros;refine zG ?_;refine Yq rfl ?_;refine zG ?_;refine Yc (vs:=cy) 0 ?_ (hv:=hy2) (hs:=by exact ly.symm);refine zW ?_;intros;refine zG ?_;refine Yq rfl ?_;refine zG ?_;refine Yc (vs:=cx) 0 ?_ (hv:=hx2) (hs:=by exact lx.symm);refine zW ?_;intros
   ((refine zG ?_);refine Ybu (hC _ _ _ _ hy1 hx1) ?_);refine zW ?_;intros;refine zC ?_ ?_<;>intro c3
   ·refine zW ?_;intros;exact Wj ⟨h+1,j,by omega,hj,fun e z he hz=>by
     have:e=h:=by omega
     subst this;rw [hy] at hz;injection hz with hz;subst hz;exact c3,h2,rfl,rfl,rfl,rfl⟩ Zi Zw Zb
   refine zW ?_;intros;exact Wj ⟨i,h,by omega,by omega,h1,fun z hz=>by
    rw [hy] at hz;injection hz with hz;subst hz;exact c3,rfl,rfl,rfl,rfl⟩ Zi Zw Zb
  obtain rfl:i=j:=by omega
  have hm:=YpF w sR h1 h2 hj;refine zW ?_;intros;refine Yi (fun q σ fz' H'=>∃ (k:Nat) (cur1:List Value),k<=i/\q=i - k/\σ=[(13,Zk (P.length+k:Nat)),(10,Zk (P.length+1+i:Nat)),(0,Zv g n cap)]/\fz=fz'/\H'=[(g,Zu cur1.toArray t)]/\GrowB (YfC hB) t fz g n cap cur1 (P++(R.take k++(x::(R.drop k++Q))))) ⟨0,cur,Z0 _,rfl,rfl,rfl,rfl,hB⟩ Zw Zb ?_;rintro q σ fz' H' ⟨k,cur1,hk,rfl,rfl,rfl,rfl,hB1⟩;refine zW ?_;intros;refine zC ?_ ?_<;>intro c3
  ·have eR:R.drop k=R[k]'Zi::R.drop (k+1):=List.drop_eq_getElem_cons Zi;have eT:R.take (k+1)=R.take k++ [R[k]'Zi]:=by rw [List.take_add_one,List.getElem?_eq_getElem Zi];rfl
   generalize R[k]'Zi=z at eR eT;have hD:P++(R.take k++(x::(R.drop k++Q)))=(P++R.take k)++x::([]++z::(R.drop (k+1)++Q)):=by rw [eR];simp
   rw [hD] at hB1;have lU:(P++R.take k).length=P.length+k:=by rw [List.length_append,List.length_take];omega
   obtain ⟨ca,ha1,ha2⟩:=Wf hB1 (Yix (i:=P.length+k) Zi);obtain ⟨cz,hz1,hz2⟩:=Wf hB1 (YjL (j:=P.length+k+1) (by rw [lU];rfl));have lz:=Lay.len _ hz1;have la:=Lay.len _ ha1;refine zWN ?_;intros;refine WP [2,3,4] [_] ?_;refine zW ?_;intros;refine PK.p Zz (fun fz'=>by first | exact XC rfl | exact YU Zz rfl | exact Yt rfl | exact W4 Zz Zz (YQ Zi) rfl | exact Yw rfl) ?_;refine PK.p Zz (fun fz'=>by first | exact XC rfl | exact YU Zz rfl | exact Yt rfl | exact W4 Zz Zz (YQ Zi) rfl | exact Yw rfl) ?_;refine PK.p Zz (fun fz'=>by first | exact XC rfl | exact YU Zz rfl | exact Yt rfl | exact W4 Zz Zz (YQ Zi) rfl | exact Yw rfl) ?_;refine zW ?_;intros;refine zG ?_;refine Yq rfl ?_;refine zG ?_;refine Yc (vs:=cz) 0 ?_ (hv:=hz2) (hs:=by exact lz.symm);refine zW ?_;intros;refine zG ?_;refine Yq rfl ?_;refine zG ?_;refine Yc (vs:=ca) 0 ?_ (hv:=ha2) (hs:=by exact la.symm);refine zW ?_;intros;refine zG ?_;refine Yq rfl ?_;refine pT ?_;refine Yh ?_;refine PoS.hard0 (YI (pre:=[]) (j:=P.length+k) rfl rfl hO hz1 hB1 (fun cur2 hB2=>?_));refine Yh ?_;refine PoS.hard (DoesQ.does (Yq rfl ?_));refine Yh ?_;refine PoS.hard0 (YI (pre:=[]) (j:=P.length+k+1) rfl rfl hO ha1 hB2 (fun cur3 hB3=>?_));refine Po.done ?_;rw [YiH Zi (by rw [lU];rfl)] at hB3;refine zW ?_;intros;exact wP (h:=by exact ⟨k+1,cur3,by omega,rfl,rfl,rfl,rfl,by rw [eT];simpa using hB3⟩)
  obtain rfl:k=i:=by omega
  refine zW ?_;intros;exact ret0X rfl Zb ⟨rfl,cur1,rfl,by rw [hm];simpa using hB1⟩
 refine zW ?_;intros;refine zC ?_ ?_<;>intro c2
 ·have hR1:R.length=1:=by omega
  obtain ⟨x,rfl⟩:=List.length_eq_one_iff.1 hR1;rw [show [x].length=1 from rfl] at*;obtain ⟨cx,hx1,hx2⟩:=Wf hB (at_R (j:=P.length+L.length) (i:=0) rfl hR);refine zW ?_;intros;refine Yi (fun q σ fz' H'=>∃ i j:Nat,i<=j/\j<=L.length/\(∀ e y,i=e+1->L[e]?=some y->¬cmp x y<0)/\(∀ y,L[j]?=some y->cmp x y<0)/\q=j - i/\σ=[(15,Zk (P.length+j:Nat)),(14,Zk (P.length+i:Nat)),(0,Zv g n cap),(2,Zk (P.length+L.length:Nat)),(4,.func (.func fc) #[] #[])]/\fz=fz'/\H'=[(g,Zu cur.toArray t)]) ⟨0,L.length,Z0 _,Zs _,fun e y h=>by omega,fun y h=>by simp at h,rfl,rfl,rfl,rfl⟩ Zw Zb ?_;rintro q σ fz' H' ⟨i,j,hij,hj,h1,h2,rfl,rfl,rfl,rfl⟩;refine zW ?_;intros;refine zC ?_ ?_<;>intro c3
  ·obtain ⟨h,hh⟩:∃ h,(P.length+i+(P.length+j)) / 2=P.length+h:=⟨(i+j) / 2,by omega⟩;obtain ⟨y,hy⟩:=Ynl (l:=L) (k:=h) Zi;obtain ⟨cy,hy1,hy2⟩:=Wf hB ((at_L (j:=P.length+h) (i:=h) rfl Zi).trans hy);have lx:=Lay.len _ hx1;have ly:=Lay.len _ hy1;refine zW ?_;intros;refine zG ?_;refine Wm ?_ (hw:=wrapU Zi);refine zG ?_;refine YmW Zz Zz Zh half ?_;refine zG ?_;refine Wm ?_ (hw:=YQ Zi);rw [hh];refine zW ?_;intros;refine zG ?_;refine Yq rfl ?_;refine zG ?_;refine Yc (vs:=cx) 0 ?_ (hv:=hx2) (hs:=by exact lx.symm);refine zW ?_;intros;refine zG ?_;refine Yq rfl ?_;refine zG ?_;refine Yc (vs:=cy) 0 ?_ (hv:=hy2) (hs:=by exact ly.symm);refine zW ?_;intros
   ((refine zG ?_);refine Ybu (hC _ _ _ _ hx1 hy1) ?_);refine zW ?_;intros;refine zC ?_ ?_<;>intro c4
   ·refine zW ?_;intros;exact Wj ⟨i,h,by omega,by omega,h1,fun z hz=>by
     rw [hy] at hz;injection hz with hz;subst hz;exact c4,rfl,rfl,rfl,rfl⟩ Zi Zw Zb
   refine zW ?_;intros;exact Wj ⟨h+1,j,by omega,hj,fun e z he hz=>by
    have:e=h:=by omega
    subst this;rw [hy] at hz;injection hz with hz;subst hz;exact c4,h2,rfl,rfl,rfl,rfl⟩ Zi Zw Zb
  obtain rfl:i=j:=by omega
  have hm:=Yn5 w sL h1 h2 hj;refine zW ?_;intros;refine Yi (fun q σ fz' H'=>∃ (z:Int) (k:Nat) (cur1:List Value),z=P.length+k/\i<=k/\k<=L.length/\q=k - i/\σ=[(17,Zk z),(14,Zk (P.length+i:Nat)),(0,Zv g n cap)]/\fz=fz'/\H'=[(g,Zu cur1.toArray t)]/\GrowB (YfC hB) t fz g n cap cur1 (P++(L.take k++(x::(L.drop k++Q))))) ⟨_,L.length,cur,rfl,hj,Zs _,rfl,rfl,rfl,rfl,by rw [List.take_length,List.drop_length];exact hB⟩ Zw Zb ?_;rintro q σ fz' H' ⟨_,k,cur1,rfl,hk1,hk,rfl,rfl,rfl,rfl,hB1⟩;refine zW ?_;intros;refine zC ?_ ?_<;>intro c4
  ·obtain ⟨k,rfl⟩:∃ k',k=k'+1:=⟨k - 1,by omega⟩;have eR:L.drop k=L[k]'Zi::L.drop (k+1):=List.drop_eq_getElem_cons Zi;have eT:L.take (k+1)=L.take k++ [L[k]'Zi]:=by rw [List.take_add_one,List.getElem?_eq_getElem Zi];rfl
   generalize L[k]'Zi=z at eR eT;have hD:P++(L.take (k+1)++(x::(L.drop (k+1)++Q)))=(P++L.take k)++z::([]++x::(L.drop (k+1)++Q)):=by rw [eT];simp
   rw [hD] at hB1;have lU:(P++L.take k).length=P.length+k:=by rw [List.length_append,List.length_take];omega
   obtain ⟨cz,hz1,hz2⟩:=Wf hB1 (Yix (i:=P.length+k) Zi);obtain ⟨ca,ha1,ha2⟩:=Wf hB1 (YjL (j:=P.length+k+1) (by rw [lU];rfl));have lz:=Lay.len _ hz1;have la:=Lay.len _ ha1;have hI:((P.length:Int)+((k+1:Nat):Int) - 1).toNat=P.length+k:=by omega
   refine zWN ?_;intros;refine WP [2,3,4] [_] ?_;refine zW ?_;intros;refine PK.p Zz (fun fz'=>by first | exact XC rfl | exact YU Zz rfl | exact Yt rfl | exact W4 Zz Zz (YQ Zi) rfl | exact Yw rfl) ?_;refine PK.p Zz (fun fz'=>by first | exact XC rfl | exact YU Zz rfl | exact Yt rfl | exact W4 Zz Zz (YQ Zi) rfl | exact Yw rfl) ?_;refine PK.p Zz (fun fz'=>YlH Zz Zz (YQ Zi) rfl) ?_;refine zW ?_;intros;refine zG ?_;refine Yq rfl ?_;refine zG ?_;refine Yc (vs:=cz) 0 ?_ (hv:=by rw [hI];exact hz2) (hs:=by exact lz.symm);refine zW ?_;intros;refine zG ?_;refine Yq rfl ?_;refine zG ?_;refine Yc (vs:=ca) 0 ?_ (hv:=ha2) (hs:=by exact la.symm);refine zW ?_;intros;refine zG ?_;refine Yq rfl ?_;refine pT ?_;refine Yh ?_;refine PoS.hard0 (YI (pre:=[]) (j:=P.length+k+1) rfl rfl hO hz1 hB1 (fun cur2 hB2=>?_));refine Yh ?_;refine PoS.hard (DoesQ.does (Yq rfl ?_));refine Yh ?_;refine PoS.hard0 (YI (pre:=[]) (j:=((P.length:Int)+((k+1:Nat):Int) - 1).toNat) rfl rfl hO ha1 hB2 (fun cur3 hB3=>?_));refine Po.done ?_;rw [hI,Yj5 Zi (by rw [lU];rfl)] at hB3;refine zW ?_;intros;exact wP (h:=by exact ⟨(P.length:Int)+((k+1:Nat):Int) - 1,k,cur3,by omega,by omega,by omega,rfl,rfl,rfl,rfl,by rw [eR];simpa using hB3⟩)
  obtain rfl:k=i:=by omega
  refine zW ?_;intros;exact ret0X rfl Zb ⟨rfl,cur1,rfl,by rw [hm];simpa using hB1⟩
 obtain ⟨d,hd,hd1,hd2⟩:∃ d,(P.length+(P.length+L.length+R.length)) / 2=P.length+d/\L.length+R.length<=2*d+1/\2*d<=L.length+R.length:=⟨(L.length+R.length) / 2,by omega,by omega,by omega⟩;refine zW ?_;intros;refine zG ?_;refine Wm ?_ (hw:=wrapU Zi);refine zG ?_;refine YmW Zz Zz Zh half ?_;refine zG ?_;refine Wm ?_ (hw:=YQ Zi);rw [hd];refine zWX ?_;intros;refine Yr ?_;refine zWX ?_;intros;refine Yr ?_;refine zWX ?_;intros;refine Yr (YY (fun σ fz' H'=>∃ (z:Int) (lo hi:Nat),z=(P.length+lo:Nat)/\lo<=hi/\hi<=L.length/\hi<=d/\d<=lo+R.length/\(0<lo->d=lo+R.length)/\(hi=d\/hi=L.length)/\σ=[(21,Zk (P.length+hi:Nat)),(20,Zk z),(19,Zk ((P.length+d:Nat)+(P.length+L.length:Nat))),(18,Zk (P.length+d:Nat)),(0,Zv g n cap),(1,Zk (P.length:Nat)),(2,Zk (P.length+L.length:Nat)),(3,Zk (P.length+L.length+R.length:Nat)),(4,.func (.func fc) #[] #[])]/\fz=fz'/\H'=[(g,Zu cur.toArray t)]) ?_ ?_)
 ·refine zW ?_;intros;refine zC ?_ ?_<;>intro e1
  ·refine zW ?_;intros;exact wN (h:=by exact ⟨((P.length+d:Nat):Int)+(P.length+L.length:Nat) - (P.length+L.length+R.length:Nat),d - R.length,d,by omega,by omega,by omega,by omega,by omega,by omega,.inl rfl,rfl,rfl,rfl⟩)
  refine zW ?_;intros;exact wN (h:=by exact ⟨((P.length:Nat):Int),0,L.length,by omega,by omega,by omega,by omega,by omega,by omega,.inr rfl,rfl,rfl,rfl⟩)
 rintro σ fz' H' ⟨_,lo,hi,rfl,l1,l2,l3,l4,l5,l6,rfl,rfl,rfl⟩;refine zW ?_;intros;refine Yi (fun q σ fz' H'=>∃ i j:Nat,lo<=i/\i<=j/\j<=hi/\(∀ e,i=e+1->∀ x y,L[e]?=some x->R[d - i]?=some y->¬cmp y x<0)/\(∀ e,d - j=e+1->∀ x y,L[j]?=some x->R[e]?=some y->cmp y x<0)/\q=j - i/\σ=[(22,Zk ((P.length+d:Nat)+(P.length+L.length:Nat) - 1)),(21,Zk (P.length+j:Nat)),(20,Zk (P.length+i:Nat)),(19,Zk ((P.length+d:Nat)+(P.length+L.length:Nat))),(18,Zk (P.length+d:Nat)),(0,Zv g n cap),(1,Zk (P.length:Nat)),(2,Zk (P.length+L.length:Nat)),(3,Zk (P.length+L.length+R.length:Nat)),(4,.func (.func fc) #[] #[])]/\fz=fz'/\H'=[(g,Zu cur.toArray t)]) ⟨lo,hi,Zs _,l1,Zs _,fun e he x y _ hy=>(by rw [List.getElem?_eq_none Zi] at hy;cases hy),fun e he x y hx hy=>(by
  rcases l6 with h | h
  ·omega
  rw [List.getElem?_eq_none Zi] at hx;cases hx),rfl,rfl,rfl,rfl⟩ Zw Zb ?_
 rintro q σ fz' H' ⟨i,j,k1,k2,k3,hA,hB',rfl,rfl,rfl,rfl⟩;refine zW ?_;intros;refine zC ?_ ?_<;>intro c3
 ·obtain ⟨h,hh,hh1,hh2⟩:∃ h,(P.length+i+(P.length+j)) / 2=P.length+h/\i<=h/\h<j:=⟨(i+j) / 2,by omega,by omega,by omega⟩;obtain ⟨x,hx⟩:=Ynl (l:=L) (k:=h) Zi;obtain ⟨y,hy⟩:=Ynl (l:=R) (k:=d - 1 - h) Zi;obtain ⟨cx,hx1,hx2⟩:=Wf hB ((at_L (j:=P.length+h) (i:=h) rfl Zi).trans hx);obtain ⟨cy,hy1,hy2⟩:=Wf hB ((at_R (j:=P.length+L.length+(d - 1 - h)) (i:=d - 1 - h) rfl Zi).trans hy);have lx:=Lay.len _ hx1;have ly:=Lay.len _ hy1;refine zW ?_;intros;refine zG ?_;refine Wm ?_ (hw:=wrapU Zi);refine zG ?_;refine YmW Zz Zz Zh half ?_;refine zG ?_;refine Wm ?_ (hw:=YQ Zi);rw [hh];refine zW ?_;intros;refine zG ?_;refine Yq rfl ?_;refine zG ?_;refine Yc (vs:=cy) 0 ?_ (hv:=by rw [show (((P.length+d:Nat)+(P.length+L.length:Nat) - 1:Int) - (P.length+h:Nat)).toNat=P.length+L.length+(d - 1 - h) by omega];exact hy2) (hs:=by exact ly.symm);refine zW ?_;intros;refine zG ?_;refine Yq rfl ?_;refine zG ?_;refine Yc (vs:=cx) 0 ?_ (hv:=hx2) (hs:=by exact lx.symm);refine zW ?_;intros
  ((refine zG ?_);refine Ybu (hC _ _ _ _ hy1 hx1) ?_);refine zW ?_;intros;refine zC ?_ ?_<;>intro c4
  ·refine zW ?_;intros;exact Wj ⟨i,h,k1,hh1,by omega,hA,fun e he u v hu hv=>by
    rw [show e=d - 1 - h by omega,hy] at hv;rw [hx] at hu;injection hu with hu;injection hv with hv;subst hu;subst hv;exact c4,rfl,rfl,rfl,rfl⟩ Zi Zw Zb
  refine zW ?_;intros;exact Wj ⟨h+1,j,by omega,by omega,k3,fun e he u v hu hv=>by
   rw [show d - (h+1)=d - 1 - h by omega,hy] at hv;rw [show e=h by omega,hx] at hu;injection hu with hu;injection hv with hv;subst hu;subst hv;exact c4,hB',rfl,rfl,rfl,rfl⟩ Zi Zw Zb
 obtain rfl:i=j:=by omega
 obtain ⟨e,rfl⟩:∃ e,d=i+e:=⟨d - i,by omega⟩;rw [Nat.add_sub_cancel_left] at hA hB';have hm:mrgC cmp L R=mrgC cmp (L.take i) (R.take e)++mrgC cmp (L.drop i) (R.drop e):=YcC w sL sR hA hB' Zi Zi;have lT:(L.take i).length=i:=by rw [List.length_take];omega
 have lD:(L.drop i).length=L.length - i:=List.length_drop;have rT:(R.take e).length=e:=by rw [List.length_take];omega
 have rD:(R.drop e).length=R.length - e:=List.length_drop;have hB0:GrowB (YfC hB) t fz g n cap cur (P++(L.take i++(L.drop i++(R.take e++(R.drop e++Q))))):=by
  rw [<- List.append_assoc (R.take e),List.take_append_drop,<- List.append_assoc (L.take i),List.take_append_drop];exact hB
 refine zWX ?_;intros;refine Yr ?_;refine zWX ?_;intros;rw [show ((P.length+(i+e):Nat):Int)+(P.length+L.length:Nat) - (P.length+i:Nat)=(P.length+L.length+e:Nat) by omega];refine Yr (YY (fun σ fz' H'=>∃ cur1:List Value,σ=[(24,Zk (P.length+L.length+e:Nat)),(20,Zk (P.length+i:Nat)),(18,Zk (P.length+(i+e):Nat)),(0,Zv g n cap),(1,Zk (P.length:Nat)),(3,Zk (P.length+L.length+R.length:Nat)),(4,.func (.func fc) #[] #[])]/\fz=fz'/\H'=[(g,Zu cur1.toArray t)]/\GrowB (YfC hB) t fz g n cap cur1 (P++(L.take i++(R.take e++(L.drop i++(R.drop e++Q)))))) ?_ ?_)
 ·refine zW ?_;intros;refine zC ?_ ?_<;>intro e1
  ·refine zW ?_;intros;refine zC ?_ ?_<;>intro e2
   ·refine zW ?_;intros;refine Ya (Ym [_] [] Zz (rotate_o (by constructor) (P:=P++L.take i) (U:=L.drop i) (V:=R.take e) (Q:=R.drop e++Q) (by simpa using hB0) Zi Zi (by rw [List.length_append,lT]) (by simp only [List.length_append,lT,lD];omega) (by simp only [List.length_append,lT,lD,rT];omega)) (fun v4 fz4 H4 hle4 hR4=>?_) (hx:=rfl));obtain ⟨rfl,cur2,rfl,hB2⟩:=hR4;refine zW ?_;intros;exact wN (h:=by exact ⟨cur2,rfl,rfl,rfl,by simpa using hB2⟩)
   obtain rfl:e=0:=by omega
   refine zW ?_;intros;exact wN (h:=by exact ⟨cur,rfl,rfl,rfl,by simpa using hB0⟩)
  have ei:L.drop i=[]:=List.eq_nil_of_length_eq_zero Zi;refine zW ?_;intros;exact wN (h:=by exact ⟨cur,rfl,rfl,rfl,by rw [ei] at hB0 ⊢;simpa using hB0⟩)
 rintro σ fz' H' ⟨cur1,rfl,rfl,rfl,hB1⟩;refine Yr (YY (fun σ fz' H'=>∃ cur1:List Value,σ=[(24,Zk (P.length+L.length+e:Nat)),(18,Zk (P.length+(i+e):Nat)),(0,Zv g n cap),(3,Zk (P.length+L.length+R.length:Nat)),(4,.func (.func fc) #[] #[])]/\fz=fz'/\H'=[(g,Zu cur1.toArray t)]/\GrowB (YfC hB) t fz g n cap cur1 (P++(mrgC cmp (L.take i) (R.take e)++(L.drop i++(R.drop e++Q))))) ?_ ?_)
 ·refine zW ?_;intros;refine zC ?_ ?_<;>intro e1
  ·refine zW ?_;intros;refine zC ?_ ?_<;>intro e2
   ·refine zW ?_;intros;refine Ya (Ym [_] [] Zz (ih (P:=P) (L:=L.take i) (R:=R.take e) (Q:=L.drop i++(R.drop e++Q)) Zi Zi Zi (sL.sublist (List.take_sublist _ _)) (sR.sublist (List.take_sublist _ _)) hB1 rfl (by rw [lT]) (by rw [lT,rT,Nat.add_assoc])) (fun v4 fz4 H4 hle4 hR4=>?_) (hx:=rfl));obtain ⟨rfl,cur2,rfl,hB2⟩:=hR4;refine zW ?_;intros;exact wN (h:=by exact ⟨cur2,rfl,rfl,rfl,hB2⟩)
   have ee:R.take e=[]:=List.eq_nil_of_length_eq_zero Zi;refine zW ?_;intros;exact wN (h:=by exact ⟨cur1,rfl,rfl,rfl,by rw [ee] at hB1 ⊢;rw [Yja];simpa using hB1⟩)
  have ei:L.take i=[]:=List.eq_nil_of_length_eq_zero Zi;refine zW ?_;intros;exact wN (h:=by exact ⟨cur1,rfl,rfl,rfl,by rw [ei] at hB1 ⊢;rw [YkF];simpa using hB1⟩)
 rintro σ fz' H' ⟨cur2,rfl,rfl,rfl,hB2⟩;have lM:(mrgC cmp (L.take i) (R.take e)).length=i+e:=by rw [mrgC_len,lT,rT]
 refine zW ?_;intros;refine zC ?_ ?_<;>intro e1
 ·refine zW ?_;intros;refine zC ?_ ?_<;>intro e2
  ·refine zW ?_;intros;refine Ya (Ym [_] [] Zz (ih (P:=P++mrgC cmp (L.take i) (R.take e)) (L:=L.drop i) (R:=R.drop e) (Q:=Q) Zi Zi Zi (sL.sublist (List.drop_sublist _ _)) (sR.sublist (List.drop_sublist _ _)) (by simpa using hB2) (by rw [List.length_append,lM]) (by rw [List.length_append,lM,lD];omega) (by rw [List.length_append,lM,lD,rD];omega)) (fun v4 fz4 H4 hle4 hR4=>?_) (hx:=rfl));obtain ⟨rfl,cur3,rfl,hB3⟩:=hR4;refine zW ?_;intros;exact Ycc rfl Zb ⟨rfl,cur3,rfl,by rw [hm];simpa using hB3⟩
  have ee:R.drop e=[]:=List.eq_nil_of_length_eq_zero Zi;refine zW ?_;intros;exact Ycc rfl Zb ⟨rfl,cur2,rfl,by rw [hm,ee,Yja];rw [ee] at hB2;simpa using hB2⟩
 have ei:L.drop i=[]:=List.eq_nil_of_length_eq_zero Zi;refine zW ?_;intros;exact Ycc rfl Zb ⟨rfl,cur2,rfl,by rw [hm,ei,YkF];rw [ei] at hB2;simpa using hB2⟩):p:=h
section
variable {fz:FZ} {g n cap fc:Nat} {t:TypeId} {s:Nat}
theorem symM_pa {cmp:Param->Param->Int} (hC:CmpQ paramL fc fz cmp) (w:SWk (ltC cmp)) (hn:n<=1000000000) (ih:SymG paramL 249 fz g n cap fc t cmp s):SymG paramL 249 fz g n cap fc t cmp (s+1):=by
 rintro cur P L R Q _ _ _ hs hL hR sL sR hB rfl rfl rfl;have hl:=hB.len;simp only [List.length_append] at hl;have hO:=SrT.pa.one;exact symW
theorem symM_pr {cmp:Predicate->Predicate->Int} (hC:CmpQ predicateL fc fz cmp) (w:SWk (ltC cmp)) (hn:n<=1000000000) (ih:SymG predicateL 126 fz g n cap fc t cmp s):SymG predicateL 126 fz g n cap fc t cmp (s+1):=by
 rintro cur P L R Q _ _ _ hs hL hR sL sR hB rfl rfl rfl;have hl:=hB.len;simp only [List.length_append] at hl;have hO:=SrT.pr.one;exact symW
theorem symM_fu {cmp:Function->Function->Int} (hC:CmpQ functionL fc fz cmp) (w:SWk (ltC cmp)) (hn:n<=1000000000) (ih:SymG functionL 129 fz g n cap fc t cmp s):SymG functionL 129 fz g n cap fc t cmp (s+1):=by
 rintro cur P L R Q _ _ _ hs hL hR sL sR hB rfl rfl rfl;have hl:=hB.len;simp only [List.length_append] at hl;have hO:=SrT.fu.one;exact symW
theorem symM_ac {cmp:Action->Action->Int} (hC:CmpQ actionL fc fz cmp) (w:SWk (ltC cmp)) (hn:n<=1000000000) (ih:SymG actionL 131 fz g n cap fc t cmp s):SymG actionL 131 fz g n cap fc t cmp (s+1):=by
 rintro cur P L R Q _ _ _ hs hL hR sL sR hB rfl rfl rfl;have hl:=hB.len;simp only [List.length_append] at hl;have hO:=SrT.ac.one;exact symW
theorem symM_du {cmp:Durative->Durative->Int} (hC:CmpQ durativeL fc fz cmp) (w:SWk (ltC cmp)) (hn:n<=1000000000) (ih:SymG durativeL 133 fz g n cap fc t cmp s):SymG durativeL 133 fz g n cap fc t cmp (s+1):=by
 rintro cur P L R Q _ _ _ hs hL hR sL sR hB rfl rfl rfl;have hl:=hB.len;simp only [List.length_append] at hl;have hO:=SrT.du.one;exact symW
theorem symM_va {cmp:Value_->Value_->Int} (hC:CmpQ valueL fc fz cmp) (w:SWk (ltC cmp)) (hn:n<=1000000000) (ih:SymG valueL 139 fz g n cap fc t cmp s):SymG valueL 139 fz g n cap fc t cmp (s+1):=by
 rintro cur P L R Q _ _ _ hs hL hR sL sR hB rfl rfl rfl;have hl:=hB.len;simp only [List.length_append] at hl;have hO:=SrT.va.one;exact symW
end
theorem symM_s {Λ:Lay α} {fw fr fi fm fs:FuncId} (hty:SrT Λ fw fr fi fm fs) {cap fc:Nat} {cmp:α->α->Int} (hC:CmpQ Λ fc fz cmp) (w:SWk (ltC cmp)) (hn:n<=1000000000) {s:Nat} (ih:SymG Λ fm fz g n cap fc t cmp s):SymG Λ fm fz g n cap fc t cmp (s+1):=by
 cases hty
 ·exact symM_pa hC w hn ih
 ·exact symM_pr hC w hn ih
 ·exact symM_fu hC w hn ih
 ·exact symM_ac hC w hn ih
 ·exact symM_du hC w hn ih
 exact symM_va hC w hn ih
theorem YoR {α:Type} {Λ:Lay α} {fw fr fi fm fs:FuncId} (hty:SrT Λ fw fr fi fm fs) {fz:FZ} {g n cap fc:Nat} {t:TypeId} {cmp:α->α->Int} (hC:CmpQ Λ fc fz cmp) (w:SWk (ltC cmp)) (hn:n<=1000000000):∀ s:Nat,SymG Λ fm fz g n cap fc t cmp s
 | 0=>fun h h1=>absurd h Zi
 | s+1=>symM_s hty hC w hn (YoR hty hC w hn s)
end Go.Proofs.YtiligkgjcmokbaaGreatDoor
