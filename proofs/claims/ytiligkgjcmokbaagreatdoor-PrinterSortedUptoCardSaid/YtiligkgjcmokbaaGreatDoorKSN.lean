/- The texts NB, NC, ND, Half, NE, NF, NG, NH, NQ, ShelfP, NL, laid together. Conditions: none. -/
import Derived.Test.YtiligkgjcmokbaaGreatDoorKSM
import Derived.Shelf.Small.Strs
set_option linter.all false
set_option maxHeartbeats 8000000
set_option maxRecDepth 20000
open Go.Lx Go.RowKit
attribute [local instance 10] Classical.propDecidable
open Go.Proofs.Tryz (prog)
namespace Go.Lx
variable {α:Type} {i j:Nat}
theorem YiH {U V W:List α} {x z:α} (hi:i=U.length) (hj:j=U.length+1+V.length):((U++x::(V++z::W)).set i z).set j x=U++z::(V++x::W):=by
 subst hi hj;rw [List.set_append_right _ _ (Zs _),Nat.sub_self,List.set_cons_zero,List.set_append_right _ _ Zi,show U.length+1+V.length - U.length=V.length+1 by omega,List.set_cons_succ,List.set_append_right _ _ (Zs _),Nat.sub_self,List.set_cons_zero]
theorem Yj5 {U V W:List α} {x z:α} (hi:i=U.length) (hj:j=U.length+1+V.length):((U++x::(V++z::W)).set j x).set i z=U++z::(V++x::W):=by
 rw [List.set_comm _ _ Zi];exact YiH hi hj
theorem Yix {U W:List α} {x:α} (hi:i=U.length):(U++x::W)[i]?=some x:=by
 subst hi;rw [List.getElem?_append_right (Zs _),Nat.sub_self];rfl
theorem YjL {U V W:List α} {x z:α} (hj:j=U.length+1+V.length):(U++x::(V++z::W))[j]?=some z:=by
 subst hj;rw [List.getElem?_append_right Zi,show U.length+1+V.length - U.length=V.length+1 by omega,List.getElem?_cons_succ];exact Yix rfl
end Go.Lx
namespace Go.Proofs.YtiligkgjcmokbaaGreatDoor
variable {α:Type} {fz:FZ} {g k n:Nat} {t:TypeId}
inductive SrT:{α:Type}->Lay α->FuncId->FuncId->FuncId->FuncId->FuncId->Prop
 | pa:SrT paramL 319 289 248 249 188
 | pr:SrT predicateL 250 189 125 126 60
 | fu:SrT functionL 251 190 128 129 62
 | ac:SrT actionL 252 191 130 131 63
 | du:SrT durativeL 253 192 132 133 64
 | va:SrT valueL 259 204 138 139 69
theorem SrT.one {Λ:Lay α} {fw fr fi fm fs:FuncId} (h:SrT Λ fw fr fi fm fs):OneC Λ:=by
 cases h
 ·exact WY
 ·exact YeS
 ·exact Yf2
 ·exact Yij
 ·exact Yf3
 exact YkB
abbrev YfC {α:Type} {Λ:Lay α} {t:TypeId} {fz:FZ} {g n cap:Nat} {cur:List Value} {l:List α} (_:GrowB Λ t fz g n cap cur l):Lay α:=Λ
abbrev tyOf {α:Type} (_:List α):Type:=α
theorem YlA {Λ:Lay α} {fw fr fi fm fs:FuncId} (hty:SrT Λ fw fr fi fm fs) {cap:Nat} {cur:List Value} {P X Y Z Q:List α} {vc:Value} (hB:GrowB Λ t fz g n cap cur (P++(X++(Y++(Z++Q))))) (hX:X.length=k) (hZ:Z.length=k) {a b:Int} (ha:a=P.length) (hb:b=P.length+k+Y.length):
 GFn prog fw [Zv g n cap,Zk a,Zk b,Zk k,vc] fz [(g,Zu cur.toArray t)]
  (fun _ fz' H'=>fz=fz'/\∃ cur',H'=[(g,Zu (List.toArray cur') t)]/\GrowB Λ t fz g n cap cur' (P++(Z++(Y++(X++Q))))):=by
 have hl:=hB.len;have hcn:=hB.capn;have hmax:=hB.max;unfold maxLen at hmax;simp only [List.length_append] at hl;subst ha hb;have hO:=hty.one;cases hty
 all_goals
  first
   | refine zF Tryz.func319 Tryz.ntmps319 (fun w0=>?_)
   | refine zF Tryz.func250 Tryz.ntmps250 (fun w0=>?_)
   | refine zF Tryz.func251 Tryz.ntmps251 (fun w0=>?_)
   | refine zF Tryz.func252 Tryz.ntmps252 (fun w0=>?_)
   | refine zF Tryz.func253 Tryz.ntmps253 (fun w0=>?_)
   | refine zF Tryz.func259 Tryz.ntmps259 (fun w0=>?_)
  refine zW ?_;intros;refine Yi (fun q σ fz' H'=>∃ (i:Nat) (cur1:List Value),i<=k/\q=k - i/\σ=[(10,Zk i),(0,Zv g n cap),(1,Zk P.length),(2,Zk (P.length+k+Y.length)),(3,Zk k)]/\fz=fz'/\H'=[(g,Zu cur1.toArray t)]/\GrowB (YfC hB) t fz g n cap cur1 (P++(Z.take i++(X.drop i++(Y++(X.take i++(Z.drop i++Q))))))) ⟨0,cur,Z0 _,rfl,rfl,rfl,rfl,by simpa using hB⟩ Zw Zb ?_;rintro q σ fz' H' ⟨i,cur1,hi,rfl,rfl,rfl,rfl,hB1⟩;refine zW ?_;intros;refine zC ?_ ?_<;>intro c1
  ·have hik:i<k:=by omega
   have eX:X.drop i=X[i]'Zi::X.drop (i+1):=List.drop_eq_getElem_cons Zi;have eZ:Z.drop i=Z[i]'Zi::Z.drop (i+1):=List.drop_eq_getElem_cons Zi;generalize X[i]'Zi=x at eX;generalize Z[i]'Zi=z at eZ;have hD:P++(Z.take i++(X.drop i++(Y++(X.take i++(Z.drop i++Q)))))=(P++Z.take i)++x::((X.drop (i+1)++(Y++X.take i))++z::(Z.drop (i+1)++Q)):=by rw [eX,eZ];simp
   rw [hD] at hB1;have lU:(P++Z.take i).length=P.length+i:=by rw [List.length_append,List.length_take];omega
   have lV:(X.drop (i+1)++(Y++X.take i)).length=k - (i+1)+(Y.length+i):=by rw [List.length_append,List.length_append,List.length_take,List.length_drop];omega
   obtain ⟨cz,hz1,hz2⟩:=Wf hB1 (YjL (j:=P.length+k+Y.length+i) Zi);obtain ⟨cx,hx1,hx2⟩:=Wf hB1 (Yix (i:=P.length+i) Zi);have lz:=Lay.len _ hz1;have lx:=Lay.len _ hx1;refine zWN ?_;intros;refine WP [4,5,6,7] [_] ?_;refine zW ?_;intros;refine PK.p Zz (fun fz'=>by first | exact XC rfl | exact YU Zz rfl | exact Yt rfl | exact W4 Zz Zz (YQ Zi) rfl | exact Yw rfl) ?_;refine PK.p Zz (fun fz'=>by first | exact XC rfl | exact YU Zz rfl | exact Yt rfl | exact W4 Zz Zz (YQ Zi) rfl | exact Yw rfl) ?_;refine PK.p Zz (fun fz'=>by first | exact XC rfl | exact YU Zz rfl | exact Yt rfl | exact W4 Zz Zz (YQ Zi) rfl | exact Yw rfl) ?_;refine PK.p Zz (fun fz'=>by first | exact XC rfl | exact YU Zz rfl | exact Yt rfl | exact W4 Zz Zz (YQ Zi) rfl | exact Yw rfl) ?_;refine zW ?_;intros;refine zG ?_;refine Yq rfl ?_;refine zG ?_;refine Yc (vs:=cz) 0 ?_ (hv:=hz2) (hs:=by exact lz.symm);refine zW ?_;intros;refine zG ?_;refine Yq rfl ?_;refine zG ?_;refine Yc (vs:=cx) 0 ?_ (hv:=hx2) (hs:=by exact lx.symm);refine zW ?_;intros;refine zG ?_;refine Yq rfl ?_;refine pT ?_;refine Yh ?_;refine PoS.hard0 (YI (pre:=[]) (j:=P.length+i) rfl rfl hO hz1 hB1 (fun cur2 hB2=>?_));refine Yh ?_;refine PoS.hard (DoesQ.does (Yq rfl ?_));refine Yh ?_;refine PoS.hard0 (YI (pre:=[]) (j:=P.length+k+Y.length+i) rfl rfl hO hx1 hB2 (fun cur3 hB3=>?_));refine Po.done ?_;rw [YiH Zi Zi] at hB3;refine zW ?_;intros;exact Wj ⟨i+1,cur3,by omega,rfl,rfl,rfl,rfl,by
    rw [List.take_add_one,List.take_add_one,show X[i]?=some x from by rw [<- List.head?_drop,eX];rfl,show Z[i]?=some z from by rw [<- List.head?_drop,eZ];rfl];simpa using hB3⟩ Zi Zw Zb
  have hki:i=k:=by omega
  subst hki;rw [Zl Zi,Zl Zi,List.drop_of_length_le Zi,List.drop_of_length_le Zi] at hB1;refine zW ?_;intros;exact Ycc rfl Zb ⟨rfl,cur1,rfl,by simpa using hB1⟩
theorem rotate_o {Λ:Lay α} {fw fr fi fm fs:FuncId} (hty:SrT Λ fw fr fi fm fs) {cap:Nat} {cur:List Value} {P U V Q:List α} {vc:Value} (hB:GrowB Λ t fz g n cap cur (P++(U++(V++Q)))) (hU:0<U.length) (hV:0<V.length) {a m b:Int} (ha:a=P.length) (hm:m=P.length+U.length) (hb:b=P.length+U.length+V.length):
 GFn prog fr [Zv g n cap,Zk a,Zk m,Zk b,vc] fz [(g,Zu cur.toArray t)]
  (fun _ fz' H'=>fz=fz'/\∃ cur',H'=[(g,Zu (List.toArray cur') t)]/\GrowB Λ t fz g n cap cur' (P++(V++(U++Q)))):=by
 have hl:=hB.len;have hcn:=hB.capn;have hmax:=hB.max;unfold maxLen at hmax;simp only [List.length_append] at hl;subst ha hm hb;have hO:=hty.one;cases hty
 all_goals
  first
   | refine zF Tryz.func289 Tryz.ntmps289 (fun w0=>?_)
   | refine zF Tryz.func189 Tryz.ntmps189 (fun w0=>?_)
   | refine zF Tryz.func190 Tryz.ntmps190 (fun w0=>?_)
   | refine zF Tryz.func191 Tryz.ntmps191 (fun w0=>?_)
   | refine zF Tryz.func192 Tryz.ntmps192 (fun w0=>?_)
   | refine zF Tryz.func204 Tryz.ntmps204 (fun w0=>?_)
  refine zW ?_;intros;refine Yi (fun q σ fz' H'=>∃ (iz jz:Int) (i j:Nat) (cur1:List Value) (A B C E:List (tyOf P)),q=i+j/\iz=i/\jz=j/\0<i/\0<j/\B.length=i/\C.length=j/\A.length+i=U.length/\σ=[(11,Zk jz),(10,Zk iz),(0,Zv g n cap),(2,Zk (P.length+U.length)),(4,vc)]/\fz=fz'/\H'=[(g,Zu cur1.toArray t)]/\A++(C++(B++E))=V++(U++Q)/\GrowB (YfC hB) t fz g n cap cur1 (P++(A++(B++(C++E)))))
   ⟨(P.length+U.length:Int) - P.length,(P.length+U.length+V.length:Int) - (P.length+U.length),U.length,V.length,cur,[],U,V,Q,rfl,by omega,by omega,hU,hV,rfl,rfl,by simp,rfl,rfl,rfl,rfl,hB⟩ Zw Zb ?_
  rintro q σ fz' H' ⟨_,_,i,j,cur1,A,B,C,E,rfl,rfl,rfl,hi,hj,lB,lC,hA,rfl,rfl,rfl,hT,hB1⟩;have hl1:=hB1.len;simp only [List.length_append] at hl1;refine zW ?_;intros;refine zC ?_ ?_<;>intro c1
  ·refine zW ?_;intros;refine zC ?_ ?_<;>intro c2
   ·have e:B=B.take j++B.drop j:=(List.take_append_drop j B).symm;have l1:(B.take j).length=j:=by rw [List.length_take];omega
    have l2:(B.drop j).length=i - j:=by rw [List.length_drop];omega
    generalize B.take j=B1 at*;generalize B.drop j=B2 at*;subst e;refine zW ?_;intros;refine Ya (Ym [_] [] Zz (YlA (by constructor) (P:=P++A) (X:=B1) (Y:=B2) (Z:=C) (Q:=E) (by simpa using hB1) l1 lC (by simp only [List.length_append];omega) (by simp only [List.length_append];omega)) (fun v4 fz4 H4 hle4 hR4=>?_) (hx:=rfl));obtain ⟨rfl,cur2,rfl,hB2⟩:=hR4;refine zW ?_;intros;exact wP (h:=by exact ⟨_,_,i - j,j,cur2,A++C,B2,B1,E,rfl,(Int.ofNat_sub Zi).symm,rfl,by omega,hj,l2,l1,by rw [List.length_append];omega,rfl,rfl,rfl,by rw [<- hT];simp,by simpa using hB2⟩)
   have e:C=C.take (j - i)++C.drop (j - i):=(List.take_append_drop _ C).symm;have l1:(C.take (j - i)).length=j - i:=by rw [List.length_take];omega
   have l2:(C.drop (j - i)).length=i:=by rw [List.length_drop];omega
   generalize C.take (j - i)=C1 at*;generalize C.drop (j - i)=C2 at*;subst e;refine zW ?_;intros;refine Ya (Ym [_] [] Zz (YlA (by constructor) (P:=P++A) (X:=B) (Y:=C1) (Z:=C2) (Q:=E) (by simpa using hB1) lB l2 (by simp only [List.length_append];omega) (by simp only [List.length_append];omega)) (fun v4 fz4 H4 hle4 hR4=>?_) (hx:=rfl));obtain ⟨rfl,cur2,rfl,hB2⟩:=hR4;refine zW ?_;intros;exact wP (h:=by exact ⟨_,_,i,j - i,cur2,A,C2,C1,B++E,rfl,rfl,(Int.ofNat_sub Zi).symm,hi,by omega,l2,l1,hA,rfl,rfl,rfl,by rw [<- hT];simp,by simpa using hB2⟩)
  have hij:i=j:=by omega
  subst hij;refine zW ?_;intros;refine Ya (Ym [_] [] Zz (YlA (by constructor) (P:=P++A) (X:=B) (Y:=[]) (Z:=C) (Q:=E) (by simpa using hB1) lB lC (by simp only [List.length_append];omega) (by simp only [List.length_append,List.length_nil];omega)) (fun v4 fz4 H4 hle4 hR4=>?_) (hx:=rfl));obtain ⟨rfl,cur2,rfl,hB2⟩:=hR4;refine zW ?_;intros;exact Ycc rfl Zb ⟨rfl,cur2,rfl,by
   have e:P++(V++(U++Q))=P++A++(C++([]++(B++E))):=by rw [<- hT];simp
   rw [e];exact hB2⟩
end Go.Proofs.YtiligkgjcmokbaaGreatDoor
namespace Go.Lx
variable {α:Type} {l:List α}
abbrev ltC {α:Type} (cmp:α->α->Int):α->α->Prop:=fun x y=>cmp x y<0
def srtC {α:Type} (cmp:α->α->Int) (l:List α):List α:=YdJ (ltC cmp) l
theorem YiM {cmp:α->α->Int}:(srtC cmp l).length=l.length:=Yio _ _ rfl
theorem Ygo {cmp:α->α->Int} (w:SWk (ltC cmp)):SrtS (ltC cmp) (srtC cmp l):=Yn8 w l
theorem Yj7 {cmp:α->α->Int} (w:SWk (ltC cmp)) {s1 s2:List α} {x:α} (hs:srtC cmp l=s1++s2) (h1:∀ y,s2[0]?=some y->cmp x y<0) (h2:∀ z s,s1=s++ [z]->¬cmp x z<0):srtC cmp (l++ [x])=s1++x::s2:=by
 have h:=Ygo w (l:=l);have e:srtC cmp (l++ [x])=XB (ltC cmp) (srtC cmp l) [x]:=Yda l x;rw [hs] at h e;rw [e];refine YkP w h h1 fun k hk z hz=>?_
 rcases List.eq_nil_or_concat s1 with rfl | ⟨s,z',rfl⟩
 ·cases hk
 rw [List.concat_eq_append] at hk hz;simp at hk;subst hk;rw [Yix rfl] at hz;injection hz with hz
 subst hz;exact h2 _ _ (List.concat_eq_append ..)
theorem srtC_one {cmp:α->α->Int} (u:α):srtC cmp [u]=[u]:=Xw _
theorem YnT {cmp:α->α->Int}:∀ U Q:List α,U++Q=srtC cmp (U.take 1)++(U.drop 1++Q)
 | [],_=>rfl
 | u::U,Q=>by show _=srtC cmp [u]++(U++Q);rw [srtC_one];rfl
end Go.Lx
namespace Go.Proofs.YtiligkgjcmokbaaGreatDoor
variable {α:Type} {fz:FZ} {g n:Nat} {t:TypeId}
def CmpQ {α:Type} (L:Lay α) (f:Nat) (fz:FZ) (cmp:α->α->Int):Prop:=∀ x y cs ds,L.rep fz x cs->L.rep fz y ds->QFn prog f [.agg cs.toArray,.agg ds.toArray] fz (Zk (cmp x y))
theorem Yni {Λ:Lay α} {fw fr fi fm fs:FuncId} (hty:SrT Λ fw fr fi fm fs) {cap fc:Nat} {cur:List Value} {P U Q:List α} {cmp:α->α->Int} (hB:GrowB Λ t fz g n cap cur (P++(U++Q))) (hC:CmpQ Λ fc fz cmp) (w:SWk (ltC cmp)) (hn:n<=1000000000) {a b:Int} (ha:a=P.length) (hb:b=P.length+U.length):
 GFn prog fi [Zv g n cap,Zk a,Zk b,.func (.func fc) #[] #[]] fz [(g,Zu cur.toArray t)]
  (fun _ fz' H'=>fz=fz'/\∃ cur',H'=[(g,Zu (List.toArray cur') t)]/\GrowB Λ t fz g n cap cur' (P++(srtC cmp U++Q))):=by
 have hl:=hB.len;have hcn:=hB.capn;have hmax:=hB.max;unfold maxLen at hmax;simp only [List.length_append] at hl;subst ha hb;have hO:=hty.one;cases hty
 all_goals
  first
   | refine zF Tryz.func248 Tryz.ntmps248 (fun w0=>?_)
   | refine zF Tryz.func125 Tryz.ntmps125 (fun w0=>?_)
   | refine zF Tryz.func128 Tryz.ntmps128 (fun w0=>?_)
   | refine zF Tryz.func130 Tryz.ntmps130 (fun w0=>?_)
   | refine zF Tryz.func132 Tryz.ntmps132 (fun w0=>?_)
   | refine zF Tryz.func138 Tryz.ntmps138 (fun w0=>?_)
  refine zW ?_;intros;refine Yi (fun q σ fz' H'=>∃ (z:Int) (k:Nat) (cur1:List Value),z=P.length+k/\1<=k/\q=U.length+1 - k/\σ=[(8,Zk z),(0,Zv g n cap),(1,Zk P.length),(2,Zk (P.length+U.length)),(3,.func (.func fc) #[] #[])]/\fz=fz'/\H'=[(g,Zu cur1.toArray t)]/\GrowB (YfC hB) t fz g n cap cur1 (P++(srtC cmp (U.take k)++(U.drop k++Q)))) ⟨_,1,cur,rfl,Zs _,rfl,rfl,rfl,rfl,by rw [<- YnT];exact hB⟩ Zw Zb ?_;rintro q σ fz' H' ⟨_,k,cur1,rfl,hk,rfl,rfl,rfl,rfl,hB1⟩;refine zW ?_;intros;refine zC ?_ ?_<;>intro c1
  ·have hkU:k<U.length:=by omega
   have eU:U.drop k=U[k]'Zi::U.drop (k+1):=List.drop_eq_getElem_cons Zi;have eT:U.take (k+1)=U.take k++ [U[k]'Zi]:=by rw [List.take_add_one,List.getElem?_eq_getElem hkU];rfl
   generalize U[k]'Zi=x at eU eT;rw [eU] at hB1;have lS:(srtC cmp (U.take k)).length=k:=by rw [YiM,List.length_take];omega
   refine zW ?_;intros;refine Yi (fun q σ fz' H'=>∃ (z:Int) (s1 s2:List (tyOf P)) (cur2:List Value),z=P.length+s1.length/\srtC cmp (U.take k)=s1++s2/\(∀ y,s2[0]?=some y->cmp x y<0)/\q=s1.length/\σ=[(9,Zk z),(8,Zk (P.length+k)),(0,Zv g n cap),(1,Zk P.length),(2,Zk (P.length+U.length)),(3,.func (.func fc) #[] #[])]/\fz=fz'/\H'=[(g,Zu cur2.toArray t)]/\GrowB (YfC hB) t fz g n cap cur2 (P++(s1++(x::(s2++(U.drop (k+1)++Q)))))) ⟨_,srtC cmp (U.take k),[],cur1,by rw [lS],(List.append_nil _).symm,by simp,rfl,rfl,rfl,rfl,hB1⟩ Zw Zb ?_;rintro q σ fz' H' ⟨_,s1,s2,cur2,rfl,hs,h1,rfl,rfl,rfl,rfl,hB2⟩;have fin:∀ (h2:∀ z s,s1=s++ [z]->¬cmp x z<0),GrowB (YfC hB) t fz g n cap cur2 (P++(srtC cmp (U.take (k+1))++(U.drop (k+1)++Q))):=fun h2=>by
    rw [eT,Yj7 w hs h1 h2];simpa using hB2
   rcases List.eq_nil_or_concat s1 with rfl | ⟨s,z,rfl⟩
   ·refine zW ?_;intros;refine zC ?_ ?_<;>intro c2
    ·exact absurd c2 (by simp)
    refine zW ?_;intros;exact wP (h:=by exact ⟨(P.length+k:Int)+1,k+1,cur2,by omega,by omega,rfl,rfl,rfl,rfl,fin (fun z s h=>by simp at h)⟩)
   rw [List.concat_eq_append] at*;have ls:(s++ [z]).length=s.length+1:=by simp
   have lS2:=congrArg List.length hs;rw [lS,List.length_append,ls] at lS2;simp only [ls] at hcn ⊢;have hD:P++(s++ [z]++(x::(s2++(U.drop (k+1)++Q))))=(P++s)++z::([]++x::(s2++(U.drop (k+1)++Q))):=by simp
   rw [hD] at hB2;have lU:(P++s).length=P.length+s.length:=List.length_append;obtain ⟨cx,hx1,hx2⟩:=Wf hB2 (YjL (j:=P.length+s.length+1) (by rw [lU];rfl));obtain ⟨cz,hz1,hz2⟩:=Wf hB2 (Yix (i:=P.length+s.length) Zi);have lz:=Lay.len _ hz1;have lx:=Lay.len _ hx1;refine zW ?_;intros;refine zC ?_ ?_<;>intro c2;rotate_left 1
   ·exact absurd c2 Zi
   refine zW ?_;intros;refine zG ?_;refine Yq rfl ?_;refine zG ?_;refine Yc (vs:=cx) 0 ?_ (hv:=hx2) (hs:=by exact lx.symm);refine zW ?_;intros;refine zG ?_;refine Yq rfl ?_;refine zG ?_;refine Yc (vs:=cz) 0 ?_ (hv:=by rw [show ((P.length:Int)+((s.length+1:Nat):Int) - 1).toNat=P.length+s.length by omega];exact hz2) (hs:=by exact lz.symm);refine zW ?_;intros
   ((refine zG ?_);refine Ybu (hC _ _ _ _ hx1 hz1) ?_);refine zW ?_;intros;refine zC ?_ ?_<;>intro c3;rotate_left 1
   ·refine zW ?_;intros;exact Wj ⟨(P.length+k:Int)+1,k+1,cur2,by omega,by omega,rfl,rfl,rfl,rfl,fin (fun y s' h=>by
     obtain ⟨_,h⟩:=List.append_inj' h rfl;injection h with h
     subst h;exact c3)⟩ Zi Zw Zb
   refine zWN ?_;intros;refine WP [2,3,4] [_] ?_;refine zW ?_;intros;refine PK.p Zz (fun fz'=>by first | exact XC rfl | exact YU Zz rfl | exact Yt rfl | exact W4 Zz Zz (YQ Zi) rfl | exact Yw rfl) ?_;refine PK.p Zz (fun fz'=>by first | exact XC rfl | exact YU Zz rfl | exact Yt rfl | exact W4 Zz Zz (YQ Zi) rfl | exact Yw rfl) ?_;refine PK.p Zz (fun fz'=>YlH Zz Zz (YQ Zi) rfl) ?_;refine zW ?_;intros;refine zG ?_;refine Yq rfl ?_;refine zG ?_;refine Yc (vs:=cz) 0 ?_ (hv:=by rw [show ((P.length:Int)+((s.length+1:Nat):Int) - 1).toNat=P.length+s.length by omega];exact hz2) (hs:=by exact lz.symm);refine zW ?_;intros;refine zG ?_;refine Yq rfl ?_;refine zG ?_;refine Yc (vs:=cx) 0 ?_ (hv:=hx2) (hs:=by exact lx.symm);refine zW ?_;intros;refine zG ?_;refine Yq rfl ?_;refine pT ?_;refine Yh ?_;refine PoS.hard0 (YI (pre:=[]) (j:=P.length+s.length+1) rfl rfl hO hz1 hB2 (fun cur3 hB3=>?_));refine Yh ?_;refine PoS.hard (DoesQ.does (Yq rfl ?_));refine Yh ?_;refine PoS.hard0 (YI (pre:=[]) (j:=((P.length:Int)+((s.length+1:Nat):Int) - 1).toNat) rfl rfl hO hx1 hB3 (fun cur4 hB4=>?_));refine Po.done ?_;rw [show ((P.length:Int)+((s.length+1:Nat):Int) - 1).toNat=P.length+s.length by omega,Yj5 Zi (by rw [lU];rfl)] at hB4;refine zW ?_;intros;exact wP (h:=by exact ⟨(P.length:Int)+((s.length+1:Nat):Int) - 1,s,z::s2,cur4,by omega,by rw [hs];simp,fun y hy=>by simp at hy;subst hy;exact c3,rfl,rfl,rfl,rfl,by simpa using hB4⟩)
  rw [Zl Zi,List.drop_of_length_le Zi] at hB1;refine zW ?_;intros;exact Ycc rfl Zb ⟨rfl,cur1,rfl,hB1⟩
end Go.Proofs.YtiligkgjcmokbaaGreatDoor
namespace Go.Lx
open Go.RowKit
variable {i j n:Nat} {H:HP} {fz:FZ}
theorem half:((i:Int)+j).fdiv (2 ^ (min (1:Int).toNat IntKind.u64.bits))=((i+j) / 2:Nat):=by
 have:(2 ^ (min (1:Int).toNat IntKind.u64.bits):Int)=2:=by decide
 rw [this,Int.fdiv_eq_ediv_of_nonneg _ Zi];omega
theorem wrapU {n:Int} (h:0<=n/\n<=18446744073709551615):IntKind.u64.wrap n=n:=by
 simp [IntKind.wrap,IntKind.bits,IntKind.signed];omega
theorem ret0X {P:Program} {cx:Cx} {σ:Env} {H':HP} {fn:Func} {R:Value->FZ->HP->Prop} (hres:fn.results=#[]) (hH:H'.Sublist H) (h:R (.tuple #[]) fz H'):retQ P cx n fn R .ret σ fz H:=by
 unfold retQ;exact ⟨.tuple #[],fun a w hs hw=>by simp [results,hres],YgM hH h⟩
end Go.Lx
namespace Go.Lx
variable {α:Type} {i j:Nat}
theorem at_L {P L M:List α} (hj:j=P.length+i) (hi:i<L.length):(P++(L++M))[j]?=L[i]?:=by
 subst hj;rw [List.getElem?_append_right Zi,show P.length+i - P.length=i by omega,List.getElem?_append_left hi]
theorem at_R {P L R Q:List α} (hj:j=P.length+L.length+i) (hi:i<R.length):(P++(L++(R++Q)))[j]?=R[i]?:=by
 subst hj;rw [List.getElem?_append_right Zi,List.getElem?_append_right Zi,show P.length+L.length+i - P.length - L.length=i by omega,List.getElem?_append_left hi]
theorem Ynm {α:Type} {l:List α} {k:Nat} (h:k<l.length):∃ x,l[k]?=some x:=⟨l[k],List.getElem?_eq_getElem h⟩
section
variable {α:Type} {cmp:α->α->Int}
def mrgC (cmp:α->α->Int) (l r:List α):List α:=XB (ltC cmp) l r
theorem mrgC_len {l r:List α}:(mrgC cmp l r).length=l.length+r.length:=Yd1 _ _
theorem YkF {r:List α}:mrgC cmp [] r=r:=Xw _
theorem Yja {l:List α}:mrgC cmp l []=l:=XX _
variable {c:Nat}
theorem YpF (w:SWk (ltC cmp)) {x:α} {R:List α} (hR:SrtS (ltC cmp) R) (h1:∀ e y,c=e+1->R[e]?=some y->cmp y x<0) (h2:∀ y,R[c]?=some y->¬cmp y x<0) (hc:c<=R.length):mrgC cmp [x] R=R.take c++x::R.drop c:=by
 unfold mrgC;have sx:SrtS (ltC cmp) [x]:=List.pairwise_cons.2 ⟨by simp,List.Pairwise.nil⟩;rw [YcC w (L:=[x]) (R:=R) (c:=0) (e:=c) sx hR (fun c' h=>by cases h) (fun e' he u v hu hv=>by
  have:u=x:=by simpa using hu.symm
  subst this;exact h1 e' v he hv) (by simp) hc]
 rw [List.take_zero,Xw,List.drop_zero];rw [YcC w (L:=[x]) (R:=R.drop c) (c:=1) (e:=0) sx (hR.sublist (List.drop_sublist _ _)) (fun c' h u v hu hv=>by
  have e0:c'=0:=by omega
  subst e0;have:u=x:=by simpa using hu.symm
  subst this;rw [List.getElem?_drop] at hv;exact h2 v hv) (fun e' h=>by cases h) (by simp) (by simp)]
 simp [XX,Xw]
theorem Yn6 (w:SWk (ltC cmp)) {x:α} {L:List α} (hL:SrtS (ltC cmp) L) (h1:∀ e y,c=e+1->L[e]?=some y->¬cmp x y<0) (h2:∀ y,L[c]?=some y->cmp x y<0) (hc:c<=L.length):mrgC cmp L [x]=L.take c++x::L.drop c:=by
 have h:=YkP w (s1:=L.take c) (s2:=L.drop c) (x:=x) (by rw [List.take_append_drop];exact hL) (fun y hy=>h2 y (by rw [List.getElem?_drop] at hy;exact hy)) (fun k hk z hz=>h1 k z (by rw [List.length_take] at hk;omega) (by rw [List.getElem?_take_of_lt (by rw [List.length_take] at hk;omega)] at hz;exact hz));rw [List.take_append_drop] at h;exact h
end
end Go.Lx
namespace Go.Proofs.YtiligkgjcmokbaaGreatDoor
theorem YmM {α:Type} {Λ:Lay α} {fw fr fi fm fs:FuncId} (hty:SrT Λ fw fr fi fm fs) {fz:FZ} {g n cap fc:Nat} {t:TypeId} {cmp:α->α->Int} (hC:CmpQ Λ fc fz cmp) (w:SWk (ltC cmp)) (hn:n<=1000000000):∀ (s:Nat) {cur:List Value} {P L R Q:List α} {a m b:Int},L.length+R.length<=s->0<L.length->0<R.length->SrtS (ltC cmp) L->SrtS (ltC cmp) R->GrowB Λ t fz g n cap cur (P++(L++(R++Q)))->
 a=(P.length:Nat)->m=(P.length+L.length:Nat)->b=(P.length+L.length+R.length:Nat)->
 GFn prog fm [Zv g n cap,Zk a,Zk m,Zk b,.func (.func fc) #[] #[]] fz [(g,Zu cur.toArray t)]
  (fun _ fz' H'=>fz=fz'/\∃ cur',H'=[(g,Zu (List.toArray cur') t)]/\GrowB Λ t fz g n cap cur' (P++(mrgC cmp L R++Q)))
 | 0,_,_,_,_,_,_,_,_,h,h1,_,_,_,_,_,_,_=>absurd h Zi
 | s+1,cur,P,L,R,Q,_,_,_,hs,hL,hR,sL,sR,hB,rfl,rfl,rfl=>by
  have hl:=hB.len;simp only [List.length_append] at hl;have hO:=hty.one;cases hty
  all_goals
   first
    | refine zF Tryz.func249 Tryz.ntmps249 (fun w0=>?_)
    | refine zF Tryz.func126 Tryz.ntmps126 (fun w0=>?_)
    | refine zF Tryz.func129 Tryz.ntmps129 (fun w0=>?_)
    | refine zF Tryz.func131 Tryz.ntmps131 (fun w0=>?_)
    | refine zF Tryz.func133 Tryz.ntmps133 (fun w0=>?_)
    | refine zF Tryz.func139 Tryz.ntmps139 (fun w0=>?_)
   refine zW ?_;intros;refine zC ?_ ?_<;>intro c1
   ·have hL1:L.length=1:=by omega
    obtain ⟨x,rfl⟩:=List.length_eq_one_iff.1 hL1;rw [show [x].length=1 from rfl] at*;obtain ⟨cx,hx1,hx2⟩:=Wf hB (at_L (j:=P.length) (i:=0) rfl hL);refine zW ?_;intros;refine Yi (fun q σ fz' H'=>∃ i j:Nat,i<=j/\j<=R.length/\(∀ e y,i=e+1->R[e]?=some y->cmp y x<0)/\(∀ y,R[j]?=some y->¬cmp y x<0)/\q=j - i/\σ=[(11,Zk (P.length+1+j:Nat)),(10,Zk (P.length+1+i:Nat)),(0,Zv g n cap),(1,Zk (P.length:Nat)),(4,.func (.func fc) #[] #[])]/\fz=fz'/\H'=[(g,Zu cur.toArray t)]) ⟨0,R.length,Z0 _,Zs _,fun e y h=>by omega,fun y h=>by simp at h,rfl,rfl,rfl,rfl⟩ Zw Zb ?_;rintro q σ fz' H' ⟨i,j,hij,hj,h1,h2,rfl,rfl,rfl,rfl⟩;refine zW ?_;intros;refine zC ?_ ?_<;>intro c2
    ·obtain ⟨h,hh⟩:∃ h,(P.length+1+i+(P.length+1+j)) / 2=P.length+1+h:=⟨(i+j) / 2,by omega⟩;obtain ⟨y,hy⟩:=Ynm (l:=R) (k:=h) Zi;obtain ⟨cy,hy1,hy2⟩:=Wf hB ((at_R (j:=P.length+1+h) (i:=h) rfl Zi).trans hy);have lx:=Lay.len _ hx1;have ly:=Lay.len _ hy1;refine zW ?_;intros;refine zG ?_;refine Wm ?_ (hw:=wrapU Zi);refine zG ?_;refine YmX Zz Zz Zh half ?_;refine zG ?_;refine Wm ?_ (hw:=YQ Zi);rw [hh];refine zW ?_;intros;refine zG ?_;refine Yq rfl ?_;refine zG ?_;refine Yc (vs:=cy) 0 ?_ (hv:=hy2) (hs:=by exact ly.symm);refine zW ?_;intros;refine zG ?_;refine Yq rfl ?_;refine zG ?_;refine Yc (vs:=cx) 0 ?_ (hv:=hx2) (hs:=by exact lx.symm);refine zW ?_;intros
     ((refine zG ?_);refine Ybu (hC _ _ _ _ hy1 hx1) ?_);refine zW ?_;intros;refine zC ?_ ?_<;>intro c3
     ·refine zW ?_;intros;exact Wj ⟨h+1,j,by omega,hj,fun e z he hz=>by
       have:e=h:=by omega
       subst this;rw [hy] at hz;injection hz with hz;subst hz;exact c3,h2,rfl,rfl,rfl,rfl⟩ Zi Zw Zb
     refine zW ?_;intros;exact Wj ⟨i,h,by omega,by omega,h1,fun z hz=>by
      rw [hy] at hz;injection hz with hz;subst hz;exact c3,rfl,rfl,rfl,rfl⟩ Zi Zw Zb
    obtain rfl:i=j:=by omega
    have hm:=YpF w sR h1 h2 hj;refine zW ?_;intros;refine Yi (fun q σ fz' H'=>∃ (k:Nat) (cur1:List Value),k<=i/\q=i - k/\σ=[(13,Zk (P.length+k:Nat)),(10,Zk (P.length+1+i:Nat)),(0,Zv g n cap)]/\fz=fz'/\H'=[(g,Zu cur1.toArray t)]/\GrowB (YfC hB) t fz g n cap cur1 (P++(R.take k++(x::(R.drop k++Q))))) ⟨0,cur,Z0 _,rfl,rfl,rfl,rfl,hB⟩ Zw Zb ?_;rintro q σ fz' H' ⟨k,cur1,hk,rfl,rfl,rfl,rfl,hB1⟩;refine zW ?_;intros;refine zC ?_ ?_<;>intro c3
    ·have eR:R.drop k=R[k]'Zi::R.drop (k+1):=List.drop_eq_getElem_cons Zi;have eT:R.take (k+1)=R.take k++ [R[k]'Zi]:=by rw [List.take_add_one,List.getElem?_eq_getElem Zi];rfl
     generalize R[k]'Zi=z at eR eT;have hD:P++(R.take k++(x::(R.drop k++Q)))=(P++R.take k)++x::([]++z::(R.drop (k+1)++Q)):=by rw [eR];simp
     rw [hD] at hB1;have lU:(P++R.take k).length=P.length+k:=by rw [List.length_append,List.length_take];omega
     obtain ⟨ca,ha1,ha2⟩:=Wf hB1 (Yix (i:=P.length+k) Zi);obtain ⟨cz,hz1,hz2⟩:=Wf hB1 (YjL (j:=P.length+k+1) (by rw [lU];rfl));have lz:=Lay.len _ hz1;have la:=Lay.len _ ha1;refine zWN ?_;intros;refine WP [2,3,4] [_] ?_;refine zW ?_;intros;refine PK.p Zz (fun fz'=>by first | exact XC rfl | exact YU Zz rfl | exact Yt rfl | exact W4 Zz Zz (YQ Zi) rfl | exact Yw rfl) ?_;refine PK.p Zz (fun fz'=>by first | exact XC rfl | exact YU Zz rfl | exact Yt rfl | exact W4 Zz Zz (YQ Zi) rfl | exact Yw rfl) ?_;refine PK.p Zz (fun fz'=>by first | exact XC rfl | exact YU Zz rfl | exact Yt rfl | exact W4 Zz Zz (YQ Zi) rfl | exact Yw rfl) ?_;refine zW ?_;intros;refine zG ?_;refine Yq rfl ?_;refine zG ?_;refine Yc (vs:=cz) 0 ?_ (hv:=hz2) (hs:=by exact lz.symm);refine zW ?_;intros;refine zG ?_;refine Yq rfl ?_;refine zG ?_;refine Yc (vs:=ca) 0 ?_ (hv:=ha2) (hs:=by exact la.symm);refine zW ?_;intros;refine zG ?_;refine Yq rfl ?_;refine pT ?_;refine Yh ?_;refine PoS.hard0 (YI (pre:=[]) (j:=P.length+k) rfl rfl hO hz1 hB1 (fun cur2 hB2=>?_));refine Yh ?_;refine PoS.hard (DoesQ.does (Yq rfl ?_));refine Yh ?_;refine PoS.hard0 (YI (pre:=[]) (j:=P.length+k+1) rfl rfl hO ha1 hB2 (fun cur3 hB3=>?_));refine Po.done ?_;rw [YiH Zi (by rw [lU];rfl)] at hB3;refine zW ?_;intros;exact wP (h:=by exact ⟨k+1,cur3,by omega,rfl,rfl,rfl,rfl,by rw [eT];simpa using hB3⟩)
    obtain rfl:k=i:=by omega
    refine zW ?_;intros;exact ret0X rfl Zb ⟨rfl,cur1,rfl,by rw [hm];simpa using hB1⟩
   refine zW ?_;intros;refine zC ?_ ?_<;>intro c2
   ·have hR1:R.length=1:=by omega
    obtain ⟨x,rfl⟩:=List.length_eq_one_iff.1 hR1;rw [show [x].length=1 from rfl] at*;obtain ⟨cx,hx1,hx2⟩:=Wf hB (at_R (j:=P.length+L.length) (i:=0) rfl hR);refine zW ?_;intros;refine Yi (fun q σ fz' H'=>∃ i j:Nat,i<=j/\j<=L.length/\(∀ e y,i=e+1->L[e]?=some y->¬cmp x y<0)/\(∀ y,L[j]?=some y->cmp x y<0)/\q=j - i/\σ=[(15,Zk (P.length+j:Nat)),(14,Zk (P.length+i:Nat)),(0,Zv g n cap),(2,Zk (P.length+L.length:Nat)),(4,.func (.func fc) #[] #[])]/\fz=fz'/\H'=[(g,Zu cur.toArray t)]) ⟨0,L.length,Z0 _,Zs _,fun e y h=>by omega,fun y h=>by simp at h,rfl,rfl,rfl,rfl⟩ Zw Zb ?_;rintro q σ fz' H' ⟨i,j,hij,hj,h1,h2,rfl,rfl,rfl,rfl⟩;refine zW ?_;intros;refine zC ?_ ?_<;>intro c3
    ·obtain ⟨h,hh⟩:∃ h,(P.length+i+(P.length+j)) / 2=P.length+h:=⟨(i+j) / 2,by omega⟩;obtain ⟨y,hy⟩:=Ynm (l:=L) (k:=h) Zi;obtain ⟨cy,hy1,hy2⟩:=Wf hB ((at_L (j:=P.length+h) (i:=h) rfl Zi).trans hy);have lx:=Lay.len _ hx1;have ly:=Lay.len _ hy1;refine zW ?_;intros;refine zG ?_;refine Wm ?_ (hw:=wrapU Zi);refine zG ?_;refine YmX Zz Zz Zh half ?_;refine zG ?_;refine Wm ?_ (hw:=YQ Zi);rw [hh];refine zW ?_;intros;refine zG ?_;refine Yq rfl ?_;refine zG ?_;refine Yc (vs:=cx) 0 ?_ (hv:=hx2) (hs:=by exact lx.symm);refine zW ?_;intros;refine zG ?_;refine Yq rfl ?_;refine zG ?_;refine Yc (vs:=cy) 0 ?_ (hv:=hy2) (hs:=by exact ly.symm);refine zW ?_;intros
     ((refine zG ?_);refine Ybu (hC _ _ _ _ hx1 hy1) ?_);refine zW ?_;intros;refine zC ?_ ?_<;>intro c4
     ·refine zW ?_;intros;exact Wj ⟨i,h,by omega,by omega,h1,fun z hz=>by
       rw [hy] at hz;injection hz with hz;subst hz;exact c4,rfl,rfl,rfl,rfl⟩ Zi Zw Zb
     refine zW ?_;intros;exact Wj ⟨h+1,j,by omega,hj,fun e z he hz=>by
      have:e=h:=by omega
      subst this;rw [hy] at hz;injection hz with hz;subst hz;exact c4,h2,rfl,rfl,rfl,rfl⟩ Zi Zw Zb
    obtain rfl:i=j:=by omega
    have hm:=Yn6 w sL h1 h2 hj;refine zW ?_;intros;refine Yi (fun q σ fz' H'=>∃ (z:Int) (k:Nat) (cur1:List Value),z=P.length+k/\i<=k/\k<=L.length/\q=k - i/\σ=[(17,Zk z),(14,Zk (P.length+i:Nat)),(0,Zv g n cap)]/\fz=fz'/\H'=[(g,Zu cur1.toArray t)]/\GrowB (YfC hB) t fz g n cap cur1 (P++(L.take k++(x::(L.drop k++Q))))) ⟨_,L.length,cur,rfl,hj,Zs _,rfl,rfl,rfl,rfl,by rw [List.take_length,List.drop_length];exact hB⟩ Zw Zb ?_;rintro q σ fz' H' ⟨_,k,cur1,rfl,hk1,hk,rfl,rfl,rfl,rfl,hB1⟩;refine zW ?_;intros;refine zC ?_ ?_<;>intro c4
    ·obtain ⟨k,rfl⟩:∃ k',k=k'+1:=⟨k - 1,by omega⟩;have eR:L.drop k=L[k]'Zi::L.drop (k+1):=List.drop_eq_getElem_cons Zi;have eT:L.take (k+1)=L.take k++ [L[k]'Zi]:=by rw [List.take_add_one,List.getElem?_eq_getElem Zi];rfl
     generalize L[k]'Zi=z at eR eT;have hD:P++(L.take (k+1)++(x::(L.drop (k+1)++Q)))=(P++L.take k)++z::([]++x::(L.drop (k+1)++Q)):=by rw [eT];simp
     rw [hD] at hB1;have lU:(P++L.take k).length=P.length+k:=by rw [List.length_append,List.length_take];omega
     obtain ⟨cz,hz1,hz2⟩:=Wf hB1 (Yix (i:=P.length+k) Zi);obtain ⟨ca,ha1,ha2⟩:=Wf hB1 (YjL (j:=P.length+k+1) (by rw [lU];rfl));have lz:=Lay.len _ hz1;have la:=Lay.len _ ha1;have hI:((P.length:Int)+((k+1:Nat):Int) - 1).toNat=P.length+k:=by omega
     refine zWN ?_;intros;refine WP [2,3,4] [_] ?_;refine zW ?_;intros;refine PK.p Zz (fun fz'=>by first | exact XC rfl | exact YU Zz rfl | exact Yt rfl | exact W4 Zz Zz (YQ Zi) rfl | exact Yw rfl) ?_;refine PK.p Zz (fun fz'=>by first | exact XC rfl | exact YU Zz rfl | exact Yt rfl | exact W4 Zz Zz (YQ Zi) rfl | exact Yw rfl) ?_;refine PK.p Zz (fun fz'=>YlH Zz Zz (YQ Zi) rfl) ?_;refine zW ?_;intros;refine zG ?_;refine Yq rfl ?_;refine zG ?_;refine Yc (vs:=cz) 0 ?_ (hv:=by rw [hI];exact hz2) (hs:=by exact lz.symm);refine zW ?_;intros;refine zG ?_;refine Yq rfl ?_;refine zG ?_;refine Yc (vs:=ca) 0 ?_ (hv:=ha2) (hs:=by exact la.symm);refine zW ?_;intros;refine zG ?_;refine Yq rfl ?_;refine pT ?_;refine Yh ?_;refine PoS.hard0 (YI (pre:=[]) (j:=P.length+k+1) rfl rfl hO hz1 hB1 (fun cur2 hB2=>?_));refine Yh ?_;refine PoS.hard (DoesQ.does (Yq rfl ?_));refine Yh ?_;refine PoS.hard0 (YI (pre:=[]) (j:=((P.length:Int)+((k+1:Nat):Int) - 1).toNat) rfl rfl hO ha1 hB2 (fun cur3 hB3=>?_));refine Po.done ?_;rw [hI,Yj5 Zi (by rw [lU];rfl)] at hB3;refine zW ?_;intros;exact wP (h:=by exact ⟨(P.length:Int)+((k+1:Nat):Int) - 1,k,cur3,by omega,by omega,by omega,rfl,rfl,rfl,rfl,by rw [eR];simpa using hB3⟩)
    obtain rfl:k=i:=by omega
    refine zW ?_;intros;exact ret0X rfl Zb ⟨rfl,cur1,rfl,by rw [hm];simpa using hB1⟩
   obtain ⟨d,hd,hd1,hd2⟩:∃ d,(P.length+(P.length+L.length+R.length)) / 2=P.length+d/\L.length+R.length<=2*d+1/\2*d<=L.length+R.length:=⟨(L.length+R.length) / 2,by omega,by omega,by omega⟩;refine zW ?_;intros;refine zG ?_;refine Wm ?_ (hw:=wrapU Zi);refine zG ?_;refine YmX Zz Zz Zh half ?_;refine zG ?_;refine Wm ?_ (hw:=YQ Zi);rw [hd];refine zWX ?_;intros;refine Yr ?_;refine zWX ?_;intros;refine Yr ?_;refine zWX ?_;intros;refine Yr (YY (fun σ fz' H'=>∃ (z:Int) (lo hi:Nat),z=(P.length+lo:Nat)/\lo<=hi/\hi<=L.length/\hi<=d/\d<=lo+R.length/\(0<lo->d=lo+R.length)/\(hi=d\/hi=L.length)/\σ=[(21,Zk (P.length+hi:Nat)),(20,Zk z),(19,Zk ((P.length+d:Nat)+(P.length+L.length:Nat))),(18,Zk (P.length+d:Nat)),(0,Zv g n cap),(1,Zk (P.length:Nat)),(2,Zk (P.length+L.length:Nat)),(3,Zk (P.length+L.length+R.length:Nat)),(4,.func (.func fc) #[] #[])]/\fz=fz'/\H'=[(g,Zu cur.toArray t)]) ?_ ?_)
   ·refine zW ?_;intros;refine zC ?_ ?_<;>intro e1
    ·refine zW ?_;intros;exact wN (h:=by exact ⟨((P.length+d:Nat):Int)+(P.length+L.length:Nat) - (P.length+L.length+R.length:Nat),d - R.length,d,by omega,by omega,by omega,by omega,by omega,by omega,.inl rfl,rfl,rfl,rfl⟩)
    refine zW ?_;intros;exact wN (h:=by exact ⟨((P.length:Nat):Int),0,L.length,by omega,by omega,by omega,by omega,by omega,by omega,.inr rfl,rfl,rfl,rfl⟩)
   rintro σ fz' H' ⟨_,lo,hi,rfl,l1,l2,l3,l4,l5,l6,rfl,rfl,rfl⟩;refine zW ?_;intros;refine Yi (fun q σ fz' H'=>∃ i j:Nat,lo<=i/\i<=j/\j<=hi/\(∀ e,i=e+1->∀ x y,L[e]?=some x->R[d - i]?=some y->¬cmp y x<0)/\(∀ e,d - j=e+1->∀ x y,L[j]?=some x->R[e]?=some y->cmp y x<0)/\q=j - i/\σ=[(22,Zk ((P.length+d:Nat)+(P.length+L.length:Nat) - 1)),(21,Zk (P.length+j:Nat)),(20,Zk (P.length+i:Nat)),(19,Zk ((P.length+d:Nat)+(P.length+L.length:Nat))),(18,Zk (P.length+d:Nat)),(0,Zv g n cap),(1,Zk (P.length:Nat)),(2,Zk (P.length+L.length:Nat)),(3,Zk (P.length+L.length+R.length:Nat)),(4,.func (.func fc) #[] #[])]/\fz=fz'/\H'=[(g,Zu cur.toArray t)]) ⟨lo,hi,Zs _,l1,Zs _,fun e he x y _ hy=>(by rw [List.getElem?_eq_none Zi] at hy;cases hy),fun e he x y hx hy=>(by
    rcases l6 with h | h
    ·omega
    rw [List.getElem?_eq_none Zi] at hx;cases hx),rfl,rfl,rfl,rfl⟩ Zw Zb ?_
   rintro q σ fz' H' ⟨i,j,k1,k2,k3,hA,hB',rfl,rfl,rfl,rfl⟩;refine zW ?_;intros;refine zC ?_ ?_<;>intro c3
   ·obtain ⟨h,hh,hh1,hh2⟩:∃ h,(P.length+i+(P.length+j)) / 2=P.length+h/\i<=h/\h<j:=⟨(i+j) / 2,by omega,by omega,by omega⟩;obtain ⟨x,hx⟩:=Ynm (l:=L) (k:=h) Zi;obtain ⟨y,hy⟩:=Ynm (l:=R) (k:=d - 1 - h) Zi;obtain ⟨cx,hx1,hx2⟩:=Wf hB ((at_L (j:=P.length+h) (i:=h) rfl Zi).trans hx);obtain ⟨cy,hy1,hy2⟩:=Wf hB ((at_R (j:=P.length+L.length+(d - 1 - h)) (i:=d - 1 - h) rfl Zi).trans hy);have lx:=Lay.len _ hx1;have ly:=Lay.len _ hy1;refine zW ?_;intros;refine zG ?_;refine Wm ?_ (hw:=wrapU Zi);refine zG ?_;refine YmX Zz Zz Zh half ?_;refine zG ?_;refine Wm ?_ (hw:=YQ Zi);rw [hh];refine zW ?_;intros;refine zG ?_;refine Yq rfl ?_;refine zG ?_;refine Yc (vs:=cy) 0 ?_ (hv:=by rw [show (((P.length+d:Nat)+(P.length+L.length:Nat) - 1:Int) - (P.length+h:Nat)).toNat=P.length+L.length+(d - 1 - h) by omega];exact hy2) (hs:=by exact ly.symm);refine zW ?_;intros;refine zG ?_;refine Yq rfl ?_;refine zG ?_;refine Yc (vs:=cx) 0 ?_ (hv:=hx2) (hs:=by exact lx.symm);refine zW ?_;intros
    ((refine zG ?_);refine Ybu (hC _ _ _ _ hy1 hx1) ?_);refine zW ?_;intros;refine zC ?_ ?_<;>intro c4
    ·refine zW ?_;intros;exact Wj ⟨i,h,k1,hh1,by omega,hA,fun e he u v hu hv=>by
      rw [show e=d - 1 - h by omega,hy] at hv;rw [hx] at hu;injection hu with hu;injection hv with hv;subst hu;subst hv;exact c4,rfl,rfl,rfl,rfl⟩ Zi Zw Zb
    refine zW ?_;intros;exact Wj ⟨h+1,j,by omega,by omega,k3,fun e he u v hu hv=>by
     rw [show d - (h+1)=d - 1 - h by omega,hy] at hv;rw [show e=h by omega,hx] at hu;injection hu with hu;injection hv with hv;subst hu;subst hv;exact c4,hB',rfl,rfl,rfl,rfl⟩ Zi Zw Zb
   obtain rfl:i=j:=by omega
   obtain ⟨e,rfl⟩:∃ e,d=i+e:=⟨d - i,by omega⟩;rw [Nat.add_sub_cancel_left] at hA hB';have hm:mrgC cmp L R=mrgC cmp (L.take i) (R.take e)++mrgC cmp (L.drop i) (R.drop e):=YcC w sL sR hA hB' Zi Zi;have lT:(L.take i).length=i:=by rw [List.length_take];omega
   have lD:(L.drop i).length=L.length - i:=List.length_drop;have rT:(R.take e).length=e:=by rw [List.length_take];omega
   have rD:(R.drop e).length=R.length - e:=List.length_drop;have hB0:GrowB (YfC hB) t fz g n cap cur (P++(L.take i++(L.drop i++(R.take e++(R.drop e++Q))))):=by
    rw [<- List.append_assoc (R.take e),List.take_append_drop,<- List.append_assoc (L.take i),List.take_append_drop];exact hB
   refine zWX ?_;intros;refine Yr ?_;refine zWX ?_;intros;rw [show ((P.length+(i+e):Nat):Int)+(P.length+L.length:Nat) - (P.length+i:Nat)=(P.length+L.length+e:Nat) by omega];refine Yr (YY (fun σ fz' H'=>∃ cur1:List Value,σ=[(24,Zk (P.length+L.length+e:Nat)),(20,Zk (P.length+i:Nat)),(18,Zk (P.length+(i+e):Nat)),(0,Zv g n cap),(1,Zk (P.length:Nat)),(3,Zk (P.length+L.length+R.length:Nat)),(4,.func (.func fc) #[] #[])]/\fz=fz'/\H'=[(g,Zu cur1.toArray t)]/\GrowB (YfC hB) t fz g n cap cur1 (P++(L.take i++(R.take e++(L.drop i++(R.drop e++Q)))))) ?_ ?_)
   ·refine zW ?_;intros;refine zC ?_ ?_<;>intro e1
    ·refine zW ?_;intros;refine zC ?_ ?_<;>intro e2
     ·refine zW ?_;intros;refine Ya (Ym [_] [] Zz (rotate_o (by constructor) (P:=P++L.take i) (U:=L.drop i) (V:=R.take e) (Q:=R.drop e++Q) (by simpa using hB0) Zi Zi (by rw [List.length_append,lT]) (by simp only [List.length_append,lT,lD];omega) (by simp only [List.length_append,lT,lD,rT];omega)) (fun v4 fz4 H4 hle4 hR4=>?_) (hx:=rfl));obtain ⟨rfl,cur2,rfl,hB2⟩:=hR4;refine zW ?_;intros;exact wN (h:=by exact ⟨cur2,rfl,rfl,rfl,by simpa using hB2⟩)
     obtain rfl:e=0:=by omega
     refine zW ?_;intros;exact wN (h:=by exact ⟨cur,rfl,rfl,rfl,by simpa using hB0⟩)
    have ei:L.drop i=[]:=List.eq_nil_of_length_eq_zero Zi;refine zW ?_;intros;exact wN (h:=by exact ⟨cur,rfl,rfl,rfl,by rw [ei] at hB0 ⊢;simpa using hB0⟩)
   rintro σ fz' H' ⟨cur1,rfl,rfl,rfl,hB1⟩;refine Yr (YY (fun σ fz' H'=>∃ cur1:List Value,σ=[(24,Zk (P.length+L.length+e:Nat)),(18,Zk (P.length+(i+e):Nat)),(0,Zv g n cap),(3,Zk (P.length+L.length+R.length:Nat)),(4,.func (.func fc) #[] #[])]/\fz=fz'/\H'=[(g,Zu cur1.toArray t)]/\GrowB (YfC hB) t fz g n cap cur1 (P++(mrgC cmp (L.take i) (R.take e)++(L.drop i++(R.drop e++Q))))) ?_ ?_)
   ·refine zW ?_;intros;refine zC ?_ ?_<;>intro e1
    ·refine zW ?_;intros;refine zC ?_ ?_<;>intro e2
     ·refine zW ?_;intros;refine Ya (Ym [_] [] Zz (YmM (by constructor) hC w hn s (P:=P) (L:=L.take i) (R:=R.take e) (Q:=L.drop i++(R.drop e++Q)) Zi Zi Zi (sL.sublist (List.take_sublist _ _)) (sR.sublist (List.take_sublist _ _)) hB1 rfl (by rw [lT]) (by rw [lT,rT,Nat.add_assoc])) (fun v4 fz4 H4 hle4 hR4=>?_) (hx:=rfl));obtain ⟨rfl,cur2,rfl,hB2⟩:=hR4;refine zW ?_;intros;exact wN (h:=by exact ⟨cur2,rfl,rfl,rfl,hB2⟩)
     have ee:R.take e=[]:=List.eq_nil_of_length_eq_zero Zi;refine zW ?_;intros;exact wN (h:=by exact ⟨cur1,rfl,rfl,rfl,by rw [ee] at hB1 ⊢;rw [Yja];simpa using hB1⟩)
    have ei:L.take i=[]:=List.eq_nil_of_length_eq_zero Zi;refine zW ?_;intros;exact wN (h:=by exact ⟨cur1,rfl,rfl,rfl,by rw [ei] at hB1 ⊢;rw [YkF];simpa using hB1⟩)
   rintro σ fz' H' ⟨cur2,rfl,rfl,rfl,hB2⟩;have lM:(mrgC cmp (L.take i) (R.take e)).length=i+e:=by rw [mrgC_len,lT,rT]
   refine zW ?_;intros;refine zC ?_ ?_<;>intro e1
   ·refine zW ?_;intros;refine zC ?_ ?_<;>intro e2
    ·refine zW ?_;intros;refine Ya (Ym [_] [] Zz (YmM (by constructor) hC w hn s (P:=P++mrgC cmp (L.take i) (R.take e)) (L:=L.drop i) (R:=R.drop e) (Q:=Q) Zi Zi Zi (sL.sublist (List.drop_sublist _ _)) (sR.sublist (List.drop_sublist _ _)) (by simpa using hB2) (by rw [List.length_append,lM]) (by rw [List.length_append,lM,lD];omega) (by rw [List.length_append,lM,lD,rD];omega)) (fun v4 fz4 H4 hle4 hR4=>?_) (hx:=rfl));obtain ⟨rfl,cur3,rfl,hB3⟩:=hR4;refine zW ?_;intros;exact Ycc rfl Zb ⟨rfl,cur3,rfl,by rw [hm];simpa using hB3⟩
    have ee:R.drop e=[]:=List.eq_nil_of_length_eq_zero Zi;refine zW ?_;intros;exact Ycc rfl Zb ⟨rfl,cur2,rfl,by rw [hm,ee,Yja];rw [ee] at hB2;simpa using hB2⟩
   have ei:L.drop i=[]:=List.eq_nil_of_length_eq_zero Zi;refine zW ?_;intros;exact Ycc rfl Zb ⟨rfl,cur2,rfl,by rw [hm,ei,YkF];rw [ei] at hB2;simpa using hB2⟩
end Go.Proofs.YtiligkgjcmokbaaGreatDoor
namespace Go.Lx
section
variable {α:Type} {cmp:α->α->Int} {l:List α} {B i j:Nat}
def segC (cmp:α->α->Int) (l:List α) (B i:Nat):List α:=srtC cmp ((l.drop (B*i)).take B)
def YaE (cmp:α->α->Int) (l:List α) (B:Nat):Nat->Nat->List α
 | _,0=>[]
 | i,j+1=>segC cmp l B i++YaE cmp l B (i+1) j
theorem Yfl (h:l.length<=B*i):segC cmp l B i=[]:=by
 unfold segC;rw [List.drop_of_length_le h];simp [srtC,YdJ]
theorem YiP:∀ {j i:Nat},l.length<=B*i->YaE cmp l B i j=[]
 | 0,_,_=>rfl
 | j+1,i,h=>by
  rw [YaE,Yfl h,YiP (j:=j) (i:=i+1) (by rw [Nat.mul_succ];omega)];rfl
theorem YlF (h:B*i+B<=l.length):(segC cmp l B i).length=B:=by
 unfold segC;rw [YiM,List.length_take,List.length_drop];omega
theorem Ycw:∀ {j i:Nat},YaE cmp l B i (j+1)=YaE cmp l B i j++segC cmp l B (i+j)
 | 0,i=>by simp [YaE]
 | j+1,i=>by
  rw [YaE,Ycw (j:=j) (i:=i+1),YaE,List.append_assoc,show i+1+j=i+(j+1) by omega]
theorem YiQ:∀ {j i:Nat},B*(i+j)<=l.length->(YaE cmp l B i j).length=B*j
 | 0,_,_=>rfl
 | j+1,i,h=>by
  have h0:B*(i+(j+1))=B*(i+j)+B:=Nat.mul_succ B (i+j);have h1:B*(i+j)=B*i+B*j:=Nat.mul_add B i j;have h2:B*(j+1)=B*j+B:=Nat.mul_succ B j;rw [YaE,List.length_append,YlF Zi,YiQ (j:=j) (i:=i+1) (by rw [show i+1+j=i+(j+1) by omega];exact h)];omega
theorem srtC_app (w:SWk (ltC cmp)) (x y:List α):srtC cmp (x++y)=mrgC cmp (srtC cmp x) (srtC cmp y):=YeX w x _ y rfl
theorem Yo5 (w:SWk (ltC cmp)):mrgC cmp (segC cmp l B (2*i)) (segC cmp l B (2*i+1))=segC cmp l (2*B) i:=by
 unfold segC;rw [<- srtC_app w];have e:(l.drop (B*(2*i))).take B++(l.drop (B*(2*i+1))).take B=(l.drop (2*B*i)).take (2*B):=by
  rw [Nat.mul_succ,<- List.drop_drop,show 2*B*i=B*(2*i) by rw [Nat.mul_comm 2 B,Nat.mul_assoc],show 2*B=B+B by omega,List.take_add]
 rw [e]
theorem segs_two (h1:l.length<=B*(i+j)) (h2:l.length<=B*(i+2)):YaE cmp l B i j=segC cmp l B i++segC cmp l B (i+1):=by
 match j,h1 with
 | 0,h1=>
  rw [Nat.add_zero] at h1;rw [Yfl h1,Yfl (by rw [Nat.mul_succ];omega)];rfl
 | 1,h1=>rw [YaE,YaE,Yfl (i:=i+1) h1]
 | j+2,_=>rw [YaE,YaE,YiP (j:=j) h2,List.append_nil]
theorem segs_all (h1:l.length<=B) (h2:l.length<=B*j):YaE cmp l B 0 j=srtC cmp l:=by
 match j,h2 with
 | 0,h2=>
  have:l=[]:=List.eq_nil_of_length_eq_zero (by simpa using h2);subst this;rfl
 | j+1,_=>rw [YaE,YiP (by simpa using h1),List.append_nil,segC,Nat.mul_zero,List.drop_zero,Zl h1]
end
end Go.Lx
namespace Go.Proofs.YtiligkgjcmokbaaGreatDoor
variable {α:Type} {fz:FZ} {g n:Nat} {t:TypeId} {l:List α}
theorem stable_o {Λ:Lay α} {fw fr fi fm fs:FuncId} (hty:SrT Λ fw fr fi fm fs) {cap fc:Nat} {cur:List Value} {cmp:α->α->Int} (hB:GrowB Λ t fz g n cap cur l) (hC:CmpQ Λ fc fz cmp) (w:SWk (ltC cmp)) (hn:n<=1000000000):
 GFn prog fs [Zv g n cap,Zk n,.func (.func fc) #[] #[]] fz [(g,Zu cur.toArray t)]
  (fun _ fz' H'=>fz=fz'/\∃ cur',H'=[(g,Zu (List.toArray cur') t)]/\GrowB Λ t fz g n cap cur' (srtC cmp l)):=by
 have hl:=hB.len;have hO:=hty.one;cases hty
 all_goals
  first
   | refine zF Tryz.func188 Tryz.ntmps188 (fun w0=>?_)
   | refine zF Tryz.func60 Tryz.ntmps60 (fun w0=>?_)
   | refine zF Tryz.func62 Tryz.ntmps62 (fun w0=>?_)
   | refine zF Tryz.func63 Tryz.ntmps63 (fun w0=>?_)
   | refine zF Tryz.func64 Tryz.ntmps64 (fun w0=>?_)
   | refine zF Tryz.func69 Tryz.ntmps69 (fun w0=>?_)
  refine zW ?_;intros;refine Yi (fun q σ fz' H'=>∃ (k:Nat) (cur1:List Value),20*k<=n/\q=n - 20*k/\σ=[(8,Zk (20*k+20:Nat)),(7,Zk (20*k:Nat)),(6,Zk 20),(0,Zv g n cap),(1,Zk n),(2,.func (.func fc) #[] #[])]/\fz=fz'/\H'=[(g,Zu cur1.toArray t)]/\GrowB (YfC hB) t fz g n cap cur1 (YaE cmp l 20 0 k++l.drop (20*k))) ⟨0,cur,Z0 _,rfl,rfl,rfl,rfl,hB⟩ Zw Zb ?_;rintro q σ fz' H' ⟨k,cur1,hk,rfl,rfl,rfl,rfl,hB1⟩;have lS:(YaE cmp l 20 0 k).length=20*k:=YiQ (by rw [Nat.zero_add];omega);refine zW ?_;intros;refine zC ?_ ?_<;>intro c1
  ·refine zW ?_;intros;refine Ya (Ym [_] [] Zz (Yni (by constructor) (P:=YaE cmp l 20 0 k) (U:=(l.drop (20*k)).take 20) (Q:=l.drop (20*(k+1))) (by rw [Nat.mul_succ,<- List.drop_drop,List.take_append_drop];exact hB1) hC w hn (by rw [lS]) (by rw [lS,List.length_take,List.length_drop];omega)) (fun v4 fz4 H4 hle4 hR4=>?_) (hx:=rfl));obtain ⟨rfl,cur2,rfl,hB2⟩:=hR4;refine zW ?_;intros;exact wP (h:=by exact ⟨k+1,cur2,by omega,rfl,rfl,rfl,rfl,by rw [Ycw,Nat.zero_add];simpa [segC] using hB2⟩)
  refine zW ?_;intros;refine Ya (Ym [_] [] Zz (Yni (by constructor) (P:=YaE cmp l 20 0 k) (U:=l.drop (20*k)) (Q:=[]) (by rw [List.append_nil];exact hB1) hC w hn (by rw [lS]) (by rw [lS,List.length_drop];omega)) (fun v4 fz4 H4 hle4 hR4=>?_) (hx:=rfl));obtain ⟨rfl,cur2,rfl,hB2⟩:=hR4;have e2:YaE cmp l 20 0 k++(srtC cmp (l.drop (20*k))++ [])=YaE cmp l 20 0 (k+1):=by
   rw [Ycw,Nat.zero_add,List.append_nil,segC,Zl (by rw [List.length_drop];omega)]
  rw [e2] at hB2;refine zW ?_;intros;refine Yi (fun q σ fz' H'=>∃ (B j:Nat) (cur1:List Value),20<=B/\B<=2*n+20/\n<=B*j/\q=n - B/\σ=[(6,Zk B),(0,Zv g n cap),(1,Zk n),(2,.func (.func fc) #[] #[])]/\fz=fz'/\H'=[(g,Zu cur1.toArray t)]/\GrowB (YfC hB) t fz g n cap cur1 (YaE cmp l B 0 j)) ⟨20,k+1,cur2,Zs _,by omega,by omega,rfl,rfl,rfl,rfl,hB2⟩ Zw Zb ?_;rintro q σ fz' H' ⟨B,j,cur3,hB20,hBn,hj,rfl,rfl,rfl,rfl,hB3⟩;refine zW ?_;intros;refine zC ?_ ?_<;>intro c2
  ·refine zW ?_;intros;refine zG ?_;refine Ype Zz Zz (YQ Zi) ?_;refine zW ?_;intros;refine Yi (fun q σ fz' H'=>∃ (z:Int) (a k j:Nat) (cur1:List Value),z=a+2*B/\a=2*B*k/\a<=n/\n<=B*(2*k+j)/\q=n - a/\σ=[(8,Zk z),(7,Zk a),(6,Zk B),(0,Zv g n cap),(1,Zk n),(2,.func (.func fc) #[] #[])]/\fz=fz'/\H'=[(g,Zu cur1.toArray t)]/\GrowB (YfC hB) t fz g n cap cur1 (YaE cmp l (2*B) 0 k++YaE cmp l B (2*k) j)) ⟨2*(B:Int),0,0,j,cur3,by omega,rfl,Z0 _,by simpa using hj,rfl,rfl,rfl,rfl,by simpa [YaE] using hB3⟩ Zw Zb ?_;rintro q σ fz' H' ⟨_,a,k,j,cur4,rfl,ha,han,hj,rfl,rfl,rfl,rfl,hB4⟩;have x1:B*(2*k)=a:=by rw [ha,Nat.mul_comm 2 B,Nat.mul_assoc]
   have x2:B*(2*k+1)=a+B:=by rw [Nat.mul_succ,x1]
   have x3:B*(2*k+2)=a+B+B:=by rw [Nat.mul_succ,x2]
   have lS:(YaE cmp l (2*B) 0 k).length=a:=by rw [YiQ (by rw [Nat.zero_add,<- ha];omega),ha]
   have s1:=Ygo w (l:=(l.drop (B*(2*k))).take B);have s2:=Ygo w (l:=(l.drop (B*(2*k+1))).take B);have l2:(segC cmp l B (2*k+1)).length=min B (n - (a+B)):=by unfold segC;rw [YiM,List.length_take,List.length_drop,x2,hl]
   have sm:=Yo5 (l:=l) (B:=B) (i:=k) w;refine zW ?_;intros;refine zC ?_ ?_<;>intro c3
   ·have l1:(segC cmp l B (2*k)).length=B:=YlF Zi;obtain ⟨j,rfl⟩:∃ i,j=i+2:=by
     match j,hj with
     | 0,hj=>rw [Nat.add_zero,x1] at hj;omega
     | 1,hj=>rw [x2] at hj;omega
     | j+2,_=>exact ⟨j,rfl⟩
    refine zW ?_;intros;refine Ya (Ym [_] [] Zz (YmM (by constructor) hC w hn _ (P:=YaE cmp l (2*B) 0 k) (L:=segC cmp l B (2*k)) (R:=segC cmp l B (2*k+1)) (Q:=YaE cmp l B (2*k+2) j) (Zs _) Zi Zi s1 s2 (by simpa [YaE] using hB4) (by rw [lS]) (by rw [lS,l1];rfl) (by rw [lS,l1,l2];omega)) (fun v4 fz4 H4 hle4 hR4=>?_) (hx:=rfl));obtain ⟨rfl,cur5,rfl,hB5⟩:=hR4;rw [sm] at hB5;refine zW ?_;intros;refine zG ?_;refine Ype Zz Zz (YQ Zi) ?_;refine zW ?_;intros;exact wP (h:=by exact ⟨(a:Int)+2*B+2*B,a+2*B,k+1,j,cur5,by omega,by rw [ha,Nat.mul_succ],by omega,by rw [show 2*(k+1)+j=2*k+(j+2) by omega];exact hj,rfl,rfl,rfl,rfl,by rw [Ycw,Nat.zero_add,List.append_assoc];exact hB5⟩)
   have x4:B*2*(k+1)=a+2*B:=by rw [Nat.mul_succ,Nat.mul_comm B 2,<- ha]
   rw [segs_two (B:=B) (i:=2*k) (j:=j) Zi Zi] at hB4;refine zW ?_;intros;refine zC ?_ ?_<;>intro c4
   ·have l1:(segC cmp l B (2*k)).length=B:=YlF Zi;refine zW ?_;intros;refine Ya (Ym [_] [] Zz (YmM (by constructor) hC w hn _ (P:=YaE cmp l (2*B) 0 k) (L:=segC cmp l B (2*k)) (R:=segC cmp l B (2*k+1)) (Q:=[]) (Zs _) Zi Zi s1 s2 (by simpa using hB4) (by rw [lS]) (by rw [lS,l1];rfl) (by rw [lS,l1,l2];omega)) (fun v4 fz4 H4 hle4 hR4=>?_) (hx:=rfl));obtain ⟨rfl,cur5,rfl,hB5⟩:=hR4;rw [sm] at hB5;refine zW ?_;intros;refine zG ?_;refine Ype Zz Zz (YQ Zi) ?_;refine zW ?_;intros;exact wP (h:=by exact ⟨B*2,k+1,cur5,by omega,by omega,by omega,rfl,rfl,rfl,rfl,by rw [Ycw,Nat.zero_add,Nat.mul_comm B 2];simpa using hB5⟩)
   rw [Yfl (i:=2*k+1) Zi,Yja] at sm;rw [Yfl (i:=2*k+1) Zi,sm] at hB4;refine zW ?_;intros;refine zG ?_;refine Ype Zz Zz (YQ Zi) ?_;refine zW ?_;intros;exact wP (h:=by exact ⟨B*2,k+1,cur4,by omega,by omega,by omega,rfl,rfl,rfl,rfl,by rw [Ycw,Nat.zero_add,Nat.mul_comm B 2];simpa using hB4⟩)
  rw [segs_all Zi Zi] at hB3;refine zW ?_;intros;exact Ycc rfl Zb ⟨rfl,cur3,rfl,hB3⟩
end Go.Proofs.YtiligkgjcmokbaaGreatDoor
namespace Go.Lx
variable {H:HP} {fz:FZ} {n:Nat} {o:Oper}
theorem CI.sub {P:Program} {cx:Cx} {H':HP} {K:Env->FZ->HP->Prop} {r:List Oper} {σ:Env} (hs:H'.Sublist H) (h:CI P cx n K (o::r) σ fz H'):CI P cx n K (o::r) σ fz H:=by
 obtain ⟨dst,op,ty,pos,af,gd⟩:=o;obtain ⟨h1,h2,h3⟩:=h;cases dst with
 | some d=>exact ⟨h1,h2,h3.1,fun ρ w hr hi=>h3.2 ρ w hr (hi.forget hs)⟩
 | none=>exact ⟨h1,h2,fun ρ w hr hi=>h3 ρ w hr (hi.forget hs)⟩
theorem CI.perm {P:Program} {cx:Cx} {H':HP} {K:Env->FZ->HP->Prop} {r:List Oper} {σ:Env} (hs:H'.Perm H) (h:CI P cx n K (o::r) σ fz H'):CI P cx n K (o::r) σ fz H:=by
 obtain ⟨dst,op,ty,pos,af,gd⟩:=o;obtain ⟨h1,h2,h3⟩:=h;cases dst with
 | some d=>exact ⟨h1,h2,h3.1,fun ρ w hr hi=>h3.2 ρ w hr (hi.perm hs)⟩
 | none=>exact ⟨h1,h2,fun ρ w hr hi=>h3 ρ w hr (hi.perm hs)⟩
theorem CI.nil {P:Program} {cx:Cx} {K:Env->FZ->HP->Prop} {σ:Env} (h:K σ fz H):CI P cx n K [] σ fz H:=h
end Go.Lx
namespace Go.Proofs.YtiligkgjcmokbaaGreatDoor
variable {A:Option Addr} {c n:Nat} {fz:FZ}
theorem values_f {gcap L:Nat} {l:List Param} {o:Obj} {B0:Nat->HP->Prop} {H0:HP} (hg:fz gcap=some (Zu #[Zc A n c] 22)) (hS:Sl paramL fz A n c l) (h0:B0 0 H0)
 (hR:∀ (cx:Cx) (k:Nat) (x:Param) (H1:HP) (K:Value->FZ->HP->Prop) (r:Operand->Option Value) (ff xo:Operand) (ats:Array TypeId) (dst:Option Nat) (ty:TypeId) (pos:String) (af:Array Edge) (gd:Option (Nat × Bool)),l[k]?=some x->paramL.rep fz x [.string x.name,.string x.typ]->k<n->B0 k H1->r ff=some (.func (.yield L) #[] #[])->r xo=some (.agg #[.string x.name,.string x.typ])->(∀ H2,B0 (k+1) H2->K (.bool true) fz ((L,o)::H2))->Yot prog cx ⟨dst,.call {callee:=.value ff,args:=#[xo],argTypes:=ats},ty,pos,af,gd⟩ r fz ((L,o)::H1) K):
 GFn prog 124 [.func (.yield L) #[] #[],Zp gcap] fz ((L,o)::H0) (fun _ fz' H'=>fz=fz'/\∃ H2,H'=(L,o)::H2/\B0 n H2):=by
 have hl:=hS.len;have hsh:=hS.short;refine zF Tryz.func124 Tryz.ntmps124 (fun w0=>?_);refine zW ?_;intros;refine Yi (fun q σ fz' H'=>∃ (k:Nat) (H1:HP),k<=n/\q=n - k/\σ=[(7,Zk k),(6,Zk n),(5,Zc A n c),(0,.func (.yield L) #[] #[])]/\fz=fz'/\H'=(L,o)::H1/\B0 k H1) ⟨0,H0,Z0 _,rfl,rfl,rfl,rfl,h0⟩ Zw Zb ?_;rintro q σ fz' H' ⟨k,H1,hk,rfl,rfl,rfl,rfl,hB⟩;refine zW ?_;intros;refine zC ?_ ?_<;>intro c1
 ·obtain ⟨x,hx⟩:=Ye (l:=l) (k:=k) Zi;refine zW ?_;intros;refine zI hS hx (fun p1 hp1=>?_);refine zL hp1 ?_;intro cs hcs;obtain ⟨rfl,hRx⟩:=YJ hcs;refine zWX ?_;intros;refine Yr (Wp.ofCI ?_);refine CI.q (XC ?_);refine CI.q (Yy 0 ?_);refine CI.sub (List.sublist_cons_self _ _) (CI.i (hR _ k x H1 _ _ _ _ _ _ _ _ _ _ hx hcs Zi hB rfl rfl (fun H2 hB2=>?_)));refine CI.q (q_not Zz ?_);refine CI.nil ?_;refine zW ?_;intros;exact wP (h:=by exact ⟨k+1,H2,by omega,rfl,rfl,rfl,rfl,hB2⟩)
 obtain rfl:k=n:=by omega
 refine zW ?_;intros;exact Ycc rfl Zb ⟨rfl,H1,rfl,hB⟩
theorem Ymt {gcap:Nat} {l:List Param} (hg:fz gcap=some (Zu #[Zc A n c] 22)) (hS:Sl paramL fz A n c l) (hn:n<=1000000000):
 GFn prog 187 [Zn,.func (.func 124) #[] #[Zp gcap]] fz [] (fun r fz' H'=>fz=fz'/\Grow paramL 123 fz r n H' l):=by
 refine YjT Tryz.func187 rfl Tryz.ntmps187 rfl rfl rfl (lb:=[Zp gcap])
  ⟨Tryz.f124,Tryz.func124,rfl,rfl⟩ (fun w0=>?_)
 refine W3 (Ya (YhX _ (fun g2=>?_)));refine zG ?_;refine YV ?_;refine Seq.nil ⟨rfl,?_⟩;refine W3 ?_;refine zG ?_;refine XC ?_;refine Seq.nil ⟨rfl,rfl,fun L D fnA tt hT=>⟨_,values_f (B0:=fun k H1=>∃ (v:Value) (Hs E:HP),H1.Perm ((D,.deferred (some []))::(g2,Zu #[v] 22)::(E++Hs))/\Grow paramL 123 fz v k Hs (l.take k)) hg hS ⟨_,[],[],Zr _,Grow.nil _ _ _⟩ ?_,?_⟩⟩
 ·rintro cx k x H1 K r ff xo ats dst ty pos af gd hx hrx hk ⟨v,Hs,E,hpm,hG⟩ hf hxo hK;refine YnL hT hf hxo ?_;refine CI.k (Y7 (fun g5=>?_));refine CI.k0 (YG ?_);refine CI.nil ⟨_,List.Perm.swap _ _ _,?_⟩;obtain ⟨A0,c0,rfl,_,_⟩:=hG.form;refine CI.perm (H':=(g5,_)::(L,_)::(D,.deferred (some []))::(g2,_)::(E++Hs)) ((List.Perm.swap _ _ _).trans (((hpm.symm).cons _).cons _)) ?_;refine CI.q (Yx 3 ?_ (hv:=by exact rfl));refine CI.q (Yy 0 ?_);refine CI.k (Yb (cs:=[Zy x.name,Zy x.typ]) (fun gc=>?_));refine CI.k (YN (Hr:=(gc,_)::(g5,_)::(L,_)::(D,.deferred (some []))::(g2,_)::E) (d:=x) (Zr _) hG WY (.head _) hrx (fun v8 H8 hO8=>?_));obtain ⟨A8,c8,rfl,_,_⟩:=hO8.form;refine CI.k0 (Yaz (pre:=[_,_,_,_]) rfl ?_);exact CI.nil ⟨(gc,Zu #[Zy x.name,Zy x.typ] 123)::(g5,Zu #[Zy x.name,Zy x.typ] 123)::(D,.deferred (some []))::(g2,Zu #[Zc A8 (k+1) c8] 22)::(E++H8),List.perm_middle (l₁:=[_,_]),hK _ ⟨_,H8,(gc,Zu #[Zy x.name,Zy x.typ] 123)::(g5,Zu #[Zy x.name,Zy x.typ] 123)::E,(Zq (l₁:=[_,_]) (l₂:=[_,_])).append_right _,hO8.of (by rw [List.take_add_one,hx];rfl) rfl⟩⟩
 rintro u fz3 H3 ⟨rfl,H2,rfl,v,Hs,E,hpm,hG⟩;rw [Zl (by rw [hS.len];exact Zs _)] at hG;refine ⟨(g2,Zu #[v] 22)::(E++Hs),hpm.cons _,?_⟩;obtain ⟨A0,c0,rfl,_,_⟩:=hG.form;refine CI.q (Yx 2 ?_ (hv:=by exact rfl));refine CI.q (YV ?_);exact CI.nil ⟨_,_,Hs,rfl,List.Perm.swap _ _ _,((List.sublist_append_right E Hs).cons _).cons _,rfl,hG⟩
end Go.Proofs.YtiligkgjcmokbaaGreatDoor
namespace Go.Lx
open Go.RowKit
variable {H:HP} {fz:FZ} {v:Value}
theorem GFn.ofQ {P:Program} {f:FuncId} {args:List Value} (hc:Ya4 P f) (h:∀ fz2,QFn P f args fz2 v):GFn P f args fz H fun u fz' H'=>u=v/\fz'=fz/\H'=H:=by
 refine GFn.of hc fun w hw=>?_
 have hi:Inv ⟨w,H.map Prod.fst,fz⟩ fz ([]++H) w:=⟨hw,Fr.refl _ _,⟨fun _ _ h=>h,fun _ _ _=>rfl,fun p hp=>.inl (List.mem_map.2 ⟨p,hp,rfl⟩)⟩⟩;obtain ⟨fz2,h1,h2,h3⟩:=WA H fz [] hi;refine ((h fz2).out w h3.hp).mono fun e w' ⟨he,hfr⟩=>?_
 have hi2:=hi.quiet hfr;exact ⟨v,fz,H,he,⟨rfl,rfl,rfl⟩,hi2.hp,hi2.fr,hi2.nw⟩
end Go.Lx
namespace Go.Proofs.YtiligkgjcmokbaaGreatDoor
variable {α:Type} {A:Option Addr} {c n:Nat} {fz:FZ} {Hs:HP} {v:Value} {l:List α}
theorem YcD {Λ:Lay α} {fw fr fi fm fs:FuncId} (hty:SrT Λ fw fr fi fm fs) {vc:Value}:QFn prog fi [Zc A 0 c,Zk 0,Zk 0,vc] fz (.tuple #[]):=by
 refine GFn.quiet ?_;cases hty
 all_goals
  first
   | refine zF Tryz.func248 Tryz.ntmps248 (fun w0=>?_)
   | refine zF Tryz.func125 Tryz.ntmps125 (fun w0=>?_)
   | refine zF Tryz.func128 Tryz.ntmps128 (fun w0=>?_)
   | refine zF Tryz.func130 Tryz.ntmps130 (fun w0=>?_)
   | refine zF Tryz.func132 Tryz.ntmps132 (fun w0=>?_)
   | refine zF Tryz.func138 Tryz.ntmps138 (fun w0=>?_)
  refine zW ?_;intros;refine Yi (fun q σ fz' H'=>q=0/\σ=[(8,Zk 1),(2,Zk 0)]/\fz=fz'/\H'=[]) ⟨rfl,rfl,rfl,rfl⟩ Zw Zb ?_;rintro q σ fz' H' ⟨rfl,rfl,rfl,rfl⟩;refine zW ?_;intros;refine zC ?_ ?_<;>intro c1
  ·exact absurd c1 Zh
  refine zW ?_;intros;exact Ycc rfl Zb rfl
theorem YoU {Λ:Lay α} {fw fr fi fm fs:FuncId} (hty:SrT Λ fw fr fi fm fs) {vc:Value}:QFn prog fs [Zc A 0 c,Zk 0,vc] fz (.tuple #[]):=by
 refine GFn.quiet ?_;cases hty
 all_goals
  first
   | refine zF Tryz.func188 Tryz.ntmps188 (fun w0=>?_)
   | refine zF Tryz.func60 Tryz.ntmps60 (fun w0=>?_)
   | refine zF Tryz.func62 Tryz.ntmps62 (fun w0=>?_)
   | refine zF Tryz.func63 Tryz.ntmps63 (fun w0=>?_)
   | refine zF Tryz.func64 Tryz.ntmps64 (fun w0=>?_)
   | refine zF Tryz.func69 Tryz.ntmps69 (fun w0=>?_)
  refine zW ?_;intros;refine Yi (fun q σ fz' H'=>q=0/\σ=[(8,Zk 20),(7,Zk 0),(6,Zk 20),(0,Zc A 0 c),(1,Zk 0),(2,vc)]/\fz=fz'/\H'=[]) ⟨rfl,rfl,rfl,rfl⟩ Zw Zb ?_;rintro q σ fz' H' ⟨rfl,rfl,rfl,rfl⟩;refine zW ?_;intros;refine zC ?_ ?_<;>intro c1
  ·exact absurd c1 Zh
  refine zW ?_;intros
  first
   | refine zc (YcD .pa) ?_
   | refine zc (YcD .pr) ?_
   | refine zc (YcD .fu) ?_
   | refine zc (YcD .ac) ?_
   | refine zc (YcD .du) ?_
   | refine zc (YcD .va) ?_
  refine zW ?_;intros;refine Yi (fun q σ fz' H'=>q=0/\σ=[(6,Zk 20),(1,Zk 0)]/\fz=fz'/\H'=[]) ⟨rfl,rfl,rfl,rfl⟩ Zw Zb ?_;rintro q σ fz' H' ⟨rfl,rfl,rfl,rfl⟩;refine zW ?_;intros;refine zC ?_ ?_<;>intro c2
  ·exact absurd c2 Zh
  refine zW ?_;intros;exact Ycc rfl Zb rfl
inductive SrU:{α:Type}->Lay α->FuncId->FuncId->FuncId->FuncId->FuncId->TypeId->FuncId->Prop
 | pa:SrU paramL 319 289 248 249 188 123 123
 | pr:SrU predicateL 250 189 125 126 60 61 20
 | fu:SrU functionL 251 190 128 129 62 63 23
 | ac:SrU actionL 252 191 130 131 63 52 25
 | du:SrU durativeL 253 192 132 133 64 55 27
 | va:SrU valueL 259 204 138 139 69 80 31
theorem SrU.ty {Λ:Lay α} {fw fr fi fm fs:FuncId} {te:TypeId} {fq:FuncId} (h:SrU Λ fw fr fi fm fs te fq):SrT Λ fw fr fi fm fs:=by cases h<;>constructor
theorem SrT.call {Λ:Lay α} {fw fr fi fm fs:FuncId} (h:SrT Λ fw fr fi fm fs):Ya4 prog fs:=by
 cases h
 ·exact ⟨_,Tryz.func188,by decide,by decide⟩
 ·exact ⟨_,Tryz.func60,by decide,by decide⟩
 ·exact ⟨_,Tryz.func62,by decide,by decide⟩
 ·exact ⟨_,Tryz.func63,by decide,by decide⟩
 ·exact ⟨_,Tryz.func64,by decide,by decide⟩
 exact ⟨_,Tryz.func69,by decide,by decide⟩
theorem Yfk {Λ:Lay α} {fw fr fi fm fs:FuncId} {te:TypeId} {fq:FuncId} (hu:SrU Λ fw fr fi fm fs te fq) {fc:Nat} {cmp:α->α->Int} (hG:Grow Λ te fz v n Hs l) (hC:CmpQ Λ fc fz cmp) (w:SWk (ltC cmp)) (hn:n<=1000000000):
 GFn prog fq [v,.func (.func fc) #[] #[]] fz Hs (fun _ fz' H'=>fz=fz'/\Grow Λ te fz v n H' (srtC cmp l)):=by
 have hl:=hG.len;have hs:GFn prog fs [v,Zk n,.func (.func fc) #[] #[]] fz Hs (fun _ fz' H'=>fz=fz'/\Grow Λ te fz v n H' (srtC cmp l)):=by
  rcases Nat.eq_zero_or_pos n with h0 | hp
  ·subst h0;have hl0:l=[]:=List.eq_nil_of_length_eq_zero hl;subst hl0;obtain ⟨A0,c0,rfl,_,_⟩:=hG.form;exact (GFn.ofQ hu.ty.call (fun _=>YoU hu.ty)).mono fun r fz' H' ⟨_,h2,h3⟩=>⟨h2.symm,by rw [h3];exact hG⟩
  obtain ⟨g,cap,cur,rfl,rfl,hb⟩:=hG.b hp;exact (stable_o hu.ty hb hC w hn).mono fun r fz' H' ⟨h1,cur',h2,h3⟩=>⟨h1,by rw [h2];exact h3.grow⟩
 obtain ⟨A0,c0,rfl,_,_⟩:=hG.form;cases hu
 all_goals
  first
   | refine zF Tryz.func123 Tryz.ntmps123 (fun w0=>?_)
   | refine zF Tryz.func20 Tryz.ntmps20 (fun w0=>?_)
   | refine zF Tryz.func23 Tryz.ntmps23 (fun w0=>?_)
   | refine zF Tryz.func25 Tryz.ntmps25 (fun w0=>?_)
   | refine zF Tryz.func27 Tryz.ntmps27 (fun w0=>?_)
   | refine zF Tryz.func31 Tryz.ntmps31 (fun w0=>?_)
  refine zW ?_;intros;refine Ya (Ym _ [] (List.append_nil _).symm hs (fun v4 fz4 H4 hle4 hR4=>?_));obtain ⟨rfl,hR⟩:=hR4;rw [List.append_nil];refine zW ?_;intros;exact Ycc rfl (List.Sublist.refl _) ⟨rfl,hR⟩
theorem YqB {gcap:Nat} {l:List Param} (hg:fz gcap=some (Zu #[Zc A n c] 22)) (hS:Sl paramL fz A n c l) (hn:n<=1000000000):
 GFn prog 122 [.func (.func 124) #[] #[Zp gcap]] fz [] (fun r fz' H'=>fz=fz'/\Grow paramL 123 fz r n H' l):=by
 refine zF Tryz.func122 Tryz.ntmps122 (fun w0=>?_);refine zW ?_;intros;refine Ya (Ym [] [] Zz (Ymt hg hS hn) (fun v4 fz4 H4 hle4 hR4=>?_));obtain ⟨rfl,hR⟩:=hR4;rw [List.append_nil];refine zW ?_;intros;exact ret1 rfl rfl (List.Sublist.refl _) ⟨rfl,hR⟩
theorem YoV {gcap fc:Nat} {l:List Param} {cmp:Param->Param->Int} (hg:fz gcap=some (Zu #[Zc A n c] 22)) (hS:Sl paramL fz A n c l) (hn:n<=1000000000) (hC:CmpQ paramL fc fz cmp) (w:SWk (ltC cmp)):
 GFn prog 51 [.func (.func 124) #[] #[Zp gcap],.func (.func fc) #[] #[]] fz [] (fun r fz' H'=>fz=fz'/\Grow paramL 123 fz r n H' (srtC cmp l)):=by
 refine zF Tryz.func51 Tryz.ntmps51 (fun w0=>?_);refine zW ?_;intros;refine Ya (Ym [] [] Zz (YqB hg hS hn) (fun v4 fz4 H4 hle4 hR4=>?_));obtain ⟨rfl,hG⟩:=hR4;rw [List.append_nil];obtain ⟨A0,c0,rfl,_,_⟩:=hG.form;refine zW ?_;intros;refine Ya (Ym _ [] (List.append_nil _).symm (Yfk .pa hG hC w hn) (fun v5 fz5 H5 hle5 hR5=>?_));obtain ⟨rfl,hG5⟩:=hR5;rw [List.append_nil];refine zW ?_;intros;exact ret1 rfl rfl (List.Sublist.refl _) ⟨rfl,hG5⟩
end Go.Proofs.YtiligkgjcmokbaaGreatDoor
namespace Go.Lx
variable {cs:List Value} {fz:FZ}
theorem Ycl {x:Predicate} (h:predicateL.rep fz x cs):∃ A0 n0 c0,cs=[Zy x.name,Zc A0 n0 c0]/\PredicateR fz x (Zc A0 n0 c0):=by
 obtain ⟨_,rfl,hR⟩:=Xo h;obtain ⟨A0,n0,c0,rfl,_⟩:=id hR.params;exact ⟨_,_,_,rfl,hR⟩
theorem Ydb {x:Function} (h:functionL.rep fz x cs):∃ A0 n0 c0,cs=[Zy x.name,Zc A0 n0 c0,Zk x.lo,Zk x.hi]/\FunctionR fz x (Zc A0 n0 c0):=by
 obtain ⟨_,rfl,hR⟩:=YW h;obtain ⟨A0,n0,c0,rfl,_⟩:=id hR.params;exact ⟨_,_,_,rfl,hR⟩
theorem YeA {x:Action} (h:actionL.rep fz x cs):∃ A0 n0 c0 A1 n1 c1 A2 n2 c2 A3 n3 c3 A4 n4 c4 A5 n5 c5,cs=[Zy x.name,Zc A0 n0 c0,Zk x.cost,Zy x.pre.op,Zy x.pre.name,Zc A1 n1 c1,Zc A2 n2 c2,Zc A3 n3 c3,Zc A4 n4 c4,Zc A5 n5 c5]/\ActionR fz x (Zc A0 n0 c0) (Zc A1 n1 c1) (Zc A2 n2 c2) (Zc A3 n3 c3) (Zc A4 n4 c4) (Zc A5 n5 c5):=by
 obtain ⟨_,_,_,_,_,_,rfl,hR⟩:=Xh h;obtain ⟨A0,n0,c0,rfl,_⟩:=id hR.params;obtain ⟨⟨A1,n1,c1,rfl,_⟩,⟨A2,n2,c2,rfl,_⟩,⟨A3,n3,c3,rfl,_⟩,⟨A4,n4,c4,rfl,_⟩⟩:=id hR.pre.sls;obtain ⟨A5,n5,c5,rfl,_⟩:=id hR.changes;exact ⟨_,_,_,_,_,_,_,_,_,_,_,_,_,_,_,_,_,_,rfl,hR⟩
theorem Ydd {x:Durative} (h:durativeL.rep fz x cs):∃ A0 n0 c0 A1 n1 c1 A2 n2 c2 A3 n3 c3 A4 n4 c4 A5 n5 c5 A6 n6 c6 A7 n7 c7 A8 n8 c8 A9 n9 c9 A10 n10 c10 A11 n11 c11 A12 n12 c12 A13 n13 c13 A14 n14 c14,cs=[Zy x.name,Zc A0 n0 c0,Zk x.duration,Zy x.start.op,Zy x.start.name,Zc A1 n1 c1,Zc A2 n2 c2,Zc A3 n3 c3,Zc A4 n4 c4,Zy x.over.op,Zy x.over.name,Zc A5 n5 c5,Zc A6 n6 c6,Zc A7 n7 c7,Zc A8 n8 c8,Zy x.fin.op,Zy x.fin.name,Zc A9 n9 c9,Zc A10 n10 c10,Zc A11 n11 c11,Zc A12 n12 c12,Zc A13 n13 c13,Zc A14 n14 c14]/\DurativeR fz x (Zc A0 n0 c0) (Zc A1 n1 c1) (Zc A2 n2 c2) (Zc A3 n3 c3) (Zc A4 n4 c4) (Zc A5 n5 c5) (Zc A6 n6 c6) (Zc A7 n7 c7) (Zc A8 n8 c8) (Zc A9 n9 c9) (Zc A10 n10 c10) (Zc A11 n11 c11) (Zc A12 n12 c12) (Zc A13 n13 c13) (Zc A14 n14 c14):=by
 obtain ⟨_,_,_,_,_,_,_,_,_,_,_,_,_,_,_,rfl,hR⟩:=YZ h;obtain ⟨A0,n0,c0,rfl,_⟩:=id hR.params;obtain ⟨⟨A1,n1,c1,rfl,_⟩,⟨A2,n2,c2,rfl,_⟩,⟨A3,n3,c3,rfl,_⟩,⟨A4,n4,c4,rfl,_⟩⟩:=id hR.start.sls;obtain ⟨⟨A5,n5,c5,rfl,_⟩,⟨A6,n6,c6,rfl,_⟩,⟨A7,n7,c7,rfl,_⟩,⟨A8,n8,c8,rfl,_⟩⟩:=id hR.over.sls;obtain ⟨⟨A9,n9,c9,rfl,_⟩,⟨A10,n10,c10,rfl,_⟩,⟨A11,n11,c11,rfl,_⟩,⟨A12,n12,c12,rfl,_⟩⟩:=id hR.fin.sls;obtain ⟨A13,n13,c13,rfl,_⟩:=id hR.atStart;obtain ⟨A14,n14,c14,rfl,_⟩:=id hR.atEnd;exact ⟨_,_,_,_,_,_,_,_,_,_,_,_,_,_,_,_,_,_,_,_,_,_,_,_,_,_,_,_,_,_,_,_,_,_,_,_,_,_,_,_,_,_,_,_,_,rfl,hR⟩
theorem Yff {x:Value_} (h:valueL.rep fz x cs):∃ A0 n0 c0,cs=[Zy x.fluent.name,Zc A0 n0 c0,Zk x.n]/\Value_R fz x (Zc A0 n0 c0):=by
 obtain ⟨_,rfl,hR⟩:=Yam h;obtain ⟨A0,n0,c0,rfl,_⟩:=id hR.fluent.args;exact ⟨_,_,_,rfl,hR⟩
theorem Ymq {x:Change} (h:changeL.rep fz x cs):∃ A0 n0 c0 A1 n1 c1 A2 n2 c2 A3 n3 c3 A4 n4 c4 A5 n5 c5 A6 n6 c6 A7 n7 c7,cs=[Zk x.kind,Zc A0 n0 c0,Zy x.when_.op,Zy x.when_.name,Zc A1 n1 c1,Zc A2 n2 c2,Zc A3 n3 c3,Zc A4 n4 c4,Zy x.name,Zc A5 n5 c5,Zy x.value.op,Zy x.value.name,Zk x.value.n,Zc A6 n6 c6,Zc A7 n7 c7]/\ChangeR fz x (Zc A0 n0 c0) (Zc A1 n1 c1) (Zc A2 n2 c2) (Zc A3 n3 c3) (Zc A4 n4 c4) (Zc A5 n5 c5) (Zc A6 n6 c6) (Zc A7 n7 c7):=by
 obtain ⟨_,_,_,_,_,_,_,_,rfl,hR⟩:=Y8 h;obtain ⟨A0,n0,c0,rfl,_⟩:=id hR.params;obtain ⟨⟨A1,n1,c1,rfl,_⟩,⟨A2,n2,c2,rfl,_⟩,⟨A3,n3,c3,rfl,_⟩,⟨A4,n4,c4,rfl,_⟩⟩:=id hR.when_.sls;obtain ⟨A5,n5,c5,rfl,_⟩:=id hR.args;obtain ⟨⟨A6,n6,c6,rfl,_⟩,⟨A7,n7,c7,rfl,_⟩⟩:=id hR.value.sls;exact ⟨_,_,_,_,_,_,_,_,_,_,_,_,_,_,_,_,_,_,_,_,_,_,_,_,rfl,hR⟩
theorem YkV {x:Formula} (h:YK.rep fz x cs):∃ A0 n0 c0 A1 n1 c1 A2 n2 c2 A3 n3 c3,cs=[Zy x.op,Zy x.name,Zc A0 n0 c0,Zc A1 n1 c1,Zc A2 n2 c2,Zc A3 n3 c3]/\FormulaR fz x (Zc A0 n0 c0) (Zc A1 n1 c1) (Zc A2 n2 c2) (Zc A3 n3 c3):=by
 obtain ⟨_,_,_,_,rfl,hR⟩:=Yv h;obtain ⟨⟨A0,n0,c0,rfl,_⟩,⟨A1,n1,c1,rfl,_⟩,⟨A2,n2,c2,rfl,_⟩,⟨A3,n3,c3,rfl,_⟩⟩:=id hR.sls;exact ⟨_,_,_,_,_,_,_,_,_,_,_,_,rfl,hR⟩
theorem Yqe {x:Lx.Expr} (h:exprL.rep fz x cs):∃ A0 n0 c0 A1 n1 c1,cs=[Zy x.op,Zy x.name,Zk x.n,Zc A0 n0 c0,Zc A1 n1 c1]/\ExprR fz x (Zc A0 n0 c0) (Zc A1 n1 c1):=by
 obtain ⟨_,_,rfl,hR⟩:=YD h;obtain ⟨⟨A0,n0,c0,rfl,_⟩,⟨A1,n1,c1,rfl,_⟩⟩:=id hR.sls;exact ⟨_,_,_,_,_,_,rfl,hR⟩
end Go.Lx
namespace Go.Proofs
open Go.Shelf
def Ygl:Go.Shelf.Ren:=⟨fun | 106=>22 | 213=>61 | 265=>127 | n=>n,fun | 9=>9 | 3=>3 | n=>n,fun | n=>n⟩
theorem Ylm:Go.Proofs.Lays.n106 Tryz.prog Ygl:={
 mixed:=by kernel_rfl
 f106:=Tryz.func22.trans (congrArg some (by kernel_rfl))
 f213:=Tryz.func61.trans (congrArg some (by kernel_rfl))
 f265:=Tryz.func127.trans (congrArg some (by kernel_rfl))
 t3:=Tryz.underlying3
 a3:=Tryz.isAgg3
 z3:=Tryz.sizeOf3
 v3:=Tryz.zeroValue3
 t9:=Tryz.underlying9
 a9:=Tryz.isAgg9
 z9:=Tryz.sizeOf9
 v9:=Tryz.zeroValue9}
open Go.RowKit in
/-- strings.Compare: "Compare returns an integer comparing two strings lexicographically. The result will be 0 if a == b, -1 if a < b, and +1 if a > b.": IT RETURNS 'Lib.compareBytes a b'; the world is as1 it was. (LAID: no walk: one application.) -/
theorem Tryz.strings_Compare (a b:ByteArray) (w:World):
 Calls Tryz.prog 22 #[.string a,.string b] w fun e w'=>e=.returned (.int .i64 (Lib.compareBytes a.data.toList b.data.toList))/\w'=w:=Any.strings_Compare Ylm a b w
end Go.Proofs
namespace Go.Proofs.YtiligkgjcmokbaaGreatDoor
variable {α β:Type} {fz:FZ}
theorem YqE:∀ a b:List UInt8,Lib.compareBytes a b=if a<b then -1 else if a=b then 0 else 1
 | [],[]=>by rw [Lib.compareBytes,if_neg (List.lt_irrefl _),if_pos rfl]
 | [],b::m=>by rw [Lib.compareBytes,if_pos (List.nil_lt_cons _ _)]
 | a::l,[]=>by rw [Lib.compareBytes,if_neg (List.not_lt_nil _),if_neg (by simp)]
 | a::l,b::m=>by
  rw [Lib.compareBytes,YqE l m];by_cases h1:a<b
  ·rw [if_pos h1,if_pos (List.cons_lt_cons_iff.2 (.inl h1))]
  rw [if_neg h1];by_cases h2:b<a
  ·have h3:¬a=b:=fun e=>by subst e;exact absurd h2 (UInt8.lt_irrefl _)
   rw [if_pos h2,if_neg (fun h=>(List.cons_lt_cons_iff.1 h).elim h1 (fun h=>h3 h.1)),if_neg (by simp [h3])]
  have h3:a=b:=UInt8.le_antisymm (UInt8.not_lt.1 h2) (UInt8.not_lt.1 h1);subst h3;rw [if_neg h2];by_cases h4:l<m
  ·rw [if_pos h4,if_pos (List.cons_lt_cons_iff.2 (.inr ⟨rfl,h4⟩))]
  rw [if_neg h4,if_neg (fun h=>(List.cons_lt_cons_iff.1 h).elim h1 (fun h=>h4 h.2))];by_cases h5:l=m
  ·rw [if_pos h5,if_pos (by rw [h5])]
  rw [if_neg h5,if_neg (by simp [h5])]
theorem Yia {a b:Bs}:QFn prog 22 [Zy a,Zy b] fz (Zk (cmpS a b)):=by
 unfold QFn;refine ⟨⟨_,Tryz.func22,by decide,by decide⟩,fun w hw=>(Tryz.strings_Compare a b w).mono fun e w' ⟨he,h⟩=>?_⟩;subst h;refine ⟨he.trans ?_,Fr.refl _ _⟩;have h1:ltB a b=true↔a.data.toList<b.data.toList:=by rw [Yc0,ByteArray.toList_eq,ByteArray.toList_eq]
 have h2:a=b↔a.data.toList=b.data.toList:=⟨fun h=>by rw [h],fun h=>Yng (by rw [ByteArray.toList_eq,ByteArray.toList_eq,h])⟩;rw [YqE,cmpS];simp only [h1,h2]
abbrev byC {α:Type} (f:α->Bs):α->α->Int:=fun x y=>cmpS (f x) (f y)
theorem OrdC.swk {C:α->α->Int} (h:OrdC C) (f:β->α):SWk (ltC fun x y=>C (f x) (f y)) where
 as_ x y h1 h2:=by have:=(h.anti _ _).1 h1;have h3:C (f y) (f x)<0:=h2;omega
 nt x y z h1 h2 h3:=by
  have g1:¬C (f y) (f x)<0:=h1;have g2:¬C (f z) (f y)<0:=h2;have g3:C (f z) (f x)<0:=h3;have tot:∀ u v,¬C u v<0->C v u<0\/v=u:=fun u v k=>by
   rcases Int.lt_trichotomy (C u v) 0 with k1 | k1 | k1
   ·exact absurd k1 k
   ·exact .inr (h.eq0 _ _ k1).symm
   exact .inl ((h.anti _ _).2 k1)
  rcases tot _ _ g1 with k | k
  ·rcases tot _ _ g2 with k2 | k2
   ·exact absurd (h.trans _ _ _ (h.trans _ _ _ k k2) g3) (by rw [h.refl];decide)
   rw [k2] at k;exact absurd (h.trans _ _ _ k g3) (by rw [h.refl];decide)
  rw [k] at g3;exact g2 g3
theorem byNPa_q:CmpQ paramL 53 fz (byC Param.name):=by
 intro x y cs ds hx hy;obtain ⟨rfl,hR⟩:=YJ hx;obtain ⟨rfl,hS⟩:=YJ hy;refine qF Tryz.func53 Tryz.ntmps53 (fun w0=>?_);refine zW ?_;intros;refine zc Yia ?_;refine zW ?_;intros;exact zR (h:=rfl)
theorem byNPr_q:CmpQ predicateL 21 fz (byC Predicate.name):=by
 intro x y cs ds hx hy;obtain ⟨A0,n0,c0,rfl,hR⟩:=Ycl hx;obtain ⟨A0,n0,c0,rfl,hS⟩:=Ycl hy;refine qF Tryz.func21 Tryz.ntmps21 (fun w0=>?_);refine zW ?_;intros;refine zc Yia ?_;refine zW ?_;intros;exact zR (h:=rfl)
theorem byNFu_q:CmpQ functionL 24 fz (byC Function.name):=by
 intro x y cs ds hx hy;obtain ⟨A0,n0,c0,rfl,hR⟩:=Ydb hx;obtain ⟨A0,n0,c0,rfl,hS⟩:=Ydb hy;refine qF Tryz.func24 Tryz.ntmps24 (fun w0=>?_);refine zW ?_;intros;refine zc Yia ?_;refine zW ?_;intros;exact zR (h:=rfl)
theorem byNAc_q:CmpQ actionL 26 fz (byC Action.name):=by
 intro x y cs ds hx hy;obtain ⟨A0,n0,c0,A1,n1,c1,A2,n2,c2,A3,n3,c3,A4,n4,c4,A5,n5,c5,rfl,hR⟩:=YeA hx;obtain ⟨A0,n0,c0,A1,n1,c1,A2,n2,c2,A3,n3,c3,A4,n4,c4,A5,n5,c5,rfl,hS⟩:=YeA hy;refine qF Tryz.func26 Tryz.ntmps26 (fun w0=>?_);refine zW ?_;intros;refine zc Yia ?_;refine zW ?_;intros;exact zR (h:=rfl)
theorem byNDu_q:CmpQ durativeL 28 fz (byC Durative.name):=by
 intro x y cs ds hx hy;obtain ⟨A0,n0,c0,A1,n1,c1,A2,n2,c2,A3,n3,c3,A4,n4,c4,A5,n5,c5,A6,n6,c6,A7,n7,c7,A8,n8,c8,A9,n9,c9,A10,n10,c10,A11,n11,c11,A12,n12,c12,A13,n13,c13,A14,n14,c14,rfl,hR⟩:=Ydd hx;obtain ⟨A0,n0,c0,A1,n1,c1,A2,n2,c2,A3,n3,c3,A4,n4,c4,A5,n5,c5,A6,n6,c6,A7,n7,c7,A8,n8,c8,A9,n9,c9,A10,n10,c10,A11,n11,c11,A12,n12,c12,A13,n13,c13,A14,n14,c14,rfl,hS⟩:=Ydd hy;refine qF Tryz.func28 Tryz.ntmps28 (fun w0=>?_);refine zW ?_;intros;refine zc Yia ?_;refine zW ?_;intros;exact zR (h:=rfl)
end Go.Proofs.YtiligkgjcmokbaaGreatDoor
