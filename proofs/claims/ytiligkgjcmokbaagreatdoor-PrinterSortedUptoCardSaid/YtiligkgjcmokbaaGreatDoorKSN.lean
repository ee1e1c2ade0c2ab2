/- The texts NB, NC, ND, Half, laid together. Conditions: none. -/
import Derived.Test.YtiligkgjcmokbaaGreatDoorKSM
set_option linter.all false
set_option maxHeartbeats 8000000
set_option maxRecDepth 20000
open Go.Lx Go.RowKit
attribute [local instance 10] Classical.propDecidable
open Go.Proofs.Tryz (prog)
namespace Go.Lx
variable {α:Type} {i j:Nat}
theorem YiH {U V W:List α} {x z:α} (hi:i=U.length) (hj:j=U.length+1+V.length):((U++x::(V++z::W)).set i z).set j x=U++z::(V++x::W):=by
 subst hi hj;rw [List.set_append_right _ _ (Zs _),Nat.sub_self,List.set_cons_zero,List.set_append_right _ _ Zi,show U.length+1+V.length - U.length=V.length+1 by omega,List.set_cons_succ,List.set_append_right _ _ (Zs _),Nat.sub_self,List.set_cons_zero]
theorem Yj5 {U V W:List α} {x z:α} (hi:i=U.length) (hj:j=U.length+1+V.length):((U++x::(V++z::W)).set j x).set i z=U++z::(V++x::W):=by
 rw [List.set_comm _ _ Zi];exact YiH hi hj
theorem Yix {U W:List α} {x:α} (hi:i=U.length):(U++x::W)[i]?=some x:=by
 subst hi;rw [List.getElem?_append_right (Zs _),Nat.sub_self];rfl
theorem YjL {U V W:List α} {x z:α} (hj:j=U.length+1+V.length):(U++x::(V++z::W))[j]?=some z:=by
 subst hj;rw [List.getElem?_append_right Zi,show U.length+1+V.length - U.length=V.length+1 by omega,List.getElem?_cons_succ];exact Yix rfl
end Go.Lx
namespace Go.Proofs.YtiligkgjcmokbaaGreatDoor
variable {α:Type} {fz:FZ} {g k n:Nat} {t:TypeId}
inductive SrT:{α:Type}->Lay α->FuncId->FuncId->FuncId->FuncId->FuncId->Prop
 | pa:SrT paramL 319 289 248 249 188
 | pr:SrT predicateL 250 189 125 126 60
 | fu:SrT functionL 251 190 128 129 62
 | ac:SrT actionL 252 191 130 131 63
 | du:SrT durativeL 253 192 132 133 64
 | va:SrT valueL 259 204 138 139 69
theorem SrT.one {Λ:Lay α} {fw fr fi fm fs:FuncId} (h:SrT Λ fw fr fi fm fs):OneC Λ:=by
 cases h
 ·exact WY
 ·exact YeS
 ·exact Yf2
 ·exact Yij
 ·exact Yf3
 exact YkB
abbrev YfC {α:Type} {Λ:Lay α} {t:TypeId} {fz:FZ} {g n cap:Nat} {cur:List Value} {l:List α} (_:GrowB Λ t fz g n cap cur l):Lay α:=Λ
abbrev tyOf {α:Type} (_:List α):Type:=α
theorem YlA {Λ:Lay α} {fw fr fi fm fs:FuncId} (hty:SrT Λ fw fr fi fm fs) {cap:Nat} {cur:List Value} {P X Y Z Q:List α} {vc:Value} (hB:GrowB Λ t fz g n cap cur (P++(X++(Y++(Z++Q))))) (hX:X.length=k) (hZ:Z.length=k) {a b:Int} (ha:a=P.length) (hb:b=P.length+k+Y.length):
 GFn prog fw [Zv g n cap,Zk a,Zk b,Zk k,vc] fz [(g,Zu cur.toArray t)]
  (fun _ fz' H'=>fz=fz'/\∃ cur',H'=[(g,Zu (List.toArray cur') t)]/\GrowB Λ t fz g n cap cur' (P++(Z++(Y++(X++Q))))):=by
 have hl:=hB.len;have hcn:=hB.capn;have hmax:=hB.max;unfold maxLen at hmax;simp only [List.length_append] at hl;subst ha hb;have hO:=hty.one;cases hty
 all_goals
  first
   | refine zF Tryz.func319 Tryz.ntmps319 (fun w0=>?_)
   | refine zF Tryz.func250 Tryz.ntmps250 (fun w0=>?_)
   | refine zF Tryz.func251 Tryz.ntmps251 (fun w0=>?_)
   | refine zF Tryz.func252 Tryz.ntmps252 (fun w0=>?_)
   | refine zF Tryz.func253 Tryz.ntmps253 (fun w0=>?_)
   | refine zF Tryz.func259 Tryz.ntmps259 (fun w0=>?_)
  refine zW ?_;intros;refine Yi (fun q σ fz' H'=>∃ (i:Nat) (cur1:List Value),i<=k/\q=k - i/\σ=[(10,Zk i),(0,Zv g n cap),(1,Zk P.length),(2,Zk (P.length+k+Y.length)),(3,Zk k)]/\fz=fz'/\H'=[(g,Zu cur1.toArray t)]/\GrowB (YfC hB) t fz g n cap cur1 (P++(Z.take i++(X.drop i++(Y++(X.take i++(Z.drop i++Q))))))) ⟨0,cur,Z0 _,rfl,rfl,rfl,rfl,by simpa using hB⟩ Zw Zb ?_;rintro q σ fz' H' ⟨i,cur1,hi,rfl,rfl,rfl,rfl,hB1⟩;refine zW ?_;intros;refine zC ?_ ?_<;>intro c1
  ·have hik:i<k:=by omega
   have eX:X.drop i=X[i]'Zi::X.drop (i+1):=List.drop_eq_getElem_cons Zi;have eZ:Z.drop i=Z[i]'Zi::Z.drop (i+1):=List.drop_eq_getElem_cons Zi;generalize X[i]'Zi=x at eX;generalize Z[i]'Zi=z at eZ;have hD:P++(Z.take i++(X.drop i++(Y++(X.take i++(Z.drop i++Q)))))=(P++Z.take i)++x::((X.drop (i+1)++(Y++X.take i))++z::(Z.drop (i+1)++Q)):=by rw [eX,eZ];simp
   rw [hD] at hB1;have lU:(P++Z.take i).length=P.length+i:=by rw [List.length_append,List.length_take];omega
   have lV:(X.drop (i+1)++(Y++X.take i)).length=k - (i+1)+(Y.length+i):=by rw [List.length_append,List.length_append,List.length_take,List.length_drop];omega
   obtain ⟨cz,hz1,hz2⟩:=Wf hB1 (YjL (j:=P.length+k+Y.length+i) Zi);obtain ⟨cx,hx1,hx2⟩:=Wf hB1 (Yix (i:=P.length+i) Zi);have lz:=Lay.len _ hz1;have lx:=Lay.len _ hx1;refine zWN ?_;intros;refine WP [4,5,6,7] [_] ?_;refine zW ?_;intros;refine PK.p Zz (fun fz'=>by first | exact XC rfl | exact YU Zz rfl | exact Yt rfl | exact W4 Zz Zz (YQ Zi) rfl | exact Yw rfl) ?_;refine PK.p Zz (fun fz'=>by first | exact XC rfl | exact YU Zz rfl | exact Yt rfl | exact W4 Zz Zz (YQ Zi) rfl | exact Yw rfl) ?_;refine PK.p Zz (fun fz'=>by first | exact XC rfl | exact YU Zz rfl | exact Yt rfl | exact W4 Zz Zz (YQ Zi) rfl | exact Yw rfl) ?_;refine PK.p Zz (fun fz'=>by first | exact XC rfl | exact YU Zz rfl | exact Yt rfl | exact W4 Zz Zz (YQ Zi) rfl | exact Yw rfl) ?_;refine zW ?_;intros;refine zG ?_;refine Yq rfl ?_;refine zG ?_;refine Yc (vs:=cz) 0 ?_ (hv:=hz2) (hs:=by exact lz.symm);refine zW ?_;intros;refine zG ?_;refine Yq rfl ?_;refine zG ?_;refine Yc (vs:=cx) 0 ?_ (hv:=hx2) (hs:=by exact lx.symm);refine zW ?_;intros;refine zG ?_;refine Yq rfl ?_;refine pT ?_;refine Yh ?_;refine PoS.hard0 (YI (pre:=[]) (j:=P.length+i) rfl rfl hO hz1 hB1 (fun cur2 hB2=>?_));refine Yh ?_;refine PoS.hard (DoesQ.does (Yq rfl ?_));refine Yh ?_;refine PoS.hard0 (YI (pre:=[]) (j:=P.length+k+Y.length+i) rfl rfl hO hx1 hB2 (fun cur3 hB3=>?_));refine Po.done ?_;rw [YiH Zi Zi] at hB3;refine zW ?_;intros;exact Wj ⟨i+1,cur3,by omega,rfl,rfl,rfl,rfl,by
    rw [List.take_add_one,List.take_add_one,show X[i]?=some x from by rw [<- List.head?_drop,eX];rfl,show Z[i]?=some z from by rw [<- List.head?_drop,eZ];rfl];simpa using hB3⟩ Zi Zw Zb
  have hki:i=k:=by omega
  subst hki;rw [Zl Zi,Zl Zi,List.drop_of_length_le Zi,List.drop_of_length_le Zi] at hB1;refine zW ?_;intros;exact Ycc rfl Zb ⟨rfl,cur1,rfl,by simpa using hB1⟩
theorem rotate_o {Λ:Lay α} {fw fr fi fm fs:FuncId} (hty:SrT Λ fw fr fi fm fs) {cap:Nat} {cur:List Value} {P U V Q:List α} {vc:Value} (hB:GrowB Λ t fz g n cap cur (P++(U++(V++Q)))) (hU:0<U.length) (hV:0<V.length) {a m b:Int} (ha:a=P.length) (hm:m=P.length+U.length) (hb:b=P.length+U.length+V.length):
 GFn prog fr [Zv g n cap,Zk a,Zk m,Zk b,vc] fz [(g,Zu cur.toArray t)]
  (fun _ fz' H'=>fz=fz'/\∃ cur',H'=[(g,Zu (List.toArray cur') t)]/\GrowB Λ t fz g n cap cur' (P++(V++(U++Q)))):=by
 have hl:=hB.len;have hcn:=hB.capn;have hmax:=hB.max;unfold maxLen at hmax;simp only [List.length_append] at hl;subst ha hm hb;have hO:=hty.one;cases hty
 all_goals
  first
   | refine zF Tryz.func289 Tryz.ntmps289 (fun w0=>?_)
   | refine zF Tryz.func189 Tryz.ntmps189 (fun w0=>?_)
   | refine zF Tryz.func190 Tryz.ntmps190 (fun w0=>?_)
   | refine zF Tryz.func191 Tryz.ntmps191 (fun w0=>?_)
   | refine zF Tryz.func192 Tryz.ntmps192 (fun w0=>?_)
   | refine zF Tryz.func204 Tryz.ntmps204 (fun w0=>?_)
  refine zW ?_;intros;refine Yi (fun q σ fz' H'=>∃ (iz jz:Int) (i j:Nat) (cur1:List Value) (A B C E:List (tyOf P)),q=i+j/\iz=i/\jz=j/\0<i/\0<j/\B.length=i/\C.length=j/\A.length+i=U.length/\σ=[(11,Zk jz),(10,Zk iz),(0,Zv g n cap),(2,Zk (P.length+U.length)),(4,vc)]/\fz=fz'/\H'=[(g,Zu cur1.toArray t)]/\A++(C++(B++E))=V++(U++Q)/\GrowB (YfC hB) t fz g n cap cur1 (P++(A++(B++(C++E)))))
   ⟨(P.length+U.length:Int) - P.length,(P.length+U.length+V.length:Int) - (P.length+U.length),U.length,V.length,cur,[],U,V,Q,rfl,by omega,by omega,hU,hV,rfl,rfl,by simp,rfl,rfl,rfl,rfl,hB⟩ Zw Zb ?_
  rintro q σ fz' H' ⟨_,_,i,j,cur1,A,B,C,E,rfl,rfl,rfl,hi,hj,lB,lC,hA,rfl,rfl,rfl,hT,hB1⟩;have hl1:=hB1.len;simp only [List.length_append] at hl1;refine zW ?_;intros;refine zC ?_ ?_<;>intro c1
  ·refine zW ?_;intros;refine zC ?_ ?_<;>intro c2
   ·have e:B=B.take j++B.drop j:=(List.take_append_drop j B).symm;have l1:(B.take j).length=j:=by rw [List.length_take];omega
    have l2:(B.drop j).length=i - j:=by rw [List.length_drop];omega
    generalize B.take j=B1 at*;generalize B.drop j=B2 at*;subst e;refine zW ?_;intros;refine Ya (Ym [_] [] Zz (YlA (by constructor) (P:=P++A) (X:=B1) (Y:=B2) (Z:=C) (Q:=E) (by simpa using hB1) l1 lC (by simp only [List.length_append];omega) (by simp only [List.length_append];omega)) (fun v4 fz4 H4 hle4 hR4=>?_) (hx:=rfl));obtain ⟨rfl,cur2,rfl,hB2⟩:=hR4;refine zW ?_;intros;exact wP (h:=by exact ⟨_,_,i - j,j,cur2,A++C,B2,B1,E,rfl,(Int.ofNat_sub Zi).symm,rfl,by omega,hj,l2,l1,by rw [List.length_append];omega,rfl,rfl,rfl,by rw [<- hT];simp,by simpa using hB2⟩)
   have e:C=C.take (j - i)++C.drop (j - i):=(List.take_append_drop _ C).symm;have l1:(C.take (j - i)).length=j - i:=by rw [List.length_take];omega
   have l2:(C.drop (j - i)).length=i:=by rw [List.length_drop];omega
   generalize C.take (j - i)=C1 at*;generalize C.drop (j - i)=C2 at*;subst e;refine zW ?_;intros;refine Ya (Ym [_] [] Zz (YlA (by constructor) (P:=P++A) (X:=B) (Y:=C1) (Z:=C2) (Q:=E) (by simpa using hB1) lB l2 (by simp only [List.length_append];omega) (by simp only [List.length_append];omega)) (fun v4 fz4 H4 hle4 hR4=>?_) (hx:=rfl));obtain ⟨rfl,cur2,rfl,hB2⟩:=hR4;refine zW ?_;intros;exact wP (h:=by exact ⟨_,_,i,j - i,cur2,A,C2,C1,B++E,rfl,rfl,(Int.ofNat_sub Zi).symm,hi,by omega,l2,l1,hA,rfl,rfl,rfl,by rw [<- hT];simp,by simpa using hB2⟩)
  have hij:i=j:=by omega
  subst hij;refine zW ?_;intros;refine Ya (Ym [_] [] Zz (YlA (by constructor) (P:=P++A) (X:=B) (Y:=[]) (Z:=C) (Q:=E) (by simpa using hB1) lB lC (by simp only [List.length_append];omega) (by simp only [List.length_append,List.length_nil];omega)) (fun v4 fz4 H4 hle4 hR4=>?_) (hx:=rfl));obtain ⟨rfl,cur2,rfl,hB2⟩:=hR4;refine zW ?_;intros;exact Ycc rfl Zb ⟨rfl,cur2,rfl,by
   have e:P++(V++(U++Q))=P++A++(C++([]++(B++E))):=by rw [<- hT];simp
   rw [e];exact hB2⟩
end Go.Proofs.YtiligkgjcmokbaaGreatDoor
namespace Go.Lx
variable {α:Type} {l:List α}
abbrev ltC {α:Type} (cmp:α->α->Int):α->α->Prop:=fun x y=>cmp x y<0
def srtC {α:Type} (cmp:α->α->Int) (l:List α):List α:=YdJ (ltC cmp) l
theorem YiM {cmp:α->α->Int}:(srtC cmp l).length=l.length:=Yio _ _ rfl
theorem Ygo {cmp:α->α->Int} (w:SWk (ltC cmp)):SrtS (ltC cmp) (srtC cmp l):=Yn7 w l
theorem Yj7 {cmp:α->α->Int} (w:SWk (ltC cmp)) {s1 s2:List α} {x:α} (hs:srtC cmp l=s1++s2) (h1:∀ y,s2[0]?=some y->cmp x y<0) (h2:∀ z s,s1=s++ [z]->¬cmp x z<0):srtC cmp (l++ [x])=s1++x::s2:=by
 have h:=Ygo w (l:=l);have e:srtC cmp (l++ [x])=XB (ltC cmp) (srtC cmp l) [x]:=Yda l x;rw [hs] at h e;rw [e];refine YkP w h h1 fun k hk z hz=>?_
 rcases List.eq_nil_or_concat s1 with rfl | ⟨s,z',rfl⟩
 ·cases hk
 rw [List.concat_eq_append] at hk hz;simp at hk;subst hk;rw [Yix rfl] at hz;injection hz with hz
 subst hz;exact h2 _ _ (List.concat_eq_append ..)
theorem srtC_one {cmp:α->α->Int} (u:α):srtC cmp [u]=[u]:=Xw _
theorem YnS {cmp:α->α->Int}:∀ U Q:List α,U++Q=srtC cmp (U.take 1)++(U.drop 1++Q)
 | [],_=>rfl
 | u::U,Q=>by show _=srtC cmp [u]++(U++Q);rw [srtC_one];rfl
end Go.Lx
namespace Go.Proofs.YtiligkgjcmokbaaGreatDoor
variable {α:Type} {fz:FZ} {g n:Nat} {t:TypeId}
def CmpQ {α:Type} (L:Lay α) (f:Nat) (fz:FZ) (cmp:α->α->Int):Prop:=∀ x y cs ds,L.rep fz x cs->L.rep fz y ds->QFn prog f [.agg cs.toArray,.agg ds.toArray] fz (Zk (cmp x y))
theorem Ynh {Λ:Lay α} {fw fr fi fm fs:FuncId} (hty:SrT Λ fw fr fi fm fs) {cap fc:Nat} {cur:List Value} {P U Q:List α} {cmp:α->α->Int} (hB:GrowB Λ t fz g n cap cur (P++(U++Q))) (hC:CmpQ Λ fc fz cmp) (w:SWk (ltC cmp)) (hn:n<=1000000000) {a b:Int} (ha:a=P.length) (hb:b=P.length+U.length):
 GFn prog fi [Zv g n cap,Zk a,Zk b,.func (.func fc) #[] #[]] fz [(g,Zu cur.toArray t)]
  (fun _ fz' H'=>fz=fz'/\∃ cur',H'=[(g,Zu (List.toArray cur') t)]/\GrowB Λ t fz g n cap cur' (P++(srtC cmp U++Q))):=by
 have hl:=hB.len;have hcn:=hB.capn;have hmax:=hB.max;unfold maxLen at hmax;simp only [List.length_append] at hl;subst ha hb;have hO:=hty.one;cases hty
 all_goals
  first
   | refine zF Tryz.func248 Tryz.ntmps248 (fun w0=>?_)
   | refine zF Tryz.func125 Tryz.ntmps125 (fun w0=>?_)
   | refine zF Tryz.func128 Tryz.ntmps128 (fun w0=>?_)
   | refine zF Tryz.func130 Tryz.ntmps130 (fun w0=>?_)
   | refine zF Tryz.func132 Tryz.ntmps132 (fun w0=>?_)
   | refine zF Tryz.func138 Tryz.ntmps138 (fun w0=>?_)
  refine zW ?_;intros;refine Yi (fun q σ fz' H'=>∃ (z:Int) (k:Nat) (cur1:List Value),z=P.length+k/\1<=k/\q=U.length+1 - k/\σ=[(8,Zk z),(0,Zv g n cap),(1,Zk P.length),(2,Zk (P.length+U.length)),(3,.func (.func fc) #[] #[])]/\fz=fz'/\H'=[(g,Zu cur1.toArray t)]/\GrowB (YfC hB) t fz g n cap cur1 (P++(srtC cmp (U.take k)++(U.drop k++Q)))) ⟨_,1,cur,rfl,Zs _,rfl,rfl,rfl,rfl,by rw [<- YnS];exact hB⟩ Zw Zb ?_;rintro q σ fz' H' ⟨_,k,cur1,rfl,hk,rfl,rfl,rfl,rfl,hB1⟩;refine zW ?_;intros;refine zC ?_ ?_<;>intro c1
  ·have hkU:k<U.length:=by omega
   have eU:U.drop k=U[k]'Zi::U.drop (k+1):=List.drop_eq_getElem_cons Zi;have eT:U.take (k+1)=U.take k++ [U[k]'Zi]:=by rw [List.take_add_one,List.getElem?_eq_getElem hkU];rfl
   generalize U[k]'Zi=x at eU eT;rw [eU] at hB1;have lS:(srtC cmp (U.take k)).length=k:=by rw [YiM,List.length_take];omega
   refine zW ?_;intros;refine Yi (fun q σ fz' H'=>∃ (z:Int) (s1 s2:List (tyOf P)) (cur2:List Value),z=P.length+s1.length/\srtC cmp (U.take k)=s1++s2/\(∀ y,s2[0]?=some y->cmp x y<0)/\q=s1.length/\σ=[(9,Zk z),(8,Zk (P.length+k)),(0,Zv g n cap),(1,Zk P.length),(2,Zk (P.length+U.length)),(3,.func (.func fc) #[] #[])]/\fz=fz'/\H'=[(g,Zu cur2.toArray t)]/\GrowB (YfC hB) t fz g n cap cur2 (P++(s1++(x::(s2++(U.drop (k+1)++Q)))))) ⟨_,srtC cmp (U.take k),[],cur1,by rw [lS],(List.append_nil _).symm,by simp,rfl,rfl,rfl,rfl,hB1⟩ Zw Zb ?_;rintro q σ fz' H' ⟨_,s1,s2,cur2,rfl,hs,h1,rfl,rfl,rfl,rfl,hB2⟩;have fin:∀ (h2:∀ z s,s1=s++ [z]->¬cmp x z<0),GrowB (YfC hB) t fz g n cap cur2 (P++(srtC cmp (U.take (k+1))++(U.drop (k+1)++Q))):=fun h2=>by
    rw [eT,Yj7 w hs h1 h2];simpa using hB2
   rcases List.eq_nil_or_concat s1 with rfl | ⟨s,z,rfl⟩
   ·refine zW ?_;intros;refine zC ?_ ?_<;>intro c2
    ·exact absurd c2 (by simp)
    refine zW ?_;intros;exact wP (h:=by exact ⟨(P.length+k:Int)+1,k+1,cur2,by omega,by omega,rfl,rfl,rfl,rfl,fin (fun z s h=>by simp at h)⟩)
   rw [List.concat_eq_append] at*;have ls:(s++ [z]).length=s.length+1:=by simp
   have lS2:=congrArg List.length hs;rw [lS,List.length_append,ls] at lS2;simp only [ls] at hcn ⊢;have hD:P++(s++ [z]++(x::(s2++(U.drop (k+1)++Q))))=(P++s)++z::([]++x::(s2++(U.drop (k+1)++Q))):=by simp
   rw [hD] at hB2;have lU:(P++s).length=P.length+s.length:=List.length_append;obtain ⟨cx,hx1,hx2⟩:=Wf hB2 (YjL (j:=P.length+s.length+1) (by rw [lU];rfl));obtain ⟨cz,hz1,hz2⟩:=Wf hB2 (Yix (i:=P.length+s.length) Zi);have lz:=Lay.len _ hz1;have lx:=Lay.len _ hx1;refine zW ?_;intros;refine zC ?_ ?_<;>intro c2;rotate_left 1
   ·exact absurd c2 Zi
   refine zW ?_;intros;refine zG ?_;refine Yq rfl ?_;refine zG ?_;refine Yc (vs:=cx) 0 ?_ (hv:=hx2) (hs:=by exact lx.symm);refine zW ?_;intros;refine zG ?_;refine Yq rfl ?_;refine zG ?_;refine Yc (vs:=cz) 0 ?_ (hv:=by rw [show ((P.length:Int)+((s.length+1:Nat):Int) - 1).toNat=P.length+s.length by omega];exact hz2) (hs:=by exact lz.symm);refine zW ?_;intros
   ((refine zG ?_);refine Ybu (hC _ _ _ _ hx1 hz1) ?_);refine zW ?_;intros;refine zC ?_ ?_<;>intro c3;rotate_left 1
   ·refine zW ?_;intros;exact Wj ⟨(P.length+k:Int)+1,k+1,cur2,by omega,by omega,rfl,rfl,rfl,rfl,fin (fun y s' h=>by
     obtain ⟨_,h⟩:=List.append_inj' h rfl;injection h with h
     subst h;exact c3)⟩ Zi Zw Zb
   refine zWN ?_;intros;refine WP [2,3,4] [_] ?_;refine zW ?_;intros;refine PK.p Zz (fun fz'=>by first | exact XC rfl | exact YU Zz rfl | exact Yt rfl | exact W4 Zz Zz (YQ Zi) rfl | exact Yw rfl) ?_;refine PK.p Zz (fun fz'=>by first | exact XC rfl | exact YU Zz rfl | exact Yt rfl | exact W4 Zz Zz (YQ Zi) rfl | exact Yw rfl) ?_;refine PK.p Zz (fun fz'=>YlH Zz Zz (YQ Zi) rfl) ?_;refine zW ?_;intros;refine zG ?_;refine Yq rfl ?_;refine zG ?_;refine Yc (vs:=cz) 0 ?_ (hv:=by rw [show ((P.length:Int)+((s.length+1:Nat):Int) - 1).toNat=P.length+s.length by omega];exact hz2) (hs:=by exact lz.symm);refine zW ?_;intros;refine zG ?_;refine Yq rfl ?_;refine zG ?_;refine Yc (vs:=cx) 0 ?_ (hv:=hx2) (hs:=by exact lx.symm);refine zW ?_;intros;refine zG ?_;refine Yq rfl ?_;refine pT ?_;refine Yh ?_;refine PoS.hard0 (YI (pre:=[]) (j:=P.length+s.length+1) rfl rfl hO hz1 hB2 (fun cur3 hB3=>?_));refine Yh ?_;refine PoS.hard (DoesQ.does (Yq rfl ?_));refine Yh ?_;refine PoS.hard0 (YI (pre:=[]) (j:=((P.length:Int)+((s.length+1:Nat):Int) - 1).toNat) rfl rfl hO hx1 hB3 (fun cur4 hB4=>?_));refine Po.done ?_;rw [show ((P.length:Int)+((s.length+1:Nat):Int) - 1).toNat=P.length+s.length by omega,Yj5 Zi (by rw [lU];rfl)] at hB4;refine zW ?_;intros;exact wP (h:=by exact ⟨(P.length:Int)+((s.length+1:Nat):Int) - 1,s,z::s2,cur4,by omega,by rw [hs];simp,fun y hy=>by simp at hy;subst hy;exact c3,rfl,rfl,rfl,rfl,by simpa using hB4⟩)
  rw [Zl Zi,List.drop_of_length_le Zi] at hB1;refine zW ?_;intros;exact Ycc rfl Zb ⟨rfl,cur1,rfl,hB1⟩
end Go.Proofs.YtiligkgjcmokbaaGreatDoor
namespace Go.Lx
open Go.RowKit
variable {i j n:Nat} {H:HP} {fz:FZ}
theorem half:((i:Int)+j).fdiv (2 ^ (min (1:Int).toNat IntKind.u64.bits))=((i+j) / 2:Nat):=by
 have:(2 ^ (min (1:Int).toNat IntKind.u64.bits):Int)=2:=by decide
 rw [this,Int.fdiv_eq_ediv_of_nonneg _ Zi];omega
theorem wrapU {n:Int} (h:0<=n/\n<=18446744073709551615):IntKind.u64.wrap n=n:=by
 simp [IntKind.wrap,IntKind.bits,IntKind.signed];omega
theorem ret0X {P:Program} {cx:Cx} {σ:Env} {H':HP} {fn:Func} {R:Value->FZ->HP->Prop} (hres:fn.results=#[]) (hH:H'.Sublist H) (h:R (.tuple #[]) fz H'):retQ P cx n fn R .ret σ fz H:=by
 unfold retQ;exact ⟨.tuple #[],fun a w hs hw=>by simp [results,hres],YgM hH h⟩
end Go.Lx
