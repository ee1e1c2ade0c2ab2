/- The texts NC, ND, Half, laid together. Conditions: none. -/
import Derived.Test.YtaaanbkahfeknaaGreatDoorCNH
set_option linter.all false
set_option maxHeartbeats 8000000
set_option maxRecDepth 20000
open Go.Lx Go.RowKit
attribute [local instance 10] Classical.propDecidable
open Go.Proofs.Tryz (prog)
namespace Go.Proofs.YtaaanbkahfeknaaGreatDoor
variable {fz:FZ} {g n:Nat} {t:TypeId}
theorem Yif {cap:Nat} {cur:List Value} {P U V Q:List Param} {vc:Value} (hB:GrowB paramL t fz g n cap cur (P++(U++(V++Q)))) (hU:0<U.length) (hV:0<V.length) {a m b:Int} (ha:a=P.length) (hm:m=P.length+U.length) (hb:b=P.length+U.length+V.length):
 GFn prog 287 [Zv g n cap,Zk a,Zk m,Zk b,vc] fz [(g,Zu cur.toArray t)]
  (fun _ fz' H'=>fz=fz'/\∃ cur',H'=[(g,Zu (List.toArray cur') t)]/\GrowB paramL t fz g n cap cur' (P++(V++(U++Q)))):=by
 have hl:=hB.len;have hcn:=hB.capn;have hmax:=hB.max;unfold maxLen at hmax;simp only [List.length_append] at hl;subst ha hm hb;refine zF Tryz.func287 Tryz.ntmps287 (fun w0=>?_);refine zW ?_;intros;refine Yd (fun q σ fz' H'=>∃ (iz jz:Int) (i j:Nat) (cur1:List Value) (A B C E:List Param),q=i+j/\iz=i/\jz=j/\0<i/\0<j/\B.length=i/\C.length=j/\A.length+i=U.length/\σ=[(11,Zk jz),(10,Zk iz),(0,Zv g n cap),(2,Zk (P.length+U.length)),(4,vc)]/\fz=fz'/\H'=[(g,Zu cur1.toArray t)]/\A++(C++(B++E))=V++(U++Q)/\GrowB paramL t fz g n cap cur1 (P++(A++(B++(C++E)))))
  ⟨(P.length+U.length:Int) - P.length,(P.length+U.length+V.length:Int) - (P.length+U.length),U.length,V.length,cur,[],U,V,Q,rfl,by omega,by omega,hU,hV,rfl,rfl,by simp,rfl,rfl,rfl,rfl,hB⟩ Zw Zb ?_
 rintro q σ fz' H' ⟨_,_,i,j,cur1,A,B,C,E,rfl,rfl,rfl,hi,hj,lB,lC,hA,rfl,rfl,rfl,hT,hB1⟩;have hl1:=hB1.len;simp only [List.length_append] at hl1;refine zW ?_;intros;refine zC ?_ ?_<;>intro c1
 ·refine zW ?_;intros;refine zC ?_ ?_<;>intro c2
  ·have e:B=B.take j++B.drop j:=(List.take_append_drop j B).symm;have l1:(B.take j).length=j:=by rw [List.length_take];omega
   have l2:(B.drop j).length=i - j:=by rw [List.length_drop];omega
   generalize B.take j=B1 at*;generalize B.drop j=B2 at*;subst e;refine zW ?_;intros;refine Yc (Ym [_] [] Zz (Ydb (P:=P++A) (X:=B1) (Y:=B2) (Z:=C) (Q:=E) (by simpa using hB1) l1 lC (by simp only [List.length_append];omega) (by simp only [List.length_append];omega)) (fun v4 fz4 H4 hle4 hR4=>?_) (hx:=rfl));obtain ⟨rfl,cur2,rfl,hB2⟩:=hR4;refine zW ?_;intros;exact wP (h:=by exact ⟨_,_,i - j,j,cur2,A++C,B2,B1,E,rfl,(Int.ofNat_sub Zi).symm,rfl,by omega,hj,l2,l1,by rw [List.length_append];omega,rfl,rfl,rfl,by rw [<- hT];simp,by simpa using hB2⟩)
  have e:C=C.take (j - i)++C.drop (j - i):=(List.take_append_drop _ C).symm;have l1:(C.take (j - i)).length=j - i:=by rw [List.length_take];omega
  have l2:(C.drop (j - i)).length=i:=by rw [List.length_drop];omega
  generalize C.take (j - i)=C1 at*;generalize C.drop (j - i)=C2 at*;subst e;refine zW ?_;intros;refine Yc (Ym [_] [] Zz (Ydb (P:=P++A) (X:=B) (Y:=C1) (Z:=C2) (Q:=E) (by simpa using hB1) lB l2 (by simp only [List.length_append];omega) (by simp only [List.length_append];omega)) (fun v4 fz4 H4 hle4 hR4=>?_) (hx:=rfl));obtain ⟨rfl,cur2,rfl,hB2⟩:=hR4;refine zW ?_;intros;exact wP (h:=by exact ⟨_,_,i,j - i,cur2,A,C2,C1,B++E,rfl,rfl,(Int.ofNat_sub Zi).symm,hi,by omega,l2,l1,hA,rfl,rfl,rfl,by rw [<- hT];simp,by simpa using hB2⟩)
 have hij:i=j:=by omega
 subst hij;refine zW ?_;intros;refine Yc (Ym [_] [] Zz (Ydb (P:=P++A) (X:=B) (Y:=[]) (Z:=C) (Q:=E) (by simpa using hB1) lB lC (by simp only [List.length_append];omega) (by simp only [List.length_append,List.length_nil];omega)) (fun v4 fz4 H4 hle4 hR4=>?_) (hx:=rfl));obtain ⟨rfl,cur2,rfl,hB2⟩:=hR4;refine zW ?_;intros;exact YP rfl Zb ⟨rfl,cur2,rfl,by
  have e:P++(V++(U++Q))=P++A++(C++([]++(B++E))):=by rw [<- hT];simp
  rw [e];exact hB2⟩
theorem Yie {cap:Nat} {cur:List Value} {P U V Q:List Predicate} {vc:Value} (hB:GrowB predicateL t fz g n cap cur (P++(U++(V++Q)))) (hU:0<U.length) (hV:0<V.length) {a m b:Int} (ha:a=P.length) (hm:m=P.length+U.length) (hb:b=P.length+U.length+V.length):
 GFn prog 172 [Zv g n cap,Zk a,Zk m,Zk b,vc] fz [(g,Zu cur.toArray t)]
  (fun _ fz' H'=>fz=fz'/\∃ cur',H'=[(g,Zu (List.toArray cur') t)]/\GrowB predicateL t fz g n cap cur' (P++(V++(U++Q)))):=by
 have hl:=hB.len;have hcn:=hB.capn;have hmax:=hB.max;unfold maxLen at hmax;simp only [List.length_append] at hl;subst ha hm hb;refine zF Tryz.func172 Tryz.ntmps172 (fun w0=>?_);refine zW ?_;intros;refine Yd (fun q σ fz' H'=>∃ (iz jz:Int) (i j:Nat) (cur1:List Value) (A B C E:List Predicate),q=i+j/\iz=i/\jz=j/\0<i/\0<j/\B.length=i/\C.length=j/\A.length+i=U.length/\σ=[(11,Zk jz),(10,Zk iz),(0,Zv g n cap),(2,Zk (P.length+U.length)),(4,vc)]/\fz=fz'/\H'=[(g,Zu cur1.toArray t)]/\A++(C++(B++E))=V++(U++Q)/\GrowB predicateL t fz g n cap cur1 (P++(A++(B++(C++E)))))
  ⟨(P.length+U.length:Int) - P.length,(P.length+U.length+V.length:Int) - (P.length+U.length),U.length,V.length,cur,[],U,V,Q,rfl,by omega,by omega,hU,hV,rfl,rfl,by simp,rfl,rfl,rfl,rfl,hB⟩ Zw Zb ?_
 rintro q σ fz' H' ⟨_,_,i,j,cur1,A,B,C,E,rfl,rfl,rfl,hi,hj,lB,lC,hA,rfl,rfl,rfl,hT,hB1⟩;have hl1:=hB1.len;simp only [List.length_append] at hl1;refine zW ?_;intros;refine zC ?_ ?_<;>intro c1
 ·refine zW ?_;intros;refine zC ?_ ?_<;>intro c2
  ·have e:B=B.take j++B.drop j:=(List.take_append_drop j B).symm;have l1:(B.take j).length=j:=by rw [List.length_take];omega
   have l2:(B.drop j).length=i - j:=by rw [List.length_drop];omega
   generalize B.take j=B1 at*;generalize B.drop j=B2 at*;subst e;refine zW ?_;intros;refine Yc (Ym [_] [] Zz (Yda (P:=P++A) (X:=B1) (Y:=B2) (Z:=C) (Q:=E) (by simpa using hB1) l1 lC (by simp only [List.length_append];omega) (by simp only [List.length_append];omega)) (fun v4 fz4 H4 hle4 hR4=>?_) (hx:=rfl));obtain ⟨rfl,cur2,rfl,hB2⟩:=hR4;refine zW ?_;intros;exact wP (h:=by exact ⟨_,_,i - j,j,cur2,A++C,B2,B1,E,rfl,(Int.ofNat_sub Zi).symm,rfl,by omega,hj,l2,l1,by rw [List.length_append];omega,rfl,rfl,rfl,by rw [<- hT];simp,by simpa using hB2⟩)
  have e:C=C.take (j - i)++C.drop (j - i):=(List.take_append_drop _ C).symm;have l1:(C.take (j - i)).length=j - i:=by rw [List.length_take];omega
  have l2:(C.drop (j - i)).length=i:=by rw [List.length_drop];omega
  generalize C.take (j - i)=C1 at*;generalize C.drop (j - i)=C2 at*;subst e;refine zW ?_;intros;refine Yc (Ym [_] [] Zz (Yda (P:=P++A) (X:=B) (Y:=C1) (Z:=C2) (Q:=E) (by simpa using hB1) lB l2 (by simp only [List.length_append];omega) (by simp only [List.length_append];omega)) (fun v4 fz4 H4 hle4 hR4=>?_) (hx:=rfl));obtain ⟨rfl,cur2,rfl,hB2⟩:=hR4;refine zW ?_;intros;exact wP (h:=by exact ⟨_,_,i,j - i,cur2,A,C2,C1,B++E,rfl,rfl,(Int.ofNat_sub Zi).symm,hi,by omega,l2,l1,hA,rfl,rfl,rfl,by rw [<- hT];simp,by simpa using hB2⟩)
 have hij:i=j:=by omega
 subst hij;refine zW ?_;intros;refine Yc (Ym [_] [] Zz (Yda (P:=P++A) (X:=B) (Y:=[]) (Z:=C) (Q:=E) (by simpa using hB1) lB lC (by simp only [List.length_append];omega) (by simp only [List.length_append,List.length_nil];omega)) (fun v4 fz4 H4 hle4 hR4=>?_) (hx:=rfl));obtain ⟨rfl,cur2,rfl,hB2⟩:=hR4;refine zW ?_;intros;exact YP rfl Zb ⟨rfl,cur2,rfl,by
  have e:P++(V++(U++Q))=P++A++(C++([]++(B++E))):=by rw [<- hT];simp
  rw [e];exact hB2⟩
theorem Yig {cap:Nat} {cur:List Value} {P U V Q:List Function} {vc:Value} (hB:GrowB functionL t fz g n cap cur (P++(U++(V++Q)))) (hU:0<U.length) (hV:0<V.length) {a m b:Int} (ha:a=P.length) (hm:m=P.length+U.length) (hb:b=P.length+U.length+V.length):
 GFn prog 173 [Zv g n cap,Zk a,Zk m,Zk b,vc] fz [(g,Zu cur.toArray t)]
  (fun _ fz' H'=>fz=fz'/\∃ cur',H'=[(g,Zu (List.toArray cur') t)]/\GrowB functionL t fz g n cap cur' (P++(V++(U++Q)))):=by
 have hl:=hB.len;have hcn:=hB.capn;have hmax:=hB.max;unfold maxLen at hmax;simp only [List.length_append] at hl;subst ha hm hb;refine zF Tryz.func173 Tryz.ntmps173 (fun w0=>?_);refine zW ?_;intros;refine Yd (fun q σ fz' H'=>∃ (iz jz:Int) (i j:Nat) (cur1:List Value) (A B C E:List Function),q=i+j/\iz=i/\jz=j/\0<i/\0<j/\B.length=i/\C.length=j/\A.length+i=U.length/\σ=[(11,Zk jz),(10,Zk iz),(0,Zv g n cap),(2,Zk (P.length+U.length)),(4,vc)]/\fz=fz'/\H'=[(g,Zu cur1.toArray t)]/\A++(C++(B++E))=V++(U++Q)/\GrowB functionL t fz g n cap cur1 (P++(A++(B++(C++E)))))
  ⟨(P.length+U.length:Int) - P.length,(P.length+U.length+V.length:Int) - (P.length+U.length),U.length,V.length,cur,[],U,V,Q,rfl,by omega,by omega,hU,hV,rfl,rfl,by simp,rfl,rfl,rfl,rfl,hB⟩ Zw Zb ?_
 rintro q σ fz' H' ⟨_,_,i,j,cur1,A,B,C,E,rfl,rfl,rfl,hi,hj,lB,lC,hA,rfl,rfl,rfl,hT,hB1⟩;have hl1:=hB1.len;simp only [List.length_append] at hl1;refine zW ?_;intros;refine zC ?_ ?_<;>intro c1
 ·refine zW ?_;intros;refine zC ?_ ?_<;>intro c2
  ·have e:B=B.take j++B.drop j:=(List.take_append_drop j B).symm;have l1:(B.take j).length=j:=by rw [List.length_take];omega
   have l2:(B.drop j).length=i - j:=by rw [List.length_drop];omega
   generalize B.take j=B1 at*;generalize B.drop j=B2 at*;subst e;refine zW ?_;intros;refine Yc (Ym [_] [] Zz (Ydc (P:=P++A) (X:=B1) (Y:=B2) (Z:=C) (Q:=E) (by simpa using hB1) l1 lC (by simp only [List.length_append];omega) (by simp only [List.length_append];omega)) (fun v4 fz4 H4 hle4 hR4=>?_) (hx:=rfl));obtain ⟨rfl,cur2,rfl,hB2⟩:=hR4;refine zW ?_;intros;exact wP (h:=by exact ⟨_,_,i - j,j,cur2,A++C,B2,B1,E,rfl,(Int.ofNat_sub Zi).symm,rfl,by omega,hj,l2,l1,by rw [List.length_append];omega,rfl,rfl,rfl,by rw [<- hT];simp,by simpa using hB2⟩)
  have e:C=C.take (j - i)++C.drop (j - i):=(List.take_append_drop _ C).symm;have l1:(C.take (j - i)).length=j - i:=by rw [List.length_take];omega
  have l2:(C.drop (j - i)).length=i:=by rw [List.length_drop];omega
  generalize C.take (j - i)=C1 at*;generalize C.drop (j - i)=C2 at*;subst e;refine zW ?_;intros;refine Yc (Ym [_] [] Zz (Ydc (P:=P++A) (X:=B) (Y:=C1) (Z:=C2) (Q:=E) (by simpa using hB1) lB l2 (by simp only [List.length_append];omega) (by simp only [List.length_append];omega)) (fun v4 fz4 H4 hle4 hR4=>?_) (hx:=rfl));obtain ⟨rfl,cur2,rfl,hB2⟩:=hR4;refine zW ?_;intros;exact wP (h:=by exact ⟨_,_,i,j - i,cur2,A,C2,C1,B++E,rfl,rfl,(Int.ofNat_sub Zi).symm,hi,by omega,l2,l1,hA,rfl,rfl,rfl,by rw [<- hT];simp,by simpa using hB2⟩)
 have hij:i=j:=by omega
 subst hij;refine zW ?_;intros;refine Yc (Ym [_] [] Zz (Ydc (P:=P++A) (X:=B) (Y:=[]) (Z:=C) (Q:=E) (by simpa using hB1) lB lC (by simp only [List.length_append];omega) (by simp only [List.length_append,List.length_nil];omega)) (fun v4 fz4 H4 hle4 hR4=>?_) (hx:=rfl));obtain ⟨rfl,cur2,rfl,hB2⟩:=hR4;refine zW ?_;intros;exact YP rfl Zb ⟨rfl,cur2,rfl,by
  have e:P++(V++(U++Q))=P++A++(C++([]++(B++E))):=by rw [<- hT];simp
  rw [e];exact hB2⟩
theorem Yii {cap:Nat} {cur:List Value} {P U V Q:List Action} {vc:Value} (hB:GrowB actionL t fz g n cap cur (P++(U++(V++Q)))) (hU:0<U.length) (hV:0<V.length) {a m b:Int} (ha:a=P.length) (hm:m=P.length+U.length) (hb:b=P.length+U.length+V.length):
 GFn prog 174 [Zv g n cap,Zk a,Zk m,Zk b,vc] fz [(g,Zu cur.toArray t)]
  (fun _ fz' H'=>fz=fz'/\∃ cur',H'=[(g,Zu (List.toArray cur') t)]/\GrowB actionL t fz g n cap cur' (P++(V++(U++Q)))):=by
 have hl:=hB.len;have hcn:=hB.capn;have hmax:=hB.max;unfold maxLen at hmax;simp only [List.length_append] at hl;subst ha hm hb;refine zF Tryz.func174 Tryz.ntmps174 (fun w0=>?_);refine zW ?_;intros;refine Yd (fun q σ fz' H'=>∃ (iz jz:Int) (i j:Nat) (cur1:List Value) (A B C E:List Action),q=i+j/\iz=i/\jz=j/\0<i/\0<j/\B.length=i/\C.length=j/\A.length+i=U.length/\σ=[(11,Zk jz),(10,Zk iz),(0,Zv g n cap),(2,Zk (P.length+U.length)),(4,vc)]/\fz=fz'/\H'=[(g,Zu cur1.toArray t)]/\A++(C++(B++E))=V++(U++Q)/\GrowB actionL t fz g n cap cur1 (P++(A++(B++(C++E)))))
  ⟨(P.length+U.length:Int) - P.length,(P.length+U.length+V.length:Int) - (P.length+U.length),U.length,V.length,cur,[],U,V,Q,rfl,by omega,by omega,hU,hV,rfl,rfl,by simp,rfl,rfl,rfl,rfl,hB⟩ Zw Zb ?_
 rintro q σ fz' H' ⟨_,_,i,j,cur1,A,B,C,E,rfl,rfl,rfl,hi,hj,lB,lC,hA,rfl,rfl,rfl,hT,hB1⟩;have hl1:=hB1.len;simp only [List.length_append] at hl1;refine zW ?_;intros;refine zC ?_ ?_<;>intro c1
 ·refine zW ?_;intros;refine zC ?_ ?_<;>intro c2
  ·have e:B=B.take j++B.drop j:=(List.take_append_drop j B).symm;have l1:(B.take j).length=j:=by rw [List.length_take];omega
   have l2:(B.drop j).length=i - j:=by rw [List.length_drop];omega
   generalize B.take j=B1 at*;generalize B.drop j=B2 at*;subst e;refine zW ?_;intros;refine Yc (Ym [_] [] Zz (Yde (P:=P++A) (X:=B1) (Y:=B2) (Z:=C) (Q:=E) (by simpa using hB1) l1 lC (by simp only [List.length_append];omega) (by simp only [List.length_append];omega)) (fun v4 fz4 H4 hle4 hR4=>?_) (hx:=rfl));obtain ⟨rfl,cur2,rfl,hB2⟩:=hR4;refine zW ?_;intros;exact wP (h:=by exact ⟨_,_,i - j,j,cur2,A++C,B2,B1,E,rfl,(Int.ofNat_sub Zi).symm,rfl,by omega,hj,l2,l1,by rw [List.length_append];omega,rfl,rfl,rfl,by rw [<- hT];simp,by simpa using hB2⟩)
  have e:C=C.take (j - i)++C.drop (j - i):=(List.take_append_drop _ C).symm;have l1:(C.take (j - i)).length=j - i:=by rw [List.length_take];omega
  have l2:(C.drop (j - i)).length=i:=by rw [List.length_drop];omega
  generalize C.take (j - i)=C1 at*;generalize C.drop (j - i)=C2 at*;subst e;refine zW ?_;intros;refine Yc (Ym [_] [] Zz (Yde (P:=P++A) (X:=B) (Y:=C1) (Z:=C2) (Q:=E) (by simpa using hB1) lB l2 (by simp only [List.length_append];omega) (by simp only [List.length_append];omega)) (fun v4 fz4 H4 hle4 hR4=>?_) (hx:=rfl));obtain ⟨rfl,cur2,rfl,hB2⟩:=hR4;refine zW ?_;intros;exact wP (h:=by exact ⟨_,_,i,j - i,cur2,A,C2,C1,B++E,rfl,rfl,(Int.ofNat_sub Zi).symm,hi,by omega,l2,l1,hA,rfl,rfl,rfl,by rw [<- hT];simp,by simpa using hB2⟩)
 have hij:i=j:=by omega
 subst hij;refine zW ?_;intros;refine Yc (Ym [_] [] Zz (Yde (P:=P++A) (X:=B) (Y:=[]) (Z:=C) (Q:=E) (by simpa using hB1) lB lC (by simp only [List.length_append];omega) (by simp only [List.length_append,List.length_nil];omega)) (fun v4 fz4 H4 hle4 hR4=>?_) (hx:=rfl));obtain ⟨rfl,cur2,rfl,hB2⟩:=hR4;refine zW ?_;intros;exact YP rfl Zb ⟨rfl,cur2,rfl,by
  have e:P++(V++(U++Q))=P++A++(C++([]++(B++E))):=by rw [<- hT];simp
  rw [e];exact hB2⟩
theorem Yih {cap:Nat} {cur:List Value} {P U V Q:List Durative} {vc:Value} (hB:GrowB durativeL t fz g n cap cur (P++(U++(V++Q)))) (hU:0<U.length) (hV:0<V.length) {a m b:Int} (ha:a=P.length) (hm:m=P.length+U.length) (hb:b=P.length+U.length+V.length):
 GFn prog 175 [Zv g n cap,Zk a,Zk m,Zk b,vc] fz [(g,Zu cur.toArray t)]
  (fun _ fz' H'=>fz=fz'/\∃ cur',H'=[(g,Zu (List.toArray cur') t)]/\GrowB durativeL t fz g n cap cur' (P++(V++(U++Q)))):=by
 have hl:=hB.len;have hcn:=hB.capn;have hmax:=hB.max;unfold maxLen at hmax;simp only [List.length_append] at hl;subst ha hm hb;refine zF Tryz.func175 Tryz.ntmps175 (fun w0=>?_);refine zW ?_;intros;refine Yd (fun q σ fz' H'=>∃ (iz jz:Int) (i j:Nat) (cur1:List Value) (A B C E:List Durative),q=i+j/\iz=i/\jz=j/\0<i/\0<j/\B.length=i/\C.length=j/\A.length+i=U.length/\σ=[(11,Zk jz),(10,Zk iz),(0,Zv g n cap),(2,Zk (P.length+U.length)),(4,vc)]/\fz=fz'/\H'=[(g,Zu cur1.toArray t)]/\A++(C++(B++E))=V++(U++Q)/\GrowB durativeL t fz g n cap cur1 (P++(A++(B++(C++E)))))
  ⟨(P.length+U.length:Int) - P.length,(P.length+U.length+V.length:Int) - (P.length+U.length),U.length,V.length,cur,[],U,V,Q,rfl,by omega,by omega,hU,hV,rfl,rfl,by simp,rfl,rfl,rfl,rfl,hB⟩ Zw Zb ?_
 rintro q σ fz' H' ⟨_,_,i,j,cur1,A,B,C,E,rfl,rfl,rfl,hi,hj,lB,lC,hA,rfl,rfl,rfl,hT,hB1⟩;have hl1:=hB1.len;simp only [List.length_append] at hl1;refine zW ?_;intros;refine zC ?_ ?_<;>intro c1
 ·refine zW ?_;intros;refine zC ?_ ?_<;>intro c2
  ·have e:B=B.take j++B.drop j:=(List.take_append_drop j B).symm;have l1:(B.take j).length=j:=by rw [List.length_take];omega
   have l2:(B.drop j).length=i - j:=by rw [List.length_drop];omega
   generalize B.take j=B1 at*;generalize B.drop j=B2 at*;subst e;refine zW ?_;intros;refine Yc (Ym [_] [] Zz (Ydd (P:=P++A) (X:=B1) (Y:=B2) (Z:=C) (Q:=E) (by simpa using hB1) l1 lC (by simp only [List.length_append];omega) (by simp only [List.length_append];omega)) (fun v4 fz4 H4 hle4 hR4=>?_) (hx:=rfl));obtain ⟨rfl,cur2,rfl,hB2⟩:=hR4;refine zW ?_;intros;exact wP (h:=by exact ⟨_,_,i - j,j,cur2,A++C,B2,B1,E,rfl,(Int.ofNat_sub Zi).symm,rfl,by omega,hj,l2,l1,by rw [List.length_append];omega,rfl,rfl,rfl,by rw [<- hT];simp,by simpa using hB2⟩)
  have e:C=C.take (j - i)++C.drop (j - i):=(List.take_append_drop _ C).symm;have l1:(C.take (j - i)).length=j - i:=by rw [List.length_take];omega
  have l2:(C.drop (j - i)).length=i:=by rw [List.length_drop];omega
  generalize C.take (j - i)=C1 at*;generalize C.drop (j - i)=C2 at*;subst e;refine zW ?_;intros;refine Yc (Ym [_] [] Zz (Ydd (P:=P++A) (X:=B) (Y:=C1) (Z:=C2) (Q:=E) (by simpa using hB1) lB l2 (by simp only [List.length_append];omega) (by simp only [List.length_append];omega)) (fun v4 fz4 H4 hle4 hR4=>?_) (hx:=rfl));obtain ⟨rfl,cur2,rfl,hB2⟩:=hR4;refine zW ?_;intros;exact wP (h:=by exact ⟨_,_,i,j - i,cur2,A,C2,C1,B++E,rfl,rfl,(Int.ofNat_sub Zi).symm,hi,by omega,l2,l1,hA,rfl,rfl,rfl,by rw [<- hT];simp,by simpa using hB2⟩)
 have hij:i=j:=by omega
 subst hij;refine zW ?_;intros;refine Yc (Ym [_] [] Zz (Ydd (P:=P++A) (X:=B) (Y:=[]) (Z:=C) (Q:=E) (by simpa using hB1) lB lC (by simp only [List.length_append];omega) (by simp only [List.length_append,List.length_nil];omega)) (fun v4 fz4 H4 hle4 hR4=>?_) (hx:=rfl));obtain ⟨rfl,cur2,rfl,hB2⟩:=hR4;refine zW ?_;intros;exact YP rfl Zb ⟨rfl,cur2,rfl,by
  have e:P++(V++(U++Q))=P++A++(C++([]++(B++E))):=by rw [<- hT];simp
  rw [e];exact hB2⟩
theorem Yid {cap:Nat} {cur:List Value} {P U V Q:List Value_} {vc:Value} (hB:GrowB valueL t fz g n cap cur (P++(U++(V++Q)))) (hU:0<U.length) (hV:0<V.length) {a m b:Int} (ha:a=P.length) (hm:m=P.length+U.length) (hb:b=P.length+U.length+V.length):
 GFn prog 187 [Zv g n cap,Zk a,Zk m,Zk b,vc] fz [(g,Zu cur.toArray t)]
  (fun _ fz' H'=>fz=fz'/\∃ cur',H'=[(g,Zu (List.toArray cur') t)]/\GrowB valueL t fz g n cap cur' (P++(V++(U++Q)))):=by
 have hl:=hB.len;have hcn:=hB.capn;have hmax:=hB.max;unfold maxLen at hmax;simp only [List.length_append] at hl;subst ha hm hb;refine zF Tryz.func187 Tryz.ntmps187 (fun w0=>?_);refine zW ?_;intros;refine Yd (fun q σ fz' H'=>∃ (iz jz:Int) (i j:Nat) (cur1:List Value) (A B C E:List Value_),q=i+j/\iz=i/\jz=j/\0<i/\0<j/\B.length=i/\C.length=j/\A.length+i=U.length/\σ=[(11,Zk jz),(10,Zk iz),(0,Zv g n cap),(2,Zk (P.length+U.length)),(4,vc)]/\fz=fz'/\H'=[(g,Zu cur1.toArray t)]/\A++(C++(B++E))=V++(U++Q)/\GrowB valueL t fz g n cap cur1 (P++(A++(B++(C++E)))))
  ⟨(P.length+U.length:Int) - P.length,(P.length+U.length+V.length:Int) - (P.length+U.length),U.length,V.length,cur,[],U,V,Q,rfl,by omega,by omega,hU,hV,rfl,rfl,by simp,rfl,rfl,rfl,rfl,hB⟩ Zw Zb ?_
 rintro q σ fz' H' ⟨_,_,i,j,cur1,A,B,C,E,rfl,rfl,rfl,hi,hj,lB,lC,hA,rfl,rfl,rfl,hT,hB1⟩;have hl1:=hB1.len;simp only [List.length_append] at hl1;refine zW ?_;intros;refine zC ?_ ?_<;>intro c1
 ·refine zW ?_;intros;refine zC ?_ ?_<;>intro c2
  ·have e:B=B.take j++B.drop j:=(List.take_append_drop j B).symm;have l1:(B.take j).length=j:=by rw [List.length_take];omega
   have l2:(B.drop j).length=i - j:=by rw [List.length_drop];omega
   generalize B.take j=B1 at*;generalize B.drop j=B2 at*;subst e;refine zW ?_;intros;refine Yc (Ym [_] [] Zz (Yc9 (P:=P++A) (X:=B1) (Y:=B2) (Z:=C) (Q:=E) (by simpa using hB1) l1 lC (by simp only [List.length_append];omega) (by simp only [List.length_append];omega)) (fun v4 fz4 H4 hle4 hR4=>?_) (hx:=rfl));obtain ⟨rfl,cur2,rfl,hB2⟩:=hR4;refine zW ?_;intros;exact wP (h:=by exact ⟨_,_,i - j,j,cur2,A++C,B2,B1,E,rfl,(Int.ofNat_sub Zi).symm,rfl,by omega,hj,l2,l1,by rw [List.length_append];omega,rfl,rfl,rfl,by rw [<- hT];simp,by simpa using hB2⟩)
  have e:C=C.take (j - i)++C.drop (j - i):=(List.take_append_drop _ C).symm;have l1:(C.take (j - i)).length=j - i:=by rw [List.length_take];omega
  have l2:(C.drop (j - i)).length=i:=by rw [List.length_drop];omega
  generalize C.take (j - i)=C1 at*;generalize C.drop (j - i)=C2 at*;subst e;refine zW ?_;intros;refine Yc (Ym [_] [] Zz (Yc9 (P:=P++A) (X:=B) (Y:=C1) (Z:=C2) (Q:=E) (by simpa using hB1) lB l2 (by simp only [List.length_append];omega) (by simp only [List.length_append];omega)) (fun v4 fz4 H4 hle4 hR4=>?_) (hx:=rfl));obtain ⟨rfl,cur2,rfl,hB2⟩:=hR4;refine zW ?_;intros;exact wP (h:=by exact ⟨_,_,i,j - i,cur2,A,C2,C1,B++E,rfl,rfl,(Int.ofNat_sub Zi).symm,hi,by omega,l2,l1,hA,rfl,rfl,rfl,by rw [<- hT];simp,by simpa using hB2⟩)
 have hij:i=j:=by omega
 subst hij;refine zW ?_;intros;refine Yc (Ym [_] [] Zz (Yc9 (P:=P++A) (X:=B) (Y:=[]) (Z:=C) (Q:=E) (by simpa using hB1) lB lC (by simp only [List.length_append];omega) (by simp only [List.length_append,List.length_nil];omega)) (fun v4 fz4 H4 hle4 hR4=>?_) (hx:=rfl));obtain ⟨rfl,cur2,rfl,hB2⟩:=hR4;refine zW ?_;intros;exact YP rfl Zb ⟨rfl,cur2,rfl,by
  have e:P++(V++(U++Q))=P++A++(C++([]++(B++E))):=by rw [<- hT];simp
  rw [e];exact hB2⟩
end Go.Proofs.YtaaanbkahfeknaaGreatDoor
namespace Go.Lx
variable {α:Type} {l:List α}
abbrev ltC {α:Type} (cmp:α->α->Int):α->α->Prop:=fun x y=>cmp x y<0
def srtC {α:Type} (cmp:α->α->Int) (l:List α):List α:=Ya4 (ltC cmp) l
theorem Xb {cmp:α->α->Int}:(srtC cmp l).length=l.length:=Yem _ _ rfl
theorem XH {cmp:α->α->Int} (w:SWk (ltC cmp)):SrtS (ltC cmp) (srtC cmp l):=Yix w l
theorem WA {cmp:α->α->Int} (w:SWk (ltC cmp)) {s1 s2:List α} {x:α} (hs:srtC cmp l=s1++s2) (h1:∀ y,s2[0]?=some y->cmp x y<0) (h2:∀ z s,s1=s++ [z]->¬cmp x z<0):srtC cmp (l++ [x])=s1++x::s2:=by
 have h:=XH w (l:=l);have e:srtC cmp (l++ [x])=YL (ltC cmp) (srtC cmp l) [x]:=YaJ l x;rw [hs] at h e;rw [e];refine YfT w h h1 fun k hk z hz=>?_
 rcases List.eq_nil_or_concat s1 with rfl | ⟨s,z',rfl⟩
 ·cases hk
 rw [List.concat_eq_append] at hk hz;simp at hk;subst hk;rw [Xi rfl] at hz;injection hz with hz
 subst hz;exact h2 _ _ (List.concat_eq_append ..)
theorem srtC_one {cmp:α->α->Int} (u:α):srtC cmp [u]=[u]:=YK _
theorem WW {cmp:α->α->Int}:∀ U Q:List α,U++Q=srtC cmp (U.take 1)++(U.drop 1++Q)
 | [],_=>rfl
 | u::U,Q=>by show _=srtC cmp [u]++(U++Q);rw [srtC_one];rfl
end Go.Lx
namespace Go.Proofs.YtaaanbkahfeknaaGreatDoor
variable {fz:FZ} {g n:Nat} {t:TypeId}
def CmpQ {α:Type} (L:Lay α) (f:Nat) (fz:FZ) (cmp:α->α->Int):Prop:=∀ x y cs ds,L.rep fz x cs->L.rep fz y ds->QFn prog f [.agg cs.toArray,.agg ds.toArray] fz (Zk (cmp x y))
theorem Yep {cap fc:Nat} {cur:List Value} {P U Q:List Param} {cmp:Param->Param->Int} (hB:GrowB paramL t fz g n cap cur (P++(U++Q))) (hC:CmpQ paramL fc fz cmp) (w:SWk (ltC cmp)) (hn:n<=1000000000) {a b:Int} (ha:a=P.length) (hb:b=P.length+U.length):
 GFn prog 237 [Zv g n cap,Zk a,Zk b,.func (.func fc) #[] #[]] fz [(g,Zu cur.toArray t)]
  (fun _ fz' H'=>fz=fz'/\∃ cur',H'=[(g,Zu (List.toArray cur') t)]/\GrowB paramL t fz g n cap cur' (P++(srtC cmp U++Q))):=by
 have hl:=hB.len;have hcn:=hB.capn;have hmax:=hB.max;unfold maxLen at hmax;simp only [List.length_append] at hl;subst ha hb;refine zF Tryz.func237 Tryz.ntmps237 (fun w0=>?_);refine zW ?_;intros;refine Yd (fun q σ fz' H'=>∃ (z:Int) (k:Nat) (cur1:List Value),z=P.length+k/\1<=k/\q=U.length+1 - k/\σ=[(8,Zk z),(0,Zv g n cap),(1,Zk P.length),(2,Zk (P.length+U.length)),(3,.func (.func fc) #[] #[])]/\fz=fz'/\H'=[(g,Zu cur1.toArray t)]/\GrowB paramL t fz g n cap cur1 (P++(srtC cmp (U.take k)++(U.drop k++Q)))) ⟨_,1,cur,rfl,Zs _,rfl,rfl,rfl,rfl,by rw [<- WW];exact hB⟩ Zw Zb ?_;rintro q σ fz' H' ⟨_,k,cur1,rfl,hk,rfl,rfl,rfl,rfl,hB1⟩;refine zW ?_;intros;refine zC ?_ ?_<;>intro c1
 ·have hkU:k<U.length:=by omega
  have eU:U.drop k=U[k]'Zi::U.drop (k+1):=List.drop_eq_getElem_cons Zi;have eT:U.take (k+1)=U.take k++ [U[k]'Zi]:=by rw [List.take_add_one,List.getElem?_eq_getElem hkU];rfl
  generalize U[k]'Zi=x at eU eT;rw [eU] at hB1;have lS:(srtC cmp (U.take k)).length=k:=by rw [Xb,List.length_take];omega
  refine zW ?_;intros;refine Yd (fun q σ fz' H'=>∃ (z:Int) (s1 s2:List Param) (cur2:List Value),z=P.length+s1.length/\srtC cmp (U.take k)=s1++s2/\(∀ y,s2[0]?=some y->cmp x y<0)/\q=s1.length/\σ=[(9,Zk z),(8,Zk (P.length+k)),(0,Zv g n cap),(1,Zk P.length),(2,Zk (P.length+U.length)),(3,.func (.func fc) #[] #[])]/\fz=fz'/\H'=[(g,Zu cur2.toArray t)]/\GrowB paramL t fz g n cap cur2 (P++(s1++(x::(s2++(U.drop (k+1)++Q)))))) ⟨_,srtC cmp (U.take k),[],cur1,by rw [lS],(List.append_nil _).symm,by simp,rfl,rfl,rfl,rfl,hB1⟩ Zw Zb ?_;rintro q σ fz' H' ⟨_,s1,s2,cur2,rfl,hs,h1,rfl,rfl,rfl,rfl,hB2⟩;have fin:∀ (h2:∀ z s,s1=s++ [z]->¬cmp x z<0),GrowB paramL t fz g n cap cur2 (P++(srtC cmp (U.take (k+1))++(U.drop (k+1)++Q))):=fun h2=>by
   rw [eT,WA w hs h1 h2];simpa using hB2
  rcases List.eq_nil_or_concat s1 with rfl | ⟨s,z,rfl⟩
  ·refine zW ?_;intros;refine zC ?_ ?_<;>intro c2
   ·exact absurd c2 (by simp)
   refine zW ?_;intros;exact wP (h:=by exact ⟨(P.length+k:Int)+1,k+1,cur2,by omega,by omega,rfl,rfl,rfl,rfl,fin (fun z s h=>by simp at h)⟩)
  rw [List.concat_eq_append] at*;have ls:(s++ [z]).length=s.length+1:=by simp
  have lS2:=congrArg List.length hs;rw [lS,List.length_append,ls] at lS2;simp only [ls] at hcn ⊢;have hD:P++(s++ [z]++(x::(s2++(U.drop (k+1)++Q))))=(P++s)++z::([]++x::(s2++(U.drop (k+1)++Q))):=by simp
  rw [hD] at hB2;have lU:(P++s).length=P.length+s.length:=List.length_append;obtain ⟨cx,hx1,hx2⟩:=Yl hB2 (Y5 (j:=P.length+s.length+1) (by rw [lU];rfl));obtain ⟨cz,hz1,hz2⟩:=Yl hB2 (Xi (i:=P.length+s.length) Zi);have lz:=paramL.len hz1;have lx:=paramL.len hx1;refine zW ?_;intros;refine zC ?_ ?_<;>intro c2;rotate_left 1
  ·exact absurd c2 Zi
  refine zW ?_;intros;refine zG ?_;refine Yb rfl ?_;refine zG ?_;refine Ya (vs:=cx) 0 ?_ (hv:=hx2) (hs:=by exact lx.symm);refine zW ?_;intros;refine zG ?_;refine Yb rfl ?_;refine zG ?_;refine Ya (vs:=cz) 0 ?_ (hv:=by rw [show ((P.length:Int)+((s.length+1:Nat):Int) - 1).toNat=P.length+s.length by omega];exact hz2) (hs:=by exact lz.symm);refine zW ?_;intros
  ((refine zG ?_);refine YY (hC _ _ _ _ hx1 hz1) ?_);refine zW ?_;intros;refine zC ?_ ?_<;>intro c3;rotate_left 1
  ·refine zW ?_;intros;exact YJ ⟨(P.length+k:Int)+1,k+1,cur2,by omega,by omega,rfl,rfl,rfl,rfl,fin (fun y s' h=>by
    obtain ⟨_,h⟩:=List.append_inj' h rfl;injection h with h
    subst h;exact c3)⟩ Zi Zw Zb
  refine zWN ?_;intros;refine Wi [2,3,4] [_] ?_;refine zW ?_;intros;refine PK.p Zz (fun fz'=>by first | exact Yz rfl | exact Yr Zz rfl | exact Ye rfl | exact YM Zz Zz (Yh Zi) rfl | exact Yg rfl) ?_;refine PK.p Zz (fun fz'=>by first | exact Yz rfl | exact Yr Zz rfl | exact Ye rfl | exact YM Zz Zz (Yh Zi) rfl | exact Yg rfl) ?_;refine PK.p Zz (fun fz'=>Ybp Zz Zz (Yh Zi) rfl) ?_;refine zW ?_;intros;refine zG ?_;refine Yb rfl ?_;refine zG ?_;refine Ya (vs:=cz) 0 ?_ (hv:=by rw [show ((P.length:Int)+((s.length+1:Nat):Int) - 1).toNat=P.length+s.length by omega];exact hz2) (hs:=by exact lz.symm);refine zW ?_;intros;refine zG ?_;refine Yb rfl ?_;refine zG ?_;refine Ya (vs:=cx) 0 ?_ (hv:=hx2) (hs:=by exact lx.symm);refine zW ?_;intros;refine zG ?_;refine Yb rfl ?_;refine pT ?_;refine Yp ?_;refine PoS.hard0 (Yk (pre:=[]) (L:=paramL) (j:=P.length+s.length+1) rfl rfl XC hz1 hB2 (fun cur3 hB3=>?_));refine Yp ?_;refine PoS.hard (DoesQ.does (Yb rfl ?_));refine Yp ?_;refine PoS.hard0 (Yk (pre:=[]) (L:=paramL) (j:=((P.length:Int)+((s.length+1:Nat):Int) - 1).toNat) rfl rfl XC hx1 hB3 (fun cur4 hB4=>?_));refine Po.done ?_;rw [show ((P.length:Int)+((s.length+1:Nat):Int) - 1).toNat=P.length+s.length by omega,Xq Zi (by rw [lU];rfl)] at hB4;refine zW ?_;intros;exact wP (h:=by exact ⟨(P.length:Int)+((s.length+1:Nat):Int) - 1,s,z::s2,cur4,by omega,by rw [hs];simp,fun y hy=>by simp at hy;subst hy;exact c3,rfl,rfl,rfl,rfl,by simpa using hB4⟩)
 rw [Zl Zi,List.drop_of_length_le Zi] at hB1;refine zW ?_;intros;exact YP rfl Zb ⟨rfl,cur1,rfl,hB1⟩
theorem Yeo {cap fc:Nat} {cur:List Value} {P U Q:List Predicate} {cmp:Predicate->Predicate->Int} (hB:GrowB predicateL t fz g n cap cur (P++(U++Q))) (hC:CmpQ predicateL fc fz cmp) (w:SWk (ltC cmp)) (hn:n<=1000000000) {a b:Int} (ha:a=P.length) (hb:b=P.length+U.length):
 GFn prog 103 [Zv g n cap,Zk a,Zk b,.func (.func fc) #[] #[]] fz [(g,Zu cur.toArray t)]
  (fun _ fz' H'=>fz=fz'/\∃ cur',H'=[(g,Zu (List.toArray cur') t)]/\GrowB predicateL t fz g n cap cur' (P++(srtC cmp U++Q))):=by
 have hl:=hB.len;have hcn:=hB.capn;have hmax:=hB.max;unfold maxLen at hmax;simp only [List.length_append] at hl;subst ha hb;refine zF Tryz.func103 Tryz.ntmps103 (fun w0=>?_);refine zW ?_;intros;refine Yd (fun q σ fz' H'=>∃ (z:Int) (k:Nat) (cur1:List Value),z=P.length+k/\1<=k/\q=U.length+1 - k/\σ=[(8,Zk z),(0,Zv g n cap),(1,Zk P.length),(2,Zk (P.length+U.length)),(3,.func (.func fc) #[] #[])]/\fz=fz'/\H'=[(g,Zu cur1.toArray t)]/\GrowB predicateL t fz g n cap cur1 (P++(srtC cmp (U.take k)++(U.drop k++Q)))) ⟨_,1,cur,rfl,Zs _,rfl,rfl,rfl,rfl,by rw [<- WW];exact hB⟩ Zw Zb ?_;rintro q σ fz' H' ⟨_,k,cur1,rfl,hk,rfl,rfl,rfl,rfl,hB1⟩;refine zW ?_;intros;refine zC ?_ ?_<;>intro c1
 ·have hkU:k<U.length:=by omega
  have eU:U.drop k=U[k]'Zi::U.drop (k+1):=List.drop_eq_getElem_cons Zi;have eT:U.take (k+1)=U.take k++ [U[k]'Zi]:=by rw [List.take_add_one,List.getElem?_eq_getElem hkU];rfl
  generalize U[k]'Zi=x at eU eT;rw [eU] at hB1;have lS:(srtC cmp (U.take k)).length=k:=by rw [Xb,List.length_take];omega
  refine zW ?_;intros;refine Yd (fun q σ fz' H'=>∃ (z:Int) (s1 s2:List Predicate) (cur2:List Value),z=P.length+s1.length/\srtC cmp (U.take k)=s1++s2/\(∀ y,s2[0]?=some y->cmp x y<0)/\q=s1.length/\σ=[(9,Zk z),(8,Zk (P.length+k)),(0,Zv g n cap),(1,Zk P.length),(2,Zk (P.length+U.length)),(3,.func (.func fc) #[] #[])]/\fz=fz'/\H'=[(g,Zu cur2.toArray t)]/\GrowB predicateL t fz g n cap cur2 (P++(s1++(x::(s2++(U.drop (k+1)++Q)))))) ⟨_,srtC cmp (U.take k),[],cur1,by rw [lS],(List.append_nil _).symm,by simp,rfl,rfl,rfl,rfl,hB1⟩ Zw Zb ?_;rintro q σ fz' H' ⟨_,s1,s2,cur2,rfl,hs,h1,rfl,rfl,rfl,rfl,hB2⟩;have fin:∀ (h2:∀ z s,s1=s++ [z]->¬cmp x z<0),GrowB predicateL t fz g n cap cur2 (P++(srtC cmp (U.take (k+1))++(U.drop (k+1)++Q))):=fun h2=>by
   rw [eT,WA w hs h1 h2];simpa using hB2
  rcases List.eq_nil_or_concat s1 with rfl | ⟨s,z,rfl⟩
  ·refine zW ?_;intros;refine zC ?_ ?_<;>intro c2
   ·exact absurd c2 (by simp)
   refine zW ?_;intros;exact wP (h:=by exact ⟨(P.length+k:Int)+1,k+1,cur2,by omega,by omega,rfl,rfl,rfl,rfl,fin (fun z s h=>by simp at h)⟩)
  rw [List.concat_eq_append] at*;have ls:(s++ [z]).length=s.length+1:=by simp
  have lS2:=congrArg List.length hs;rw [lS,List.length_append,ls] at lS2;simp only [ls] at hcn ⊢;have hD:P++(s++ [z]++(x::(s2++(U.drop (k+1)++Q))))=(P++s)++z::([]++x::(s2++(U.drop (k+1)++Q))):=by simp
  rw [hD] at hB2;have lU:(P++s).length=P.length+s.length:=List.length_append;obtain ⟨cx,hx1,hx2⟩:=Yl hB2 (Y5 (j:=P.length+s.length+1) (by rw [lU];rfl));obtain ⟨cz,hz1,hz2⟩:=Yl hB2 (Xi (i:=P.length+s.length) Zi);have lz:=predicateL.len hz1;have lx:=predicateL.len hx1;refine zW ?_;intros;refine zC ?_ ?_<;>intro c2;rotate_left 1
  ·exact absurd c2 Zi
  refine zW ?_;intros;refine zG ?_;refine Yb rfl ?_;refine zG ?_;refine Ya (vs:=cx) 0 ?_ (hv:=hx2) (hs:=by exact lx.symm);refine zW ?_;intros;refine zG ?_;refine Yb rfl ?_;refine zG ?_;refine Ya (vs:=cz) 0 ?_ (hv:=by rw [show ((P.length:Int)+((s.length+1:Nat):Int) - 1).toNat=P.length+s.length by omega];exact hz2) (hs:=by exact lz.symm);refine zW ?_;intros
  ((refine zG ?_);refine YY (hC _ _ _ _ hx1 hz1) ?_);refine zW ?_;intros;refine zC ?_ ?_<;>intro c3;rotate_left 1
  ·refine zW ?_;intros;exact YJ ⟨(P.length+k:Int)+1,k+1,cur2,by omega,by omega,rfl,rfl,rfl,rfl,fin (fun y s' h=>by
    obtain ⟨_,h⟩:=List.append_inj' h rfl;injection h with h
    subst h;exact c3)⟩ Zi Zw Zb
  refine zWN ?_;intros;refine Wi [2,3,4] [_] ?_;refine zW ?_;intros;refine PK.p Zz (fun fz'=>by first | exact Yz rfl | exact Yr Zz rfl | exact Ye rfl | exact YM Zz Zz (Yh Zi) rfl | exact Yg rfl) ?_;refine PK.p Zz (fun fz'=>by first | exact Yz rfl | exact Yr Zz rfl | exact Ye rfl | exact YM Zz Zz (Yh Zi) rfl | exact Yg rfl) ?_;refine PK.p Zz (fun fz'=>Ybp Zz Zz (Yh Zi) rfl) ?_;refine zW ?_;intros;refine zG ?_;refine Yb rfl ?_;refine zG ?_;refine Ya (vs:=cz) 0 ?_ (hv:=by rw [show ((P.length:Int)+((s.length+1:Nat):Int) - 1).toNat=P.length+s.length by omega];exact hz2) (hs:=by exact lz.symm);refine zW ?_;intros;refine zG ?_;refine Yb rfl ?_;refine zG ?_;refine Ya (vs:=cx) 0 ?_ (hv:=hx2) (hs:=by exact lx.symm);refine zW ?_;intros;refine zG ?_;refine Yb rfl ?_;refine pT ?_;refine Yp ?_;refine PoS.hard0 (Yk (pre:=[]) (L:=predicateL) (j:=P.length+s.length+1) rfl rfl YW hz1 hB2 (fun cur3 hB3=>?_));refine Yp ?_;refine PoS.hard (DoesQ.does (Yb rfl ?_));refine Yp ?_;refine PoS.hard0 (Yk (pre:=[]) (L:=predicateL) (j:=((P.length:Int)+((s.length+1:Nat):Int) - 1).toNat) rfl rfl YW hx1 hB3 (fun cur4 hB4=>?_));refine Po.done ?_;rw [show ((P.length:Int)+((s.length+1:Nat):Int) - 1).toNat=P.length+s.length by omega,Xq Zi (by rw [lU];rfl)] at hB4;refine zW ?_;intros;exact wP (h:=by exact ⟨(P.length:Int)+((s.length+1:Nat):Int) - 1,s,z::s2,cur4,by omega,by rw [hs];simp,fun y hy=>by simp at hy;subst hy;exact c3,rfl,rfl,rfl,rfl,by simpa using hB4⟩)
 rw [Zl Zi,List.drop_of_length_le Zi] at hB1;refine zW ?_;intros;exact YP rfl Zb ⟨rfl,cur1,rfl,hB1⟩
theorem Yeq {cap fc:Nat} {cur:List Value} {P U Q:List Function} {cmp:Function->Function->Int} (hB:GrowB functionL t fz g n cap cur (P++(U++Q))) (hC:CmpQ functionL fc fz cmp) (w:SWk (ltC cmp)) (hn:n<=1000000000) {a b:Int} (ha:a=P.length) (hb:b=P.length+U.length):
 GFn prog 106 [Zv g n cap,Zk a,Zk b,.func (.func fc) #[] #[]] fz [(g,Zu cur.toArray t)]
  (fun _ fz' H'=>fz=fz'/\∃ cur',H'=[(g,Zu (List.toArray cur') t)]/\GrowB functionL t fz g n cap cur' (P++(srtC cmp U++Q))):=by
 have hl:=hB.len;have hcn:=hB.capn;have hmax:=hB.max;unfold maxLen at hmax;simp only [List.length_append] at hl;subst ha hb;refine zF Tryz.func106 Tryz.ntmps106 (fun w0=>?_);refine zW ?_;intros;refine Yd (fun q σ fz' H'=>∃ (z:Int) (k:Nat) (cur1:List Value),z=P.length+k/\1<=k/\q=U.length+1 - k/\σ=[(8,Zk z),(0,Zv g n cap),(1,Zk P.length),(2,Zk (P.length+U.length)),(3,.func (.func fc) #[] #[])]/\fz=fz'/\H'=[(g,Zu cur1.toArray t)]/\GrowB functionL t fz g n cap cur1 (P++(srtC cmp (U.take k)++(U.drop k++Q)))) ⟨_,1,cur,rfl,Zs _,rfl,rfl,rfl,rfl,by rw [<- WW];exact hB⟩ Zw Zb ?_;rintro q σ fz' H' ⟨_,k,cur1,rfl,hk,rfl,rfl,rfl,rfl,hB1⟩;refine zW ?_;intros;refine zC ?_ ?_<;>intro c1
 ·have hkU:k<U.length:=by omega
  have eU:U.drop k=U[k]'Zi::U.drop (k+1):=List.drop_eq_getElem_cons Zi;have eT:U.take (k+1)=U.take k++ [U[k]'Zi]:=by rw [List.take_add_one,List.getElem?_eq_getElem hkU];rfl
  generalize U[k]'Zi=x at eU eT;rw [eU] at hB1;have lS:(srtC cmp (U.take k)).length=k:=by rw [Xb,List.length_take];omega
  refine zW ?_;intros;refine Yd (fun q σ fz' H'=>∃ (z:Int) (s1 s2:List Function) (cur2:List Value),z=P.length+s1.length/\srtC cmp (U.take k)=s1++s2/\(∀ y,s2[0]?=some y->cmp x y<0)/\q=s1.length/\σ=[(9,Zk z),(8,Zk (P.length+k)),(0,Zv g n cap),(1,Zk P.length),(2,Zk (P.length+U.length)),(3,.func (.func fc) #[] #[])]/\fz=fz'/\H'=[(g,Zu cur2.toArray t)]/\GrowB functionL t fz g n cap cur2 (P++(s1++(x::(s2++(U.drop (k+1)++Q)))))) ⟨_,srtC cmp (U.take k),[],cur1,by rw [lS],(List.append_nil _).symm,by simp,rfl,rfl,rfl,rfl,hB1⟩ Zw Zb ?_;rintro q σ fz' H' ⟨_,s1,s2,cur2,rfl,hs,h1,rfl,rfl,rfl,rfl,hB2⟩;have fin:∀ (h2:∀ z s,s1=s++ [z]->¬cmp x z<0),GrowB functionL t fz g n cap cur2 (P++(srtC cmp (U.take (k+1))++(U.drop (k+1)++Q))):=fun h2=>by
   rw [eT,WA w hs h1 h2];simpa using hB2
  rcases List.eq_nil_or_concat s1 with rfl | ⟨s,z,rfl⟩
  ·refine zW ?_;intros;refine zC ?_ ?_<;>intro c2
   ·exact absurd c2 (by simp)
   refine zW ?_;intros;exact wP (h:=by exact ⟨(P.length+k:Int)+1,k+1,cur2,by omega,by omega,rfl,rfl,rfl,rfl,fin (fun z s h=>by simp at h)⟩)
  rw [List.concat_eq_append] at*;have ls:(s++ [z]).length=s.length+1:=by simp
  have lS2:=congrArg List.length hs;rw [lS,List.length_append,ls] at lS2;simp only [ls] at hcn ⊢;have hD:P++(s++ [z]++(x::(s2++(U.drop (k+1)++Q))))=(P++s)++z::([]++x::(s2++(U.drop (k+1)++Q))):=by simp
  rw [hD] at hB2;have lU:(P++s).length=P.length+s.length:=List.length_append;obtain ⟨cx,hx1,hx2⟩:=Yl hB2 (Y5 (j:=P.length+s.length+1) (by rw [lU];rfl));obtain ⟨cz,hz1,hz2⟩:=Yl hB2 (Xi (i:=P.length+s.length) Zi);have lz:=functionL.len hz1;have lx:=functionL.len hx1;refine zW ?_;intros;refine zC ?_ ?_<;>intro c2;rotate_left 1
  ·exact absurd c2 Zi
  refine zW ?_;intros;refine zG ?_;refine Yb rfl ?_;refine zG ?_;refine Ya (vs:=cx) 0 ?_ (hv:=hx2) (hs:=by exact lx.symm);refine zW ?_;intros;refine zG ?_;refine Yb rfl ?_;refine zG ?_;refine Ya (vs:=cz) 0 ?_ (hv:=by rw [show ((P.length:Int)+((s.length+1:Nat):Int) - 1).toNat=P.length+s.length by omega];exact hz2) (hs:=by exact lz.symm);refine zW ?_;intros
  ((refine zG ?_);refine YY (hC _ _ _ _ hx1 hz1) ?_);refine zW ?_;intros;refine zC ?_ ?_<;>intro c3;rotate_left 1
  ·refine zW ?_;intros;exact YJ ⟨(P.length+k:Int)+1,k+1,cur2,by omega,by omega,rfl,rfl,rfl,rfl,fin (fun y s' h=>by
    obtain ⟨_,h⟩:=List.append_inj' h rfl;injection h with h
    subst h;exact c3)⟩ Zi Zw Zb
  refine zWN ?_;intros;refine Wi [2,3,4] [_] ?_;refine zW ?_;intros;refine PK.p Zz (fun fz'=>by first | exact Yz rfl | exact Yr Zz rfl | exact Ye rfl | exact YM Zz Zz (Yh Zi) rfl | exact Yg rfl) ?_;refine PK.p Zz (fun fz'=>by first | exact Yz rfl | exact Yr Zz rfl | exact Ye rfl | exact YM Zz Zz (Yh Zi) rfl | exact Yg rfl) ?_;refine PK.p Zz (fun fz'=>Ybp Zz Zz (Yh Zi) rfl) ?_;refine zW ?_;intros;refine zG ?_;refine Yb rfl ?_;refine zG ?_;refine Ya (vs:=cz) 0 ?_ (hv:=by rw [show ((P.length:Int)+((s.length+1:Nat):Int) - 1).toNat=P.length+s.length by omega];exact hz2) (hs:=by exact lz.symm);refine zW ?_;intros;refine zG ?_;refine Yb rfl ?_;refine zG ?_;refine Ya (vs:=cx) 0 ?_ (hv:=hx2) (hs:=by exact lx.symm);refine zW ?_;intros;refine zG ?_;refine Yb rfl ?_;refine pT ?_;refine Yp ?_;refine PoS.hard0 (Yk (pre:=[]) (L:=functionL) (j:=P.length+s.length+1) rfl rfl Y6 hz1 hB2 (fun cur3 hB3=>?_));refine Yp ?_;refine PoS.hard (DoesQ.does (Yb rfl ?_));refine Yp ?_;refine PoS.hard0 (Yk (pre:=[]) (L:=functionL) (j:=((P.length:Int)+((s.length+1:Nat):Int) - 1).toNat) rfl rfl Y6 hx1 hB3 (fun cur4 hB4=>?_));refine Po.done ?_;rw [show ((P.length:Int)+((s.length+1:Nat):Int) - 1).toNat=P.length+s.length by omega,Xq Zi (by rw [lU];rfl)] at hB4;refine zW ?_;intros;exact wP (h:=by exact ⟨(P.length:Int)+((s.length+1:Nat):Int) - 1,s,z::s2,cur4,by omega,by rw [hs];simp,fun y hy=>by simp at hy;subst hy;exact c3,rfl,rfl,rfl,rfl,by simpa using hB4⟩)
 rw [Zl Zi,List.drop_of_length_le Zi] at hB1;refine zW ?_;intros;exact YP rfl Zb ⟨rfl,cur1,rfl,hB1⟩
theorem Yes {cap fc:Nat} {cur:List Value} {P U Q:List Action} {cmp:Action->Action->Int} (hB:GrowB actionL t fz g n cap cur (P++(U++Q))) (hC:CmpQ actionL fc fz cmp) (w:SWk (ltC cmp)) (hn:n<=1000000000) {a b:Int} (ha:a=P.length) (hb:b=P.length+U.length):
 GFn prog 108 [Zv g n cap,Zk a,Zk b,.func (.func fc) #[] #[]] fz [(g,Zu cur.toArray t)]
  (fun _ fz' H'=>fz=fz'/\∃ cur',H'=[(g,Zu (List.toArray cur') t)]/\GrowB actionL t fz g n cap cur' (P++(srtC cmp U++Q))):=by
 have hl:=hB.len;have hcn:=hB.capn;have hmax:=hB.max;unfold maxLen at hmax;simp only [List.length_append] at hl;subst ha hb;refine zF Tryz.func108 Tryz.ntmps108 (fun w0=>?_);refine zW ?_;intros;refine Yd (fun q σ fz' H'=>∃ (z:Int) (k:Nat) (cur1:List Value),z=P.length+k/\1<=k/\q=U.length+1 - k/\σ=[(8,Zk z),(0,Zv g n cap),(1,Zk P.length),(2,Zk (P.length+U.length)),(3,.func (.func fc) #[] #[])]/\fz=fz'/\H'=[(g,Zu cur1.toArray t)]/\GrowB actionL t fz g n cap cur1 (P++(srtC cmp (U.take k)++(U.drop k++Q)))) ⟨_,1,cur,rfl,Zs _,rfl,rfl,rfl,rfl,by rw [<- WW];exact hB⟩ Zw Zb ?_;rintro q σ fz' H' ⟨_,k,cur1,rfl,hk,rfl,rfl,rfl,rfl,hB1⟩;refine zW ?_;intros;refine zC ?_ ?_<;>intro c1
 ·have hkU:k<U.length:=by omega
  have eU:U.drop k=U[k]'Zi::U.drop (k+1):=List.drop_eq_getElem_cons Zi;have eT:U.take (k+1)=U.take k++ [U[k]'Zi]:=by rw [List.take_add_one,List.getElem?_eq_getElem hkU];rfl
  generalize U[k]'Zi=x at eU eT;rw [eU] at hB1;have lS:(srtC cmp (U.take k)).length=k:=by rw [Xb,List.length_take];omega
  refine zW ?_;intros;refine Yd (fun q σ fz' H'=>∃ (z:Int) (s1 s2:List Action) (cur2:List Value),z=P.length+s1.length/\srtC cmp (U.take k)=s1++s2/\(∀ y,s2[0]?=some y->cmp x y<0)/\q=s1.length/\σ=[(9,Zk z),(8,Zk (P.length+k)),(0,Zv g n cap),(1,Zk P.length),(2,Zk (P.length+U.length)),(3,.func (.func fc) #[] #[])]/\fz=fz'/\H'=[(g,Zu cur2.toArray t)]/\GrowB actionL t fz g n cap cur2 (P++(s1++(x::(s2++(U.drop (k+1)++Q)))))) ⟨_,srtC cmp (U.take k),[],cur1,by rw [lS],(List.append_nil _).symm,by simp,rfl,rfl,rfl,rfl,hB1⟩ Zw Zb ?_;rintro q σ fz' H' ⟨_,s1,s2,cur2,rfl,hs,h1,rfl,rfl,rfl,rfl,hB2⟩;have fin:∀ (h2:∀ z s,s1=s++ [z]->¬cmp x z<0),GrowB actionL t fz g n cap cur2 (P++(srtC cmp (U.take (k+1))++(U.drop (k+1)++Q))):=fun h2=>by
   rw [eT,WA w hs h1 h2];simpa using hB2
  rcases List.eq_nil_or_concat s1 with rfl | ⟨s,z,rfl⟩
  ·refine zW ?_;intros;refine zC ?_ ?_<;>intro c2
   ·exact absurd c2 (by simp)
   refine zW ?_;intros;exact wP (h:=by exact ⟨(P.length+k:Int)+1,k+1,cur2,by omega,by omega,rfl,rfl,rfl,rfl,fin (fun z s h=>by simp at h)⟩)
  rw [List.concat_eq_append] at*;have ls:(s++ [z]).length=s.length+1:=by simp
  have lS2:=congrArg List.length hs;rw [lS,List.length_append,ls] at lS2;simp only [ls] at hcn ⊢;have hD:P++(s++ [z]++(x::(s2++(U.drop (k+1)++Q))))=(P++s)++z::([]++x::(s2++(U.drop (k+1)++Q))):=by simp
  rw [hD] at hB2;have lU:(P++s).length=P.length+s.length:=List.length_append;obtain ⟨cx,hx1,hx2⟩:=Yl hB2 (Y5 (j:=P.length+s.length+1) (by rw [lU];rfl));obtain ⟨cz,hz1,hz2⟩:=Yl hB2 (Xi (i:=P.length+s.length) Zi);have lz:=actionL.len hz1;have lx:=actionL.len hx1;refine zW ?_;intros;refine zC ?_ ?_<;>intro c2;rotate_left 1
  ·exact absurd c2 Zi
  refine zW ?_;intros;refine zG ?_;refine Yb rfl ?_;refine zG ?_;refine Ya (vs:=cx) 0 ?_ (hv:=hx2) (hs:=by exact lx.symm);refine zW ?_;intros;refine zG ?_;refine Yb rfl ?_;refine zG ?_;refine Ya (vs:=cz) 0 ?_ (hv:=by rw [show ((P.length:Int)+((s.length+1:Nat):Int) - 1).toNat=P.length+s.length by omega];exact hz2) (hs:=by exact lz.symm);refine zW ?_;intros
  ((refine zG ?_);refine YY (hC _ _ _ _ hx1 hz1) ?_);refine zW ?_;intros;refine zC ?_ ?_<;>intro c3;rotate_left 1
  ·refine zW ?_;intros;exact YJ ⟨(P.length+k:Int)+1,k+1,cur2,by omega,by omega,rfl,rfl,rfl,rfl,fin (fun y s' h=>by
    obtain ⟨_,h⟩:=List.append_inj' h rfl;injection h with h
    subst h;exact c3)⟩ Zi Zw Zb
  refine zWN ?_;intros;refine Wi [2,3,4] [_] ?_;refine zW ?_;intros;refine PK.p Zz (fun fz'=>by first | exact Yz rfl | exact Yr Zz rfl | exact Ye rfl | exact YM Zz Zz (Yh Zi) rfl | exact Yg rfl) ?_;refine PK.p Zz (fun fz'=>by first | exact Yz rfl | exact Yr Zz rfl | exact Ye rfl | exact YM Zz Zz (Yh Zi) rfl | exact Yg rfl) ?_;refine PK.p Zz (fun fz'=>Ybp Zz Zz (Yh Zi) rfl) ?_;refine zW ?_;intros;refine zG ?_;refine Yb rfl ?_;refine zG ?_;refine Ya (vs:=cz) 0 ?_ (hv:=by rw [show ((P.length:Int)+((s.length+1:Nat):Int) - 1).toNat=P.length+s.length by omega];exact hz2) (hs:=by exact lz.symm);refine zW ?_;intros;refine zG ?_;refine Yb rfl ?_;refine zG ?_;refine Ya (vs:=cx) 0 ?_ (hv:=hx2) (hs:=by exact lx.symm);refine zW ?_;intros;refine zG ?_;refine Yb rfl ?_;refine pT ?_;refine Yp ?_;refine PoS.hard0 (Yk (pre:=[]) (L:=actionL) (j:=P.length+s.length+1) rfl rfl Xw hz1 hB2 (fun cur3 hB3=>?_));refine Yp ?_;refine PoS.hard (DoesQ.does (Yb rfl ?_));refine Yp ?_;refine PoS.hard0 (Yk (pre:=[]) (L:=actionL) (j:=((P.length:Int)+((s.length+1:Nat):Int) - 1).toNat) rfl rfl Xw hx1 hB3 (fun cur4 hB4=>?_));refine Po.done ?_;rw [show ((P.length:Int)+((s.length+1:Nat):Int) - 1).toNat=P.length+s.length by omega,Xq Zi (by rw [lU];rfl)] at hB4;refine zW ?_;intros;exact wP (h:=by exact ⟨(P.length:Int)+((s.length+1:Nat):Int) - 1,s,z::s2,cur4,by omega,by rw [hs];simp,fun y hy=>by simp at hy;subst hy;exact c3,rfl,rfl,rfl,rfl,by simpa using hB4⟩)
 rw [Zl Zi,List.drop_of_length_le Zi] at hB1;refine zW ?_;intros;exact YP rfl Zb ⟨rfl,cur1,rfl,hB1⟩
theorem Yer {cap fc:Nat} {cur:List Value} {P U Q:List Durative} {cmp:Durative->Durative->Int} (hB:GrowB durativeL t fz g n cap cur (P++(U++Q))) (hC:CmpQ durativeL fc fz cmp) (w:SWk (ltC cmp)) (hn:n<=1000000000) {a b:Int} (ha:a=P.length) (hb:b=P.length+U.length):
 GFn prog 110 [Zv g n cap,Zk a,Zk b,.func (.func fc) #[] #[]] fz [(g,Zu cur.toArray t)]
  (fun _ fz' H'=>fz=fz'/\∃ cur',H'=[(g,Zu (List.toArray cur') t)]/\GrowB durativeL t fz g n cap cur' (P++(srtC cmp U++Q))):=by
 have hl:=hB.len;have hcn:=hB.capn;have hmax:=hB.max;unfold maxLen at hmax;simp only [List.length_append] at hl;subst ha hb;refine zF Tryz.func110 Tryz.ntmps110 (fun w0=>?_);refine zW ?_;intros;refine Yd (fun q σ fz' H'=>∃ (z:Int) (k:Nat) (cur1:List Value),z=P.length+k/\1<=k/\q=U.length+1 - k/\σ=[(8,Zk z),(0,Zv g n cap),(1,Zk P.length),(2,Zk (P.length+U.length)),(3,.func (.func fc) #[] #[])]/\fz=fz'/\H'=[(g,Zu cur1.toArray t)]/\GrowB durativeL t fz g n cap cur1 (P++(srtC cmp (U.take k)++(U.drop k++Q)))) ⟨_,1,cur,rfl,Zs _,rfl,rfl,rfl,rfl,by rw [<- WW];exact hB⟩ Zw Zb ?_;rintro q σ fz' H' ⟨_,k,cur1,rfl,hk,rfl,rfl,rfl,rfl,hB1⟩;refine zW ?_;intros;refine zC ?_ ?_<;>intro c1
 ·have hkU:k<U.length:=by omega
  have eU:U.drop k=U[k]'Zi::U.drop (k+1):=List.drop_eq_getElem_cons Zi;have eT:U.take (k+1)=U.take k++ [U[k]'Zi]:=by rw [List.take_add_one,List.getElem?_eq_getElem hkU];rfl
  generalize U[k]'Zi=x at eU eT;rw [eU] at hB1;have lS:(srtC cmp (U.take k)).length=k:=by rw [Xb,List.length_take];omega
  refine zW ?_;intros;refine Yd (fun q σ fz' H'=>∃ (z:Int) (s1 s2:List Durative) (cur2:List Value),z=P.length+s1.length/\srtC cmp (U.take k)=s1++s2/\(∀ y,s2[0]?=some y->cmp x y<0)/\q=s1.length/\σ=[(9,Zk z),(8,Zk (P.length+k)),(0,Zv g n cap),(1,Zk P.length),(2,Zk (P.length+U.length)),(3,.func (.func fc) #[] #[])]/\fz=fz'/\H'=[(g,Zu cur2.toArray t)]/\GrowB durativeL t fz g n cap cur2 (P++(s1++(x::(s2++(U.drop (k+1)++Q)))))) ⟨_,srtC cmp (U.take k),[],cur1,by rw [lS],(List.append_nil _).symm,by simp,rfl,rfl,rfl,rfl,hB1⟩ Zw Zb ?_;rintro q σ fz' H' ⟨_,s1,s2,cur2,rfl,hs,h1,rfl,rfl,rfl,rfl,hB2⟩;have fin:∀ (h2:∀ z s,s1=s++ [z]->¬cmp x z<0),GrowB durativeL t fz g n cap cur2 (P++(srtC cmp (U.take (k+1))++(U.drop (k+1)++Q))):=fun h2=>by
   rw [eT,WA w hs h1 h2];simpa using hB2
  rcases List.eq_nil_or_concat s1 with rfl | ⟨s,z,rfl⟩
  ·refine zW ?_;intros;refine zC ?_ ?_<;>intro c2
   ·exact absurd c2 (by simp)
   refine zW ?_;intros;exact wP (h:=by exact ⟨(P.length+k:Int)+1,k+1,cur2,by omega,by omega,rfl,rfl,rfl,rfl,fin (fun z s h=>by simp at h)⟩)
  rw [List.concat_eq_append] at*;have ls:(s++ [z]).length=s.length+1:=by simp
  have lS2:=congrArg List.length hs;rw [lS,List.length_append,ls] at lS2;simp only [ls] at hcn ⊢;have hD:P++(s++ [z]++(x::(s2++(U.drop (k+1)++Q))))=(P++s)++z::([]++x::(s2++(U.drop (k+1)++Q))):=by simp
  rw [hD] at hB2;have lU:(P++s).length=P.length+s.length:=List.length_append;obtain ⟨cx,hx1,hx2⟩:=Yl hB2 (Y5 (j:=P.length+s.length+1) (by rw [lU];rfl));obtain ⟨cz,hz1,hz2⟩:=Yl hB2 (Xi (i:=P.length+s.length) Zi);have lz:=durativeL.len hz1;have lx:=durativeL.len hx1;refine zW ?_;intros;refine zC ?_ ?_<;>intro c2;rotate_left 1
  ·exact absurd c2 Zi
  refine zW ?_;intros;refine zG ?_;refine Yb rfl ?_;refine zG ?_;refine Ya (vs:=cx) 0 ?_ (hv:=hx2) (hs:=by exact lx.symm);refine zW ?_;intros;refine zG ?_;refine Yb rfl ?_;refine zG ?_;refine Ya (vs:=cz) 0 ?_ (hv:=by rw [show ((P.length:Int)+((s.length+1:Nat):Int) - 1).toNat=P.length+s.length by omega];exact hz2) (hs:=by exact lz.symm);refine zW ?_;intros
  ((refine zG ?_);refine YY (hC _ _ _ _ hx1 hz1) ?_);refine zW ?_;intros;refine zC ?_ ?_<;>intro c3;rotate_left 1
  ·refine zW ?_;intros;exact YJ ⟨(P.length+k:Int)+1,k+1,cur2,by omega,by omega,rfl,rfl,rfl,rfl,fin (fun y s' h=>by
    obtain ⟨_,h⟩:=List.append_inj' h rfl;injection h with h
    subst h;exact c3)⟩ Zi Zw Zb
  refine zWN ?_;intros;refine Wi [2,3,4] [_] ?_;refine zW ?_;intros;refine PK.p Zz (fun fz'=>by first | exact Yz rfl | exact Yr Zz rfl | exact Ye rfl | exact YM Zz Zz (Yh Zi) rfl | exact Yg rfl) ?_;refine PK.p Zz (fun fz'=>by first | exact Yz rfl | exact Yr Zz rfl | exact Ye rfl | exact YM Zz Zz (Yh Zi) rfl | exact Yg rfl) ?_;refine PK.p Zz (fun fz'=>Ybp Zz Zz (Yh Zi) rfl) ?_;refine zW ?_;intros;refine zG ?_;refine Yb rfl ?_;refine zG ?_;refine Ya (vs:=cz) 0 ?_ (hv:=by rw [show ((P.length:Int)+((s.length+1:Nat):Int) - 1).toNat=P.length+s.length by omega];exact hz2) (hs:=by exact lz.symm);refine zW ?_;intros;refine zG ?_;refine Yb rfl ?_;refine zG ?_;refine Ya (vs:=cx) 0 ?_ (hv:=hx2) (hs:=by exact lx.symm);refine zW ?_;intros;refine zG ?_;refine Yb rfl ?_;refine pT ?_;refine Yp ?_;refine PoS.hard0 (Yk (pre:=[]) (L:=durativeL) (j:=P.length+s.length+1) rfl rfl Y7 hz1 hB2 (fun cur3 hB3=>?_));refine Yp ?_;refine PoS.hard (DoesQ.does (Yb rfl ?_));refine Yp ?_;refine PoS.hard0 (Yk (pre:=[]) (L:=durativeL) (j:=((P.length:Int)+((s.length+1:Nat):Int) - 1).toNat) rfl rfl Y7 hx1 hB3 (fun cur4 hB4=>?_));refine Po.done ?_;rw [show ((P.length:Int)+((s.length+1:Nat):Int) - 1).toNat=P.length+s.length by omega,Xq Zi (by rw [lU];rfl)] at hB4;refine zW ?_;intros;exact wP (h:=by exact ⟨(P.length:Int)+((s.length+1:Nat):Int) - 1,s,z::s2,cur4,by omega,by rw [hs];simp,fun y hy=>by simp at hy;subst hy;exact c3,rfl,rfl,rfl,rfl,by simpa using hB4⟩)
 rw [Zl Zi,List.drop_of_length_le Zi] at hB1;refine zW ?_;intros;exact YP rfl Zb ⟨rfl,cur1,rfl,hB1⟩
theorem Yen {cap fc:Nat} {cur:List Value} {P U Q:List Value_} {cmp:Value_->Value_->Int} (hB:GrowB valueL t fz g n cap cur (P++(U++Q))) (hC:CmpQ valueL fc fz cmp) (w:SWk (ltC cmp)) (hn:n<=1000000000) {a b:Int} (ha:a=P.length) (hb:b=P.length+U.length):
 GFn prog 116 [Zv g n cap,Zk a,Zk b,.func (.func fc) #[] #[]] fz [(g,Zu cur.toArray t)]
  (fun _ fz' H'=>fz=fz'/\∃ cur',H'=[(g,Zu (List.toArray cur') t)]/\GrowB valueL t fz g n cap cur' (P++(srtC cmp U++Q))):=by
 have hl:=hB.len;have hcn:=hB.capn;have hmax:=hB.max;unfold maxLen at hmax;simp only [List.length_append] at hl;subst ha hb;refine zF Tryz.func116 Tryz.ntmps116 (fun w0=>?_);refine zW ?_;intros;refine Yd (fun q σ fz' H'=>∃ (z:Int) (k:Nat) (cur1:List Value),z=P.length+k/\1<=k/\q=U.length+1 - k/\σ=[(8,Zk z),(0,Zv g n cap),(1,Zk P.length),(2,Zk (P.length+U.length)),(3,.func (.func fc) #[] #[])]/\fz=fz'/\H'=[(g,Zu cur1.toArray t)]/\GrowB valueL t fz g n cap cur1 (P++(srtC cmp (U.take k)++(U.drop k++Q)))) ⟨_,1,cur,rfl,Zs _,rfl,rfl,rfl,rfl,by rw [<- WW];exact hB⟩ Zw Zb ?_;rintro q σ fz' H' ⟨_,k,cur1,rfl,hk,rfl,rfl,rfl,rfl,hB1⟩;refine zW ?_;intros;refine zC ?_ ?_<;>intro c1
 ·have hkU:k<U.length:=by omega
  have eU:U.drop k=U[k]'Zi::U.drop (k+1):=List.drop_eq_getElem_cons Zi;have eT:U.take (k+1)=U.take k++ [U[k]'Zi]:=by rw [List.take_add_one,List.getElem?_eq_getElem hkU];rfl
  generalize U[k]'Zi=x at eU eT;rw [eU] at hB1;have lS:(srtC cmp (U.take k)).length=k:=by rw [Xb,List.length_take];omega
  refine zW ?_;intros;refine Yd (fun q σ fz' H'=>∃ (z:Int) (s1 s2:List Value_) (cur2:List Value),z=P.length+s1.length/\srtC cmp (U.take k)=s1++s2/\(∀ y,s2[0]?=some y->cmp x y<0)/\q=s1.length/\σ=[(9,Zk z),(8,Zk (P.length+k)),(0,Zv g n cap),(1,Zk P.length),(2,Zk (P.length+U.length)),(3,.func (.func fc) #[] #[])]/\fz=fz'/\H'=[(g,Zu cur2.toArray t)]/\GrowB valueL t fz g n cap cur2 (P++(s1++(x::(s2++(U.drop (k+1)++Q)))))) ⟨_,srtC cmp (U.take k),[],cur1,by rw [lS],(List.append_nil _).symm,by simp,rfl,rfl,rfl,rfl,hB1⟩ Zw Zb ?_;rintro q σ fz' H' ⟨_,s1,s2,cur2,rfl,hs,h1,rfl,rfl,rfl,rfl,hB2⟩;have fin:∀ (h2:∀ z s,s1=s++ [z]->¬cmp x z<0),GrowB valueL t fz g n cap cur2 (P++(srtC cmp (U.take (k+1))++(U.drop (k+1)++Q))):=fun h2=>by
   rw [eT,WA w hs h1 h2];simpa using hB2
  rcases List.eq_nil_or_concat s1 with rfl | ⟨s,z,rfl⟩
  ·refine zW ?_;intros;refine zC ?_ ?_<;>intro c2
   ·exact absurd c2 (by simp)
   refine zW ?_;intros;exact wP (h:=by exact ⟨(P.length+k:Int)+1,k+1,cur2,by omega,by omega,rfl,rfl,rfl,rfl,fin (fun z s h=>by simp at h)⟩)
  rw [List.concat_eq_append] at*;have ls:(s++ [z]).length=s.length+1:=by simp
  have lS2:=congrArg List.length hs;rw [lS,List.length_append,ls] at lS2;simp only [ls] at hcn ⊢;have hD:P++(s++ [z]++(x::(s2++(U.drop (k+1)++Q))))=(P++s)++z::([]++x::(s2++(U.drop (k+1)++Q))):=by simp
  rw [hD] at hB2;have lU:(P++s).length=P.length+s.length:=List.length_append;obtain ⟨cx,hx1,hx2⟩:=Yl hB2 (Y5 (j:=P.length+s.length+1) (by rw [lU];rfl));obtain ⟨cz,hz1,hz2⟩:=Yl hB2 (Xi (i:=P.length+s.length) Zi);have lz:=valueL.len hz1;have lx:=valueL.len hx1;refine zW ?_;intros;refine zC ?_ ?_<;>intro c2;rotate_left 1
  ·exact absurd c2 Zi
  refine zW ?_;intros;refine zG ?_;refine Yb rfl ?_;refine zG ?_;refine Ya (vs:=cx) 0 ?_ (hv:=hx2) (hs:=by exact lx.symm);refine zW ?_;intros;refine zG ?_;refine Yb rfl ?_;refine zG ?_;refine Ya (vs:=cz) 0 ?_ (hv:=by rw [show ((P.length:Int)+((s.length+1:Nat):Int) - 1).toNat=P.length+s.length by omega];exact hz2) (hs:=by exact lz.symm);refine zW ?_;intros
  ((refine zG ?_);refine YY (hC _ _ _ _ hx1 hz1) ?_);refine zW ?_;intros;refine zC ?_ ?_<;>intro c3;rotate_left 1
  ·refine zW ?_;intros;exact YJ ⟨(P.length+k:Int)+1,k+1,cur2,by omega,by omega,rfl,rfl,rfl,rfl,fin (fun y s' h=>by
    obtain ⟨_,h⟩:=List.append_inj' h rfl;injection h with h
    subst h;exact c3)⟩ Zi Zw Zb
  refine zWN ?_;intros;refine Wi [2,3,4] [_] ?_;refine zW ?_;intros;refine PK.p Zz (fun fz'=>by first | exact Yz rfl | exact Yr Zz rfl | exact Ye rfl | exact YM Zz Zz (Yh Zi) rfl | exact Yg rfl) ?_;refine PK.p Zz (fun fz'=>by first | exact Yz rfl | exact Yr Zz rfl | exact Ye rfl | exact YM Zz Zz (Yh Zi) rfl | exact Yg rfl) ?_;refine PK.p Zz (fun fz'=>Ybp Zz Zz (Yh Zi) rfl) ?_;refine zW ?_;intros;refine zG ?_;refine Yb rfl ?_;refine zG ?_;refine Ya (vs:=cz) 0 ?_ (hv:=by rw [show ((P.length:Int)+((s.length+1:Nat):Int) - 1).toNat=P.length+s.length by omega];exact hz2) (hs:=by exact lz.symm);refine zW ?_;intros;refine zG ?_;refine Yb rfl ?_;refine zG ?_;refine Ya (vs:=cx) 0 ?_ (hv:=hx2) (hs:=by exact lx.symm);refine zW ?_;intros;refine zG ?_;refine Yb rfl ?_;refine pT ?_;refine Yp ?_;refine PoS.hard0 (Yk (pre:=[]) (L:=valueL) (j:=P.length+s.length+1) rfl rfl Xs hz1 hB2 (fun cur3 hB3=>?_));refine Yp ?_;refine PoS.hard (DoesQ.does (Yb rfl ?_));refine Yp ?_;refine PoS.hard0 (Yk (pre:=[]) (L:=valueL) (j:=((P.length:Int)+((s.length+1:Nat):Int) - 1).toNat) rfl rfl Xs hx1 hB3 (fun cur4 hB4=>?_));refine Po.done ?_;rw [show ((P.length:Int)+((s.length+1:Nat):Int) - 1).toNat=P.length+s.length by omega,Xq Zi (by rw [lU];rfl)] at hB4;refine zW ?_;intros;exact wP (h:=by exact ⟨(P.length:Int)+((s.length+1:Nat):Int) - 1,s,z::s2,cur4,by omega,by rw [hs];simp,fun y hy=>by simp at hy;subst hy;exact c3,rfl,rfl,rfl,rfl,by simpa using hB4⟩)
 rw [Zl Zi,List.drop_of_length_le Zi] at hB1;refine zW ?_;intros;exact YP rfl Zb ⟨rfl,cur1,rfl,hB1⟩
end Go.Proofs.YtaaanbkahfeknaaGreatDoor
namespace Go.Lx
open Go.RowKit
variable {i j n:Nat} {H:HP} {fz:FZ}
theorem half:((i:Int)+j).fdiv (2 ^ (min (1:Int).toNat IntKind.u64.bits))=((i+j) / 2:Nat):=by
 have:(2 ^ (min (1:Int).toNat IntKind.u64.bits):Int)=2:=by decide
 rw [this,Int.fdiv_eq_ediv_of_nonneg _ Zi];omega
theorem WL {n:Int} (h:0<=n/\n<=18446744073709551615):IntKind.u64.wrap n=n:=by
 simp [IntKind.wrap,IntKind.bits,IntKind.signed];omega
theorem YcH {P:Program} {cx:Cx} {σ:Env} {H':HP} {fn:Func} {R:Value->FZ->HP->Prop} (hres:fn.results=#[]) (hH:H'.Sublist H) (h:R (.tuple #[]) fz H'):retQ P cx n fn R .ret σ fz H:=by
 unfold retQ;exact ⟨.tuple #[],fun a w hs hw=>by simp [results,hres],Yhk hH h⟩
end Go.Lx
