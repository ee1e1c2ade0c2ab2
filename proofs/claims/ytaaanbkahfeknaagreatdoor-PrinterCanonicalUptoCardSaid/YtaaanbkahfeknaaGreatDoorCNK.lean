/- The texts NF, NG, NH, NQ, ShelfP, NL, NJ, laid together. Conditions: none. -/
import Derived.Test.YtaaanbkahfeknaaGreatDoorCNJ
import Derived.Shelf.Small.Strs
set_option linter.all false
set_option maxHeartbeats 8000000
set_option maxRecDepth 20000
open Go.Lx Go.RowKit
attribute [local instance 10] Classical.propDecidable
open Go.Proofs.Tryz (prog)
namespace Go.Lx
section
variable {α:Type} {cmp:α->α->Int} {l:List α} {B i j:Nat}
def segC (cmp:α->α->Int) (l:List α) (B i:Nat):List α:=srtC cmp ((l.drop (B*i)).take B)
def YA (cmp:α->α->Int) (l:List α) (B:Nat):Nat->Nat->List α
 | _,0=>[]
 | i,j+1=>segC cmp l B i++YA cmp l B (i+1) j
theorem XP (h:l.length<=B*i):segC cmp l B i=[]:=by
 unfold segC;rw [List.drop_of_length_le h];simp [srtC,Ya4]
theorem YeL:∀ {j i:Nat},l.length<=B*i->YA cmp l B i j=[]
 | 0,_,_=>rfl
 | j+1,i,h=>by
  rw [YA,XP h,YeL (j:=j) (i:=i+1) (by rw [Nat.mul_succ];omega)];rfl
theorem Wt (h:B*i+B<=l.length):(segC cmp l B i).length=B:=by
 unfold segC;rw [Xb,List.length_take,List.length_drop];omega
theorem YD:∀ {j i:Nat},YA cmp l B i (j+1)=YA cmp l B i j++segC cmp l B (i+j)
 | 0,i=>by simp [YA]
 | j+1,i=>by
  rw [YA,YD (j:=j) (i:=i+1),YA,List.append_assoc,show i+1+j=i+(j+1) by omega]
theorem XI:∀ {j i:Nat},B*(i+j)<=l.length->(YA cmp l B i j).length=B*j
 | 0,_,_=>rfl
 | j+1,i,h=>by
  have h0:B*(i+(j+1))=B*(i+j)+B:=Nat.mul_succ B (i+j);have h1:B*(i+j)=B*i+B*j:=Nat.mul_add B i j;have h2:B*(j+1)=B*j+B:=Nat.mul_succ B j;rw [YA,List.length_append,Wt Zi,XI (j:=j) (i:=i+1) (by rw [show i+1+j=i+(j+1) by omega];exact h)];omega
theorem srtC_app (w:SWk (ltC cmp)) (x y:List α):srtC cmp (x++y)=mrgC cmp (srtC cmp x) (srtC cmp y):=YbM w x _ y rfl
theorem Yap (w:SWk (ltC cmp)):mrgC cmp (segC cmp l B (2*i)) (segC cmp l B (2*i+1))=segC cmp l (2*B) i:=by
 unfold segC;rw [<- srtC_app w];have e:(l.drop (B*(2*i))).take B++(l.drop (B*(2*i+1))).take B=(l.drop (2*B*i)).take (2*B):=by
  rw [Nat.mul_succ,<- List.drop_drop,show 2*B*i=B*(2*i) by rw [Nat.mul_comm 2 B,Nat.mul_assoc],show 2*B=B+B by omega,List.take_add]
 rw [e]
theorem Yba (h1:l.length<=B*(i+j)) (h2:l.length<=B*(i+2)):YA cmp l B i j=segC cmp l B i++segC cmp l B (i+1):=by
 match j,h1 with
 | 0,h1=>
  rw [Nat.add_zero] at h1;rw [XP h1,XP (by rw [Nat.mul_succ];omega)];rfl
 | 1,h1=>rw [YA,YA,XP (i:=i+1) h1]
 | j+2,_=>rw [YA,YA,YeL (j:=j) h2,List.append_nil]
theorem Ybb (h1:l.length<=B) (h2:l.length<=B*j):YA cmp l B 0 j=srtC cmp l:=by
 match j,h2 with
 | 0,h2=>
  have:l=[]:=List.eq_nil_of_length_eq_zero (by simpa using h2);subst this;rfl
 | j+1,_=>rw [YA,YeL (by simpa using h1),List.append_nil,segC,Nat.mul_zero,List.drop_zero,Zl h1]
end
end Go.Lx
namespace Go.Proofs.YtaaanbkahfeknaaGreatDoor
variable {fz:FZ} {g n:Nat} {t:TypeId}
theorem Yh4 {cap fc:Nat} {cur:List Value} {l:List Param} {cmp:Param->Param->Int} (hB:GrowB paramL t fz g n cap cur l) (hC:CmpQ paramL fc fz cmp) (w:SWk (ltC cmp)) (hn:n<=1000000000):
 GFn prog 171 [Zv g n cap,Zk n,.func (.func fc) #[] #[]] fz [(g,Zu cur.toArray t)]
  (fun _ fz' H'=>fz=fz'/\∃ cur',H'=[(g,Zu (List.toArray cur') t)]/\GrowB paramL t fz g n cap cur' (srtC cmp l)):=by
 have hl:=hB.len;refine zF Tryz.func171 Tryz.ntmps171 (fun w0=>?_);refine zW ?_;intros;refine Yd (fun q σ fz' H'=>∃ (k:Nat) (cur1:List Value),20*k<=n/\q=n - 20*k/\σ=[(8,Zk (20*k+20:Nat)),(7,Zk (20*k:Nat)),(6,Zk 20),(0,Zv g n cap),(1,Zk n),(2,.func (.func fc) #[] #[])]/\fz=fz'/\H'=[(g,Zu cur1.toArray t)]/\GrowB paramL t fz g n cap cur1 (YA cmp l 20 0 k++l.drop (20*k))) ⟨0,cur,Z0 _,rfl,rfl,rfl,rfl,hB⟩ Zw Zb ?_;rintro q σ fz' H' ⟨k,cur1,hk,rfl,rfl,rfl,rfl,hB1⟩;have lS:(YA cmp l 20 0 k).length=20*k:=XI (by rw [Nat.zero_add];omega);refine zW ?_;intros;refine zC ?_ ?_<;>intro c1
 ·refine zW ?_;intros;refine Yc (Ym [_] [] Zz (Yep (P:=YA cmp l 20 0 k) (U:=(l.drop (20*k)).take 20) (Q:=l.drop (20*(k+1))) (by rw [Nat.mul_succ,<- List.drop_drop,List.take_append_drop];exact hB1) hC w hn (by rw [lS]) (by rw [lS,List.length_take,List.length_drop];omega)) (fun v4 fz4 H4 hle4 hR4=>?_) (hx:=rfl));obtain ⟨rfl,cur2,rfl,hB2⟩:=hR4;refine zW ?_;intros;exact wP (h:=by exact ⟨k+1,cur2,by omega,rfl,rfl,rfl,rfl,by rw [YD,Nat.zero_add];simpa [segC] using hB2⟩)
 refine zW ?_;intros;refine Yc (Ym [_] [] Zz (Yep (P:=YA cmp l 20 0 k) (U:=l.drop (20*k)) (Q:=[]) (by rw [List.append_nil];exact hB1) hC w hn (by rw [lS]) (by rw [lS,List.length_drop];omega)) (fun v4 fz4 H4 hle4 hR4=>?_) (hx:=rfl));obtain ⟨rfl,cur2,rfl,hB2⟩:=hR4;have e2:YA cmp l 20 0 k++(srtC cmp (l.drop (20*k))++ [])=YA cmp l 20 0 (k+1):=by
  rw [YD,Nat.zero_add,List.append_nil,segC,Zl (by rw [List.length_drop];omega)]
 rw [e2] at hB2;refine zW ?_;intros;refine Yd (fun q σ fz' H'=>∃ (B j:Nat) (cur1:List Value),20<=B/\B<=2*n+20/\n<=B*j/\q=n - B/\σ=[(6,Zk B),(0,Zv g n cap),(1,Zk n),(2,.func (.func fc) #[] #[])]/\fz=fz'/\H'=[(g,Zu cur1.toArray t)]/\GrowB paramL t fz g n cap cur1 (YA cmp l B 0 j)) ⟨20,k+1,cur2,Zs _,by omega,by omega,rfl,rfl,rfl,rfl,hB2⟩ Zw Zb ?_;rintro q σ fz' H' ⟨B,j,cur3,hB20,hBn,hj,rfl,rfl,rfl,rfl,hB3⟩;refine zW ?_;intros;refine zC ?_ ?_<;>intro c2
 ·refine zW ?_;intros;refine zG ?_;refine WG Zz Zz (Yh Zi) ?_;refine zW ?_;intros;refine Yd (fun q σ fz' H'=>∃ (z:Int) (a k j:Nat) (cur1:List Value),z=a+2*B/\a=2*B*k/\a<=n/\n<=B*(2*k+j)/\q=n - a/\σ=[(8,Zk z),(7,Zk a),(6,Zk B),(0,Zv g n cap),(1,Zk n),(2,.func (.func fc) #[] #[])]/\fz=fz'/\H'=[(g,Zu cur1.toArray t)]/\GrowB paramL t fz g n cap cur1 (YA cmp l (2*B) 0 k++YA cmp l B (2*k) j)) ⟨2*(B:Int),0,0,j,cur3,by omega,rfl,Z0 _,by simpa using hj,rfl,rfl,rfl,rfl,by simpa [YA] using hB3⟩ Zw Zb ?_;rintro q σ fz' H' ⟨_,a,k,j,cur4,rfl,ha,han,hj,rfl,rfl,rfl,rfl,hB4⟩;have x1:B*(2*k)=a:=by rw [ha,Nat.mul_comm 2 B,Nat.mul_assoc]
  have x2:B*(2*k+1)=a+B:=by rw [Nat.mul_succ,x1]
  have x3:B*(2*k+2)=a+B+B:=by rw [Nat.mul_succ,x2]
  have lS:(YA cmp l (2*B) 0 k).length=a:=by rw [XI (by rw [Nat.zero_add,<- ha];omega),ha]
  have s1:=XH w (l:=(l.drop (B*(2*k))).take B);have s2:=XH w (l:=(l.drop (B*(2*k+1))).take B);have l2:(segC cmp l B (2*k+1)).length=min B (n - (a+B)):=by unfold segC;rw [Xb,List.length_take,List.length_drop,x2,hl]
  have sm:=Yap (l:=l) (B:=B) (i:=k) w;refine zW ?_;intros;refine zC ?_ ?_<;>intro c3
  ·have l1:(segC cmp l B (2*k)).length=B:=Wt Zi;obtain ⟨j,rfl⟩:∃ i,j=i+2:=by
    match j,hj with
    | 0,hj=>rw [Nat.add_zero,x1] at hj;omega
    | 1,hj=>rw [x2] at hj;omega
    | j+2,_=>exact ⟨j,rfl⟩
   refine zW ?_;intros;refine Yc (Ym [_] [] Zz (YcP hC w hn _ (P:=YA cmp l (2*B) 0 k) (L:=segC cmp l B (2*k)) (R:=segC cmp l B (2*k+1)) (Q:=YA cmp l B (2*k+2) j) (Zs _) Zi Zi s1 s2 (by simpa [YA] using hB4) (by rw [lS]) (by rw [lS,l1];rfl) (by rw [lS,l1,l2];omega)) (fun v4 fz4 H4 hle4 hR4=>?_) (hx:=rfl));obtain ⟨rfl,cur5,rfl,hB5⟩:=hR4;rw [sm] at hB5;refine zW ?_;intros;refine zG ?_;refine WG Zz Zz (Yh Zi) ?_;refine zW ?_;intros;exact wP (h:=by exact ⟨(a:Int)+2*B+2*B,a+2*B,k+1,j,cur5,by omega,by rw [ha,Nat.mul_succ],by omega,by rw [show 2*(k+1)+j=2*k+(j+2) by omega];exact hj,rfl,rfl,rfl,rfl,by rw [YD,Nat.zero_add,List.append_assoc];exact hB5⟩)
  have x4:B*2*(k+1)=a+2*B:=by rw [Nat.mul_succ,Nat.mul_comm B 2,<- ha]
  rw [Yba (B:=B) (i:=2*k) (j:=j) Zi Zi] at hB4;refine zW ?_;intros;refine zC ?_ ?_<;>intro c4
  ·have l1:(segC cmp l B (2*k)).length=B:=Wt Zi;refine zW ?_;intros;refine Yc (Ym [_] [] Zz (YcP hC w hn _ (P:=YA cmp l (2*B) 0 k) (L:=segC cmp l B (2*k)) (R:=segC cmp l B (2*k+1)) (Q:=[]) (Zs _) Zi Zi s1 s2 (by simpa using hB4) (by rw [lS]) (by rw [lS,l1];rfl) (by rw [lS,l1,l2];omega)) (fun v4 fz4 H4 hle4 hR4=>?_) (hx:=rfl));obtain ⟨rfl,cur5,rfl,hB5⟩:=hR4;rw [sm] at hB5;refine zW ?_;intros;refine zG ?_;refine WG Zz Zz (Yh Zi) ?_;refine zW ?_;intros;exact wP (h:=by exact ⟨B*2,k+1,cur5,by omega,by omega,by omega,rfl,rfl,rfl,rfl,by rw [YD,Nat.zero_add,Nat.mul_comm B 2];simpa using hB5⟩)
  rw [XP (i:=2*k+1) Zi,Xc] at sm;rw [XP (i:=2*k+1) Zi,sm] at hB4;refine zW ?_;intros;refine zG ?_;refine WG Zz Zz (Yh Zi) ?_;refine zW ?_;intros;exact wP (h:=by exact ⟨B*2,k+1,cur4,by omega,by omega,by omega,rfl,rfl,rfl,rfl,by rw [YD,Nat.zero_add,Nat.mul_comm B 2];simpa using hB4⟩)
 rw [Ybb Zi Zi] at hB3;refine zW ?_;intros;exact YP rfl Zb ⟨rfl,cur3,rfl,hB3⟩
theorem Yh3 {cap fc:Nat} {cur:List Value} {l:List Predicate} {cmp:Predicate->Predicate->Int} (hB:GrowB predicateL t fz g n cap cur l) (hC:CmpQ predicateL fc fz cmp) (w:SWk (ltC cmp)) (hn:n<=1000000000):
 GFn prog 61 [Zv g n cap,Zk n,.func (.func fc) #[] #[]] fz [(g,Zu cur.toArray t)]
  (fun _ fz' H'=>fz=fz'/\∃ cur',H'=[(g,Zu (List.toArray cur') t)]/\GrowB predicateL t fz g n cap cur' (srtC cmp l)):=by
 have hl:=hB.len;refine zF Tryz.func61 Tryz.ntmps61 (fun w0=>?_);refine zW ?_;intros;refine Yd (fun q σ fz' H'=>∃ (k:Nat) (cur1:List Value),20*k<=n/\q=n - 20*k/\σ=[(8,Zk (20*k+20:Nat)),(7,Zk (20*k:Nat)),(6,Zk 20),(0,Zv g n cap),(1,Zk n),(2,.func (.func fc) #[] #[])]/\fz=fz'/\H'=[(g,Zu cur1.toArray t)]/\GrowB predicateL t fz g n cap cur1 (YA cmp l 20 0 k++l.drop (20*k))) ⟨0,cur,Z0 _,rfl,rfl,rfl,rfl,hB⟩ Zw Zb ?_;rintro q σ fz' H' ⟨k,cur1,hk,rfl,rfl,rfl,rfl,hB1⟩;have lS:(YA cmp l 20 0 k).length=20*k:=XI (by rw [Nat.zero_add];omega);refine zW ?_;intros;refine zC ?_ ?_<;>intro c1
 ·refine zW ?_;intros;refine Yc (Ym [_] [] Zz (Yeo (P:=YA cmp l 20 0 k) (U:=(l.drop (20*k)).take 20) (Q:=l.drop (20*(k+1))) (by rw [Nat.mul_succ,<- List.drop_drop,List.take_append_drop];exact hB1) hC w hn (by rw [lS]) (by rw [lS,List.length_take,List.length_drop];omega)) (fun v4 fz4 H4 hle4 hR4=>?_) (hx:=rfl));obtain ⟨rfl,cur2,rfl,hB2⟩:=hR4;refine zW ?_;intros;exact wP (h:=by exact ⟨k+1,cur2,by omega,rfl,rfl,rfl,rfl,by rw [YD,Nat.zero_add];simpa [segC] using hB2⟩)
 refine zW ?_;intros;refine Yc (Ym [_] [] Zz (Yeo (P:=YA cmp l 20 0 k) (U:=l.drop (20*k)) (Q:=[]) (by rw [List.append_nil];exact hB1) hC w hn (by rw [lS]) (by rw [lS,List.length_drop];omega)) (fun v4 fz4 H4 hle4 hR4=>?_) (hx:=rfl));obtain ⟨rfl,cur2,rfl,hB2⟩:=hR4;have e2:YA cmp l 20 0 k++(srtC cmp (l.drop (20*k))++ [])=YA cmp l 20 0 (k+1):=by
  rw [YD,Nat.zero_add,List.append_nil,segC,Zl (by rw [List.length_drop];omega)]
 rw [e2] at hB2;refine zW ?_;intros;refine Yd (fun q σ fz' H'=>∃ (B j:Nat) (cur1:List Value),20<=B/\B<=2*n+20/\n<=B*j/\q=n - B/\σ=[(6,Zk B),(0,Zv g n cap),(1,Zk n),(2,.func (.func fc) #[] #[])]/\fz=fz'/\H'=[(g,Zu cur1.toArray t)]/\GrowB predicateL t fz g n cap cur1 (YA cmp l B 0 j)) ⟨20,k+1,cur2,Zs _,by omega,by omega,rfl,rfl,rfl,rfl,hB2⟩ Zw Zb ?_;rintro q σ fz' H' ⟨B,j,cur3,hB20,hBn,hj,rfl,rfl,rfl,rfl,hB3⟩;refine zW ?_;intros;refine zC ?_ ?_<;>intro c2
 ·refine zW ?_;intros;refine zG ?_;refine WG Zz Zz (Yh Zi) ?_;refine zW ?_;intros;refine Yd (fun q σ fz' H'=>∃ (z:Int) (a k j:Nat) (cur1:List Value),z=a+2*B/\a=2*B*k/\a<=n/\n<=B*(2*k+j)/\q=n - a/\σ=[(8,Zk z),(7,Zk a),(6,Zk B),(0,Zv g n cap),(1,Zk n),(2,.func (.func fc) #[] #[])]/\fz=fz'/\H'=[(g,Zu cur1.toArray t)]/\GrowB predicateL t fz g n cap cur1 (YA cmp l (2*B) 0 k++YA cmp l B (2*k) j)) ⟨2*(B:Int),0,0,j,cur3,by omega,rfl,Z0 _,by simpa using hj,rfl,rfl,rfl,rfl,by simpa [YA] using hB3⟩ Zw Zb ?_;rintro q σ fz' H' ⟨_,a,k,j,cur4,rfl,ha,han,hj,rfl,rfl,rfl,rfl,hB4⟩;have x1:B*(2*k)=a:=by rw [ha,Nat.mul_comm 2 B,Nat.mul_assoc]
  have x2:B*(2*k+1)=a+B:=by rw [Nat.mul_succ,x1]
  have x3:B*(2*k+2)=a+B+B:=by rw [Nat.mul_succ,x2]
  have lS:(YA cmp l (2*B) 0 k).length=a:=by rw [XI (by rw [Nat.zero_add,<- ha];omega),ha]
  have s1:=XH w (l:=(l.drop (B*(2*k))).take B);have s2:=XH w (l:=(l.drop (B*(2*k+1))).take B);have l2:(segC cmp l B (2*k+1)).length=min B (n - (a+B)):=by unfold segC;rw [Xb,List.length_take,List.length_drop,x2,hl]
  have sm:=Yap (l:=l) (B:=B) (i:=k) w;refine zW ?_;intros;refine zC ?_ ?_<;>intro c3
  ·have l1:(segC cmp l B (2*k)).length=B:=Wt Zi;obtain ⟨j,rfl⟩:∃ i,j=i+2:=by
    match j,hj with
    | 0,hj=>rw [Nat.add_zero,x1] at hj;omega
    | 1,hj=>rw [x2] at hj;omega
    | j+2,_=>exact ⟨j,rfl⟩
   refine zW ?_;intros;refine Yc (Ym [_] [] Zz (YcO hC w hn _ (P:=YA cmp l (2*B) 0 k) (L:=segC cmp l B (2*k)) (R:=segC cmp l B (2*k+1)) (Q:=YA cmp l B (2*k+2) j) (Zs _) Zi Zi s1 s2 (by simpa [YA] using hB4) (by rw [lS]) (by rw [lS,l1];rfl) (by rw [lS,l1,l2];omega)) (fun v4 fz4 H4 hle4 hR4=>?_) (hx:=rfl));obtain ⟨rfl,cur5,rfl,hB5⟩:=hR4;rw [sm] at hB5;refine zW ?_;intros;refine zG ?_;refine WG Zz Zz (Yh Zi) ?_;refine zW ?_;intros;exact wP (h:=by exact ⟨(a:Int)+2*B+2*B,a+2*B,k+1,j,cur5,by omega,by rw [ha,Nat.mul_succ],by omega,by rw [show 2*(k+1)+j=2*k+(j+2) by omega];exact hj,rfl,rfl,rfl,rfl,by rw [YD,Nat.zero_add,List.append_assoc];exact hB5⟩)
  have x4:B*2*(k+1)=a+2*B:=by rw [Nat.mul_succ,Nat.mul_comm B 2,<- ha]
  rw [Yba (B:=B) (i:=2*k) (j:=j) Zi Zi] at hB4;refine zW ?_;intros;refine zC ?_ ?_<;>intro c4
  ·have l1:(segC cmp l B (2*k)).length=B:=Wt Zi;refine zW ?_;intros;refine Yc (Ym [_] [] Zz (YcO hC w hn _ (P:=YA cmp l (2*B) 0 k) (L:=segC cmp l B (2*k)) (R:=segC cmp l B (2*k+1)) (Q:=[]) (Zs _) Zi Zi s1 s2 (by simpa using hB4) (by rw [lS]) (by rw [lS,l1];rfl) (by rw [lS,l1,l2];omega)) (fun v4 fz4 H4 hle4 hR4=>?_) (hx:=rfl));obtain ⟨rfl,cur5,rfl,hB5⟩:=hR4;rw [sm] at hB5;refine zW ?_;intros;refine zG ?_;refine WG Zz Zz (Yh Zi) ?_;refine zW ?_;intros;exact wP (h:=by exact ⟨B*2,k+1,cur5,by omega,by omega,by omega,rfl,rfl,rfl,rfl,by rw [YD,Nat.zero_add,Nat.mul_comm B 2];simpa using hB5⟩)
  rw [XP (i:=2*k+1) Zi,Xc] at sm;rw [XP (i:=2*k+1) Zi,sm] at hB4;refine zW ?_;intros;refine zG ?_;refine WG Zz Zz (Yh Zi) ?_;refine zW ?_;intros;exact wP (h:=by exact ⟨B*2,k+1,cur4,by omega,by omega,by omega,rfl,rfl,rfl,rfl,by rw [YD,Nat.zero_add,Nat.mul_comm B 2];simpa using hB4⟩)
 rw [Ybb Zi Zi] at hB3;refine zW ?_;intros;exact YP rfl Zb ⟨rfl,cur3,rfl,hB3⟩
theorem Yh5 {cap fc:Nat} {cur:List Value} {l:List Function} {cmp:Function->Function->Int} (hB:GrowB functionL t fz g n cap cur l) (hC:CmpQ functionL fc fz cmp) (w:SWk (ltC cmp)) (hn:n<=1000000000):
 GFn prog 63 [Zv g n cap,Zk n,.func (.func fc) #[] #[]] fz [(g,Zu cur.toArray t)]
  (fun _ fz' H'=>fz=fz'/\∃ cur',H'=[(g,Zu (List.toArray cur') t)]/\GrowB functionL t fz g n cap cur' (srtC cmp l)):=by
 have hl:=hB.len;refine zF Tryz.func63 Tryz.ntmps63 (fun w0=>?_);refine zW ?_;intros;refine Yd (fun q σ fz' H'=>∃ (k:Nat) (cur1:List Value),20*k<=n/\q=n - 20*k/\σ=[(8,Zk (20*k+20:Nat)),(7,Zk (20*k:Nat)),(6,Zk 20),(0,Zv g n cap),(1,Zk n),(2,.func (.func fc) #[] #[])]/\fz=fz'/\H'=[(g,Zu cur1.toArray t)]/\GrowB functionL t fz g n cap cur1 (YA cmp l 20 0 k++l.drop (20*k))) ⟨0,cur,Z0 _,rfl,rfl,rfl,rfl,hB⟩ Zw Zb ?_;rintro q σ fz' H' ⟨k,cur1,hk,rfl,rfl,rfl,rfl,hB1⟩;have lS:(YA cmp l 20 0 k).length=20*k:=XI (by rw [Nat.zero_add];omega);refine zW ?_;intros;refine zC ?_ ?_<;>intro c1
 ·refine zW ?_;intros;refine Yc (Ym [_] [] Zz (Yeq (P:=YA cmp l 20 0 k) (U:=(l.drop (20*k)).take 20) (Q:=l.drop (20*(k+1))) (by rw [Nat.mul_succ,<- List.drop_drop,List.take_append_drop];exact hB1) hC w hn (by rw [lS]) (by rw [lS,List.length_take,List.length_drop];omega)) (fun v4 fz4 H4 hle4 hR4=>?_) (hx:=rfl));obtain ⟨rfl,cur2,rfl,hB2⟩:=hR4;refine zW ?_;intros;exact wP (h:=by exact ⟨k+1,cur2,by omega,rfl,rfl,rfl,rfl,by rw [YD,Nat.zero_add];simpa [segC] using hB2⟩)
 refine zW ?_;intros;refine Yc (Ym [_] [] Zz (Yeq (P:=YA cmp l 20 0 k) (U:=l.drop (20*k)) (Q:=[]) (by rw [List.append_nil];exact hB1) hC w hn (by rw [lS]) (by rw [lS,List.length_drop];omega)) (fun v4 fz4 H4 hle4 hR4=>?_) (hx:=rfl));obtain ⟨rfl,cur2,rfl,hB2⟩:=hR4;have e2:YA cmp l 20 0 k++(srtC cmp (l.drop (20*k))++ [])=YA cmp l 20 0 (k+1):=by
  rw [YD,Nat.zero_add,List.append_nil,segC,Zl (by rw [List.length_drop];omega)]
 rw [e2] at hB2;refine zW ?_;intros;refine Yd (fun q σ fz' H'=>∃ (B j:Nat) (cur1:List Value),20<=B/\B<=2*n+20/\n<=B*j/\q=n - B/\σ=[(6,Zk B),(0,Zv g n cap),(1,Zk n),(2,.func (.func fc) #[] #[])]/\fz=fz'/\H'=[(g,Zu cur1.toArray t)]/\GrowB functionL t fz g n cap cur1 (YA cmp l B 0 j)) ⟨20,k+1,cur2,Zs _,by omega,by omega,rfl,rfl,rfl,rfl,hB2⟩ Zw Zb ?_;rintro q σ fz' H' ⟨B,j,cur3,hB20,hBn,hj,rfl,rfl,rfl,rfl,hB3⟩;refine zW ?_;intros;refine zC ?_ ?_<;>intro c2
 ·refine zW ?_;intros;refine zG ?_;refine WG Zz Zz (Yh Zi) ?_;refine zW ?_;intros;refine Yd (fun q σ fz' H'=>∃ (z:Int) (a k j:Nat) (cur1:List Value),z=a+2*B/\a=2*B*k/\a<=n/\n<=B*(2*k+j)/\q=n - a/\σ=[(8,Zk z),(7,Zk a),(6,Zk B),(0,Zv g n cap),(1,Zk n),(2,.func (.func fc) #[] #[])]/\fz=fz'/\H'=[(g,Zu cur1.toArray t)]/\GrowB functionL t fz g n cap cur1 (YA cmp l (2*B) 0 k++YA cmp l B (2*k) j)) ⟨2*(B:Int),0,0,j,cur3,by omega,rfl,Z0 _,by simpa using hj,rfl,rfl,rfl,rfl,by simpa [YA] using hB3⟩ Zw Zb ?_;rintro q σ fz' H' ⟨_,a,k,j,cur4,rfl,ha,han,hj,rfl,rfl,rfl,rfl,hB4⟩;have x1:B*(2*k)=a:=by rw [ha,Nat.mul_comm 2 B,Nat.mul_assoc]
  have x2:B*(2*k+1)=a+B:=by rw [Nat.mul_succ,x1]
  have x3:B*(2*k+2)=a+B+B:=by rw [Nat.mul_succ,x2]
  have lS:(YA cmp l (2*B) 0 k).length=a:=by rw [XI (by rw [Nat.zero_add,<- ha];omega),ha]
  have s1:=XH w (l:=(l.drop (B*(2*k))).take B);have s2:=XH w (l:=(l.drop (B*(2*k+1))).take B);have l2:(segC cmp l B (2*k+1)).length=min B (n - (a+B)):=by unfold segC;rw [Xb,List.length_take,List.length_drop,x2,hl]
  have sm:=Yap (l:=l) (B:=B) (i:=k) w;refine zW ?_;intros;refine zC ?_ ?_<;>intro c3
  ·have l1:(segC cmp l B (2*k)).length=B:=Wt Zi;obtain ⟨j,rfl⟩:∃ i,j=i+2:=by
    match j,hj with
    | 0,hj=>rw [Nat.add_zero,x1] at hj;omega
    | 1,hj=>rw [x2] at hj;omega
    | j+2,_=>exact ⟨j,rfl⟩
   refine zW ?_;intros;refine Yc (Ym [_] [] Zz (YcQ hC w hn _ (P:=YA cmp l (2*B) 0 k) (L:=segC cmp l B (2*k)) (R:=segC cmp l B (2*k+1)) (Q:=YA cmp l B (2*k+2) j) (Zs _) Zi Zi s1 s2 (by simpa [YA] using hB4) (by rw [lS]) (by rw [lS,l1];rfl) (by rw [lS,l1,l2];omega)) (fun v4 fz4 H4 hle4 hR4=>?_) (hx:=rfl));obtain ⟨rfl,cur5,rfl,hB5⟩:=hR4;rw [sm] at hB5;refine zW ?_;intros;refine zG ?_;refine WG Zz Zz (Yh Zi) ?_;refine zW ?_;intros;exact wP (h:=by exact ⟨(a:Int)+2*B+2*B,a+2*B,k+1,j,cur5,by omega,by rw [ha,Nat.mul_succ],by omega,by rw [show 2*(k+1)+j=2*k+(j+2) by omega];exact hj,rfl,rfl,rfl,rfl,by rw [YD,Nat.zero_add,List.append_assoc];exact hB5⟩)
  have x4:B*2*(k+1)=a+2*B:=by rw [Nat.mul_succ,Nat.mul_comm B 2,<- ha]
  rw [Yba (B:=B) (i:=2*k) (j:=j) Zi Zi] at hB4;refine zW ?_;intros;refine zC ?_ ?_<;>intro c4
  ·have l1:(segC cmp l B (2*k)).length=B:=Wt Zi;refine zW ?_;intros;refine Yc (Ym [_] [] Zz (YcQ hC w hn _ (P:=YA cmp l (2*B) 0 k) (L:=segC cmp l B (2*k)) (R:=segC cmp l B (2*k+1)) (Q:=[]) (Zs _) Zi Zi s1 s2 (by simpa using hB4) (by rw [lS]) (by rw [lS,l1];rfl) (by rw [lS,l1,l2];omega)) (fun v4 fz4 H4 hle4 hR4=>?_) (hx:=rfl));obtain ⟨rfl,cur5,rfl,hB5⟩:=hR4;rw [sm] at hB5;refine zW ?_;intros;refine zG ?_;refine WG Zz Zz (Yh Zi) ?_;refine zW ?_;intros;exact wP (h:=by exact ⟨B*2,k+1,cur5,by omega,by omega,by omega,rfl,rfl,rfl,rfl,by rw [YD,Nat.zero_add,Nat.mul_comm B 2];simpa using hB5⟩)
  rw [XP (i:=2*k+1) Zi,Xc] at sm;rw [XP (i:=2*k+1) Zi,sm] at hB4;refine zW ?_;intros;refine zG ?_;refine WG Zz Zz (Yh Zi) ?_;refine zW ?_;intros;exact wP (h:=by exact ⟨B*2,k+1,cur4,by omega,by omega,by omega,rfl,rfl,rfl,rfl,by rw [YD,Nat.zero_add,Nat.mul_comm B 2];simpa using hB4⟩)
 rw [Ybb Zi Zi] at hB3;refine zW ?_;intros;exact YP rfl Zb ⟨rfl,cur3,rfl,hB3⟩
theorem Yh7 {cap fc:Nat} {cur:List Value} {l:List Action} {cmp:Action->Action->Int} (hB:GrowB actionL t fz g n cap cur l) (hC:CmpQ actionL fc fz cmp) (w:SWk (ltC cmp)) (hn:n<=1000000000):
 GFn prog 64 [Zv g n cap,Zk n,.func (.func fc) #[] #[]] fz [(g,Zu cur.toArray t)]
  (fun _ fz' H'=>fz=fz'/\∃ cur',H'=[(g,Zu (List.toArray cur') t)]/\GrowB actionL t fz g n cap cur' (srtC cmp l)):=by
 have hl:=hB.len;refine zF Tryz.func64 Tryz.ntmps64 (fun w0=>?_);refine zW ?_;intros;refine Yd (fun q σ fz' H'=>∃ (k:Nat) (cur1:List Value),20*k<=n/\q=n - 20*k/\σ=[(8,Zk (20*k+20:Nat)),(7,Zk (20*k:Nat)),(6,Zk 20),(0,Zv g n cap),(1,Zk n),(2,.func (.func fc) #[] #[])]/\fz=fz'/\H'=[(g,Zu cur1.toArray t)]/\GrowB actionL t fz g n cap cur1 (YA cmp l 20 0 k++l.drop (20*k))) ⟨0,cur,Z0 _,rfl,rfl,rfl,rfl,hB⟩ Zw Zb ?_;rintro q σ fz' H' ⟨k,cur1,hk,rfl,rfl,rfl,rfl,hB1⟩;have lS:(YA cmp l 20 0 k).length=20*k:=XI (by rw [Nat.zero_add];omega);refine zW ?_;intros;refine zC ?_ ?_<;>intro c1
 ·refine zW ?_;intros;refine Yc (Ym [_] [] Zz (Yes (P:=YA cmp l 20 0 k) (U:=(l.drop (20*k)).take 20) (Q:=l.drop (20*(k+1))) (by rw [Nat.mul_succ,<- List.drop_drop,List.take_append_drop];exact hB1) hC w hn (by rw [lS]) (by rw [lS,List.length_take,List.length_drop];omega)) (fun v4 fz4 H4 hle4 hR4=>?_) (hx:=rfl));obtain ⟨rfl,cur2,rfl,hB2⟩:=hR4;refine zW ?_;intros;exact wP (h:=by exact ⟨k+1,cur2,by omega,rfl,rfl,rfl,rfl,by rw [YD,Nat.zero_add];simpa [segC] using hB2⟩)
 refine zW ?_;intros;refine Yc (Ym [_] [] Zz (Yes (P:=YA cmp l 20 0 k) (U:=l.drop (20*k)) (Q:=[]) (by rw [List.append_nil];exact hB1) hC w hn (by rw [lS]) (by rw [lS,List.length_drop];omega)) (fun v4 fz4 H4 hle4 hR4=>?_) (hx:=rfl));obtain ⟨rfl,cur2,rfl,hB2⟩:=hR4;have e2:YA cmp l 20 0 k++(srtC cmp (l.drop (20*k))++ [])=YA cmp l 20 0 (k+1):=by
  rw [YD,Nat.zero_add,List.append_nil,segC,Zl (by rw [List.length_drop];omega)]
 rw [e2] at hB2;refine zW ?_;intros;refine Yd (fun q σ fz' H'=>∃ (B j:Nat) (cur1:List Value),20<=B/\B<=2*n+20/\n<=B*j/\q=n - B/\σ=[(6,Zk B),(0,Zv g n cap),(1,Zk n),(2,.func (.func fc) #[] #[])]/\fz=fz'/\H'=[(g,Zu cur1.toArray t)]/\GrowB actionL t fz g n cap cur1 (YA cmp l B 0 j)) ⟨20,k+1,cur2,Zs _,by omega,by omega,rfl,rfl,rfl,rfl,hB2⟩ Zw Zb ?_;rintro q σ fz' H' ⟨B,j,cur3,hB20,hBn,hj,rfl,rfl,rfl,rfl,hB3⟩;refine zW ?_;intros;refine zC ?_ ?_<;>intro c2
 ·refine zW ?_;intros;refine zG ?_;refine WG Zz Zz (Yh Zi) ?_;refine zW ?_;intros;refine Yd (fun q σ fz' H'=>∃ (z:Int) (a k j:Nat) (cur1:List Value),z=a+2*B/\a=2*B*k/\a<=n/\n<=B*(2*k+j)/\q=n - a/\σ=[(8,Zk z),(7,Zk a),(6,Zk B),(0,Zv g n cap),(1,Zk n),(2,.func (.func fc) #[] #[])]/\fz=fz'/\H'=[(g,Zu cur1.toArray t)]/\GrowB actionL t fz g n cap cur1 (YA cmp l (2*B) 0 k++YA cmp l B (2*k) j)) ⟨2*(B:Int),0,0,j,cur3,by omega,rfl,Z0 _,by simpa using hj,rfl,rfl,rfl,rfl,by simpa [YA] using hB3⟩ Zw Zb ?_;rintro q σ fz' H' ⟨_,a,k,j,cur4,rfl,ha,han,hj,rfl,rfl,rfl,rfl,hB4⟩;have x1:B*(2*k)=a:=by rw [ha,Nat.mul_comm 2 B,Nat.mul_assoc]
  have x2:B*(2*k+1)=a+B:=by rw [Nat.mul_succ,x1]
  have x3:B*(2*k+2)=a+B+B:=by rw [Nat.mul_succ,x2]
  have lS:(YA cmp l (2*B) 0 k).length=a:=by rw [XI (by rw [Nat.zero_add,<- ha];omega),ha]
  have s1:=XH w (l:=(l.drop (B*(2*k))).take B);have s2:=XH w (l:=(l.drop (B*(2*k+1))).take B);have l2:(segC cmp l B (2*k+1)).length=min B (n - (a+B)):=by unfold segC;rw [Xb,List.length_take,List.length_drop,x2,hl]
  have sm:=Yap (l:=l) (B:=B) (i:=k) w;refine zW ?_;intros;refine zC ?_ ?_<;>intro c3
  ·have l1:(segC cmp l B (2*k)).length=B:=Wt Zi;obtain ⟨j,rfl⟩:∃ i,j=i+2:=by
    match j,hj with
    | 0,hj=>rw [Nat.add_zero,x1] at hj;omega
    | 1,hj=>rw [x2] at hj;omega
    | j+2,_=>exact ⟨j,rfl⟩
   refine zW ?_;intros;refine Yc (Ym [_] [] Zz (YcS hC w hn _ (P:=YA cmp l (2*B) 0 k) (L:=segC cmp l B (2*k)) (R:=segC cmp l B (2*k+1)) (Q:=YA cmp l B (2*k+2) j) (Zs _) Zi Zi s1 s2 (by simpa [YA] using hB4) (by rw [lS]) (by rw [lS,l1];rfl) (by rw [lS,l1,l2];omega)) (fun v4 fz4 H4 hle4 hR4=>?_) (hx:=rfl));obtain ⟨rfl,cur5,rfl,hB5⟩:=hR4;rw [sm] at hB5;refine zW ?_;intros;refine zG ?_;refine WG Zz Zz (Yh Zi) ?_;refine zW ?_;intros;exact wP (h:=by exact ⟨(a:Int)+2*B+2*B,a+2*B,k+1,j,cur5,by omega,by rw [ha,Nat.mul_succ],by omega,by rw [show 2*(k+1)+j=2*k+(j+2) by omega];exact hj,rfl,rfl,rfl,rfl,by rw [YD,Nat.zero_add,List.append_assoc];exact hB5⟩)
  have x4:B*2*(k+1)=a+2*B:=by rw [Nat.mul_succ,Nat.mul_comm B 2,<- ha]
  rw [Yba (B:=B) (i:=2*k) (j:=j) Zi Zi] at hB4;refine zW ?_;intros;refine zC ?_ ?_<;>intro c4
  ·have l1:(segC cmp l B (2*k)).length=B:=Wt Zi;refine zW ?_;intros;refine Yc (Ym [_] [] Zz (YcS hC w hn _ (P:=YA cmp l (2*B) 0 k) (L:=segC cmp l B (2*k)) (R:=segC cmp l B (2*k+1)) (Q:=[]) (Zs _) Zi Zi s1 s2 (by simpa using hB4) (by rw [lS]) (by rw [lS,l1];rfl) (by rw [lS,l1,l2];omega)) (fun v4 fz4 H4 hle4 hR4=>?_) (hx:=rfl));obtain ⟨rfl,cur5,rfl,hB5⟩:=hR4;rw [sm] at hB5;refine zW ?_;intros;refine zG ?_;refine WG Zz Zz (Yh Zi) ?_;refine zW ?_;intros;exact wP (h:=by exact ⟨B*2,k+1,cur5,by omega,by omega,by omega,rfl,rfl,rfl,rfl,by rw [YD,Nat.zero_add,Nat.mul_comm B 2];simpa using hB5⟩)
  rw [XP (i:=2*k+1) Zi,Xc] at sm;rw [XP (i:=2*k+1) Zi,sm] at hB4;refine zW ?_;intros;refine zG ?_;refine WG Zz Zz (Yh Zi) ?_;refine zW ?_;intros;exact wP (h:=by exact ⟨B*2,k+1,cur4,by omega,by omega,by omega,rfl,rfl,rfl,rfl,by rw [YD,Nat.zero_add,Nat.mul_comm B 2];simpa using hB4⟩)
 rw [Ybb Zi Zi] at hB3;refine zW ?_;intros;exact YP rfl Zb ⟨rfl,cur3,rfl,hB3⟩
theorem Yh6 {cap fc:Nat} {cur:List Value} {l:List Durative} {cmp:Durative->Durative->Int} (hB:GrowB durativeL t fz g n cap cur l) (hC:CmpQ durativeL fc fz cmp) (w:SWk (ltC cmp)) (hn:n<=1000000000):
 GFn prog 65 [Zv g n cap,Zk n,.func (.func fc) #[] #[]] fz [(g,Zu cur.toArray t)]
  (fun _ fz' H'=>fz=fz'/\∃ cur',H'=[(g,Zu (List.toArray cur') t)]/\GrowB durativeL t fz g n cap cur' (srtC cmp l)):=by
 have hl:=hB.len;refine zF Tryz.func65 Tryz.ntmps65 (fun w0=>?_);refine zW ?_;intros;refine Yd (fun q σ fz' H'=>∃ (k:Nat) (cur1:List Value),20*k<=n/\q=n - 20*k/\σ=[(8,Zk (20*k+20:Nat)),(7,Zk (20*k:Nat)),(6,Zk 20),(0,Zv g n cap),(1,Zk n),(2,.func (.func fc) #[] #[])]/\fz=fz'/\H'=[(g,Zu cur1.toArray t)]/\GrowB durativeL t fz g n cap cur1 (YA cmp l 20 0 k++l.drop (20*k))) ⟨0,cur,Z0 _,rfl,rfl,rfl,rfl,hB⟩ Zw Zb ?_;rintro q σ fz' H' ⟨k,cur1,hk,rfl,rfl,rfl,rfl,hB1⟩;have lS:(YA cmp l 20 0 k).length=20*k:=XI (by rw [Nat.zero_add];omega);refine zW ?_;intros;refine zC ?_ ?_<;>intro c1
 ·refine zW ?_;intros;refine Yc (Ym [_] [] Zz (Yer (P:=YA cmp l 20 0 k) (U:=(l.drop (20*k)).take 20) (Q:=l.drop (20*(k+1))) (by rw [Nat.mul_succ,<- List.drop_drop,List.take_append_drop];exact hB1) hC w hn (by rw [lS]) (by rw [lS,List.length_take,List.length_drop];omega)) (fun v4 fz4 H4 hle4 hR4=>?_) (hx:=rfl));obtain ⟨rfl,cur2,rfl,hB2⟩:=hR4;refine zW ?_;intros;exact wP (h:=by exact ⟨k+1,cur2,by omega,rfl,rfl,rfl,rfl,by rw [YD,Nat.zero_add];simpa [segC] using hB2⟩)
 refine zW ?_;intros;refine Yc (Ym [_] [] Zz (Yer (P:=YA cmp l 20 0 k) (U:=l.drop (20*k)) (Q:=[]) (by rw [List.append_nil];exact hB1) hC w hn (by rw [lS]) (by rw [lS,List.length_drop];omega)) (fun v4 fz4 H4 hle4 hR4=>?_) (hx:=rfl));obtain ⟨rfl,cur2,rfl,hB2⟩:=hR4;have e2:YA cmp l 20 0 k++(srtC cmp (l.drop (20*k))++ [])=YA cmp l 20 0 (k+1):=by
  rw [YD,Nat.zero_add,List.append_nil,segC,Zl (by rw [List.length_drop];omega)]
 rw [e2] at hB2;refine zW ?_;intros;refine Yd (fun q σ fz' H'=>∃ (B j:Nat) (cur1:List Value),20<=B/\B<=2*n+20/\n<=B*j/\q=n - B/\σ=[(6,Zk B),(0,Zv g n cap),(1,Zk n),(2,.func (.func fc) #[] #[])]/\fz=fz'/\H'=[(g,Zu cur1.toArray t)]/\GrowB durativeL t fz g n cap cur1 (YA cmp l B 0 j)) ⟨20,k+1,cur2,Zs _,by omega,by omega,rfl,rfl,rfl,rfl,hB2⟩ Zw Zb ?_;rintro q σ fz' H' ⟨B,j,cur3,hB20,hBn,hj,rfl,rfl,rfl,rfl,hB3⟩;refine zW ?_;intros;refine zC ?_ ?_<;>intro c2
 ·refine zW ?_;intros;refine zG ?_;refine WG Zz Zz (Yh Zi) ?_;refine zW ?_;intros;refine Yd (fun q σ fz' H'=>∃ (z:Int) (a k j:Nat) (cur1:List Value),z=a+2*B/\a=2*B*k/\a<=n/\n<=B*(2*k+j)/\q=n - a/\σ=[(8,Zk z),(7,Zk a),(6,Zk B),(0,Zv g n cap),(1,Zk n),(2,.func (.func fc) #[] #[])]/\fz=fz'/\H'=[(g,Zu cur1.toArray t)]/\GrowB durativeL t fz g n cap cur1 (YA cmp l (2*B) 0 k++YA cmp l B (2*k) j)) ⟨2*(B:Int),0,0,j,cur3,by omega,rfl,Z0 _,by simpa using hj,rfl,rfl,rfl,rfl,by simpa [YA] using hB3⟩ Zw Zb ?_;rintro q σ fz' H' ⟨_,a,k,j,cur4,rfl,ha,han,hj,rfl,rfl,rfl,rfl,hB4⟩;have x1:B*(2*k)=a:=by rw [ha,Nat.mul_comm 2 B,Nat.mul_assoc]
  have x2:B*(2*k+1)=a+B:=by rw [Nat.mul_succ,x1]
  have x3:B*(2*k+2)=a+B+B:=by rw [Nat.mul_succ,x2]
  have lS:(YA cmp l (2*B) 0 k).length=a:=by rw [XI (by rw [Nat.zero_add,<- ha];omega),ha]
  have s1:=XH w (l:=(l.drop (B*(2*k))).take B);have s2:=XH w (l:=(l.drop (B*(2*k+1))).take B);have l2:(segC cmp l B (2*k+1)).length=min B (n - (a+B)):=by unfold segC;rw [Xb,List.length_take,List.length_drop,x2,hl]
  have sm:=Yap (l:=l) (B:=B) (i:=k) w;refine zW ?_;intros;refine zC ?_ ?_<;>intro c3
  ·have l1:(segC cmp l B (2*k)).length=B:=Wt Zi;obtain ⟨j,rfl⟩:∃ i,j=i+2:=by
    match j,hj with
    | 0,hj=>rw [Nat.add_zero,x1] at hj;omega
    | 1,hj=>rw [x2] at hj;omega
    | j+2,_=>exact ⟨j,rfl⟩
   refine zW ?_;intros;refine Yc (Ym [_] [] Zz (YcR hC w hn _ (P:=YA cmp l (2*B) 0 k) (L:=segC cmp l B (2*k)) (R:=segC cmp l B (2*k+1)) (Q:=YA cmp l B (2*k+2) j) (Zs _) Zi Zi s1 s2 (by simpa [YA] using hB4) (by rw [lS]) (by rw [lS,l1];rfl) (by rw [lS,l1,l2];omega)) (fun v4 fz4 H4 hle4 hR4=>?_) (hx:=rfl));obtain ⟨rfl,cur5,rfl,hB5⟩:=hR4;rw [sm] at hB5;refine zW ?_;intros;refine zG ?_;refine WG Zz Zz (Yh Zi) ?_;refine zW ?_;intros;exact wP (h:=by exact ⟨(a:Int)+2*B+2*B,a+2*B,k+1,j,cur5,by omega,by rw [ha,Nat.mul_succ],by omega,by rw [show 2*(k+1)+j=2*k+(j+2) by omega];exact hj,rfl,rfl,rfl,rfl,by rw [YD,Nat.zero_add,List.append_assoc];exact hB5⟩)
  have x4:B*2*(k+1)=a+2*B:=by rw [Nat.mul_succ,Nat.mul_comm B 2,<- ha]
  rw [Yba (B:=B) (i:=2*k) (j:=j) Zi Zi] at hB4;refine zW ?_;intros;refine zC ?_ ?_<;>intro c4
  ·have l1:(segC cmp l B (2*k)).length=B:=Wt Zi;refine zW ?_;intros;refine Yc (Ym [_] [] Zz (YcR hC w hn _ (P:=YA cmp l (2*B) 0 k) (L:=segC cmp l B (2*k)) (R:=segC cmp l B (2*k+1)) (Q:=[]) (Zs _) Zi Zi s1 s2 (by simpa using hB4) (by rw [lS]) (by rw [lS,l1];rfl) (by rw [lS,l1,l2];omega)) (fun v4 fz4 H4 hle4 hR4=>?_) (hx:=rfl));obtain ⟨rfl,cur5,rfl,hB5⟩:=hR4;rw [sm] at hB5;refine zW ?_;intros;refine zG ?_;refine WG Zz Zz (Yh Zi) ?_;refine zW ?_;intros;exact wP (h:=by exact ⟨B*2,k+1,cur5,by omega,by omega,by omega,rfl,rfl,rfl,rfl,by rw [YD,Nat.zero_add,Nat.mul_comm B 2];simpa using hB5⟩)
  rw [XP (i:=2*k+1) Zi,Xc] at sm;rw [XP (i:=2*k+1) Zi,sm] at hB4;refine zW ?_;intros;refine zG ?_;refine WG Zz Zz (Yh Zi) ?_;refine zW ?_;intros;exact wP (h:=by exact ⟨B*2,k+1,cur4,by omega,by omega,by omega,rfl,rfl,rfl,rfl,by rw [YD,Nat.zero_add,Nat.mul_comm B 2];simpa using hB4⟩)
 rw [Ybb Zi Zi] at hB3;refine zW ?_;intros;exact YP rfl Zb ⟨rfl,cur3,rfl,hB3⟩
theorem Yh2 {cap fc:Nat} {cur:List Value} {l:List Value_} {cmp:Value_->Value_->Int} (hB:GrowB valueL t fz g n cap cur l) (hC:CmpQ valueL fc fz cmp) (w:SWk (ltC cmp)) (hn:n<=1000000000):
 GFn prog 73 [Zv g n cap,Zk n,.func (.func fc) #[] #[]] fz [(g,Zu cur.toArray t)]
  (fun _ fz' H'=>fz=fz'/\∃ cur',H'=[(g,Zu (List.toArray cur') t)]/\GrowB valueL t fz g n cap cur' (srtC cmp l)):=by
 have hl:=hB.len;refine zF Tryz.func73 Tryz.ntmps73 (fun w0=>?_);refine zW ?_;intros;refine Yd (fun q σ fz' H'=>∃ (k:Nat) (cur1:List Value),20*k<=n/\q=n - 20*k/\σ=[(8,Zk (20*k+20:Nat)),(7,Zk (20*k:Nat)),(6,Zk 20),(0,Zv g n cap),(1,Zk n),(2,.func (.func fc) #[] #[])]/\fz=fz'/\H'=[(g,Zu cur1.toArray t)]/\GrowB valueL t fz g n cap cur1 (YA cmp l 20 0 k++l.drop (20*k))) ⟨0,cur,Z0 _,rfl,rfl,rfl,rfl,hB⟩ Zw Zb ?_;rintro q σ fz' H' ⟨k,cur1,hk,rfl,rfl,rfl,rfl,hB1⟩;have lS:(YA cmp l 20 0 k).length=20*k:=XI (by rw [Nat.zero_add];omega);refine zW ?_;intros;refine zC ?_ ?_<;>intro c1
 ·refine zW ?_;intros;refine Yc (Ym [_] [] Zz (Yen (P:=YA cmp l 20 0 k) (U:=(l.drop (20*k)).take 20) (Q:=l.drop (20*(k+1))) (by rw [Nat.mul_succ,<- List.drop_drop,List.take_append_drop];exact hB1) hC w hn (by rw [lS]) (by rw [lS,List.length_take,List.length_drop];omega)) (fun v4 fz4 H4 hle4 hR4=>?_) (hx:=rfl));obtain ⟨rfl,cur2,rfl,hB2⟩:=hR4;refine zW ?_;intros;exact wP (h:=by exact ⟨k+1,cur2,by omega,rfl,rfl,rfl,rfl,by rw [YD,Nat.zero_add];simpa [segC] using hB2⟩)
 refine zW ?_;intros;refine Yc (Ym [_] [] Zz (Yen (P:=YA cmp l 20 0 k) (U:=l.drop (20*k)) (Q:=[]) (by rw [List.append_nil];exact hB1) hC w hn (by rw [lS]) (by rw [lS,List.length_drop];omega)) (fun v4 fz4 H4 hle4 hR4=>?_) (hx:=rfl));obtain ⟨rfl,cur2,rfl,hB2⟩:=hR4;have e2:YA cmp l 20 0 k++(srtC cmp (l.drop (20*k))++ [])=YA cmp l 20 0 (k+1):=by
  rw [YD,Nat.zero_add,List.append_nil,segC,Zl (by rw [List.length_drop];omega)]
 rw [e2] at hB2;refine zW ?_;intros;refine Yd (fun q σ fz' H'=>∃ (B j:Nat) (cur1:List Value),20<=B/\B<=2*n+20/\n<=B*j/\q=n - B/\σ=[(6,Zk B),(0,Zv g n cap),(1,Zk n),(2,.func (.func fc) #[] #[])]/\fz=fz'/\H'=[(g,Zu cur1.toArray t)]/\GrowB valueL t fz g n cap cur1 (YA cmp l B 0 j)) ⟨20,k+1,cur2,Zs _,by omega,by omega,rfl,rfl,rfl,rfl,hB2⟩ Zw Zb ?_;rintro q σ fz' H' ⟨B,j,cur3,hB20,hBn,hj,rfl,rfl,rfl,rfl,hB3⟩;refine zW ?_;intros;refine zC ?_ ?_<;>intro c2
 ·refine zW ?_;intros;refine zG ?_;refine WG Zz Zz (Yh Zi) ?_;refine zW ?_;intros;refine Yd (fun q σ fz' H'=>∃ (z:Int) (a k j:Nat) (cur1:List Value),z=a+2*B/\a=2*B*k/\a<=n/\n<=B*(2*k+j)/\q=n - a/\σ=[(8,Zk z),(7,Zk a),(6,Zk B),(0,Zv g n cap),(1,Zk n),(2,.func (.func fc) #[] #[])]/\fz=fz'/\H'=[(g,Zu cur1.toArray t)]/\GrowB valueL t fz g n cap cur1 (YA cmp l (2*B) 0 k++YA cmp l B (2*k) j)) ⟨2*(B:Int),0,0,j,cur3,by omega,rfl,Z0 _,by simpa using hj,rfl,rfl,rfl,rfl,by simpa [YA] using hB3⟩ Zw Zb ?_;rintro q σ fz' H' ⟨_,a,k,j,cur4,rfl,ha,han,hj,rfl,rfl,rfl,rfl,hB4⟩;have x1:B*(2*k)=a:=by rw [ha,Nat.mul_comm 2 B,Nat.mul_assoc]
  have x2:B*(2*k+1)=a+B:=by rw [Nat.mul_succ,x1]
  have x3:B*(2*k+2)=a+B+B:=by rw [Nat.mul_succ,x2]
  have lS:(YA cmp l (2*B) 0 k).length=a:=by rw [XI (by rw [Nat.zero_add,<- ha];omega),ha]
  have s1:=XH w (l:=(l.drop (B*(2*k))).take B);have s2:=XH w (l:=(l.drop (B*(2*k+1))).take B);have l2:(segC cmp l B (2*k+1)).length=min B (n - (a+B)):=by unfold segC;rw [Xb,List.length_take,List.length_drop,x2,hl]
  have sm:=Yap (l:=l) (B:=B) (i:=k) w;refine zW ?_;intros;refine zC ?_ ?_<;>intro c3
  ·have l1:(segC cmp l B (2*k)).length=B:=Wt Zi;obtain ⟨j,rfl⟩:∃ i,j=i+2:=by
    match j,hj with
    | 0,hj=>rw [Nat.add_zero,x1] at hj;omega
    | 1,hj=>rw [x2] at hj;omega
    | j+2,_=>exact ⟨j,rfl⟩
   refine zW ?_;intros;refine Yc (Ym [_] [] Zz (YcN hC w hn _ (P:=YA cmp l (2*B) 0 k) (L:=segC cmp l B (2*k)) (R:=segC cmp l B (2*k+1)) (Q:=YA cmp l B (2*k+2) j) (Zs _) Zi Zi s1 s2 (by simpa [YA] using hB4) (by rw [lS]) (by rw [lS,l1];rfl) (by rw [lS,l1,l2];omega)) (fun v4 fz4 H4 hle4 hR4=>?_) (hx:=rfl));obtain ⟨rfl,cur5,rfl,hB5⟩:=hR4;rw [sm] at hB5;refine zW ?_;intros;refine zG ?_;refine WG Zz Zz (Yh Zi) ?_;refine zW ?_;intros;exact wP (h:=by exact ⟨(a:Int)+2*B+2*B,a+2*B,k+1,j,cur5,by omega,by rw [ha,Nat.mul_succ],by omega,by rw [show 2*(k+1)+j=2*k+(j+2) by omega];exact hj,rfl,rfl,rfl,rfl,by rw [YD,Nat.zero_add,List.append_assoc];exact hB5⟩)
  have x4:B*2*(k+1)=a+2*B:=by rw [Nat.mul_succ,Nat.mul_comm B 2,<- ha]
  rw [Yba (B:=B) (i:=2*k) (j:=j) Zi Zi] at hB4;refine zW ?_;intros;refine zC ?_ ?_<;>intro c4
  ·have l1:(segC cmp l B (2*k)).length=B:=Wt Zi;refine zW ?_;intros;refine Yc (Ym [_] [] Zz (YcN hC w hn _ (P:=YA cmp l (2*B) 0 k) (L:=segC cmp l B (2*k)) (R:=segC cmp l B (2*k+1)) (Q:=[]) (Zs _) Zi Zi s1 s2 (by simpa using hB4) (by rw [lS]) (by rw [lS,l1];rfl) (by rw [lS,l1,l2];omega)) (fun v4 fz4 H4 hle4 hR4=>?_) (hx:=rfl));obtain ⟨rfl,cur5,rfl,hB5⟩:=hR4;rw [sm] at hB5;refine zW ?_;intros;refine zG ?_;refine WG Zz Zz (Yh Zi) ?_;refine zW ?_;intros;exact wP (h:=by exact ⟨B*2,k+1,cur5,by omega,by omega,by omega,rfl,rfl,rfl,rfl,by rw [YD,Nat.zero_add,Nat.mul_comm B 2];simpa using hB5⟩)
  rw [XP (i:=2*k+1) Zi,Xc] at sm;rw [XP (i:=2*k+1) Zi,sm] at hB4;refine zW ?_;intros;refine zG ?_;refine WG Zz Zz (Yh Zi) ?_;refine zW ?_;intros;exact wP (h:=by exact ⟨B*2,k+1,cur4,by omega,by omega,by omega,rfl,rfl,rfl,rfl,by rw [YD,Nat.zero_add,Nat.mul_comm B 2];simpa using hB4⟩)
 rw [Ybb Zi Zi] at hB3;refine zW ?_;intros;exact YP rfl Zb ⟨rfl,cur3,rfl,hB3⟩
end Go.Proofs.YtaaanbkahfeknaaGreatDoor
namespace Go.Lx
variable {H:HP} {fz:FZ} {n:Nat} {o:Oper}
theorem CI.sub {P:Program} {cx:Cx} {H':HP} {K:Env->FZ->HP->Prop} {r:List Oper} {σ:Env} (hs:H'.Sublist H) (h:CI P cx n K (o::r) σ fz H'):CI P cx n K (o::r) σ fz H:=by
 obtain ⟨dst,op,ty,pos,af,gd⟩:=o;obtain ⟨h1,h2,h3⟩:=h;cases dst with
 | some d=>exact ⟨h1,h2,h3.1,fun ρ w hr hi=>h3.2 ρ w hr (hi.forget hs)⟩
 | none=>exact ⟨h1,h2,fun ρ w hr hi=>h3 ρ w hr (hi.forget hs)⟩
theorem CI.perm {P:Program} {cx:Cx} {H':HP} {K:Env->FZ->HP->Prop} {r:List Oper} {σ:Env} (hs:H'.Perm H) (h:CI P cx n K (o::r) σ fz H'):CI P cx n K (o::r) σ fz H:=by
 obtain ⟨dst,op,ty,pos,af,gd⟩:=o;obtain ⟨h1,h2,h3⟩:=h;cases dst with
 | some d=>exact ⟨h1,h2,h3.1,fun ρ w hr hi=>h3.2 ρ w hr (hi.perm hs)⟩
 | none=>exact ⟨h1,h2,fun ρ w hr hi=>h3 ρ w hr (hi.perm hs)⟩
theorem CI.nil {P:Program} {cx:Cx} {K:Env->FZ->HP->Prop} {σ:Env} (h:K σ fz H):CI P cx n K [] σ fz H:=h
end Go.Lx
namespace Go.Proofs.YtaaanbkahfeknaaGreatDoor
variable {A:Option Addr} {c n:Nat} {fz:FZ}
theorem values_f {gcap L:Nat} {l:List Param} {o:Obj} {B0:Nat->HP->Prop} {H0:HP} (hg:fz gcap=some (Zu #[Zc A n c] 22)) (hS:Sl paramL fz A n c l) (h0:B0 0 H0)
 (hR:∀ (cx:Cx) (k:Nat) (x:Param) (H1:HP) (K:Value->FZ->HP->Prop) (r:Operand->Option Value) (ff xo:Operand) (ats:Array TypeId) (dst:Option Nat) (ty:TypeId) (pos:String) (af:Array Edge) (gd:Option (Nat × Bool)),l[k]?=some x->paramL.rep fz x [.string x.name,.string x.typ]->k<n->B0 k H1->r ff=some (.func (.yield L) #[] #[])->r xo=some (.agg #[.string x.name,.string x.typ])->(∀ H2,B0 (k+1) H2->K (.bool true) fz ((L,o)::H2))->YiE prog cx ⟨dst,.call {callee:=.value ff,args:=#[xo],argTypes:=ats},ty,pos,af,gd⟩ r fz ((L,o)::H1) K):
 GFn prog 102 [.func (.yield L) #[] #[],Zp gcap] fz ((L,o)::H0) (fun _ fz' H'=>fz=fz'/\∃ H2,H'=(L,o)::H2/\B0 n H2):=by
 have hl:=hS.len;have hsh:=hS.short;refine zF Tryz.func102 Tryz.ntmps102 (fun w0=>?_);refine zW ?_;intros;refine Yd (fun q σ fz' H'=>∃ (k:Nat) (H1:HP),k<=n/\q=n - k/\σ=[(7,Zk k),(6,Zk n),(5,Zc A n c),(0,.func (.yield L) #[] #[])]/\fz=fz'/\H'=(L,o)::H1/\B0 k H1) ⟨0,H0,Z0 _,rfl,rfl,rfl,rfl,h0⟩ Zw Zb ?_;rintro q σ fz' H' ⟨k,H1,hk,rfl,rfl,rfl,rfl,hB⟩;refine zW ?_;intros;refine zC ?_ ?_<;>intro c1
 ·obtain ⟨x,hx⟩:=Yq (l:=l) (k:=k) Zi;refine zW ?_;intros;refine zI hS hx (fun p1 hp1=>?_);refine zL hp1 ?_;intro cs hcs;obtain ⟨rfl,hRx⟩:=XD hcs;refine zWX ?_;intros;refine Yy (Wp.ofCI ?_);refine CI.q (Yz ?_);refine CI.q (YQ 0 ?_);refine CI.sub (List.sublist_cons_self _ _) (CI.i (hR _ k x H1 _ _ _ _ _ _ _ _ _ _ hx hcs Zi hB rfl rfl (fun H2 hB2=>?_)));refine CI.q (q_not Zz ?_);refine CI.nil ?_;refine zW ?_;intros;exact wP (h:=by exact ⟨k+1,H2,by omega,rfl,rfl,rfl,rfl,hB2⟩)
 obtain rfl:k=n:=by omega
 refine zW ?_;intros;exact YP rfl Zb ⟨rfl,H1,rfl,hB⟩
theorem YgY {gcap:Nat} {l:List Param} (hg:fz gcap=some (Zu #[Zc A n c] 22)) (hS:Sl paramL fz A n c l) (hn:n<=1000000000):
 GFn prog 170 [Zn,.func (.func 102) #[] #[Zp gcap]] fz [] (fun r fz' H'=>fz=fz'/\Grow paramL 110 fz r n H' l):=by
 refine Yfp Tryz.func170 rfl Tryz.ntmps170 rfl rfl rfl (lb:=[Zp gcap])
  ⟨Tryz.f102,Tryz.func102,rfl,rfl⟩ (fun w0=>?_)
 refine Xg (Yc (Ye0 _ (fun g2=>?_)));refine zG ?_;refine XM ?_;refine Seq.nil ⟨rfl,?_⟩;refine Xg ?_;refine zG ?_;refine Yz ?_;refine Seq.nil ⟨rfl,rfl,fun L D fnA tt hT=>⟨_,values_f (B0:=fun k H1=>∃ (v:Value) (Hs E:HP),H1.Perm ((D,.deferred (some []))::(g2,Zu #[v] 22)::(E++Hs))/\Grow paramL 110 fz v k Hs (l.take k)) hg hS ⟨_,[],[],Zr _,Grow.nil _ _ _⟩ ?_,?_⟩⟩
 ·rintro cx k x H1 K r ff xo ats dst ty pos af gd hx hrx hk ⟨v,Hs,E,hpm,hG⟩ hf hxo hK;refine YhY hT hf hxo ?_;refine CI.k (YV (fun g5=>?_));refine CI.k0 (YG ?_);refine CI.nil ⟨_,List.Perm.swap _ _ _,?_⟩;obtain ⟨A0,c0,rfl,_,_⟩:=hG.form;refine CI.perm (H':=(g5,_)::(L,_)::(D,.deferred (some []))::(g2,_)::(E++Hs)) ((List.Perm.swap _ _ _).trans (((hpm.symm).cons _).cons _)) ?_;refine CI.q (Xm 3 ?_ (hv:=by exact rfl));refine CI.q (YQ 0 ?_);refine CI.k (Yv (cs:=[Zy x.name,Zy x.typ]) (fun gc=>?_));refine CI.k (Y3 (Hr:=(gc,_)::(g5,_)::(L,_)::(D,.deferred (some []))::(g2,_)::E) (d:=x) (Zr _) hG XC (.head _) hrx (fun v8 H8 hO8=>?_));obtain ⟨A8,c8,rfl,_,_⟩:=hO8.form;refine CI.k0 (YeZ (pre:=[_,_,_,_]) rfl ?_);exact CI.nil ⟨(gc,Zu #[Zy x.name,Zy x.typ] 110)::(g5,Zu #[Zy x.name,Zy x.typ] 110)::(D,.deferred (some []))::(g2,Zu #[Zc A8 (k+1) c8] 22)::(E++H8),List.perm_middle (l₁:=[_,_]),hK _ ⟨_,H8,(gc,Zu #[Zy x.name,Zy x.typ] 110)::(g5,Zu #[Zy x.name,Zy x.typ] 110)::E,(Zq (l₁:=[_,_]) (l₂:=[_,_])).append_right _,hO8.of (by rw [List.take_add_one,hx];rfl) rfl⟩⟩
 rintro u fz3 H3 ⟨rfl,H2,rfl,v,Hs,E,hpm,hG⟩;rw [Zl (by rw [hS.len];exact Zs _)] at hG;refine ⟨(g2,Zu #[v] 22)::(E++Hs),hpm.cons _,?_⟩;obtain ⟨A0,c0,rfl,_,_⟩:=hG.form;refine CI.q (Xm 2 ?_ (hv:=by exact rfl));refine CI.q (XM ?_);exact CI.nil ⟨_,_,Hs,rfl,List.Perm.swap _ _ _,((List.sublist_append_right E Hs).cons _).cons _,rfl,hG⟩
end Go.Proofs.YtaaanbkahfeknaaGreatDoor
namespace Go.Lx
open Go.RowKit
variable {H:HP} {fz:FZ} {v:Value}
theorem Ycn {P:Program} {f:FuncId} {args:List Value} (hc:XY P f) (h:∀ fz2,QFn P f args fz2 v):GFn P f args fz H fun u fz' H'=>u=v/\fz'=fz/\H'=H:=by
 refine GFn.of hc fun w hw=>?_
 have hi:Inv ⟨w,H.map Prod.fst,fz⟩ fz ([]++H) w:=⟨hw,Fr.refl _ _,⟨fun _ _ h=>h,fun _ _ _=>rfl,fun p hp=>.inl (List.mem_map.2 ⟨p,hp,rfl⟩)⟩⟩;obtain ⟨fz2,h1,h2,h3⟩:=YX H fz [] hi;refine ((h fz2).out w h3.hp).mono fun e w' ⟨he,hfr⟩=>?_
 have hi2:=hi.quiet hfr;exact ⟨v,fz,H,he,⟨rfl,rfl,rfl⟩,hi2.hp,hi2.fr,hi2.nw⟩
end Go.Lx
namespace Go.Proofs.YtaaanbkahfeknaaGreatDoor
variable {A:Option Addr} {c n:Nat} {fz:FZ} {Hs:HP} {v:Value}
theorem Yj2 {vc:Value}:QFn prog 237 [Zc A 0 c,Zk 0,Zk 0,vc] fz (.tuple #[]):=by
 refine qF Tryz.func237 Tryz.ntmps237 (fun w0=>?_);refine zW ?_;intros;refine Yd (fun q σ fz' H'=>q=0/\σ=[(8,Zk 1),(2,Zk 0)]/\fz=fz'/\H'=[]) ⟨rfl,rfl,rfl,rfl⟩ Zw Zb ?_;rintro q σ fz' H' ⟨rfl,rfl,rfl,rfl⟩;refine zW ?_;intros;refine zC ?_ ?_<;>intro c1
 ·exact absurd c1 Zh
 refine zW ?_;intros;exact YP rfl Zb rfl
theorem YiY {vc:Value}:QFn prog 171 [Zc A 0 c,Zk 0,vc] fz (.tuple #[]):=by
 refine qF Tryz.func171 Tryz.ntmps171 (fun w0=>?_);refine zW ?_;intros;refine Yd (fun q σ fz' H'=>q=0/\σ=[(8,Zk 20),(7,Zk 0),(6,Zk 20),(0,Zc A 0 c),(1,Zk 0),(2,vc)]/\fz=fz'/\H'=[]) ⟨rfl,rfl,rfl,rfl⟩ Zw Zb ?_;rintro q σ fz' H' ⟨rfl,rfl,rfl,rfl⟩;refine zW ?_;intros;refine zC ?_ ?_<;>intro c1
 ·exact absurd c1 Zh
 refine zW ?_;intros;refine zc Yj2 ?_;refine zW ?_;intros;refine Yd (fun q σ fz' H'=>q=0/\σ=[(6,Zk 20),(1,Zk 0)]/\fz=fz'/\H'=[]) ⟨rfl,rfl,rfl,rfl⟩ Zw Zb ?_;rintro q σ fz' H' ⟨rfl,rfl,rfl,rfl⟩;refine zW ?_;intros;refine zC ?_ ?_<;>intro c2
 ·exact absurd c2 Zh
 refine zW ?_;intros;exact YP rfl Zb rfl
theorem sortsPa {fc:Nat} {l:List Param} {cmp:Param->Param->Int} (hG:Grow paramL 110 fz v n Hs l) (hC:CmpQ paramL fc fz cmp) (w:SWk (ltC cmp)) (hn:n<=1000000000):
 GFn prog 101 [v,.func (.func fc) #[] #[]] fz Hs (fun _ fz' H'=>fz=fz'/\Grow paramL 110 fz v n H' (srtC cmp l)):=by
 have hl:=hG.len;have hs:GFn prog 171 [v,Zk n,.func (.func fc) #[] #[]] fz Hs (fun _ fz' H'=>fz=fz'/\Grow paramL 110 fz v n H' (srtC cmp l)):=by
  rcases Nat.eq_zero_or_pos n with h0 | hp
  ·subst h0;have hl0:l=[]:=List.eq_nil_of_length_eq_zero hl;subst hl0;obtain ⟨A0,c0,rfl,_,_⟩:=hG.form;exact (Ycn ⟨_,Tryz.func171,by decide,by decide⟩ (fun _=>YiY)).mono fun r fz' H' ⟨_,h2,h3⟩=>⟨h2.symm,by rw [h3];exact hG⟩
  obtain ⟨g,cap,cur,rfl,rfl,hb⟩:=hG.b hp;exact (Yh4 hb hC w hn).mono fun r fz' H' ⟨h1,cur',h2,h3⟩=>⟨h1,by rw [h2];exact h3.grow⟩
 obtain ⟨A0,c0,rfl,_,_⟩:=hG.form;refine zF Tryz.func101 Tryz.ntmps101 (fun w0=>?_);refine zW ?_;intros;refine Yc (Ym _ [] (List.append_nil _).symm hs (fun v4 fz4 H4 hle4 hR4=>?_));obtain ⟨rfl,hR⟩:=hR4;rw [List.append_nil];refine zW ?_;intros;exact YP rfl (List.Sublist.refl _) ⟨rfl,hR⟩
theorem Yj1 {vc:Value}:QFn prog 103 [Zc A 0 c,Zk 0,Zk 0,vc] fz (.tuple #[]):=by
 refine qF Tryz.func103 Tryz.ntmps103 (fun w0=>?_);refine zW ?_;intros;refine Yd (fun q σ fz' H'=>q=0/\σ=[(8,Zk 1),(2,Zk 0)]/\fz=fz'/\H'=[]) ⟨rfl,rfl,rfl,rfl⟩ Zw Zb ?_;rintro q σ fz' H' ⟨rfl,rfl,rfl,rfl⟩;refine zW ?_;intros;refine zC ?_ ?_<;>intro c1
 ·exact absurd c1 Zh
 refine zW ?_;intros;exact YP rfl Zb rfl
theorem YiX {vc:Value}:QFn prog 61 [Zc A 0 c,Zk 0,vc] fz (.tuple #[]):=by
 refine qF Tryz.func61 Tryz.ntmps61 (fun w0=>?_);refine zW ?_;intros;refine Yd (fun q σ fz' H'=>q=0/\σ=[(8,Zk 20),(7,Zk 0),(6,Zk 20),(0,Zc A 0 c),(1,Zk 0),(2,vc)]/\fz=fz'/\H'=[]) ⟨rfl,rfl,rfl,rfl⟩ Zw Zb ?_;rintro q σ fz' H' ⟨rfl,rfl,rfl,rfl⟩;refine zW ?_;intros;refine zC ?_ ?_<;>intro c1
 ·exact absurd c1 Zh
 refine zW ?_;intros;refine zc Yj1 ?_;refine zW ?_;intros;refine Yd (fun q σ fz' H'=>q=0/\σ=[(6,Zk 20),(1,Zk 0)]/\fz=fz'/\H'=[]) ⟨rfl,rfl,rfl,rfl⟩ Zw Zb ?_;rintro q σ fz' H' ⟨rfl,rfl,rfl,rfl⟩;refine zW ?_;intros;refine zC ?_ ?_<;>intro c2
 ·exact absurd c2 Zh
 refine zW ?_;intros;exact YP rfl Zb rfl
theorem sortsPr {fc:Nat} {l:List Predicate} {cmp:Predicate->Predicate->Int} (hG:Grow predicateL 59 fz v n Hs l) (hC:CmpQ predicateL fc fz cmp) (w:SWk (ltC cmp)) (hn:n<=1000000000):
 GFn prog 23 [v,.func (.func fc) #[] #[]] fz Hs (fun _ fz' H'=>fz=fz'/\Grow predicateL 59 fz v n H' (srtC cmp l)):=by
 have hl:=hG.len;have hs:GFn prog 61 [v,Zk n,.func (.func fc) #[] #[]] fz Hs (fun _ fz' H'=>fz=fz'/\Grow predicateL 59 fz v n H' (srtC cmp l)):=by
  rcases Nat.eq_zero_or_pos n with h0 | hp
  ·subst h0;have hl0:l=[]:=List.eq_nil_of_length_eq_zero hl;subst hl0;obtain ⟨A0,c0,rfl,_,_⟩:=hG.form;exact (Ycn ⟨_,Tryz.func61,by decide,by decide⟩ (fun _=>YiX)).mono fun r fz' H' ⟨_,h2,h3⟩=>⟨h2.symm,by rw [h3];exact hG⟩
  obtain ⟨g,cap,cur,rfl,rfl,hb⟩:=hG.b hp;exact (Yh3 hb hC w hn).mono fun r fz' H' ⟨h1,cur',h2,h3⟩=>⟨h1,by rw [h2];exact h3.grow⟩
 obtain ⟨A0,c0,rfl,_,_⟩:=hG.form;refine zF Tryz.func23 Tryz.ntmps23 (fun w0=>?_);refine zW ?_;intros;refine Yc (Ym _ [] (List.append_nil _).symm hs (fun v4 fz4 H4 hle4 hR4=>?_));obtain ⟨rfl,hR⟩:=hR4;rw [List.append_nil];refine zW ?_;intros;exact YP rfl (List.Sublist.refl _) ⟨rfl,hR⟩
theorem Yj3 {vc:Value}:QFn prog 106 [Zc A 0 c,Zk 0,Zk 0,vc] fz (.tuple #[]):=by
 refine qF Tryz.func106 Tryz.ntmps106 (fun w0=>?_);refine zW ?_;intros;refine Yd (fun q σ fz' H'=>q=0/\σ=[(8,Zk 1),(2,Zk 0)]/\fz=fz'/\H'=[]) ⟨rfl,rfl,rfl,rfl⟩ Zw Zb ?_;rintro q σ fz' H' ⟨rfl,rfl,rfl,rfl⟩;refine zW ?_;intros;refine zC ?_ ?_<;>intro c1
 ·exact absurd c1 Zh
 refine zW ?_;intros;exact YP rfl Zb rfl
theorem YiZ {vc:Value}:QFn prog 63 [Zc A 0 c,Zk 0,vc] fz (.tuple #[]):=by
 refine qF Tryz.func63 Tryz.ntmps63 (fun w0=>?_);refine zW ?_;intros;refine Yd (fun q σ fz' H'=>q=0/\σ=[(8,Zk 20),(7,Zk 0),(6,Zk 20),(0,Zc A 0 c),(1,Zk 0),(2,vc)]/\fz=fz'/\H'=[]) ⟨rfl,rfl,rfl,rfl⟩ Zw Zb ?_;rintro q σ fz' H' ⟨rfl,rfl,rfl,rfl⟩;refine zW ?_;intros;refine zC ?_ ?_<;>intro c1
 ·exact absurd c1 Zh
 refine zW ?_;intros;refine zc Yj3 ?_;refine zW ?_;intros;refine Yd (fun q σ fz' H'=>q=0/\σ=[(6,Zk 20),(1,Zk 0)]/\fz=fz'/\H'=[]) ⟨rfl,rfl,rfl,rfl⟩ Zw Zb ?_;rintro q σ fz' H' ⟨rfl,rfl,rfl,rfl⟩;refine zW ?_;intros;refine zC ?_ ?_<;>intro c2
 ·exact absurd c2 Zh
 refine zW ?_;intros;exact YP rfl Zb rfl
theorem sortsFu {fc:Nat} {l:List Function} {cmp:Function->Function->Int} (hG:Grow functionL 61 fz v n Hs l) (hC:CmpQ functionL fc fz cmp) (w:SWk (ltC cmp)) (hn:n<=1000000000):
 GFn prog 26 [v,.func (.func fc) #[] #[]] fz Hs (fun _ fz' H'=>fz=fz'/\Grow functionL 61 fz v n H' (srtC cmp l)):=by
 have hl:=hG.len;have hs:GFn prog 63 [v,Zk n,.func (.func fc) #[] #[]] fz Hs (fun _ fz' H'=>fz=fz'/\Grow functionL 61 fz v n H' (srtC cmp l)):=by
  rcases Nat.eq_zero_or_pos n with h0 | hp
  ·subst h0;have hl0:l=[]:=List.eq_nil_of_length_eq_zero hl;subst hl0;obtain ⟨A0,c0,rfl,_,_⟩:=hG.form;exact (Ycn ⟨_,Tryz.func63,by decide,by decide⟩ (fun _=>YiZ)).mono fun r fz' H' ⟨_,h2,h3⟩=>⟨h2.symm,by rw [h3];exact hG⟩
  obtain ⟨g,cap,cur,rfl,rfl,hb⟩:=hG.b hp;exact (Yh5 hb hC w hn).mono fun r fz' H' ⟨h1,cur',h2,h3⟩=>⟨h1,by rw [h2];exact h3.grow⟩
 obtain ⟨A0,c0,rfl,_,_⟩:=hG.form;refine zF Tryz.func26 Tryz.ntmps26 (fun w0=>?_);refine zW ?_;intros;refine Yc (Ym _ [] (List.append_nil _).symm hs (fun v4 fz4 H4 hle4 hR4=>?_));obtain ⟨rfl,hR⟩:=hR4;rw [List.append_nil];refine zW ?_;intros;exact YP rfl (List.Sublist.refl _) ⟨rfl,hR⟩
theorem Yj5 {vc:Value}:QFn prog 108 [Zc A 0 c,Zk 0,Zk 0,vc] fz (.tuple #[]):=by
 refine qF Tryz.func108 Tryz.ntmps108 (fun w0=>?_);refine zW ?_;intros;refine Yd (fun q σ fz' H'=>q=0/\σ=[(8,Zk 1),(2,Zk 0)]/\fz=fz'/\H'=[]) ⟨rfl,rfl,rfl,rfl⟩ Zw Zb ?_;rintro q σ fz' H' ⟨rfl,rfl,rfl,rfl⟩;refine zW ?_;intros;refine zC ?_ ?_<;>intro c1
 ·exact absurd c1 Zh
 refine zW ?_;intros;exact YP rfl Zb rfl
theorem Yi1 {vc:Value}:QFn prog 64 [Zc A 0 c,Zk 0,vc] fz (.tuple #[]):=by
 refine qF Tryz.func64 Tryz.ntmps64 (fun w0=>?_);refine zW ?_;intros;refine Yd (fun q σ fz' H'=>q=0/\σ=[(8,Zk 20),(7,Zk 0),(6,Zk 20),(0,Zc A 0 c),(1,Zk 0),(2,vc)]/\fz=fz'/\H'=[]) ⟨rfl,rfl,rfl,rfl⟩ Zw Zb ?_;rintro q σ fz' H' ⟨rfl,rfl,rfl,rfl⟩;refine zW ?_;intros;refine zC ?_ ?_<;>intro c1
 ·exact absurd c1 Zh
 refine zW ?_;intros;refine zc Yj5 ?_;refine zW ?_;intros;refine Yd (fun q σ fz' H'=>q=0/\σ=[(6,Zk 20),(1,Zk 0)]/\fz=fz'/\H'=[]) ⟨rfl,rfl,rfl,rfl⟩ Zw Zb ?_;rintro q σ fz' H' ⟨rfl,rfl,rfl,rfl⟩;refine zW ?_;intros;refine zC ?_ ?_<;>intro c2
 ·exact absurd c2 Zh
 refine zW ?_;intros;exact YP rfl Zb rfl
theorem sortsAc {fc:Nat} {l:List Action} {cmp:Action->Action->Int} (hG:Grow actionL 47 fz v n Hs l) (hC:CmpQ actionL fc fz cmp) (w:SWk (ltC cmp)) (hn:n<=1000000000):
 GFn prog 28 [v,.func (.func fc) #[] #[]] fz Hs (fun _ fz' H'=>fz=fz'/\Grow actionL 47 fz v n H' (srtC cmp l)):=by
 have hl:=hG.len;have hs:GFn prog 64 [v,Zk n,.func (.func fc) #[] #[]] fz Hs (fun _ fz' H'=>fz=fz'/\Grow actionL 47 fz v n H' (srtC cmp l)):=by
  rcases Nat.eq_zero_or_pos n with h0 | hp
  ·subst h0;have hl0:l=[]:=List.eq_nil_of_length_eq_zero hl;subst hl0;obtain ⟨A0,c0,rfl,_,_⟩:=hG.form;exact (Ycn ⟨_,Tryz.func64,by decide,by decide⟩ (fun _=>Yi1)).mono fun r fz' H' ⟨_,h2,h3⟩=>⟨h2.symm,by rw [h3];exact hG⟩
  obtain ⟨g,cap,cur,rfl,rfl,hb⟩:=hG.b hp;exact (Yh7 hb hC w hn).mono fun r fz' H' ⟨h1,cur',h2,h3⟩=>⟨h1,by rw [h2];exact h3.grow⟩
 obtain ⟨A0,c0,rfl,_,_⟩:=hG.form;refine zF Tryz.func28 Tryz.ntmps28 (fun w0=>?_);refine zW ?_;intros;refine Yc (Ym _ [] (List.append_nil _).symm hs (fun v4 fz4 H4 hle4 hR4=>?_));obtain ⟨rfl,hR⟩:=hR4;rw [List.append_nil];refine zW ?_;intros;exact YP rfl (List.Sublist.refl _) ⟨rfl,hR⟩
theorem Yj4 {vc:Value}:QFn prog 110 [Zc A 0 c,Zk 0,Zk 0,vc] fz (.tuple #[]):=by
 refine qF Tryz.func110 Tryz.ntmps110 (fun w0=>?_);refine zW ?_;intros;refine Yd (fun q σ fz' H'=>q=0/\σ=[(8,Zk 1),(2,Zk 0)]/\fz=fz'/\H'=[]) ⟨rfl,rfl,rfl,rfl⟩ Zw Zb ?_;rintro q σ fz' H' ⟨rfl,rfl,rfl,rfl⟩;refine zW ?_;intros;refine zC ?_ ?_<;>intro c1
 ·exact absurd c1 Zh
 refine zW ?_;intros;exact YP rfl Zb rfl
theorem Yi0 {vc:Value}:QFn prog 65 [Zc A 0 c,Zk 0,vc] fz (.tuple #[]):=by
 refine qF Tryz.func65 Tryz.ntmps65 (fun w0=>?_);refine zW ?_;intros;refine Yd (fun q σ fz' H'=>q=0/\σ=[(8,Zk 20),(7,Zk 0),(6,Zk 20),(0,Zc A 0 c),(1,Zk 0),(2,vc)]/\fz=fz'/\H'=[]) ⟨rfl,rfl,rfl,rfl⟩ Zw Zb ?_;rintro q σ fz' H' ⟨rfl,rfl,rfl,rfl⟩;refine zW ?_;intros;refine zC ?_ ?_<;>intro c1
 ·exact absurd c1 Zh
 refine zW ?_;intros;refine zc Yj4 ?_;refine zW ?_;intros;refine Yd (fun q σ fz' H'=>q=0/\σ=[(6,Zk 20),(1,Zk 0)]/\fz=fz'/\H'=[]) ⟨rfl,rfl,rfl,rfl⟩ Zw Zb ?_;rintro q σ fz' H' ⟨rfl,rfl,rfl,rfl⟩;refine zW ?_;intros;refine zC ?_ ?_<;>intro c2
 ·exact absurd c2 Zh
 refine zW ?_;intros;exact YP rfl Zb rfl
theorem sortsDu {fc:Nat} {l:List Durative} {cmp:Durative->Durative->Int} (hG:Grow durativeL 50 fz v n Hs l) (hC:CmpQ durativeL fc fz cmp) (w:SWk (ltC cmp)) (hn:n<=1000000000):
 GFn prog 30 [v,.func (.func fc) #[] #[]] fz Hs (fun _ fz' H'=>fz=fz'/\Grow durativeL 50 fz v n H' (srtC cmp l)):=by
 have hl:=hG.len;have hs:GFn prog 65 [v,Zk n,.func (.func fc) #[] #[]] fz Hs (fun _ fz' H'=>fz=fz'/\Grow durativeL 50 fz v n H' (srtC cmp l)):=by
  rcases Nat.eq_zero_or_pos n with h0 | hp
  ·subst h0;have hl0:l=[]:=List.eq_nil_of_length_eq_zero hl;subst hl0;obtain ⟨A0,c0,rfl,_,_⟩:=hG.form;exact (Ycn ⟨_,Tryz.func65,by decide,by decide⟩ (fun _=>Yi0)).mono fun r fz' H' ⟨_,h2,h3⟩=>⟨h2.symm,by rw [h3];exact hG⟩
  obtain ⟨g,cap,cur,rfl,rfl,hb⟩:=hG.b hp;exact (Yh6 hb hC w hn).mono fun r fz' H' ⟨h1,cur',h2,h3⟩=>⟨h1,by rw [h2];exact h3.grow⟩
 obtain ⟨A0,c0,rfl,_,_⟩:=hG.form;refine zF Tryz.func30 Tryz.ntmps30 (fun w0=>?_);refine zW ?_;intros;refine Yc (Ym _ [] (List.append_nil _).symm hs (fun v4 fz4 H4 hle4 hR4=>?_));obtain ⟨rfl,hR⟩:=hR4;rw [List.append_nil];refine zW ?_;intros;exact YP rfl (List.Sublist.refl _) ⟨rfl,hR⟩
theorem Yj0 {vc:Value}:QFn prog 116 [Zc A 0 c,Zk 0,Zk 0,vc] fz (.tuple #[]):=by
 refine qF Tryz.func116 Tryz.ntmps116 (fun w0=>?_);refine zW ?_;intros;refine Yd (fun q σ fz' H'=>q=0/\σ=[(8,Zk 1),(2,Zk 0)]/\fz=fz'/\H'=[]) ⟨rfl,rfl,rfl,rfl⟩ Zw Zb ?_;rintro q σ fz' H' ⟨rfl,rfl,rfl,rfl⟩;refine zW ?_;intros;refine zC ?_ ?_<;>intro c1
 ·exact absurd c1 Zh
 refine zW ?_;intros;exact YP rfl Zb rfl
theorem YiW {vc:Value}:QFn prog 73 [Zc A 0 c,Zk 0,vc] fz (.tuple #[]):=by
 refine qF Tryz.func73 Tryz.ntmps73 (fun w0=>?_);refine zW ?_;intros;refine Yd (fun q σ fz' H'=>q=0/\σ=[(8,Zk 20),(7,Zk 0),(6,Zk 20),(0,Zc A 0 c),(1,Zk 0),(2,vc)]/\fz=fz'/\H'=[]) ⟨rfl,rfl,rfl,rfl⟩ Zw Zb ?_;rintro q σ fz' H' ⟨rfl,rfl,rfl,rfl⟩;refine zW ?_;intros;refine zC ?_ ?_<;>intro c1
 ·exact absurd c1 Zh
 refine zW ?_;intros;refine zc Yj0 ?_;refine zW ?_;intros;refine Yd (fun q σ fz' H'=>q=0/\σ=[(6,Zk 20),(1,Zk 0)]/\fz=fz'/\H'=[]) ⟨rfl,rfl,rfl,rfl⟩ Zw Zb ?_;rintro q σ fz' H' ⟨rfl,rfl,rfl,rfl⟩;refine zW ?_;intros;refine zC ?_ ?_<;>intro c2
 ·exact absurd c2 Zh
 refine zW ?_;intros;exact YP rfl Zb rfl
theorem sortsVa {fc:Nat} {l:List Value_} {cmp:Value_->Value_->Int} (hG:Grow valueL 86 fz v n Hs l) (hC:CmpQ valueL fc fz cmp) (w:SWk (ltC cmp)) (hn:n<=1000000000):
 GFn prog 39 [v,.func (.func fc) #[] #[]] fz Hs (fun _ fz' H'=>fz=fz'/\Grow valueL 86 fz v n H' (srtC cmp l)):=by
 have hl:=hG.len;have hs:GFn prog 73 [v,Zk n,.func (.func fc) #[] #[]] fz Hs (fun _ fz' H'=>fz=fz'/\Grow valueL 86 fz v n H' (srtC cmp l)):=by
  rcases Nat.eq_zero_or_pos n with h0 | hp
  ·subst h0;have hl0:l=[]:=List.eq_nil_of_length_eq_zero hl;subst hl0;obtain ⟨A0,c0,rfl,_,_⟩:=hG.form;exact (Ycn ⟨_,Tryz.func73,by decide,by decide⟩ (fun _=>YiW)).mono fun r fz' H' ⟨_,h2,h3⟩=>⟨h2.symm,by rw [h3];exact hG⟩
  obtain ⟨g,cap,cur,rfl,rfl,hb⟩:=hG.b hp;exact (Yh2 hb hC w hn).mono fun r fz' H' ⟨h1,cur',h2,h3⟩=>⟨h1,by rw [h2];exact h3.grow⟩
 obtain ⟨A0,c0,rfl,_,_⟩:=hG.form;refine zF Tryz.func39 Tryz.ntmps39 (fun w0=>?_);refine zW ?_;intros;refine Yc (Ym _ [] (List.append_nil _).symm hs (fun v4 fz4 H4 hle4 hR4=>?_));obtain ⟨rfl,hR⟩:=hR4;rw [List.append_nil];refine zW ?_;intros;exact YP rfl (List.Sublist.refl _) ⟨rfl,hR⟩
theorem YkA {gcap:Nat} {l:List Param} (hg:fz gcap=some (Zu #[Zc A n c] 22)) (hS:Sl paramL fz A n c l) (hn:n<=1000000000):
 GFn prog 100 [.func (.func 102) #[] #[Zp gcap]] fz [] (fun r fz' H'=>fz=fz'/\Grow paramL 110 fz r n H' l):=by
 refine zF Tryz.func100 Tryz.ntmps100 (fun w0=>?_);refine zW ?_;intros;refine Yc (Ym [] [] Zz (YgY hg hS hn) (fun v4 fz4 H4 hle4 hR4=>?_));obtain ⟨rfl,hR⟩:=hR4;rw [List.append_nil];refine zW ?_;intros;exact ret1 rfl rfl (List.Sublist.refl _) ⟨rfl,hR⟩
theorem Yi2 {gcap fc:Nat} {l:List Param} {cmp:Param->Param->Int} (hg:fz gcap=some (Zu #[Zc A n c] 22)) (hS:Sl paramL fz A n c l) (hn:n<=1000000000) (hC:CmpQ paramL fc fz cmp) (w:SWk (ltC cmp)):
 GFn prog 52 [.func (.func 102) #[] #[Zp gcap],.func (.func fc) #[] #[]] fz [] (fun r fz' H'=>fz=fz'/\Grow paramL 110 fz r n H' (srtC cmp l)):=by
 refine zF Tryz.func52 Tryz.ntmps52 (fun w0=>?_);refine zW ?_;intros;refine Yc (Ym [] [] Zz (YkA hg hS hn) (fun v4 fz4 H4 hle4 hR4=>?_));obtain ⟨rfl,hG⟩:=hR4;rw [List.append_nil];obtain ⟨A0,c0,rfl,_,_⟩:=hG.form;refine zW ?_;intros;refine Yc (Ym _ [] (List.append_nil _).symm (sortsPa hG hC w hn) (fun v5 fz5 H5 hle5 hR5=>?_));obtain ⟨rfl,hG5⟩:=hR5;rw [List.append_nil];refine zW ?_;intros;exact ret1 rfl rfl (List.Sublist.refl _) ⟨rfl,hG5⟩
end Go.Proofs.YtaaanbkahfeknaaGreatDoor
namespace Go.Lx
variable {cs:List Value} {fz:FZ}
theorem Wx {x:Predicate} (h:predicateL.rep fz x cs):∃ A0 n0 c0,cs=[Zy x.name,Zc A0 n0 c0]/\PredicateR fz x (Zc A0 n0 c0):=by
 obtain ⟨_,rfl,hR⟩:=Wj h;obtain ⟨A0,n0,c0,rfl,_⟩:=id hR.params;exact ⟨_,_,_,rfl,hR⟩
theorem WP {x:Function} (h:functionL.rep fz x cs):∃ A0 n0 c0,cs=[Zy x.name,Zc A0 n0 c0,Zk x.lo,Zk x.hi]/\FunctionR fz x (Zc A0 n0 c0):=by
 obtain ⟨_,rfl,hR⟩:=Xh h;obtain ⟨A0,n0,c0,rfl,_⟩:=id hR.params;exact ⟨_,_,_,rfl,hR⟩
theorem YaP {x:Action} (h:actionL.rep fz x cs):∃ A0 n0 c0 A1 n1 c1 A2 n2 c2 A3 n3 c3 A4 n4 c4 A5 n5 c5,cs=[Zy x.name,Zc A0 n0 c0,Zk x.cost,Zy x.pre.op,Zy x.pre.name,Zc A1 n1 c1,Zc A2 n2 c2,Zc A3 n3 c3,Zc A4 n4 c4,Zc A5 n5 c5]/\ActionR fz x (Zc A0 n0 c0) (Zc A1 n1 c1) (Zc A2 n2 c2) (Zc A3 n3 c3) (Zc A4 n4 c4) (Zc A5 n5 c5):=by
 obtain ⟨_,_,_,_,_,_,rfl,hR⟩:=XF h;obtain ⟨A0,n0,c0,rfl,_⟩:=id hR.params;obtain ⟨⟨A1,n1,c1,rfl,_⟩,⟨A2,n2,c2,rfl,_⟩,⟨A3,n3,c3,rfl,_⟩,⟨A4,n4,c4,rfl,_⟩⟩:=id hR.pre.sls;obtain ⟨A5,n5,c5,rfl,_⟩:=id hR.changes;exact ⟨_,_,_,_,_,_,_,_,_,_,_,_,_,_,_,_,_,_,rfl,hR⟩
theorem WT {x:Durative} (h:durativeL.rep fz x cs):∃ A0 n0 c0 A1 n1 c1 A2 n2 c2 A3 n3 c3 A4 n4 c4 A5 n5 c5 A6 n6 c6 A7 n7 c7 A8 n8 c8 A9 n9 c9 A10 n10 c10 A11 n11 c11 A12 n12 c12 A13 n13 c13 A14 n14 c14,cs=[Zy x.name,Zc A0 n0 c0,Zk x.duration,Zy x.start.op,Zy x.start.name,Zc A1 n1 c1,Zc A2 n2 c2,Zc A3 n3 c3,Zc A4 n4 c4,Zy x.over.op,Zy x.over.name,Zc A5 n5 c5,Zc A6 n6 c6,Zc A7 n7 c7,Zc A8 n8 c8,Zy x.fin.op,Zy x.fin.name,Zc A9 n9 c9,Zc A10 n10 c10,Zc A11 n11 c11,Zc A12 n12 c12,Zc A13 n13 c13,Zc A14 n14 c14]/\DurativeR fz x (Zc A0 n0 c0) (Zc A1 n1 c1) (Zc A2 n2 c2) (Zc A3 n3 c3) (Zc A4 n4 c4) (Zc A5 n5 c5) (Zc A6 n6 c6) (Zc A7 n7 c7) (Zc A8 n8 c8) (Zc A9 n9 c9) (Zc A10 n10 c10) (Zc A11 n11 c11) (Zc A12 n12 c12) (Zc A13 n13 c13) (Zc A14 n14 c14):=by
 obtain ⟨_,_,_,_,_,_,_,_,_,_,_,_,_,_,_,rfl,hR⟩:=Xy h;obtain ⟨A0,n0,c0,rfl,_⟩:=id hR.params;obtain ⟨⟨A1,n1,c1,rfl,_⟩,⟨A2,n2,c2,rfl,_⟩,⟨A3,n3,c3,rfl,_⟩,⟨A4,n4,c4,rfl,_⟩⟩:=id hR.start.sls;obtain ⟨⟨A5,n5,c5,rfl,_⟩,⟨A6,n6,c6,rfl,_⟩,⟨A7,n7,c7,rfl,_⟩,⟨A8,n8,c8,rfl,_⟩⟩:=id hR.over.sls;obtain ⟨⟨A9,n9,c9,rfl,_⟩,⟨A10,n10,c10,rfl,_⟩,⟨A11,n11,c11,rfl,_⟩,⟨A12,n12,c12,rfl,_⟩⟩:=id hR.fin.sls;obtain ⟨A13,n13,c13,rfl,_⟩:=id hR.atStart;obtain ⟨A14,n14,c14,rfl,_⟩:=id hR.atEnd;exact ⟨_,_,_,_,_,_,_,_,_,_,_,_,_,_,_,_,_,_,_,_,_,_,_,_,_,_,_,_,_,_,_,_,_,_,_,_,_,_,_,_,_,_,_,_,_,rfl,hR⟩
theorem Ya8 {x:Value_} (h:valueL.rep fz x cs):∃ A0 n0 c0,cs=[Zy x.fluent.name,Zc A0 n0 c0,Zk x.n]/\Value_R fz x (Zc A0 n0 c0):=by
 obtain ⟨_,rfl,hR⟩:=YaA h;obtain ⟨A0,n0,c0,rfl,_⟩:=id hR.fluent.args;exact ⟨_,_,_,rfl,hR⟩
theorem YgW {x:Change} (h:changeL.rep fz x cs):∃ A0 n0 c0 A1 n1 c1 A2 n2 c2 A3 n3 c3 A4 n4 c4 A5 n5 c5 A6 n6 c6 A7 n7 c7,cs=[Zk x.kind,Zc A0 n0 c0,Zy x.when_.op,Zy x.when_.name,Zc A1 n1 c1,Zc A2 n2 c2,Zc A3 n3 c3,Zc A4 n4 c4,Zy x.name,Zc A5 n5 c5,Zy x.value.op,Zy x.value.name,Zk x.value.n,Zc A6 n6 c6,Zc A7 n7 c7]/\ChangeR fz x (Zc A0 n0 c0) (Zc A1 n1 c1) (Zc A2 n2 c2) (Zc A3 n3 c3) (Zc A4 n4 c4) (Zc A5 n5 c5) (Zc A6 n6 c6) (Zc A7 n7 c7):=by
 obtain ⟨_,_,_,_,_,_,_,_,rfl,hR⟩:=Y8 h;obtain ⟨A0,n0,c0,rfl,_⟩:=id hR.params;obtain ⟨⟨A1,n1,c1,rfl,_⟩,⟨A2,n2,c2,rfl,_⟩,⟨A3,n3,c3,rfl,_⟩,⟨A4,n4,c4,rfl,_⟩⟩:=id hR.when_.sls;obtain ⟨A5,n5,c5,rfl,_⟩:=id hR.args;obtain ⟨⟨A6,n6,c6,rfl,_⟩,⟨A7,n7,c7,rfl,_⟩⟩:=id hR.value.sls;exact ⟨_,_,_,_,_,_,_,_,_,_,_,_,_,_,_,_,_,_,_,_,_,_,_,_,rfl,hR⟩
theorem YfV {x:Formula} (h:formulaL.rep fz x cs):∃ A0 n0 c0 A1 n1 c1 A2 n2 c2 A3 n3 c3,cs=[Zy x.op,Zy x.name,Zc A0 n0 c0,Zc A1 n1 c1,Zc A2 n2 c2,Zc A3 n3 c3]/\FormulaR fz x (Zc A0 n0 c0) (Zc A1 n1 c1) (Zc A2 n2 c2) (Zc A3 n3 c3):=by
 obtain ⟨_,_,_,_,rfl,hR⟩:=YI h;obtain ⟨⟨A0,n0,c0,rfl,_⟩,⟨A1,n1,c1,rfl,_⟩,⟨A2,n2,c2,rfl,_⟩,⟨A3,n3,c3,rfl,_⟩⟩:=id hR.sls;exact ⟨_,_,_,_,_,_,_,_,_,_,_,_,rfl,hR⟩
theorem Ykl {x:Lx.Expr} (h:exprL.rep fz x cs):∃ A0 n0 c0 A1 n1 c1,cs=[Zy x.op,Zy x.name,Zk x.n,Zc A0 n0 c0,Zc A1 n1 c1]/\ExprR fz x (Zc A0 n0 c0) (Zc A1 n1 c1):=by
 obtain ⟨_,_,rfl,hR⟩:=Xe h;obtain ⟨⟨A0,n0,c0,rfl,_⟩,⟨A1,n1,c1,rfl,_⟩⟩:=id hR.sls;exact ⟨_,_,_,_,_,_,rfl,hR⟩
end Go.Lx
namespace Go.Proofs
open Go.Shelf
def YcM:Go.Shelf.Ren:=⟨fun | 106=>25 | 213=>62 | 265=>105 | n=>n,fun | 9=>9 | 3=>3 | n=>n,fun | n=>n⟩
theorem Yga:Go.Proofs.Lays.n106 Tryz.prog YcM:={
 mixed:=by kernel_rfl
 f106:=Tryz.func25.trans (congrArg some (by kernel_rfl))
 f213:=Tryz.func62.trans (congrArg some (by kernel_rfl))
 f265:=Tryz.func105.trans (congrArg some (by kernel_rfl))
 t3:=Tryz.underlying3
 a3:=Tryz.isAgg3
 z3:=Tryz.sizeOf3
 v3:=Tryz.zeroValue3
 t9:=Tryz.underlying9
 a9:=Tryz.isAgg9
 z9:=Tryz.sizeOf9
 v9:=Tryz.zeroValue9}
open Go.RowKit in
/-- strings.Compare: "Compare returns an integer comparing two strings lexicographically. The result will be 0 if a == b, -1 if a < b, and +1 if a > b.": IT RETURNS 'Lib.compareBytes a b'; the world is as1 it was. (LAID: no walk: one application.) -/
theorem Tryz.strings_Compare (a b:ByteArray) (w:World):
 Calls Tryz.prog 25 #[.string a,.string b] w fun e w'=>e=.returned (.int .i64 (Lib.compareBytes a.data.toList b.data.toList))/\w'=w:=Any.strings_Compare Yga a b w
end Go.Proofs
namespace Go.Proofs.YtaaanbkahfeknaaGreatDoor
variable {α β:Type} {fz:FZ} {A:Option Addr} {c n:Nat}
theorem YkB:∀ a b:List UInt8,Lib.compareBytes a b=if a<b then -1 else if a=b then 0 else 1
 | [],[]=>by rw [Lib.compareBytes,if_neg (List.lt_irrefl _),if_pos rfl]
 | [],b::m=>by rw [Lib.compareBytes,if_pos (List.nil_lt_cons _ _)]
 | a::l,[]=>by rw [Lib.compareBytes,if_neg (List.not_lt_nil _),if_neg (by simp)]
 | a::l,b::m=>by
  rw [Lib.compareBytes,YkB l m];by_cases h1:a<b
  ·rw [if_pos h1,if_pos (List.cons_lt_cons_iff.2 (.inl h1))]
  rw [if_neg h1];by_cases h2:b<a
  ·have h3:¬a=b:=fun e=>by subst e;exact absurd h2 (UInt8.lt_irrefl _)
   rw [if_pos h2,if_neg (fun h=>(List.cons_lt_cons_iff.1 h).elim h1 (fun h=>h3 h.1)),if_neg (by simp [h3])]
  have h3:a=b:=UInt8.le_antisymm (UInt8.not_lt.1 h2) (UInt8.not_lt.1 h1);subst h3;rw [if_neg h2];by_cases h4:l<m
  ·rw [if_pos h4,if_pos (List.cons_lt_cons_iff.2 (.inr ⟨rfl,h4⟩))]
  rw [if_neg h4,if_neg (fun h=>(List.cons_lt_cons_iff.1 h).elim h1 (fun h=>h4 h.2))];by_cases h5:l=m
  ·rw [if_pos h5,if_pos (by rw [h5])]
  rw [if_neg h5,if_neg (by simp [h5])]
theorem Yeg {a b:Bs}:QFn prog 25 [Zy a,Zy b] fz (Zk (cmpS a b)):=by
 unfold QFn;refine ⟨⟨_,Tryz.func25,by decide,by decide⟩,fun w hw=>(Tryz.strings_Compare a b w).mono fun e w' ⟨he,h⟩=>?_⟩;subst h;refine ⟨he.trans ?_,Fr.refl _ _⟩;have h1:ltB a b=true↔a.data.toList<b.data.toList:=by rw [YaG,ByteArray.toList_eq,ByteArray.toList_eq]
 have h2:a=b↔a.data.toList=b.data.toList:=⟨fun h=>by rw [h],fun h=>Yhx (by rw [ByteArray.toList_eq,ByteArray.toList_eq,h])⟩;rw [YkB,cmpS];simp only [h1,h2]
abbrev byC {α:Type} (f:α->Bs):α->α->Int:=fun x y=>cmpS (f x) (f y)
theorem OrdC.swk {C:α->α->Int} (h:OrdC C) (f:β->α):SWk (ltC fun x y=>C (f x) (f y)) where
 as_ x y h1 h2:=by have:=(h.anti _ _).1 h1;have h3:C (f y) (f x)<0:=h2;omega
 nt x y z h1 h2 h3:=by
  have g1:¬C (f y) (f x)<0:=h1;have g2:¬C (f z) (f y)<0:=h2;have g3:C (f z) (f x)<0:=h3;have tot:∀ u v,¬C u v<0->C v u<0\/v=u:=fun u v k=>by
   rcases Int.lt_trichotomy (C u v) 0 with k1 | k1 | k1
   ·exact absurd k1 k
   ·exact .inr (h.eq0 _ _ k1).symm
   exact .inl ((h.anti _ _).2 k1)
  rcases tot _ _ g1 with k | k
  ·rcases tot _ _ g2 with k2 | k2
   ·exact absurd (h.trans _ _ _ (h.trans _ _ _ k k2) g3) (by rw [h.refl];decide)
   rw [k2] at k;exact absurd (h.trans _ _ _ k g3) (by rw [h.refl];decide)
  rw [k] at g3;exact g2 g3
theorem byNPa_q:CmpQ paramL 54 fz (byC Param.name):=by
 intro x y cs ds hx hy;obtain ⟨rfl,hR⟩:=XD hx;obtain ⟨rfl,hS⟩:=XD hy;refine qF Tryz.func54 Tryz.ntmps54 (fun w0=>?_);refine zW ?_;intros;refine zc Yeg ?_;refine zW ?_;intros;exact zR (h:=rfl)
theorem byNPr_q:CmpQ predicateL 24 fz (byC Predicate.name):=by
 intro x y cs ds hx hy;obtain ⟨A0,n0,c0,rfl,hR⟩:=Wx hx;obtain ⟨A0,n0,c0,rfl,hS⟩:=Wx hy;refine qF Tryz.func24 Tryz.ntmps24 (fun w0=>?_);refine zW ?_;intros;refine zc Yeg ?_;refine zW ?_;intros;exact zR (h:=rfl)
theorem byNFu_q:CmpQ functionL 27 fz (byC Function.name):=by
 intro x y cs ds hx hy;obtain ⟨A0,n0,c0,rfl,hR⟩:=WP hx;obtain ⟨A0,n0,c0,rfl,hS⟩:=WP hy;refine qF Tryz.func27 Tryz.ntmps27 (fun w0=>?_);refine zW ?_;intros;refine zc Yeg ?_;refine zW ?_;intros;exact zR (h:=rfl)
theorem byNAc_q:CmpQ actionL 29 fz (byC Action.name):=by
 intro x y cs ds hx hy;obtain ⟨A0,n0,c0,A1,n1,c1,A2,n2,c2,A3,n3,c3,A4,n4,c4,A5,n5,c5,rfl,hR⟩:=YaP hx;obtain ⟨A0,n0,c0,A1,n1,c1,A2,n2,c2,A3,n3,c3,A4,n4,c4,A5,n5,c5,rfl,hS⟩:=YaP hy;refine qF Tryz.func29 Tryz.ntmps29 (fun w0=>?_);refine zW ?_;intros;refine zc Yeg ?_;refine zW ?_;intros;exact zR (h:=rfl)
theorem byNDu_q:CmpQ durativeL 31 fz (byC Durative.name):=by
 intro x y cs ds hx hy;obtain ⟨A0,n0,c0,A1,n1,c1,A2,n2,c2,A3,n3,c3,A4,n4,c4,A5,n5,c5,A6,n6,c6,A7,n7,c7,A8,n8,c8,A9,n9,c9,A10,n10,c10,A11,n11,c11,A12,n12,c12,A13,n13,c13,A14,n14,c14,rfl,hR⟩:=WT hx;obtain ⟨A0,n0,c0,A1,n1,c1,A2,n2,c2,A3,n3,c3,A4,n4,c4,A5,n5,c5,A6,n6,c6,A7,n7,c7,A8,n8,c8,A9,n9,c9,A10,n10,c10,A11,n11,c11,A12,n12,c12,A13,n13,c13,A14,n14,c14,rfl,hS⟩:=WT hy;refine qF Tryz.func31 Tryz.ntmps31 (fun w0=>?_);refine zW ?_;intros;refine zc Yeg ?_;refine zW ?_;intros;exact zR (h:=rfl)
theorem Wf {l:List Param} (h:Sl paramL fz A n c l) (hn:n<=1000000000):
 GFn prog 20 [Zc A n c] fz [] (fun v fz' H'=>Grow paramL 110 fz' v n H' l):=by
 refine zF Tryz.func20 Tryz.ntmps20 (fun w0=>?_);refine zW ?_;intros;refine Yc (Ym [] [] Zz (YiA h hn) (fun v1 fz1 H1 hle1 hR1=>?_));rw [List.append_nil];refine zW ?_;intros;exact ret1 rfl rfl (List.Sublist.refl _) hR1
theorem YgQ:∀ (s:Nat) {fz:FZ} {e:Lx.Expr} {va vk:Value},SizeOf.sizeOf e<=s->ExprR fz e va vk->eW e<=1000000000->
 GFn prog 59 [.agg #[Zy e.op,Zy e.name,Zk e.n,va,vk]] fz [] (fun v fz' H'=>H'=[]/\ExprV fz' e v)
 | 0,_,e,_,_,hse,_,_=>by cases e;simp at hse
 | s+1,fz,e,va,vk,hse,hR,hW=>by
  have hweq:=eW_eq e;have hkl:=Ws eW_pos e.kids;obtain ⟨⟨B1,m1,d1,rfl,ia⟩,⟨B2,m2,d2,rfl,ik⟩⟩:=hR.sls;have l1:=ia.len;have l2:=ik.len;refine zF Tryz.func59 Tryz.ntmps59 (fun w0=>?_);refine zW ?_;intros;rename_i g1 g2;refine Yc (Ym [] [_,_] Zz (YbR ia Zi) (fun v1 fz1 H1 hle1 hR1=>?_));obtain ⟨B3,d3,rfl,_,_⟩:=hR1.form;refine Seq.freezeAll (H1:=[_,_]) (H2:=H1) Zq (fun fz2 hle2 hf2=>?_);obtain ⟨B4,d4,e4,ia4⟩:=hR1.sl hle2 hf2 Zi;injection e4 with e41 e42 e43
  subst e41;subst e43;have hx:=hle1.trans hle2;refine zW ?_;intros;refine Yc (Ym [] [_,_] Zz (YhP (ik.mono hx) Zi) (fun v2 fz3 H2 hle3 hR2=>?_));obtain ⟨B5,d5,rfl,_,_⟩:=hR2.form;refine Seq.perm Zq ?_;refine zW ?_;intros;refine Yd (fun q σ fz' H'=>∃ (k:Nat) (Hk:HP),k<=m2/\q=m2 - k/\σ=[(15,Zk k),(14,Zk m2),(2,Zp g2),(1,Zp g1)]/\Le fz3 fz'/\
   H'=(g2,Zu #[Ze,Ze,Zk 0,Zn,Zn] 93)::(g1,Zu #[Zy e.op,Zy e.name,Zk e.n,Zc B3 m1 d3,Zc B5 m2 d5] 93)::Hk/\
   Grow exprL 93 fz' (Zc B5 m2 d5) m2 Hk e.kids) ⟨0,H2,Z0 _,rfl,rfl,Zd,rfl,hR2⟩ Zw Zb ?_
  rintro q σ fz' H' ⟨k,Hk,hk,rfl,rfl,hle,rfl,hG⟩;refine zW ?_;intros;refine zC ?_ ?_<;>intro c1
  ·obtain ⟨x,hxx⟩:=Yq (l:=e.kids) (k:=k) Zi;have hxm:=Zm hxx;have hlt:=Expr.kids_lt hxm;have hxw:=Wr (w:=eW) hxm;obtain ⟨gk,cap,cur,e8,rfl,hB⟩:=hG.b Zi;injection e8 with e81 e82 e83
   subst e81;subst e83;obtain ⟨cs,hrx,hcx⟩:=Yl hB hxx;obtain ⟨wa,wk,rfl,hRx⟩:=Xe hrx;obtain ⟨⟨E1,r1,q1,rfl,_⟩,⟨E2,r2,q2,rfl,_⟩⟩:=hRx.sls;refine zWN ?_;intros;refine Yab [_,_,_] ?_;refine zW ?_;intros;refine zG ?_;refine Yb rfl ?_;refine zG ?_;refine Ya (vs:=[Zy x.op,Zy x.name,Zk x.n,Zc E1 r1 q1,Zc E2 r2 q2]) 2 ?_ (hv:=hcx);refine pU ?_;refine Yt (Ym [] [_,_,_] Zz (YgQ s Zi hRx Zi) (fun v5 fz5 H5 hle5 hR5=>⟨⟨hle5,Zx⟩,?_⟩));obtain ⟨rfl,wa5,wk5,rfl,hR5⟩:=hR5;refine Ch.qk ⟨hle5,Zx⟩ (Yb rfl ?_);refine Ch.hard0 (Yk (pre:=[_,_]) (L:=exprL) (j:=k) rfl rfl Yhr (Ybe hR5) (hB.mono hle5) (fun cur1 hB1=>?_));refine Ch.done ?_;refine zW ?_;intros;exact wP (h:=by exact ⟨k+1,_,by omega,rfl,rfl,hle.trans hle5,rfl,hB1.grow.of (YbF hxx) rfl⟩)
  refine zW ?_;intros;refine W4 (i:=0) rfl (fun fz9 hle9 hf9=>?_);obtain ⟨A9,c9,e9,h9⟩:=hG.sl hle9 (fun p hp=>hf9 p (by simp [hp])) Zi;injection e9 with e91 e92 e93
  subst e91;subst e93;exact ⟨rfl,_,_,rfl,{hR with args:=(ia4.mono (hle3.trans (hle.trans hle9))).is,kids:=h9.is}⟩
theorem perm2 {H5 H2:HP} {a b:Nat × Obj}:(a::b::(H5++H2)).Perm (H5++(H2++ [a,b])):=by
 rw [show H5++(H2++ [a,b])=(H5++H2)++ [a,b] from by simp [List.append_assoc]];exact Zq (l₁:=[a,b])
theorem Ybu:∀ (s:Nat) {fz:FZ} {f:Formula} {va vp ve vk:Value},SizeOf.sizeOf f<=s->FormulaR fz f va vp ve vk->fW f<=1000000000->
 GFn prog 21 [.agg #[Zy f.op,Zy f.name,va,vp,ve,vk]] fz [] (fun v fz' H'=>H'=[]/\FormulaV fz' f v)
 | 0,_,f,_,_,_,_,hse,_,_=>by cases f;simp at hse
 | s+1,fz,f,va,vp,ve,vk,hse,hR,hW=>by
  have hweq:=fW_eq f;have hkl:=Ws fW_pos f.kids;have hel:=Ws eW_pos f.exprs;obtain ⟨⟨B1,m1,d1,rfl,ia⟩,⟨B2,m2,d2,rfl,ip⟩,⟨B3,m3,d3,rfl,ie⟩,⟨B4,m4,d4,rfl,ik⟩⟩:=hR.sls;have l1:=ia.len;have l2:=ip.len;have l3:=ie.len;have l4:=ik.len;refine zF Tryz.func21 Tryz.ntmps21 (fun w0=>?_);refine zWN ?_;intros;rename_i g1 g2;refine Yab [_,_] ?_;refine zW ?_;intros;refine Yu ?_;refine zW ?_;intros;refine Yu ?_;refine zW ?_;intros;refine pU ?_;refine Yt (Ym [] [_,_] Zz (YbR ia Zi) (fun v5 fz5 H5 hle5 hR5=>⟨⟨hle5,Zx⟩,?_⟩));obtain ⟨A5,c5,rfl,_,_⟩:=hR5.form;refine Yt (Ym [] (H5++ [_,_]) Zz (Wf (ip.mono hle5) Zi) (fun v6 fz6 H6 hle6 hR6=>⟨⟨hle5.trans hle6,Zx⟩,?_⟩));obtain ⟨A6,c6,rfl,_,_⟩:=hR6.form;refine Ch.hard0 (Does.perm perm2 (Xd ?_));refine Ch.hard Zj (DoesQ.does (Ye ?_));refine Ch.hard0 (Xd ?_);refine Ch.done ?_;refine Yc7 ?_;refine Wp.freezeAll (H1:=[_,_]) (H2:=H6++H5) (Zr _) (fun fz7 hle7 hf7=>?_);obtain ⟨A5',c5',e5,ia5⟩:=hR5.sl (hle6.trans hle7) (fun p hp=>hf7 p (by simp [hp])) Zi;injection e5 with e51 e52 e53
  subst e51;subst e53;obtain ⟨A6',c6',e6,ip6⟩:=hR6.sl hle7 (fun p hp=>hf7 p (by simp [hp])) Zi;injection e6 with e61 e62 e63
  subst e61;subst e63;have hx:=hle5.trans (hle6.trans hle7);refine zWN ?_;intros;refine Yab [_,_] ?_;refine zW ?_;intros;refine Yu ?_;refine zW ?_;intros;refine Yu ?_;refine zW ?_;intros;refine pU ?_;refine Yt (Ym [] [_,_] Zz (YhP (ie.mono hx) Zi) (fun v8 fz8 H8 hle8 hR8=>⟨⟨hle8,Zx⟩,?_⟩));obtain ⟨A8,c8,rfl,_,_⟩:=hR8.form;refine Yt (Ym [] (H8++ [_,_]) Zz (cloneF_q (ik.mono (hx.trans hle8)) Zi) (fun v9 fz9 H9 hle9 hR9=>⟨⟨hle8.trans hle9,Zx⟩,?_⟩));obtain ⟨A9,c9,rfl,_,_⟩:=hR9.form;refine Ch.hard0 (Does.perm perm2 (Xd ?_));refine Ch.hard Zj (DoesQ.does (Ye ?_));refine Ch.hard0 (Xd ?_);refine Ch.done ?_;refine Yc7 ?_;refine Wp.perm (List.Perm.cons _ (List.Perm.cons _ Zq)) ?_;refine zW ?_;intros;refine Yd (fun q σ fz' H'=>∃ (k:Nat) (Hk:HP),k<=m3/\q=m3 - k/\σ=[(24,Zk k),(23,Zk m3),(2,Zp g2),(1,Zp g1)]/\Le fz9 fz'/\
   H'=(g2,Zu #[Ze,Ze,Zn,Zn,Zn,Zn] 35)::(g1,Zu #[Zy f.op,Zy f.name,Zc A5 m1 c5,Zc A6 m2 c6,Zc A8 m3 c8,Zc A9 m4 c9] 35)::(Hk++H9)/\
   Grow exprL 93 fz' (Zc A8 m3 c8) m3 Hk f.exprs) ⟨0,H8,Z0 _,rfl,rfl,Zd,rfl,hR8.mono hle9⟩ Zw Zb ?_
  rintro q σ fz' H' ⟨k,Hk,hk,rfl,rfl,hle,rfl,hG⟩;refine zW ?_;intros;refine zC ?_ ?_<;>intro c1
  ·obtain ⟨x,hxx⟩:=Yq (l:=f.exprs) (k:=k) Zi;have hxm:=Zm hxx;have hxw:=Wr (w:=eW) hxm;obtain ⟨gk,cap,cur,e8,rfl,hB⟩:=hG.b Zi;injection e8 with e81 e82 e83
   subst e81;subst e83;obtain ⟨cs,hrx,hcx⟩:=Yl hB hxx;obtain ⟨E1,r1,q1,E2,r2,q2,rfl,hRx⟩:=Ykl hrx;refine zWN ?_;intros;refine Yab [_,_,_] ?_;refine zW ?_;intros;refine zG ?_;refine Yb rfl ?_;refine zG ?_;refine Ya (vs:=[Zy x.op,Zy x.name,Zk x.n,Zc E1 r1 q1,Zc E2 r2 q2]) 2 ?_ (hv:=hcx);refine pU ?_;refine Yt (Ym [] (_::_::_::H9) Zz (YgQ _ (Zs _) hRx Zi) (fun v10 fz10 H10 hle10 hR10=>⟨⟨hle10,Zx⟩,?_⟩));obtain ⟨rfl,wa5,wk5,rfl,hR10⟩:=hR10;refine Ch.qk ⟨hle10,Zx⟩ (Yb rfl ?_);refine Ch.hard0 (Yk (pre:=[_,_]) (L:=exprL) (j:=k) rfl rfl Yhr (Ybe hR10) (hB.mono hle10) (fun cur1 hB1=>?_));refine Ch.done ?_;refine zW ?_;intros;exact wP (h:=by exact ⟨k+1,[_],by omega,rfl,rfl,hle.trans hle10,rfl,hB1.grow.of (YbF hxx) rfl⟩)
  first
  | refine Wp.freezeAll (H1:=_::_::H9) (H2:=Hk) (List.Perm.cons _ (List.Perm.cons _ Zq)) (fun fz10 hle10 hf10=>?_)
  | refine Seq.freezeAll (H1:=_::_::H9) (H2:=Hk) (List.Perm.cons _ (List.Perm.cons _ Zq)) (fun fz10 hle10 hf10=>?_)
  obtain ⟨A10,c10,e10,ie10⟩:=hG.sl hle10 hf10 Zi;injection e10 with e101 e102 e103
  subst e101;subst e103;refine zW ?_;intros;refine Yd (fun q σ fz' H'=>∃ (k:Nat) (Hk:HP),k<=m4/\q=m4 - k/\σ=[(41,Zk k),(40,Zk m4),(2,Zp g2),(1,Zp g1)]/\Le fz10 fz'/\
   H'=(g2,Zu #[Ze,Ze,Zn,Zn,Zn,Zn] 35)::(g1,Zu #[Zy f.op,Zy f.name,Zc A5 m1 c5,Zc A6 m2 c6,Zc A8 m3 c8,Zc A9 m4 c9] 35)::Hk/\
   Grow formulaL 35 fz' (Zc A9 m4 c9) m4 Hk f.kids) ⟨0,H9,Z0 _,rfl,rfl,Zd,rfl,hR9.mono (hle.trans hle10)⟩ Zw Zb ?_
  rintro q σ fz11 H' ⟨k,Hk,hk,rfl,rfl,hle11,rfl,hG11⟩;refine zW ?_;intros;refine zC ?_ ?_<;>intro c2
  ·obtain ⟨x,hxx⟩:=Yq (l:=f.kids) (k:=k) Zi;have hxm:=Zm hxx;have hlt:=Formula.kids_lt hxm;have hxw:=Wr (w:=fW) hxm;obtain ⟨gk,cap,cur,e8,rfl,hB⟩:=hG11.b Zi;injection e8 with e81 e82 e83
   subst e81;subst e83;obtain ⟨cs,hrx,hcx⟩:=Yl hB hxx;obtain ⟨E1,r1,q1,E2,r2,q2,E3,r3,q3,E4,r4,q4,rfl,hRx⟩:=YfV hrx;refine zWN ?_;intros;refine Yab [_,_,_] ?_;refine zW ?_;intros;refine zG ?_;refine Yb rfl ?_;refine zG ?_;refine Ya (vs:=[Zy x.op,Zy x.name,Zc E1 r1 q1,Zc E2 r2 q2,Zc E3 r3 q3,Zc E4 r4 q4]) 2 ?_ (hv:=hcx);refine pU ?_;refine Yt (Ym [] [_,_,_] Zz (Ybu s Zi hRx Zi) (fun v12 fz12 H12 hle12 hR12=>⟨⟨hle12,Zx⟩,?_⟩));obtain ⟨rfl,wa5,wp5,we5,wk5,rfl,hR12⟩:=hR12;refine Ch.qk ⟨hle12,Zx⟩ (Yb rfl ?_);refine Ch.hard0 (Yk (pre:=[_,_]) (L:=formulaL) (j:=k) rfl rfl Ygw (WQ hR12) (hB.mono hle12) (fun cur1 hB1=>?_));refine Ch.done ?_;refine zW ?_;intros;exact wP (h:=by exact ⟨k+1,[_],by omega,rfl,rfl,hle11.trans hle12,rfl,hB1.grow.of (YbF hxx) rfl⟩)
  refine zW ?_;intros;refine W4 (i:=0) rfl (fun fz13 hle13 hf13=>?_);obtain ⟨A13,c13,e13,h13⟩:=hG11.sl hle13 (fun p hp=>hf13 p (by simp [hp])) Zi;injection e13 with e131 e132 e133
  subst e131;subst e133;have hy:=hle8.trans (hle9.trans (hle.trans (hle10.trans (hle11.trans hle13))));exact ⟨rfl,_,_,_,_,rfl,{hR with args:=(ia5.mono hy).is,params:=(ip6.mono hy).is,exprs:=(ie10.mono (hle11.trans hle13)).is,kids:=h13.is}⟩
end Go.Proofs.YtaaanbkahfeknaaGreatDoor
