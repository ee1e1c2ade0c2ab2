/- The texts NF, laid together. Conditions: none. -/
import Derived.Test.YtiligkgjcmokbaaGreatDoorKSO
set_option linter.all false
set_option maxRecDepth 20000
namespace Go.Lx
section
variable {α:Type} {cmp:α->α->Int} {l:List α} {B i j:Nat}
def segC (cmp:α->α->Int) (l:List α) (B i:Nat):List α:=srtC cmp ((l.drop (B*i)).take B)
def YaE (cmp:α->α->Int) (l:List α) (B:Nat):Nat->Nat->List α
 | _,0=>[]
 | i,j+1=>segC cmp l B i++YaE cmp l B (i+1) j
theorem Yfl (h:l.length<=B*i):segC cmp l B i=[]:=by
 unfold segC;rw [List.drop_of_length_le h];simp [srtC,YdJ]
theorem YiP:∀ {j i:Nat},l.length<=B*i->YaE cmp l B i j=[]
 | 0,_,_=>rfl
 | j+1,i,h=>by
  rw [YaE,Yfl h,YiP (j:=j) (i:=i+1) (by rw [Nat.mul_succ];omega)];rfl
theorem YlF (h:B*i+B<=l.length):(segC cmp l B i).length=B:=by
 unfold segC;rw [YiM,List.length_take,List.length_drop];omega
theorem Ycw:∀ {j i:Nat},YaE cmp l B i (j+1)=YaE cmp l B i j++segC cmp l B (i+j)
 | 0,i=>by simp [YaE]
 | j+1,i=>by
  rw [YaE,Ycw (j:=j) (i:=i+1),YaE,List.append_assoc,show i+1+j=i+(j+1) by omega]
theorem YiQ:∀ {j i:Nat},B*(i+j)<=l.length->(YaE cmp l B i j).length=B*j
 | 0,_,_=>rfl
 | j+1,i,h=>by
  have h0:B*(i+(j+1))=B*(i+j)+B:=Nat.mul_succ B (i+j);have h1:B*(i+j)=B*i+B*j:=Nat.mul_add B i j;have h2:B*(j+1)=B*j+B:=Nat.mul_succ B j;rw [YaE,List.length_append,YlF Zi,YiQ (j:=j) (i:=i+1) (by rw [show i+1+j=i+(j+1) by omega];exact h)];omega
theorem srtC_app (w:SWk (ltC cmp)) (x y:List α):srtC cmp (x++y)=mrgC cmp (srtC cmp x) (srtC cmp y):=YeX w x _ y rfl
theorem Yo5 (w:SWk (ltC cmp)):mrgC cmp (segC cmp l B (2*i)) (segC cmp l B (2*i+1))=segC cmp l (2*B) i:=by
 unfold segC;rw [<- srtC_app w];have e:(l.drop (B*(2*i))).take B++(l.drop (B*(2*i+1))).take B=(l.drop (2*B*i)).take (2*B):=by
  rw [Nat.mul_succ,<- List.drop_drop,show 2*B*i=B*(2*i) by rw [Nat.mul_comm 2 B,Nat.mul_assoc],show 2*B=B+B by omega,List.take_add]
 rw [e]
theorem segs_two (h1:l.length<=B*(i+j)) (h2:l.length<=B*(i+2)):YaE cmp l B i j=segC cmp l B i++segC cmp l B (i+1):=by
 match j,h1 with
 | 0,h1=>
  rw [Nat.add_zero] at h1;rw [Yfl h1,Yfl (by rw [Nat.mul_succ];omega)];rfl
 | 1,h1=>rw [YaE,YaE,Yfl (i:=i+1) h1]
 | j+2,_=>rw [YaE,YaE,YiP (j:=j) h2,List.append_nil]
theorem segs_all (h1:l.length<=B) (h2:l.length<=B*j):YaE cmp l B 0 j=srtC cmp l:=by
 match j,h2 with
 | 0,h2=>
  have:l=[]:=List.eq_nil_of_length_eq_zero (by simpa using h2);subst this;rfl
 | j+1,_=>rw [YaE,YiP (by simpa using h1),List.append_nil,segC,Nat.mul_zero,List.drop_zero,Zl h1]
end
end Go.Lx
namespace Go.Proofs.YtiligkgjcmokbaaGreatDoor
open Go.Lx Go.RowKit
attribute [local instance 10] Classical.propDecidable
open Go.Proofs.Tryz (prog)
variable {α:Type} {fz:FZ} {g n:Nat} {t:TypeId} {l:List α}
set_option maxHeartbeats 8000000 in
theorem stable_o {Λ:Lay α} {fw fr fi fm fs:FuncId} (hty:SrT Λ fw fr fi fm fs) {cap fc:Nat} {cur:List Value} {cmp:α->α->Int} (hB:GrowB Λ t fz g n cap cur l) (hC:CmpQ Λ fc fz cmp) (w:SWk (ltC cmp)) (hn:n<=1000000000):
 GFn prog fs [Zv g n cap,Zk n,.func (.func fc) #[] #[]] fz [(g,Zu cur.toArray t)]
  (fun _ fz' H'=>fz=fz'/\∃ cur',H'=[(g,Zu (List.toArray cur') t)]/\GrowB Λ t fz g n cap cur' (srtC cmp l)):=by
 have hl:=hB.len;have hO:=hty.one;cases hty
 all_goals
  first
   | refine zF Tryz.func188 Tryz.ntmps188 (fun w0=>?_)
   | refine zF Tryz.func60 Tryz.ntmps60 (fun w0=>?_)
   | refine zF Tryz.func62 Tryz.ntmps62 (fun w0=>?_)
   | refine zF Tryz.func63 Tryz.ntmps63 (fun w0=>?_)
   | refine zF Tryz.func64 Tryz.ntmps64 (fun w0=>?_)
   | refine zF Tryz.func69 Tryz.ntmps69 (fun w0=>?_)
  refine zW ?_;intros;refine Yi (fun q σ fz' H'=>∃ (k:Nat) (cur1:List Value),20*k<=n/\q=n - 20*k/\σ=[(8,Zk (20*k+20:Nat)),(7,Zk (20*k:Nat)),(6,Zk 20),(0,Zv g n cap),(1,Zk n),(2,.func (.func fc) #[] #[])]/\fz=fz'/\H'=[(g,Zu cur1.toArray t)]/\GrowB (YfC hB) t fz g n cap cur1 (YaE cmp l 20 0 k++l.drop (20*k))) ⟨0,cur,Z0 _,rfl,rfl,rfl,rfl,hB⟩ Zw Zb ?_;rintro q σ fz' H' ⟨k,cur1,hk,rfl,rfl,rfl,rfl,hB1⟩;have lS:(YaE cmp l 20 0 k).length=20*k:=YiQ (by rw [Nat.zero_add];omega);refine zW ?_;intros;refine zC ?_ ?_<;>intro c1
  ·refine zW ?_;intros;refine Ya (Ym [_] [] Zz (Ynh (by constructor) (P:=YaE cmp l 20 0 k) (U:=(l.drop (20*k)).take 20) (Q:=l.drop (20*(k+1))) (by rw [Nat.mul_succ,<- List.drop_drop,List.take_append_drop];exact hB1) hC w hn (by rw [lS]) (by rw [lS,List.length_take,List.length_drop];omega)) (fun v4 fz4 H4 hle4 hR4=>?_) (hx:=rfl));obtain ⟨rfl,cur2,rfl,hB2⟩:=hR4;refine zW ?_;intros;exact wP (h:=by exact ⟨k+1,cur2,by omega,rfl,rfl,rfl,rfl,by rw [Ycw,Nat.zero_add];simpa [segC] using hB2⟩)
  refine zW ?_;intros;refine Ya (Ym [_] [] Zz (Ynh (by constructor) (P:=YaE cmp l 20 0 k) (U:=l.drop (20*k)) (Q:=[]) (by rw [List.append_nil];exact hB1) hC w hn (by rw [lS]) (by rw [lS,List.length_drop];omega)) (fun v4 fz4 H4 hle4 hR4=>?_) (hx:=rfl));obtain ⟨rfl,cur2,rfl,hB2⟩:=hR4;have e2:YaE cmp l 20 0 k++(srtC cmp (l.drop (20*k))++ [])=YaE cmp l 20 0 (k+1):=by
   rw [Ycw,Nat.zero_add,List.append_nil,segC,Zl (by rw [List.length_drop];omega)]
  rw [e2] at hB2;refine zW ?_;intros;refine Yi (fun q σ fz' H'=>∃ (B j:Nat) (cur1:List Value),20<=B/\B<=2*n+20/\n<=B*j/\q=n - B/\σ=[(6,Zk B),(0,Zv g n cap),(1,Zk n),(2,.func (.func fc) #[] #[])]/\fz=fz'/\H'=[(g,Zu cur1.toArray t)]/\GrowB (YfC hB) t fz g n cap cur1 (YaE cmp l B 0 j)) ⟨20,k+1,cur2,Zs _,by omega,by omega,rfl,rfl,rfl,rfl,hB2⟩ Zw Zb ?_;rintro q σ fz' H' ⟨B,j,cur3,hB20,hBn,hj,rfl,rfl,rfl,rfl,hB3⟩;refine zW ?_;intros;refine zC ?_ ?_<;>intro c2
  ·refine zW ?_;intros;refine zG ?_;refine Ype Zz Zz (YQ Zi) ?_;refine zW ?_;intros;refine Yi (fun q σ fz' H'=>∃ (z:Int) (a k j:Nat) (cur1:List Value),z=a+2*B/\a=2*B*k/\a<=n/\n<=B*(2*k+j)/\q=n - a/\σ=[(8,Zk z),(7,Zk a),(6,Zk B),(0,Zv g n cap),(1,Zk n),(2,.func (.func fc) #[] #[])]/\fz=fz'/\H'=[(g,Zu cur1.toArray t)]/\GrowB (YfC hB) t fz g n cap cur1 (YaE cmp l (2*B) 0 k++YaE cmp l B (2*k) j)) ⟨2*(B:Int),0,0,j,cur3,by omega,rfl,Z0 _,by simpa using hj,rfl,rfl,rfl,rfl,by simpa [YaE] using hB3⟩ Zw Zb ?_;rintro q σ fz' H' ⟨_,a,k,j,cur4,rfl,ha,han,hj,rfl,rfl,rfl,rfl,hB4⟩;have x1:B*(2*k)=a:=by rw [ha,Nat.mul_comm 2 B,Nat.mul_assoc]
   have x2:B*(2*k+1)=a+B:=by rw [Nat.mul_succ,x1]
   have x3:B*(2*k+2)=a+B+B:=by rw [Nat.mul_succ,x2]
   have lS:(YaE cmp l (2*B) 0 k).length=a:=by rw [YiQ (by rw [Nat.zero_add,<- ha];omega),ha]
   have s1:=Ygo w (l:=(l.drop (B*(2*k))).take B);have s2:=Ygo w (l:=(l.drop (B*(2*k+1))).take B);have l2:(segC cmp l B (2*k+1)).length=min B (n - (a+B)):=by unfold segC;rw [YiM,List.length_take,List.length_drop,x2,hl]
   have sm:=Yo5 (l:=l) (B:=B) (i:=k) w;refine zW ?_;intros;refine zC ?_ ?_<;>intro c3
   ·have l1:(segC cmp l B (2*k)).length=B:=YlF Zi;obtain ⟨j,rfl⟩:∃ i,j=i+2:=by
     match j,hj with
     | 0,hj=>rw [Nat.add_zero,x1] at hj;omega
     | 1,hj=>rw [x2] at hj;omega
     | j+2,_=>exact ⟨j,rfl⟩
    refine zW ?_;intros;refine Ya (Ym [_] [] Zz (YoR (by constructor) hC w hn _ (P:=YaE cmp l (2*B) 0 k) (L:=segC cmp l B (2*k)) (R:=segC cmp l B (2*k+1)) (Q:=YaE cmp l B (2*k+2) j) (Zs _) Zi Zi s1 s2 (by simpa [YaE] using hB4) (by rw [lS]) (by rw [lS,l1];rfl) (by rw [lS,l1,l2];omega)) (fun v4 fz4 H4 hle4 hR4=>?_) (hx:=rfl));obtain ⟨rfl,cur5,rfl,hB5⟩:=hR4;rw [sm] at hB5;refine zW ?_;intros;refine zG ?_;refine Ype Zz Zz (YQ Zi) ?_;refine zW ?_;intros;exact wP (h:=by exact ⟨(a:Int)+2*B+2*B,a+2*B,k+1,j,cur5,by omega,by rw [ha,Nat.mul_succ],by omega,by rw [show 2*(k+1)+j=2*k+(j+2) by omega];exact hj,rfl,rfl,rfl,rfl,by rw [Ycw,Nat.zero_add,List.append_assoc];exact hB5⟩)
   have x4:B*2*(k+1)=a+2*B:=by rw [Nat.mul_succ,Nat.mul_comm B 2,<- ha]
   rw [segs_two (B:=B) (i:=2*k) (j:=j) Zi Zi] at hB4;refine zW ?_;intros;refine zC ?_ ?_<;>intro c4
   ·have l1:(segC cmp l B (2*k)).length=B:=YlF Zi;refine zW ?_;intros;refine Ya (Ym [_] [] Zz (YoR (by constructor) hC w hn _ (P:=YaE cmp l (2*B) 0 k) (L:=segC cmp l B (2*k)) (R:=segC cmp l B (2*k+1)) (Q:=[]) (Zs _) Zi Zi s1 s2 (by simpa using hB4) (by rw [lS]) (by rw [lS,l1];rfl) (by rw [lS,l1,l2];omega)) (fun v4 fz4 H4 hle4 hR4=>?_) (hx:=rfl));obtain ⟨rfl,cur5,rfl,hB5⟩:=hR4;rw [sm] at hB5;refine zW ?_;intros;refine zG ?_;refine Ype Zz Zz (YQ Zi) ?_;refine zW ?_;intros;exact wP (h:=by exact ⟨B*2,k+1,cur5,by omega,by omega,by omega,rfl,rfl,rfl,rfl,by rw [Ycw,Nat.zero_add,Nat.mul_comm B 2];simpa using hB5⟩)
   rw [Yfl (i:=2*k+1) Zi,Yja] at sm;rw [Yfl (i:=2*k+1) Zi,sm] at hB4;refine zW ?_;intros;refine zG ?_;refine Ype Zz Zz (YQ Zi) ?_;refine zW ?_;intros;exact wP (h:=by exact ⟨B*2,k+1,cur4,by omega,by omega,by omega,rfl,rfl,rfl,rfl,by rw [Ycw,Nat.zero_add,Nat.mul_comm B 2];simpa using hB4⟩)
  rw [segs_all Zi Zi] at hB3;refine zW ?_;intros;exact Ycc rfl Zb ⟨rfl,cur3,rfl,hB3⟩
end Go.Proofs.YtiligkgjcmokbaaGreatDoor
