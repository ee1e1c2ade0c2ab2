/- The texts PCR, PVal, PGrd, PWalkK, PWalkL, PWalkM, PWalkN, laid together. Conditions: none. -/
import Derived.Test.YtbdpaoikccabhaaGreatDoorEAM
set_option linter.all false
set_option maxHeartbeats 4000000
noncomputable section
set_option maxRecDepth 20000
open Go.Lx Go.RowKit
attribute [local instance 10] Classical.propDecidable
open Go.Proofs.Tryz (prog)
namespace Go.Proofs.YtbdpaoikccabhaaGreatDoor
variable {i k c n:Nat} {m:List (Bs × Value)} {A:Option Addr} {fz:FZ}
def newM (l:List Param):Int:=
 if TwP [] (parN l) then 4 else if ¬(∀ p∈l,HasT l p.typ) then 3 else if ∃ p∈l,cycM l p.name l.length p.name=true then 21 else 0
def itU (l:List Param):Nat->Bs->Bs
 | 0,t=>t
 | n+1,t=>itU l n (upT l t)
theorem YiQ {l:List Param}:∀ (i k:Nat) (t:Bs),itU l (i+k) t=itU l k (itU l i t)
 | 0,k,t=>by rw [Nat.zero_add];rfl
 | i+1,k,t=>by rw [show i+1+k=(i+k)+1 from by omega,itU,itU,YiQ i k]
theorem cyc_no {l:List Param} {t:Bs}:∀ (n:Nat) {a:Bs},cycM l t n a=false->∀ j,1<=j->j<=n->(∀ i,1<=i->i<j->itU l i a≠YaK)->itU l j a≠t
 | 0,_,_,j,h1,h2,_=>absurd h1 Zi
 | n+1,a,hc,j,h1,h2,hh=>by
  rw [cycM] at hc;by_cases hu:upT l a=t
  ·rw [if_pos hu] at hc;cases hc
  rw [if_neg hu] at hc;obtain ⟨j,rfl⟩:∃ i,j=i+1:=⟨j - 1,by omega⟩;cases j with
  | zero=>exact hu
  | succ j=>
   have h3:upT l a≠YaK:=hh 1 Zi Zi;rw [if_neg h3] at hc;exact cyc_no n hc (j+1) Zi Zi (fun i hi hj=>hh (i+1) Zi Zi)
theorem pigeon {α:Type} [DecidableEq α]:∀ (n:Nat) (L:List α) (f:Nat->α),L.length=n->(∀ i,i<=n->f i∈L)->∃ i j,i<j/\j<=n/\f i=f j
 | 0,L,f,hL,hf=>by
  have:=hf 0 Zi;rw [List.eq_nil_of_length_eq_zero hL] at this;cases this
 | n+1,L,f,hL,hf=>by
  by_cases he:∃ i,i<=n/\f i=f (n+1)
  ·obtain ⟨i,hi,he⟩:=he;exact ⟨i,n+1,by omega,by omega,he⟩
  obtain ⟨i,j,h1,h2,h3⟩:=pigeon n (L.erase (f (n+1))) f (by rw [List.length_erase_of_mem (hf (n+1) Zi),hL];rfl)
   (fun i hi=>(List.mem_erase_of_ne (fun e=>he ⟨i,hi,e⟩)).2 (hf i Zi))
  exact ⟨i,j,h1,by omega,h3⟩
theorem upN_of {l:List Param}:∀ {n:Nat} {t:Bs},itU l n t=YaK->(∀ i,i<n->itU l i t≠YaK)->upN l n t
 | 0,_,h,_=>h
 | n+1,t,h,hh=>⟨hh 0 Zi,upN_of (n:=n) h (fun i hi=>hh (i+1) Zi)⟩
theorem YfR {l:List Param} {t:Bs}:(tyF l t).isSome=true↔t∈parN l:=by
 induction l with
 | nil=>simp [tyF,parN]
 | cons p r ih=>
  rw [tyF];by_cases h:t=p.name
  ·rw [if_pos h];simp [parN,h]
  rw [if_neg h,ih];have:parN (p::r)=p.name::parN r:=rfl;rw [this,List.mem_cons];exact ⟨.inr,fun h1=>h1.elim (fun h2=>absurd h2 h) id⟩
theorem tyF_in:∀ {l:List Param} {t u:Bs},tyF l t=some u->∃ p∈l,p.typ=u
 | p::r,t,u,h=>by
  rw [tyF] at h;by_cases h1:t=p.name
  ·rw [if_pos h1] at h;injection h with h;exact ⟨p,by simp,h⟩
  rw [if_neg h1] at h;obtain ⟨q,hq,e⟩:=tyF_in h;exact ⟨q,by simp [hq],e⟩
theorem hasT_up {l:List Param} (h3:∀ p∈l,HasT l p.typ) {t:Bs} (h:HasT l t) (ho:t≠YaK):HasT l (upT l t):=by
 rcases h with h | h
 ·exact absurd h ho
 obtain ⟨u,hu⟩:=Option.isSome_iff_exists.1 h;obtain ⟨p,hp,e⟩:=tyF_in hu;have:upT l t=p.typ:=by unfold upT;rw [hu,e];rfl
 rw [this];exact h3 p hp
theorem itU_succ {l:List Param} (n:Nat) (t:Bs):itU l (n+1) t=upT l (itU l n t):=by rw [YiQ n 1 t];rfl
theorem wft_of {l:List Param} (hs:∀ p∈l,Short p.typ) (h3:∀ p∈l,HasT l p.typ) (h4:∀ p∈l,cycM l p.name l.length p.name=false) (hl:l.length<=64):WFT l:=by
 refine ⟨hs,fun t ht=>Classical.byContradiction fun hno=>?_⟩;have hob:∀ i,i<=l.length->itU l i t≠YaK:=by
  intro i
  induction i using Nat.strongRecOn with
  | _ i ih=>
   intro hi he;exact hno ⟨i,by omega,upN_of he (fun k hk=>ih k hk Zi)⟩
 have hHas:∀ i,i<=l.length->HasT l (itU l i t):=by
  intro i
  induction i with
  | zero=>intro _;exact ht
  | succ i ih=>intro hi;rw [itU_succ];exact hasT_up h3 (ih Zi) (hob i Zi)
 have hmem:∀ i,i<=l.length->itU l i t∈parN l:=fun i hi=>by
  rcases hHas i hi with h | h
  ·exact absurd h (hob i hi)
  exact YfR.1 h
 obtain ⟨i,j,hij,hj,he⟩:=pigeon l.length (parN l) (fun i=>itU l i t) YfU hmem;obtain ⟨p,hp,hpe⟩:=List.mem_map.1 (hmem i Zi);have hc:=h4 p hp;rw [hpe] at hc;refine cyc_no l.length hc (j - i) Zi Zi (fun k h1 h2=>?_) ?_
 ·rw [<- YiQ];exact hob (i+k) Zi
 rw [<- YiQ,show i+(j - i)=j from by omega];exact he.symm
theorem YiJ {l:List Param} (h:newM l=0) (hs:∀ p∈l,Short p.typ) (hl:l.length<=64):WFT l:=by
 unfold newM at h;by_cases h1:TwP [] (parN l)
 ·rw [if_pos h1] at h;cases h
 rw [if_neg h1] at h;by_cases h2:∀ p∈l,HasT l p.typ
 ·rw [if_neg (by simpa using h2)] at h;by_cases h3:∃ p∈l,cycM l p.name l.length p.name=true
  ·rw [if_pos h3] at h;cases h
  exact wft_of hs h2 (fun p hp=>by
   cases hc:cycM l p.name l.length p.name with
   | false=>rfl
   | true=>exact absurd ⟨p,hp,hc⟩ h3) hl
 rw [if_pos h2] at h;cases h
theorem fndS_no {x:Bs} (h:(fndS m x i).isSome=false):fndS m x i=none:=by cases hf:fndS m x i with | none=>rfl | some p=>rw [hf] at h;cases h
theorem tyM_add {l:List Param} {x:Param} (hx:l[k]?=some x) (h:x.name ∉ parN (l.take k)):updS (tyM (l.take k)) x.name (Zy x.typ)=tyM (l.take (k+1)):=by
 have h1:fndS (tyM (l.take k)) x.name 0=none:=fndS_no (by
  rw [Yot];cases hc:(tyF (l.take k) x.name).isSome with
  | false=>rfl
  | true=>exact absurd (YfR.1 hc) h)
 have h2:l.take (k+1)=l.take k++ [x]:=by rw [List.take_add_one,hx];rfl
 rw [updS,h1,h2];unfold tyM;rw [List.map_append];rfl
theorem tnew_q {l:List Param} (hM:MaxF fz) (h1:Sl paramL fz A n c l) (hl:l.length<=64) (hok:∀ p∈l,Xk p.name/\YdE p.typ):
 GFn prog 67 [Zc A n c] fz [] (fun v fz' H'=>H'=[]/\∃ (vf:Value) (z:Int),v=.tuple #[vf,Zk z,errV (newM l)]/\(newM l=0->ForR fz' vf l)):=by
 have ln:=h1.len;refine zF Tryz.func67 Tryz.ntmps67 (fun w0=>?_);refine wC ?_ ?_<;>intro c0
 ·omega
 refine zW ?_;refine WD n (fun k=>[(22,Zk k),(21,Zk n),(20,Zc A n c),(0,Zc A n c)]) [] (fun k=>True) trivial ?_;intro k hk hh;refine wC ?_ ?_<;>intro c1
 ·obtain ⟨x,hx⟩:=Yf (l:=l) (k:=k) Zi;obtain ⟨hn,ht⟩:=hok x (Zm hx);refine wI h1 hx (fun p1 hp=>?_);refine zL hp ?_;intro cs hcs;obtain ⟨rfl,hR⟩:=YM hcs;refine zW ?_;intros;refine zc (Yow hM hn) ?_;refine wC ?_ ?_<;>intro x1
  ·have hn2:Xk x.typ:=ht.elim id (fun h=>absurd h x1);refine wc (Yow hM hn2) ?_;exact wM (h:=by exact trivial)
  exact wM (h:=by exact trivial)
 refine zW ?_;refine Yd (Xx (fun gm=>?_));refine zW ?_;intros;rename_i gf;refine loopJ n (fun k=>[(50,Zk k),(49,Zk n),(48,Zc A n c),(7,Zp gf),(0,Zc A n c)]) (fun k=>[(gf,Zu #[.map (some gm)] 232),(gm,mapS (tyM (l.take k)))]) (fun k=>(∀ i,i<k->∀ x,(parN l)[i]?=some x->x ∉ []++(parN l).take i)) (fun i hi=>absurd hi Zi) ?_;intro k hk hh;refine wC ?_ ?_<;>intro c2
 ·obtain ⟨x,hx⟩:=Yf (l:=l) (k:=k) Zi;have hxn:=Ymq hx;refine wI h1 hx (fun p1 hp=>?_);refine zL hp ?_;intro cs hcs;obtain ⟨rfl,hR⟩:=YM hcs;refine zW ?_;intros;refine zG ?_;refine W7 2 Yot ?_ (hv:=Yij);cases hb:(tyF (l.take k) x.name).isSome with
  | true=>
   have hin:=YfR.1 hb;have e1:newM l=4:=if_pos ⟨k,x.name,hxn,by rw [<- Yb4];exact hin⟩;refine zW ?_;refine retN T (vs:=[_,_,_]) ⟨rfl,rfl,rfl,trivial⟩ Zb ⟨rfl,.pointer none,k,by rw [e1];rfl,fun h=>by rw [e1] at h;cases h⟩
  | false=>
   have hnin:x.name ∉ parN (l.take k):=fun h=>by rw [YfR.2 h] at hb;cases hb
   refine zWN ?_;refine Y6 [_,_,_] ?_;refine zW ?_;refine pU ?_;refine Ch.hard0 (XG (pre:=[_,_]) (Zr _) ?_);refine Ch.done ?_;rw [tyM_add hx hnin];exact wM (h:=by exact Yby (p:=fun i x=>x ∉ []++(parN l).take i) hh hxn (by rw [<- Yb4];exact hnin))
 have hno:¬TwP [] (parN l):=Yl8 hh (by rw [YfU];omega);rw [Zl (show l.length<=k by omega)];refine zWX ?_;refine Wp.freezeAll (H1:=[]) (Zr _) (fun fz2 hl2 hf2=>?_);have hF:ForR fz2 (Zp gf) l:=⟨gf,gm,rfl,hf2 (gf,Zu #[.map (some gm)] 232) (by simp),hf2 (gm,mapS (tyM l)) (by simp)⟩;have h2:=h1.mono hl2;refine zW ?_;refine Yn (fun q σ fz' H'=>∃ k:Nat,k<=n/\q=n - k/\σ=[(79,Zk k),(78,Zk n),(77,Zc A n c),(7,Zp gf),(0,Zc A n c)]/\fz2=fz'/\H'=[]/\(∀ i,i<k->∀ x,l[i]?=some x->HasT l x.typ)) ⟨0,Z0 _,rfl,rfl,rfl,rfl,fun i hi=>absurd hi Zi⟩ Zw Zb ?_;rintro q σ fz' H' ⟨k,hk,rfl,rfl,rfl,rfl,hh3⟩;refine wC ?_ ?_<;>intro c3
 ·obtain ⟨x,hx⟩:=Yf (l:=l) (k:=k) Zi;refine wI h2 hx (fun p1 hp=>?_);refine zL hp ?_;intro cs hcs;obtain ⟨rfl,hR⟩:=YM hcs;refine zW ?_;intros;refine zb (has_q hF) (fun f1=>?_) (fun f1=>?_)
  ·exact wM (h:=by exact YH (p:=fun x:Param=>HasT l x.typ) hh3 hx (Zt f1))
  have e1:newM l=3:=by rw [newM,if_neg hno,if_pos (fun h=>Zf f1 (h x (Zm hx)))]
  refine zW ?_;refine retN T (vs:=[_,_,_]) ⟨rfl,rfl,rfl,trivial⟩ Zb ⟨rfl,.pointer none,k,by rw [e1];rfl,fun h=>by rw [e1] at h;cases h⟩
 have hall:=Xc (p:=fun x:Param=>HasT l x.typ) hh3 Zi;refine zW ?_;refine Yn (fun q σ fz' H'=>∃ k:Nat,k<=n/\q=n - k/\σ=[(94,Zk k),(93,Zk n),(92,Zc A n c),(7,Zp gf)]/\fz2=fz'/\H'=[]/\(∀ i,i<k->∀ x,l[i]?=some x->cycM l x.name l.length x.name=false)) ⟨0,Z0 _,rfl,rfl,rfl,rfl,fun i hi=>absurd hi Zi⟩ Zw Zb ?_;rintro q σ fz' H' ⟨k,hk,rfl,rfl,rfl,rfl,hh4⟩;refine wC ?_ ?_<;>intro c4
 ·obtain ⟨x,hx⟩:=Yf (l:=l) (k:=k) Zi;refine wI h2 hx (fun p1 hp=>?_);refine zL hp ?_;intro cs hcs;obtain ⟨rfl,hR⟩:=YM hcs;refine zW ?_;intros
  ((refine zG ?_);refine Yt (cycle_q hF Zi) ?_);cases hcy:cycM l x.name l.length x.name with
  | true=>
   have e1:newM l=21:=by rw [newM,if_neg hno,if_neg (by simpa using hall),if_pos ⟨x,Zm hx,hcy⟩]
   refine zW ?_;refine retN T (vs:=[_,_,_]) ⟨rfl,rfl,rfl,trivial⟩ Zb ⟨rfl,.pointer none,k,by rw [e1];rfl,fun h=>by rw [e1] at h;cases h⟩
  | false=>
   exact wM (h:=by exact YH (p:=fun x:Param=>cycM l x.name l.length x.name=false) hh4 hx hcy)
 have hcn:=Xc (p:=fun x:Param=>cycM l x.name l.length x.name=false) hh4 Zi;have e1:newM l=0:=by
  rw [newM,if_neg hno,if_neg (by simpa using hall),if_neg];rintro ⟨x,hx,h9⟩;rw [hcn x hx] at h9;cases h9
 refine zW ?_;refine retN T (vs:=[_,_,_]) ⟨rfl,rfl,rfl,trivial⟩ Zb ⟨rfl,_,0,by rw [e1];rfl,fun _=>hF⟩
end Go.Proofs.YtbdpaoikccabhaaGreatDoor
namespace Go.Proofs.YtbdpaoikccabhaaGreatDoor
theorem Yl0 {x k:Sexpr} (h:XVal x) (hk:k∈x.kids):XVal k:=by
 refine ⟨(Ya8.1 h.1).2 k hk,?_,?_⟩
 ·have h1:=h.2.1;rw [Yf7] at h1;have:=YeI.1 (Zs _) k hk;omega
 have h1:=h.2.2;rw [Yf8] at h1;have:=Yk2 hk;omega
theorem Yf6 {l:List Sexpr} {k:Sexpr} (h:XVal (YK l)) (hk:k∈l):XVal k:=Yl0 h hk
theorem num_ok {n:Int} (h:XVal (numE n)):YeC n:=by
 have:=(Ya8.1 h.1).1;rcases this with ⟨h1,_⟩ | ⟨_,_,_,h1⟩ | ⟨h1,_⟩
 ·exact absurd (show (2:Int)=1 from h1) Zh
 ·exact h1
 exact absurd (show (2:Int)=3 from h1) Zh
def GrdA (a:Atom):Prop:=Xk a.name/\∀ s∈a.args,Xk s
end Go.Proofs.YtbdpaoikccabhaaGreatDoor
namespace Go.Proofs.YtbdpaoikccabhaaGreatDoor
variable {α:Type} {b:Bool} {fz:FZ} {g c n:Nat} {s:Bs} {A B:Option Addr} {f:Formula} {va ve vk vp v1 v2 v3 v4 v5 v6 v7 v:Value} {Hs:HP} {l:List α}
def wrO (b:Bool):Obj:=Zu #[Zo b] 208
def MkR (g:Nat) (b:Bool) (P:Prop) (x:Sexpr) (fz:FZ) (v:Value) (fz':FZ) (H':HP):Prop:=Le fz fz'/\∃ (b':Bool) (y:Sexpr),H'=[(g,wrO b')]/\SxIs fz' v y/\(b'=false↔b=false/\P)/\(b'=false->y=x)
theorem Ycm (hs:Short s):GFn prog 118 [Zp g,Zy s] fz [(g,wrO b)] (fun v fz' H'=>Le fz fz'/\v=sxV 1 0 s Zn/\∃ b':Bool,H'=[(g,wrO b')]/\(b'=false↔b=false/\Xk s)):=by
 unfold wrO;refine zF Tryz.func118 Tryz.ntmps118 (fun w0=>?_);cases b
 ·refine zW ?_;intros;refine zb (YaY hs) (fun f1=>?_) (fun f1=>?_)
  ·refine wc (Yad (s:=s)) ?_;unfold sxV;refine zW ?_;refine Yan (i:=0) (H':=[(g,wrO false)]) rfl Zb ?_;exact ⟨Zd,rfl,false,rfl,iff_of_true rfl ⟨rfl,Zt f1⟩⟩
  refine wc (Yad (s:=s)) ?_;unfold sxV;refine zW ?_;refine Yan (i:=0) (H':=[(g,wrO true)]) rfl Zb ?_;exact ⟨Zd,rfl,true,rfl,iff_of_false (by simp) (fun h=>Zf f1 h.2)⟩
 refine zW ?_;intros;refine zc (Yad (s:=s)) ?_;unfold sxV;refine zW ?_;refine Yan (i:=0) (H':=[(g,wrO true)]) rfl Zb ?_;exact ⟨Zd,rfl,true,rfl,iff_of_false (by simp) (fun h=>by cases h.1)⟩
def WP (vars:Bool) (p:Param):Prop:=(if vars=true then VarP p.name else Xk p.name)/\YdE p.typ
theorem Yal {vars:Bool} {l:List Param} (h1:Sl paramL fz A n c l) (hn:n<=1000000000):
 GFn prog 120 [Zp g,Zc A n c,Zo vars] fz [(g,wrO b)] (fun v fz' H'=>Le fz fz'/\(∃ B cc,v=Zc B (3*n) cc/\Sl YO fz' B (3*n) cc ((l.flatMap YaC).map Yi))/\∃ b':Bool,H'=[(g,wrO b')]/\(b'=false↔b=false/\∀ p∈l,WP vars p)):=by
 have l1:=h1.len;refine zF Tryz.func120 Tryz.ntmps120 (fun w0=>?_);refine zW ?_;refine Yn (fun q σ fz' H'=>∃ (k:Nat) (b':Bool),k<=n/\q=n - k/\σ=[(12,Zk k),(11,Zk n),(10,Zc A n c),(2,Zo vars),(1,Zc A n c),(0,Zp g)]/\fz=fz'/\H'=[(g,wrO b')]/\(b'=false↔b=false/\∀ i,i<k->∀ p,l[i]?=some p->WP vars p)) ⟨0,b,Z0 _,rfl,rfl,rfl,rfl,⟨fun h=>⟨h,fun i hi=>absurd hi Zi⟩,fun h=>h.1⟩⟩ Zw Zb ?_;rintro q σ fz' H' ⟨k,b',hk,rfl,rfl,rfl,rfl,hb⟩;refine wC ?_ ?_<;>intro c1
 ·obtain ⟨x,hx⟩:=Yf (l:=l) (k:=k) Zi;have step:∀ b2:Bool,(b2=false↔b'=false/\WP vars x)->(b2=false↔b=false/\∀ i,i<k+1->∀ p,l[i]?=some p->WP vars p):=fun b2 h=>by
   rw [h,hb];exact ⟨fun h0=>⟨h0.1.1,YH h0.1.2 hx h0.2⟩,fun h0=>⟨⟨h0.1,fun i hi=>h0.2 i Zi⟩,h0.2 k Zi x hx⟩⟩
  refine wI h1 hx (fun p hp=>?_);refine zL hp ?_;intro cs hcs;obtain ⟨rfl,hR⟩:=YM hcs;cases vars
  ·refine zW ?_;intros;rename_i g5;refine zb (YaY hR.name) (fun f1=>?_) (fun f1=>?_)
   ·refine zW ?_;cases b'
    ·refine wC ?_ ?_<;>intro e1
     ·refine wb (YaY hR.typ) (fun f2=>?_) (fun f2=>?_)
      ·exact wP (h:=by exact ⟨k+1,false,by omega,rfl,rfl,rfl,rfl,step false (iff_of_true rfl ⟨rfl,Zt f1,.inl (Zt f2)⟩)⟩)
      exact wP (h:=by exact ⟨k+1,true,by omega,rfl,rfl,rfl,rfl,step true (iff_of_false (by simp) (fun h=>h.2.2.elim (Zf f2) e1))⟩)
     exact wP (h:=by exact ⟨k+1,false,by omega,rfl,rfl,rfl,rfl,step false (iff_of_true rfl ⟨rfl,Zt f1,.inr e1⟩)⟩)
    exact wP (h:=by exact ⟨k+1,true,by omega,rfl,rfl,rfl,rfl,step true (iff_of_false (by simp) (fun h=>by cases h.1))⟩)
   refine zW ?_;cases b'
   ·exact wP (h:=by exact ⟨k+1,true,by omega,rfl,rfl,rfl,rfl,step true (iff_of_false (by simp) (fun h=>Zf f1 h.2.1))⟩)
   exact wP (h:=by exact ⟨k+1,true,by omega,rfl,rfl,rfl,rfl,step true (iff_of_false (by simp) (fun h=>by cases h.1))⟩)
  refine zW ?_;intros;rename_i g5;refine zc (YaY hR.name) ?_;refine wb (Ydg hR.name) (fun f1=>?_) (fun f1=>?_)
  ·refine zW ?_;cases b'
   ·refine wC ?_ ?_<;>intro e1
    ·refine wb (YaY hR.typ) (fun f2=>?_) (fun f2=>?_)
     ·exact wP (h:=by exact ⟨k+1,false,by omega,rfl,rfl,rfl,rfl,step false (iff_of_true rfl ⟨rfl,Zt f1,.inl (Zt f2)⟩)⟩)
     exact wP (h:=by exact ⟨k+1,true,by omega,rfl,rfl,rfl,rfl,step true (iff_of_false (by simp) (fun h=>h.2.2.elim (Zf f2) e1))⟩)
    exact wP (h:=by exact ⟨k+1,false,by omega,rfl,rfl,rfl,rfl,step false (iff_of_true rfl ⟨rfl,Zt f1,.inr e1⟩)⟩)
   exact wP (h:=by exact ⟨k+1,true,by omega,rfl,rfl,rfl,rfl,step true (iff_of_false (by simp) (fun h=>by cases h.1))⟩)
  refine zW ?_;cases b'
  ·exact wP (h:=by exact ⟨k+1,true,by omega,rfl,rfl,rfl,rfl,step true (iff_of_false (by simp) (fun h=>Zf f1 h.2.1))⟩)
  exact wP (h:=by exact ⟨k+1,true,by omega,rfl,rfl,rfl,rfl,step true (iff_of_false (by simp) (fun h=>by cases h.1))⟩)
 have hk1:k=n:=by omega
 subst hk1;refine wK (q:=Yd8 h1 hn) (h:=fun v2 fz2 H2 hle2 hR2=>?_);obtain ⟨rfl,B2,cc2,rfl,hsl2⟩:=hR2;exact wR (h:=by exact ⟨hle2,⟨B2,cc2,rfl,hsl2⟩,b',rfl,by rw [hb];exact ⟨fun h=>⟨h.1,Xc h.2 Zi⟩,fun h=>⟨h.1,fun i _ p hp=>h.2 p (Zm hp)⟩⟩⟩)
theorem YbX (h:FormulaR fz f va vp ve vk) (hs:FSm f):GFn prog 197 [Zp g,.agg #[Zy f.op,Zy f.name,va,vp,ve,vk]] fz [(g,wrO b)] (MkR g b (FVal f) (Xf f) fz):=by
 obtain ⟨⟨A,n,ca,rfl,ha⟩,⟨B,m,cb,rfl,hp⟩,⟨C,r,cr,rfl,he⟩,⟨D,q,cq,rfl,hk⟩⟩:=h.sls;refine zF Tryz.func197 Tryz.ntmps197 (fun w0=>?_);refine pX (fun g0=>?_);refine zW ?_;intros;rename_i g1;refine wK (q:=YmR h hs) (h:=fun v6 fz6 H6 hle6 hR6=>?_);obtain ⟨rfl,u,y,rfl,⟨cs,rfl,hr⟩,hyx⟩:=hR6;obtain ⟨vk6,rfl,hX⟩:=YJ hr;obtain ⟨A6,n6,b6,rfl,_⟩:=hX.kids;by_cases hP:FVal f
 ·rw [if_pos hP];cases b
  ·refine zW ?_;intros;refine Yan (i:=1) (H':=[(g,wrO false)]) rfl Zb ?_;exact ⟨hle6,false,y,rfl,⟨_,rfl,Ym hX⟩,iff_of_true rfl ⟨rfl,hP⟩,fun _=>hyx hP⟩
  refine zW ?_;intros;refine Yan (i:=1) (H':=[(g,wrO true)]) rfl Zb ?_;exact ⟨hle6,true,y,rfl,⟨_,rfl,Ym hX⟩,iff_of_false (by simp) (fun h0=>by cases h0.1),fun h0=>by cases h0⟩
 rw [if_neg hP];cases b
 ·refine zW ?_;intros;refine Yan (i:=1) (H':=[(g,wrO true)]) rfl Zb ?_;exact ⟨hle6,true,y,rfl,⟨_,rfl,Ym hX⟩,iff_of_false (by simp) (fun h0=>hP h0.2),fun h0=>by cases h0⟩
 refine zW ?_;intros;refine Yan (i:=1) (H':=[(g,wrO true)]) rfl Zb ?_;exact ⟨hle6,true,y,rfl,⟨_,rfl,Ym hX⟩,iff_of_false (by simp) (fun h0=>by cases h0.1),fun h0=>by cases h0⟩
def Yic (name:Bs) (args:List Bs):Prop:=Xk name/\∀ a∈args,Yfm a
theorem watom_q {f0:Bs} {l:List Bs} (hf:Short f0) (h1:Sl strL fz A n c l) (hn:n<=1000000000):
 GFn prog 259 [Zp g,Zy f0,Zc A n c] fz [(g,wrO b)] (MkR g b (Yic f0 l) (Wn f0 l) fz):=by
 have l1:=h1.len;refine zF Tryz.func259 Tryz.ntmps259 (fun w0=>?_);refine zW ?_;intros;rename_i g4
 first | refine Wp.perm (List.Perm.swap _ _ _) ?_ | refine Seq.perm (List.Perm.swap _ _ _) ?_
 refine Yd (Yk [_] [_] Zz (Ycm hf) (fun v6 fz6 H6 hle6 hR6=>?_));obtain ⟨_,rfl,b1,rfl,hb1⟩:=hR6;unfold sxV;refine Yd (Yc (cs:=Yr f0) (fun gb=>?_));refine zc Xj ?_;unfold sxV;refine zW ?_;intros;rename_i g5;refine Wp.perm (List.Perm.cons _ (List.reverse_perm [_,_,_])) ?_;refine Yn (fun q σ fz' H'=>∃ (k:Nat) (v:Value) (Hs:HP) (b':Bool),k<=n/\q=n - k/\σ=[(17,Zk k),(16,Zk n),(15,Zc A n c),(7,Zp g5),(6,Zp g4),(0,Zp g)]/\fz6=fz'/\
  H'=(g5,Zu #[Zk 3,Zk 0,Zk 0,Zk 0,Ze,v] 148)::(g4,Zu #[Zk 0,Zk 0,Zk 0,Zk 0,Ze,Zn] 148)::(g,wrO b')::Hs/\Grow YO 148 fz' v (k+1) Hs (Yi f0::(l.take k).map Yi)/\(b'=false↔b=false/\Xk f0/\∀ i,i<k->∀ a,l[i]?=some a->Yfm a))
  ⟨0,_,[_],b1,Z0 _,rfl,rfl,rfl,rfl,Grow.block (ys:=[(Yi f0,Yr f0)]) rfl rfl (by simpa using YA hf) rfl,by rw [hb1];exact ⟨fun h=>⟨h.1,h.2,fun i hi=>absurd hi Zi⟩,fun h=>⟨h.1,h.2.1⟩⟩⟩ Zw Zb ?_
 rintro q σ fz' H' ⟨k,v,Hs,b',hk,rfl,rfl,rfl,rfl,hG,hb⟩;obtain ⟨Av,cv,rfl,_,_⟩:=hG.form;have h2:=h1.mono hle6;refine wC ?_ ?_<;>intro c1
 ·obtain ⟨x,hx⟩:=Yf (l:=l) (k:=k) Zi;have step:∀ b2:Bool,(b2=false↔b'=false/\Yfm x)->(b2=false↔b=false/\Xk f0/\∀ i,i<k+1->∀ a,l[i]?=some a->Yfm a):=fun b2 h=>by
   rw [h,hb];exact ⟨fun h0=>⟨h0.1.1,h0.1.2.1,YH h0.1.2.2 hx h0.2⟩,fun h0=>⟨⟨h0.1,h0.2.1,fun i hi=>h0.2.2 i Zi⟩,h0.2.2 k Zi x hx⟩⟩
  refine wI h2 hx (fun p hp=>?_);refine zH hp (fun ix=>?_);refine zWO ?_;refine YN (Xe (fun σ fz' H'=>∃ b2:Bool,σ=[(9,Zy x),(17,Zk k),(16,Zk n),(15,Zc A n c),(7,Zp g5),(6,Zp g4),(0,Zp g)]/\fz6=fz'/\
   H'=(g5,Zu #[Zk 3,Zk 0,Zk 0,Zk 0,Ze,Zc Av (k+1) cv] 148)::(g4,Zu #[Zk 0,Zk 0,Zk 0,Zk 0,Ze,Zn] 148)::(g,wrO b2)::Hs/\(b2=false↔b'=false/\Yfm x)) ?_ ?_)
  ·cases b'
   ·refine wb (dterm_q ix) (fun f1=>?_) (fun f1=>?_)
    ·exact wN (h:=by exact ⟨false,rfl,rfl,rfl,iff_of_true rfl ⟨rfl,Zt f1⟩⟩)
    exact wN (h:=by exact ⟨true,rfl,rfl,rfl,iff_of_false (by simp) (fun h=>Zf f1 h.2)⟩)
   exact wN (h:=by exact ⟨true,rfl,rfl,rfl,iff_of_false (by simp) (fun h=>by cases h.1)⟩)
  rintro σ fz' H' ⟨b2,rfl,rfl,rfl,hb2⟩;refine Y6 [_,_,_] ?_;refine zW ?_;refine Yl (Yl (Yl ?_));refine zW ?_;refine pU ?_;refine Ch.qk ⟨Zd,Zx⟩ (Yt (Yad (s:=x)) ?_);refine Yg (Yc (cs:=Yr x) (fun gb=>⟨⟨Zd,Zx⟩,?_⟩));refine Yg (YG (Hr:=[_,_,_,_]) (Zr _) hG Yz (.head _) (YA ix) (fun v' Hs' hO'=>⟨⟨Zd,Zx⟩,?_⟩));obtain ⟨Av',cv',rfl,_,_⟩:=hO'.form;refine Ch.hard0 (YX ?_);refine Ch.done ?_;exact wP (h:=by exact ⟨k+1,_,Hs',b2,by omega,rfl,rfl,rfl,rfl,hO'.of (by rw [List.take_add_one,hx];simp) rfl,step b2 hb2⟩)
 have hk1:k=n:=by omega
 subst hk1;rw [Zl Zi] at hG;refine zW ?_;refine Yd4 (i:=1) (H':=[(g,wrO b')]) rfl (@List.perm_middle _ _ [_,_] _).symm (fun fz3 hle3 hf3=>?_);obtain ⟨A',c',he,hsl⟩:=hG.sl hle3 (fun p hp=>hf3 p (by simp [hp])) Zi;injection he with he1 he2 he3
 subst he1 he3;exact ⟨hle6.trans hle3,b',_,rfl,W9 hsl,by rw [hb];exact ⟨fun h=>⟨h.1,h.2.1,Xc h.2.2 Zi⟩,fun h=>⟨h.1,h.2.1,fun i _ a ha=>h.2.2 a (Zm ha)⟩⟩,fun _=>rfl⟩
def YiP:Bs:=⟨#[97,115,115,105,103,110]⟩
def Yef:Bs:=⟨#[105,110,99,114,101,97,115,101]⟩
def Yeg:Bs:=⟨#[100,101,99,114,101,97,115,101]⟩
def Ypx:Bs:=⟨#[119,104,101,110]⟩
def nilE:Lx.Expr:=.mk ⟨#[]⟩ ⟨#[]⟩ 0 [] []
def Num5 (k:Int):Prop:=k=3\/k=4\/k=5
def Ykh (k:Int):Bs:=if k=3 then YiP else if k=4 then Yef else Yeg
def YeE (c:Change):Prop:=((c.kind=1\/c.kind=2)/\c.value=nilE)\/(Num5 c.kind/\EVal c.value)
def WhenOk (c:Change):Prop:=c.when_=Xs\/FVal c.when_
def ChOk (c:Change):Prop:=Yic c.name c.args/\YeE c/\WhenOk c/\∀ p∈c.params,WP true p
def ChSm (c:Change):Prop:=c.params.length<=1000000000/\c.args.length<=1000000000/\FSm c.when_/\ESm c.value
def chX1 (c:Change):Sexpr:=if c.kind=2 then YK [Yi kNot,Wn c.name c.args] else if Num5 c.kind then YK [Yi (Ykh c.kind),Wn c.name c.args,Wf c.value] else Wn c.name c.args
def chX2 (c:Change):Sexpr:=if c.when_=Xs then chX1 c else YK [Yi Ypx,Xf c.when_,chX1 c]
def chX (c:Change):Sexpr:=if c.params=[] then chX2 c else YK [Yi kForall,YK ((c.params.flatMap YaC).map Yi),chX2 c]
theorem Yp9 {fz3:FZ} {gb:Nat} {o:Bs} {X:Sexpr} {vk3:Value} (ho:Short o) (hg:fz3 gb=some (.cells (Yr o++ [Zk X.kind,Zk X.value,Zk X.line,Zk X.column,Zy X.text,vk3]).toArray 148 (0,0))) (hX:Wq fz3 X vk3):
 Wq fz3 (YK [Yi o,X]) (Zv gb 2 2):=
 ⟨YgN,XP,XP,XP,Y5,(XC (ys:=[(Yi o,Yr o),(X,[Zk X.kind,Zk X.value,Zk X.line,Zk X.column,Zy X.text,vk3])]) hg rfl rfl (by
  intro p hp;simp only [List.mem_cons,List.not_mem_nil,or_false] at hp;rcases hp with rfl | rfl
  ·exact YA ho
  exact Ym hX) rfl (by simp)).is⟩
theorem YeK {fz3:FZ} {gb:Nat} {o:Bs} {X Y:Sexpr} {vk3 vk5:Value} (ho:Short o) (hg:fz3 gb=some (.cells (Yr o++ [Zk X.kind,Zk X.value,Zk X.line,Zk X.column,Zy X.text,vk3]++ [Zk Y.kind,Zk Y.value,Zk Y.line,Zk Y.column,Zy Y.text,vk5]).toArray 148 (0,0))) (hX:Wq fz3 X vk3) (hY:Wq fz3 Y vk5):
 Wq fz3 (YK [Yi o,X,Y]) (Zv gb 3 3):=
 ⟨YgN,XP,XP,XP,Y5,(XC (ys:=[(Yi o,Yr o),(X,[Zk X.kind,Zk X.value,Zk X.line,Zk X.column,Zy X.text,vk3]),(Y,[Zk Y.kind,Zk Y.value,Zk Y.line,Zk Y.column,Zy Y.text,vk5])]) hg rfl rfl (by
  intro p hp;simp only [List.mem_cons,List.not_mem_nil,or_false] at hp;rcases hp with rfl | rfl | rfl
  ·exact YA ho
  ·exact Ym hX
  exact Ym hY) rfl (by simp)).is⟩
theorem Ycq {o:Bs} (h:o=kNot\/o=YiP\/o=Yef\/o=Yeg\/o=Ypx\/o=kForall):Short o:=by
 rcases h with rfl | rfl | rfl | rfl | rfl | rfl<;>(unfold Short;decide)
theorem Yn9 {c:Change} {v8:Value} (h:ChangeR fz c v1 v2 v3 v4 v5 v6 v7 v8) (hs:ChSm c):
 GFn prog 243 [Zp g,.agg #[Zk c.kind,v1,Zy c.when_.op,Zy c.when_.name,v2,v3,v4,v5,Zy c.name,v6,Zy c.value.op,Zy c.value.name,Zk c.value.n,v7,v8]] fz [(g,wrO b)] (MkR g b (ChOk c) (chX c) fz):=by
 obtain ⟨A1,n1,b1,rfl,ip⟩:=h.params;obtain ⟨⟨A2,n2,b2,rfl,iw1⟩,⟨A3,n3,b3,rfl,iw2⟩,⟨A4,n4,b4,rfl,iw3⟩,⟨A5,n5,b5,rfl,iw4⟩⟩:=h.when_.sls;obtain ⟨A6,n6,b6,rfl,ia⟩:=h.args;obtain ⟨⟨A7,n7,b7,rfl,iv1⟩,⟨A8,n8,b8,rfl,iv2⟩⟩:=h.value.sls;refine zF Tryz.func243 Tryz.ntmps243 (fun w0=>?_);refine pX (fun g3=>?_);refine zW ?_;intros;rename_i g4;refine Seq.perm (@List.perm_middle _ _ [_,_] []).symm ?_;refine Yd (Yk [_] _ Zz (watom_q h.name ia (by rw [<- ia.len];exact hs.2.1)) (fun v9 fz1 H1 hle1 hR1=>?_));obtain ⟨_,ba,y0,rfl,⟨cs0,rfl,hr0⟩,hba,hya⟩:=hR1;obtain ⟨vy0,rfl,hY0⟩:=YJ hr0;obtain ⟨Ay0,ny0,by0,rfl,_⟩:=hY0.kids;refine zWO ?_;intros;rename_i g5;refine Wp.perm (List.Perm.swap _ _ _) ?_;refine YN (Xe (fun σ fz' H'=>∃ (bb:Bool) (y:Sexpr) (Ay:Option Addr) (ny by_:Nat),σ=[(5,Zp g5),(4,Zp g4),(3,Zp g3),(0,Zp g)]/\Le fz1 fz'/\H'=[(g,wrO bb),(g5,Zu #[Zk y.kind,Zk y.value,Zk y.line,Zk y.column,Zy y.text,Zc Ay ny by_] 148),(g4,Zu #[Zk 0,Zk 0,Zk 0,Zk 0,Ze,Zn] 148),(g3,Zu #[Zk c.kind,Zc A1 n1 b1,Zy c.when_.op,Zy c.when_.name,Zc A2 n2 b2,Zc A3 n3 b3,Zc A4 n4 b4,Zc A5 n5 b5,Zy c.name,Zc A6 n6 b6,Zy c.value.op,Zy c.value.name,Zk c.value.n,Zc A7 n7 b7,Zc A8 n8 b8] 71)]/\Wq fz' y (Zc Ay ny by_)/\(bb=false↔b=false/\Yic c.name c.args/\YeE c)/\(bb=false->y=chX1 c)) ?_ ?_)
 ·have hM:∀ {fz':FZ},Le fz1 fz'->ExprR fz' c.value (Zc A7 n7 b7) (Zc A8 n8 b8):=fun hle=>h.value.mono (hle1.trans hle)
  refine wC ?_ ?_<;>intro k1
  ·have k2:¬c.kind=2:=by omega
   have hx1:chX1 c=Wn c.name c.args:=by unfold chX1 Num5;rw [if_neg k2,if_neg Zi]
   have hk0:YeE c↔c.value=nilE:=⟨fun h0=>h0.elim (fun h0=>h0.2) (fun h0=>by have:=h0.1;unfold Num5 at this;omega),fun h0=>.inl ⟨.inl k1,h0⟩⟩;refine zW ?_;cases ba
   ·refine wG ?_;refine Yh (vs:=[Zy c.value.op,Zy c.value.name,Zk c.value.n,Zc A7 n7 b7,Zc A8 n8 b8]) 3 ?_;refine wG ?_;refine XS (Yg5 (b:=nilE) (hM Zd) YkA) (fun f1=>?_) (fun f1=>?_)
    ·exact wN (h:=by exact ⟨false,y0,Ay0,ny0,by0,rfl,Zd,rfl,hY0,iff_of_true rfl ⟨(hba.1 rfl).1,(hba.1 rfl).2,hk0.2 (Zt f1)⟩,fun _=>by rw [hx1];exact hya rfl⟩)
    exact wN (h:=by exact ⟨true,y0,Ay0,ny0,by0,rfl,Zd,rfl,hY0,iff_of_false (by simp) (fun h0=>Zf f1 (hk0.1 h0.2.2)),fun h0=>by cases h0⟩)
   exact wN (h:=by exact ⟨true,y0,Ay0,ny0,by0,rfl,Zd,rfl,hY0,iff_of_false (by simp) (fun h0=>by simpa using hba.2 ⟨h0.1,h0.2.1⟩),fun h0=>by cases h0⟩)
  refine wC ?_ ?_<;>intro k2
  ·have hx1:chX1 c=YK [Yi kNot,Wn c.name c.args]:=by unfold chX1;rw [if_pos k2]
   have hk0:YeE c↔c.value=nilE:=⟨fun h0=>h0.elim (fun h0=>h0.2) (fun h0=>by have:=h0.1;unfold Num5 at this;omega),fun h0=>.inl ⟨.inr k2,h0⟩⟩;refine zWO ?_;refine Wg ?_;refine YN (Xe (fun σ fz' H'=>∃ bb:Bool,σ=[(5,Zp g5),(4,Zp g4),(3,Zp g3),(0,Zp g)]/\fz1=fz'/\H'=[(g,wrO bb),(g5,Zu #[Zk y0.kind,Zk y0.value,Zk y0.line,Zk y0.column,Zy y0.text,Zc Ay0 ny0 by0] 148),(g4,Zu #[Zk 0,Zk 0,Zk 0,Zk 0,Ze,Zn] 148),(g3,Zu #[Zk c.kind,Zc A1 n1 b1,Zy c.when_.op,Zy c.when_.name,Zc A2 n2 b2,Zc A3 n3 b3,Zc A4 n4 b4,Zc A5 n5 b5,Zy c.name,Zc A6 n6 b6,Zy c.value.op,Zy c.value.name,Zk c.value.n,Zc A7 n7 b7,Zc A8 n8 b8] 71)]/\(bb=false↔b=false/\Yic c.name c.args/\YeE c)) ?_ ?_)
   ·cases ba
    ·refine wG ?_;refine Yh (vs:=[Zy c.value.op,Zy c.value.name,Zk c.value.n,Zc A7 n7 b7,Zc A8 n8 b8]) 3 ?_;refine wG ?_;refine XS (Yg5 (b:=nilE) (hM Zd) YkA) (fun f1=>?_) (fun f1=>?_)
     ·exact wN (h:=by exact ⟨false,rfl,rfl,rfl,iff_of_true rfl ⟨(hba.1 rfl).1,(hba.1 rfl).2,hk0.2 (Zt f1)⟩⟩)
     exact wN (h:=by exact ⟨true,rfl,rfl,rfl,iff_of_false (by simp) (fun h0=>Zf f1 (hk0.1 h0.2.2))⟩)
    exact wN (h:=by exact ⟨true,rfl,rfl,rfl,iff_of_false (by simp) (fun h0=>by simpa using hba.2 ⟨h0.1,h0.2.1⟩)⟩)
   rintro σ fz' H' ⟨bb,rfl,rfl,rfl,hbb⟩;refine zW ?_;refine Y6 [_,_,_,_] ?_;refine zc (Yad (s:=kNot)) ?_;refine zW ?_;refine pU ?_;refine Yg (Yc (cs:=Yr kNot++ [Zk y0.kind,Zk y0.value,Zk y0.line,Zk y0.column,Zy y0.text,Zc Ay0 ny0 by0]) (fun gb=>⟨⟨Zd,Zx⟩,?_⟩));refine Ch.qk ⟨Zd,Zx⟩ (Yt Xj ?_);unfold sxV;refine Ch.hard0 (XK ?_);refine Ch.done ?_;refine zW ?_;refine midF (H':=[(g,wrO bb),(g5,_),(g4,_),(g3,_)]) (H2:=[(gb,_)]) Zq (fun fz2 hl2 hf2=>⟨bb,YK [Yi kNot,y0],_,_,_,rfl,hl2,rfl,Yp9 (Ycq (.inl rfl)) (hf2 _ (.head _)) (hY0.mono hl2),hbb,fun h0=>?_⟩) Zw;rw [hx1,hya (hba.2 ⟨(hbb.1 h0).1,(hbb.1 h0).2.1⟩)]
  refine zWO ?_;refine Wh ?_;refine YN (Xe (fun σ fz' H'=>∃ bq:Bool,σ=(43,Zo bq):: [(5,Zp g5),(4,Zp g4),(3,Zp g3),(0,Zp g)]/\fz1=fz'/\H'=[(g,wrO ba),(g5,Zu #[Zk y0.kind,Zk y0.value,Zk y0.line,Zk y0.column,Zy y0.text,Zc Ay0 ny0 by0] 148),(g4,Zu #[Zk 0,Zk 0,Zk 0,Zk 0,Ze,Zn] 148),(g3,Zu #[Zk c.kind,Zc A1 n1 b1,Zy c.when_.op,Zy c.when_.name,Zc A2 n2 b2,Zc A3 n3 b3,Zc A4 n4 b4,Zc A5 n5 b5,Zy c.name,Zc A6 n6 b6,Zy c.value.op,Zy c.value.name,Zk c.value.n,Zc A7 n7 b7,Zc A8 n8 b8] 71)]/\(bq=true↔Num5 c.kind)) ?_ ?_)
  ·refine wC ?_ ?_<;>intro k3
   ·exact wN (h:=by exact ⟨true,rfl,rfl,rfl,iff_of_true rfl (.inl k3)⟩)
   refine wC ?_ ?_<;>intro k4
   ·exact wN (h:=by exact ⟨true,rfl,rfl,rfl,iff_of_true rfl (.inr (.inl k4))⟩)
   refine wC ?_ ?_<;>intro k5
   ·exact wN (h:=by exact ⟨true,rfl,rfl,rfl,iff_of_true rfl (.inr (.inr k5))⟩)
   exact wN (h:=by exact ⟨false,rfl,rfl,rfl,iff_of_false (by simp) (fun h0=>h0.elim k3 (fun h0=>h0.elim k4 k5))⟩)
  rintro σ fz' H' ⟨bq,rfl,rfl,rfl,hb5⟩;cases bq
  ·have hk0:¬YeE c:=fun h0=>h0.elim (fun h0=>h0.1.elim k1 k2) (fun h0=>by simpa using hb5.2 h0.1)
   exact wN (h:=by exact ⟨true,y0,Ay0,ny0,by0,rfl,Zd,rfl,hY0,iff_of_false (by simp) (fun h0=>hk0 h0.2.2),fun h0=>by cases h0⟩)
  have hn5:=hb5.1 rfl;have hk0:YeE c↔EVal c.value:=⟨fun h0=>h0.elim (fun h0=>(h0.1.elim k1 k2).elim) (fun h0=>h0.2),fun h0=>.inr ⟨hn5,h0⟩⟩;have hx1:chX1 c=YK [Yi (Ykh c.kind),Wn c.name c.args,Wf c.value]:=by unfold chX1;rw [if_neg k2,if_pos hn5]
  have hw:([Zy YiP,Zy Yef,Zy Yeg]:List Value)[(c.kind - 3).toNat]?=some (Zy (Ykh c.kind)):=by
   rcases hn5 with h0 | h0 | h0<;>rw [h0]<;>rfl
  have hsw:Short (Ykh c.kind):=by
   refine Ycq ?_;unfold Ykh;split
   ·exact .inr (.inl rfl)
   split
   ·exact .inr (.inr (.inl rfl))
   exact .inr (.inr (.inr (.inl rfl)))
  have hn6:3<=c.kind/\c.kind<=5:=by unfold Num5 at hn5;omega
  refine Wg ?_;refine wG ?_;refine Yh (vs:=[Zy c.value.op,Zy c.value.name,Zk c.value.n,Zc A7 n7 b7,Zc A8 n8 b8]) 3 ?_;refine wK (q:=eWrite_q (hM Zd) hs.2.2.2) (h:=fun v8 fz2 H2 hle2 hR2=>?_);obtain ⟨rfl,u,ye,rfl,⟨cse,rfl,hre⟩,hye⟩:=hR2;obtain ⟨vke,rfl,hE⟩:=YJ hre;obtain ⟨Ae,ne,be,rfl,_⟩:=hE.kids;refine zWO ?_;intros;rename_i g6;refine YN (Xe (fun σ fz' H'=>∃ bb:Bool,σ=(6,Zp g6):: [(5,Zp g5),(4,Zp g4),(3,Zp g3),(0,Zp g)]/\fz2=fz'/\H'=[(g,wrO bb),(g6,Zu #[Zk ye.kind,Zk ye.value,Zk ye.line,Zk ye.column,Zy ye.text,Zc Ae ne be] 148),(g5,Zu #[Zk y0.kind,Zk y0.value,Zk y0.line,Zk y0.column,Zy y0.text,Zc Ay0 ny0 by0] 148),(g4,Zu #[Zk 0,Zk 0,Zk 0,Zk 0,Ze,Zn] 148),(g3,Zu #[Zk c.kind,Zc A1 n1 b1,Zy c.when_.op,Zy c.when_.name,Zc A2 n2 b2,Zc A3 n3 b3,Zc A4 n4 b4,Zc A5 n5 b5,Zy c.name,Zc A6 n6 b6,Zy c.value.op,Zy c.value.name,Zk c.value.n,Zc A7 n7 b7,Zc A8 n8 b8] 71)]/\(bb=false↔b=false/\Yic c.name c.args/\YeE c)) ?_ ?_)
  ·by_cases hP:EVal c.value
   ·rw [if_pos hP];cases ba
    ·refine zW ?_;exact midP (List.Perm.swap _ _ _) ⟨false,rfl,rfl,rfl,iff_of_true rfl ⟨(hba.1 rfl).1,(hba.1 rfl).2,hk0.2 hP⟩⟩ Zw Zb
    refine zW ?_;exact midP (List.Perm.swap _ _ _) ⟨true,rfl,rfl,rfl,iff_of_false (by simp) (fun h0=>by simpa using hba.2 ⟨h0.1,h0.2.1⟩)⟩ Zw Zb
   rw [if_neg hP];cases ba
   ·refine zW ?_;exact midP (List.Perm.swap _ _ _) ⟨true,rfl,rfl,rfl,iff_of_false (by simp) (fun h0=>hP (hk0.1 h0.2.2))⟩ Zw Zb
   refine zW ?_;exact midP (List.Perm.swap _ _ _) ⟨true,rfl,rfl,rfl,iff_of_false (by simp) (fun h0=>by simpa using hba.2 ⟨h0.1,h0.2.1⟩)⟩ Zw Zb
  rintro σ fz' H' ⟨bb,rfl,rfl,rfl,hbb⟩;refine Y6 [_,_,_,_,_] ?_;refine Yl ?_;refine zW ?_;refine Yl (Yl (Yl ?_));refine zW ?_;refine pU ?_;refine Yg (Yc (cs:=[Zy YiP,Zy Yef,Zy Yeg]) (fun gs=>⟨⟨Zd,Zx⟩,?_⟩));refine Ch.qk ⟨Zd,Zx⟩ (XE T Zz Zz Zz Zz Zz Zz Zi Zi ?_);refine Ch.qk ⟨Zd,Zx⟩ (Yw 0 ?_ (hv:=hw));refine Ch.qk ⟨Zd,Zx⟩ (Yt (Yad (s:=Ykh c.kind)) ?_);refine Yg (Yc (cs:=Yr (Ykh c.kind)++ [Zk y0.kind,Zk y0.value,Zk y0.line,Zk y0.column,Zy y0.text,Zc Ay0 ny0 by0]++ [Zk ye.kind,Zk ye.value,Zk ye.line,Zk ye.column,Zy ye.text,Zc Ae ne be]) (fun gb=>⟨⟨Zd,Zx⟩,?_⟩));refine Ch.qk ⟨Zd,Zx⟩ (Yt Xj ?_);unfold sxV;refine Ch.hard0 (WA (pre:=[_,_,_,_]) rfl ?_);refine Ch.done ?_;refine zW ?_;refine midF (H':=[(g,wrO bb),(g5,_),(g4,_),(g3,_)]) (H2:=[(gb,_),(gs,_),(g6,_)]) (XU [2,4,5,6,0,1,3]) (fun fz3 hl3 hf3=>⟨bb,YK [Yi (Ykh c.kind),y0,ye],_,_,_,rfl,hle2.trans hl3,rfl,YeK hsw (hf3 _ (.head _)) (hY0.mono (hle2.trans hl3)) (hE.mono hl3),hbb,fun h0=>?_⟩) Zw;rw [hx1,hya (hba.2 ⟨(hbb.1 h0).1,(hbb.1 h0).2.1⟩),hye (hk0.1 (hbb.1 h0).2.2)]
 rintro σ fz9 H' ⟨bb,y,Ay,ny,by_,rfl,hle2,rfl,hY,hbb,hyb⟩;refine YN (Xe (fun σ fz' H'=>∃ (bb:Bool) (y:Sexpr) (Ay:Option Addr) (ny by_:Nat),σ=[(5,Zp g5),(4,Zp g4),(3,Zp g3),(0,Zp g)]/\Le fz9 fz'/\H'=[(g,wrO bb),(g5,Zu #[Zk y.kind,Zk y.value,Zk y.line,Zk y.column,Zy y.text,Zc Ay ny by_] 148),(g4,Zu #[Zk 0,Zk 0,Zk 0,Zk 0,Ze,Zn] 148),(g3,Zu #[Zk c.kind,Zc A1 n1 b1,Zy c.when_.op,Zy c.when_.name,Zc A2 n2 b2,Zc A3 n3 b3,Zc A4 n4 b4,Zc A5 n5 b5,Zy c.name,Zc A6 n6 b6,Zy c.value.op,Zy c.value.name,Zk c.value.n,Zc A7 n7 b7,Zc A8 n8 b8] 71)]/\Wq fz' y (Zc Ay ny by_)/\(bb=false↔b=false/\Yic c.name c.args/\YeE c/\WhenOk c)/\(bb=false->y=chX2 c)) ?_ ?_)
 ·refine YN ?_;refine Y6 [(g,_),(g5,_),(g4,_),(g3,_)] ?_;refine wG ?_;refine Yh (vs:=[Zy c.when_.op,Zy c.when_.name,Zc A2 n2 b2,Zc A3 n3 b3,Zc A4 n4 b4,Zc A5 n5 b5]) 3 ?_;refine zc Yey ?_;unfold YbL;refine zb (Ygh (b:=Xs) ((h.when_.mono hle1).mono hle2) Ycp) (fun f1=>?_) (fun f1=>?_)
  ·have hw:=Zt f1;refine zW ?_;refine Yjq ⟨by kernel_rfl,Ch.done ?_⟩;exact wN (h:=by exact ⟨bb,y,Ay,ny,by_,rfl,Zd,rfl,hY,by rw [hbb];exact ⟨fun h0=>⟨h0.1,h0.2.1,h0.2.2,.inl hw⟩,fun h0=>⟨h0.1,h0.2.1,h0.2.2.1⟩⟩,fun h0=>by rw [chX2,if_pos hw];exact hyb h0⟩)
  have hw:=Zf f1;refine zW ?_;refine Yjq ⟨by kernel_rfl,Ch.done ?_⟩;refine zW ?_;refine Y6 [(g5,_),(g4,_),(g3,_)] ?_;refine zc (Yad (s:=Ypx)) ?_;refine wG ?_;refine Yh (vs:=[Zy c.when_.op,Zy c.when_.name,Zc A2 n2 b2,Zc A3 n3 b3,Zc A4 n4 b4,Zc A5 n5 b5]) 2 ?_;refine Yl ?_;refine zW ?_;refine pU ?_;refine Yg (Yk [_] _ Zz (YbX ((h.when_.mono hle1).mono hle2) hs.2.2.1) (fun v6 fz6 H6 hle6 hR6=>?_));obtain ⟨_,b9,y6,rfl,⟨cs6,rfl,hr6⟩,hb6,hy6⟩:=hR6;obtain ⟨vk6,rfl,hX6⟩:=YJ hr6;obtain ⟨Ae,ne,be,rfl,_⟩:=hX6.kids;refine ⟨⟨hle6,Zx⟩,?_⟩;refine Yg (Yc (cs:=Yr Ypx++ [Zk y6.kind,Zk y6.value,Zk y6.line,Zk y6.column,Zy y6.text,Zc Ae ne be]++ [Zk y.kind,Zk y.value,Zk y.line,Zk y.column,Zy y.text,Zc Ay ny by_]) (fun gb=>⟨⟨hle6,Zx⟩,?_⟩));refine Ch.qk ⟨hle6,Zx⟩ (Yt Xj ?_);unfold sxV;refine Ch.hard0 (XK ?_);refine Ch.done ?_;refine zW ?_;refine midF (H':=[(g,wrO b9),(g5,_),(g4,_),(g3,_)]) (H2:=[(gb,_)]) Zq (fun fz3 hl3 hf3=>⟨b9,YK [Yi Ypx,y6,y],_,_,_,rfl,hle6.trans hl3,rfl,YeK (Ycq (.inr (.inr (.inr (.inr (.inl rfl)))))) (hf3 _ (.head _)) (hX6.mono hl3) ((hY.mono hle6).mono hl3),?_,fun h0=>?_⟩) Zw
  ·rw [hb6,hbb];exact ⟨fun h0=>⟨h0.1.1,h0.1.2.1,h0.1.2.2,.inr h0.2⟩,fun h0=>⟨⟨h0.1,h0.2.1,h0.2.2.1⟩,h0.2.2.2.resolve_left hw⟩⟩
  rw [chX2,if_neg hw,hy6 h0,hyb (hb6.1 h0).1]
 rintro σ fz7 H' ⟨bb,y,Ay,ny,by_,rfl,hle7,rfl,hY,hbb,hyb⟩;have hip:=((ip.mono hle1).mono hle2).mono hle7;refine YN (Xe (fun σ fz' H'=>∃ (bb:Bool) (y:Sexpr) (Ay:Option Addr) (ny by_:Nat),σ=[(5,Zp g5),(4,Zp g4),(3,Zp g3),(0,Zp g)]/\Le fz7 fz'/\H'=[(g,wrO bb),(g5,Zu #[Zk y.kind,Zk y.value,Zk y.line,Zk y.column,Zy y.text,Zc Ay ny by_] 148),(g4,Zu #[Zk 0,Zk 0,Zk 0,Zk 0,Ze,Zn] 148),(g3,Zu #[Zk c.kind,Zc A1 n1 b1,Zy c.when_.op,Zy c.when_.name,Zc A2 n2 b2,Zc A3 n3 b3,Zc A4 n4 b4,Zc A5 n5 b5,Zy c.name,Zc A6 n6 b6,Zy c.value.op,Zy c.value.name,Zk c.value.n,Zc A7 n7 b7,Zc A8 n8 b8] 71)]/\Wq fz' y (Zc Ay ny by_)/\(bb=false↔b=false/\ChOk c)/\(bb=false->y=chX c)) ?_ ?_)
 ·refine wC ?_ ?_<;>intro p1
  ·have hp0:=(YaI ip.len).1 p1;refine zW ?_;refine Y6 [(g5,_),(g4,_),(g3,_)] ?_;refine zc (Yad (s:=kForall)) ?_;refine zW ?_;refine Yl (Yl ?_);refine zW ?_;refine pU ?_;refine Yg (Yk [_] _ Zz (Yal (vars:=true) hip (by rw [<- ip.len];exact hs.1)) (fun v6 fz6 H6 hle6 hR6=>?_));obtain ⟨_,⟨Ae,ce,rfl,hsl6⟩,b9,rfl,hb6⟩:=hR6;refine ⟨⟨hle6,Zx⟩,?_⟩;refine Ch.qk ⟨hle6,Zx⟩ (Yt Xj ?_);unfold sxV;refine Yg (Yc (cs:=Yr kForall++ [Zk 3,Zk 0,Zk 0,Zk 0,Ze,Zc Ae (3*n1) ce]++ [Zk y.kind,Zk y.value,Zk y.line,Zk y.column,Zy y.text,Zc Ay ny by_]) (fun gb=>⟨⟨hle6,Zx⟩,?_⟩));refine Ch.qk ⟨hle6,Zx⟩ (Yt Xj ?_);unfold sxV;refine Ch.hard0 (XK ?_);refine Ch.done ?_;refine zW ?_;refine midF (H':=[(g,wrO b9),(g5,_),(g4,_),(g3,_)]) (H2:=[(gb,_)]) Zq (fun fz3 hl3 hf3=>⟨b9,YK [Yi kForall,YK ((c.params.flatMap YaC).map Yi),y],_,_,_,rfl,hle6.trans hl3,rfl,YeK (X:=YK ((c.params.flatMap YaC).map Yi)) (Ycq (.inr (.inr (.inr (.inr (.inr rfl)))))) (hf3 _ (.head _)) ⟨YgN,XP,XP,XP,Y5,(hsl6.mono hl3).is⟩ ((hY.mono hle6).mono hl3),?_,fun h0=>?_⟩) Zw
   ·rw [hb6,hbb];exact ⟨fun h0=>⟨h0.1.1,h0.1.2.1,h0.1.2.2.1,h0.1.2.2.2,h0.2⟩,fun h0=>⟨⟨h0.1,h0.2.1,h0.2.2.1,h0.2.2.2.1⟩,h0.2.2.2.2⟩⟩
   rw [chX,if_neg hp0,hyb (hb6.1 h0).1]
  have hp0:c.params=[]:=Classical.byContradiction fun h0=>p1 ((YaI ip.len).2 h0)
  exact wN (h:=by exact ⟨bb,y,Ay,ny,by_,rfl,Zd,rfl,hY,by rw [hbb];exact ⟨fun h0=>⟨h0.1,h0.2.1,h0.2.2.1,h0.2.2.2,by rw [hp0];simp⟩,fun h0=>⟨h0.1,h0.2.1,h0.2.2.1,h0.2.2.2.1⟩⟩,fun h0=>by rw [chX,if_pos hp0];exact hyb h0⟩)
 rintro σ fz8 H' ⟨bb,y,Ay,ny,by_,rfl,hle8,rfl,hY,hbb,hyb⟩;refine zW ?_;refine Yan (i:=2) (H':=[(g,wrO bb)]) rfl Zb ?_;exact ⟨hle1.trans (hle2.trans (hle7.trans hle8)),bb,y,rfl,⟨_,rfl,Ym hY⟩,hbb,hyb⟩
def effX (l:List Change):Sexpr:=if l=[] then YK [] else YK (Yi kAnd::l.map chX)
def YeG (l:List Change):Prop:=∀ c∈l,ChOk c
def YqK (l:List Change):Prop:=l.length<=1000000000/\∀ c∈l,ChSm c
theorem YoI:Short kAnd:=by unfold Short;decide
theorem Yga {l:List Change} (h1:Sl changeL fz A n c l) (hs:YqK l):
 GFn prog 198 [Zp g,Zc A n c] fz [(g,wrO b)] (MkR g b (YeG l) (effX l) fz):=by
 have l1:=h1.len;have hn:=hs.1;refine zF Tryz.func198 Tryz.ntmps198 (fun w0=>?_);refine zW ?_;intros;rename_i g4;refine zC ?_ ?_<;>intro c0
 ·have hl:=(len0 l1).1 c0;refine wc (Xj (A:=none) (n:=0) (c:=0)) ?_;unfold sxV;refine zW ?_;refine Yan (i:=0) (H':=[(g,wrO b)]) rfl Zb ?_;exact ⟨Zd,b,_,rfl,W9 (Sl.nil),by rw [hl];unfold YeG;simp,fun _=>by rw [effX,if_pos hl]⟩
 have hl:l≠ []:=fun h0=>c0 ((len0 l1).2 h0)
 refine wc (Yad (s:=kAnd)) ?_;unfold sxV;refine Yd (Yc (cs:=Yr kAnd) (fun gb=>?_));refine zc Xj ?_;unfold sxV;refine zW ?_;intros;rename_i g5;refine Wp.perm (XU [3,0,2,1]) ?_;refine Yn (fun q σ fz' H'=>∃ (k:Nat) (v:Value) (Hs:HP) (b':Bool) (ys:List Sexpr),k<=n/\q=n - k/\σ=[(17,Zk k),(16,Zk n),(15,Zc A n c),(5,Zp g5),(4,Zp g4),(0,Zp g)]/\Le fz fz'/\
  H'=(g,wrO b')::(g5,Zu #[Zk 3,Zk 0,Zk 0,Zk 0,Ze,v] 148)::(g4,Zu #[Zk 0,Zk 0,Zk 0,Zk 0,Ze,Zn] 148)::Hs/\Grow YO 148 fz' v (k+1) Hs (Yi kAnd::ys)/\(b'=false↔b=false/\∀ i,i<k->∀ a,l[i]?=some a->ChOk a)/\(b'=false->ys=(l.take k).map chX))
  ⟨0,_,[_],b,[],Z0 _,rfl,rfl,Zd,rfl,Grow.block (ys:=[(Yi kAnd,Yr kAnd)]) rfl rfl (by simpa using YA YoI) rfl,⟨fun h=>⟨h,fun i hi=>absurd hi Zi⟩,fun h=>h.1⟩,by simp⟩ Zw Zb ?_
 rintro q σ fz' H' ⟨k,v,Hs,b',ys,hk,rfl,rfl,hle,rfl,hG,hb,hys⟩;obtain ⟨Av,cv,rfl,_,_⟩:=hG.form;have h2:=h1.mono hle;refine wC ?_ ?_<;>intro c1
 ·obtain ⟨x,hx⟩:=Yf (l:=l) (k:=k) Zi;refine wI h2 hx (fun p hp=>?_);refine zL hp ?_;intro cs hcs;obtain ⟨v1,v2,v3,v4,v5,v6,v7,v8,rfl,hRx⟩:=Xb hcs;obtain ⟨A1,n1,b1,rfl,_⟩:=hRx.params;obtain ⟨⟨A2,n2,b2,rfl,_⟩,⟨A3,n3,b3,rfl,_⟩,⟨A4,n4,b4,rfl,_⟩,⟨A5,n5,b5,rfl,_⟩⟩:=hRx.when_.sls;obtain ⟨A6,n6,b6,rfl,_⟩:=hRx.args;obtain ⟨⟨A7,n7,b7,rfl,_⟩,⟨A8,n8,b8,rfl,_⟩⟩:=hRx.value.sls;refine zW ?_;intros;rename_i g7;refine Y6 [(g7,_),(g5,_),(g4,_)] ?_;refine zW ?_;refine Yl (Yl (Yl ?_));refine zW ?_;refine pU ?_;refine Yg (Does.perm (List.Perm.swap _ _ _) (Yk [_] _ Zz (Yn9 hRx (hs.2 x (Zm hx))) (fun v9 fz6 H6 hle6 hR6=>?_)));obtain ⟨_,b9,y6,rfl,⟨cs6,rfl,hr6⟩,hb6,hy6⟩:=hR6;obtain ⟨vk6,rfl,hX6⟩:=YJ hr6;refine ⟨⟨hle6,Zx⟩,?_⟩;refine Yg (Yc (cs:=[Zk y6.kind,Zk y6.value,Zk y6.line,Zk y6.column,Zy y6.text,vk6]) (fun gb=>⟨⟨hle6,Zx⟩,?_⟩));refine Yg (YG (Hr:=[_,_,_,_,_]) (Zr _) (hG.mono hle6) Yz (.head _) (Ym hX6) (fun v' Hs' hO'=>⟨⟨hle6,Zx⟩,?_⟩));obtain ⟨Av',cv',rfl,_,_⟩:=hO'.form;refine Ch.hard0 (Xm ?_);refine Ch.done ?_;refine zW ?_;refine Ws ⟨k+1,_,Hs',b9,ys++ [y6],by omega,rfl,rfl,hle.trans hle6,rfl,hO',?_,fun h0=>?_⟩ Zi Zw Zb
  ·rw [hb6,hb];exact ⟨fun h0=>⟨h0.1.1,YH h0.1.2 hx h0.2⟩,fun h0=>⟨⟨h0.1,fun i hi=>h0.2 i Zi⟩,h0.2 k Zi x hx⟩⟩
  rw [hys (hb6.1 h0).1,hy6 h0,List.take_add_one,hx];simp
 have hk1:k=n:=by omega
 subst hk1;refine zW ?_;refine Yd4 (i:=2) (H':=[(g,wrO b')]) rfl (Zr _) (fun fz3 hle3 hf3=>?_);obtain ⟨A',c',he,hsl⟩:=hG.sl hle3 (fun p hp=>hf3 p (by simp [hp])) Zi;injection he with he1 he2 he3
 subst he1 he3;refine ⟨hle.trans hle3,b',_,rfl,W9 hsl,by rw [hb];exact ⟨fun h=>⟨h.1,Xc h.2 Zi⟩,fun h=>⟨h.1,fun i _ a ha=>h.2 a (Zm ha)⟩⟩,fun h0=>?_⟩;rw [effX,if_neg hl,hys h0,Zl Zi]
def lsO (v:Value):Obj:=Zu #[Zk 3,Zk 0,Zk 0,Zk 0,Ze,v] 148
def YbW:List Value:=[Zk 0,Zk 0,Zk 0,Zk 0,Ze,Zn]
theorem WT:YO.rep fz Yjs YbW:=Ym (x:=Yjs) ⟨XP,XP,XP,XP,Y5,IsSl.nil⟩
theorem set2 {z w y:α} (hn:l.length=n):((l++ [z,z]).set n w).set (n+1) y=l++ [w,y]:=by
 subst hn;rw [List.set_append_right _ _ (Zs _),Nat.sub_self,List.set_append_right _ _ Zi,Nat.add_sub_cancel_left];rfl
theorem set1 {z w:α} (hn:l.length=n):(l++ [z]).set n w=l++ [w]:=by
 subst hn;rw [List.set_append_right _ _ (Zs _),Nat.sub_self];rfl
def PartR (gx n:Nat) (l:List Sexpr) (fz:FZ) (v:Value) (fz':FZ) (H':HP):Prop:=v=.tuple #[]/\Le fz fz'/\∃ (v':Value) (n':Nat) (Hs':HP),H'=(gx,lsO v')::Hs'/\Grow YO 148 fz' v' n' Hs' l/\n'<=n+2
theorem YcY {gx:Nat} {vy:Value} {l:List Sexpr} {mi:Bool} {kw:Bs} {y:Sexpr} (hG:Grow YO 148 fz v n Hs l) (hY:Wq fz y vy) (hkw:Short kw) (hn:n<=100000000000:=by omega):
 GFn prog 194 [Zp gx,Zo mi,Zy kw,.agg #[Zk y.kind,Zk y.value,Zk y.line,Zk y.column,Zy y.text,vy]] fz ((gx,lsO v)::Hs) (PartR gx n (l++if mi=true then [] else [Yi kw,y]) fz):=by
 obtain ⟨Ay,ny,cy,rfl,_⟩:=hY.kids;have hlen:=hG.len;obtain ⟨Av,cv,rfl,_,_⟩:=hG.form;unfold lsO;refine zF Tryz.func194 Tryz.ntmps194 (fun w0=>?_);cases mi
 ·refine pX (fun g7=>?_);refine zW ?_;refine Yay [12,15,16] [(g7,_),(gx,_)] ?_;refine wc (Yad (s:=kw)) ?_;refine zW ?_;refine Yx (Yx (Yx (Yx ?_)));refine PK.p Zz (fun fz'=>by first | exact Wo rfl | exact W6 Zz rfl | exact Xw rfl | exact YeW Zz Zz (Xr Zi) rfl | exact XD rfl) ?_;refine Yx (Yx ?_);refine PK.p Zz (fun fz'=>by first | exact Wo rfl | exact W6 Zz rfl | exact Xw rfl | exact YeW Zz Zz (Xr Zi) rfl | exact XD rfl) ?_;refine PK.p Zz (fun fz'=>by first | exact Wo rfl | exact W6 Zz rfl | exact Xw rfl | exact YeW Zz Zz (Xr Zi) rfl | exact XD rfl) ?_;refine pT ?_;refine Yb ?_;refine Ye (Yc (cs:=YbW++YbW) (fun gb=>⟨⟨Zd,Zx⟩,?_⟩));refine Yb ?_;refine Ye (Ypw (Hr:=[_,_,_]) (ys:=[(Yjs,YbW),(Yjs,YbW)]) (l2:=[Yjs,Yjs]) (m:=2) (Zr _) hG Yz (.head _) rfl rfl rfl (fun v' Hs' hO'=>⟨⟨Zd,Zx⟩,?_⟩) (hys:=by intro p hp;simp at hp;subst hp;exact WT));obtain ⟨gk,cap,cur,rfl,rfl,hB⟩:=hO'.b Zi;refine YB ?_ ?_
  ·refine PoS.hard (DoesQ.does (Yo rfl ?_));refine YB ?_ ?_
   ·refine PoS.hard0 (YE (pre:=[_,_,_]) (L:=YO) (j:=n) rfl rfl Yz (YA hkw) hB (fun cur1 hB1=>?_));refine YB ?_ ?_
    ·refine PoS.hard (DoesQ.does (Yo rfl ?_));refine YB ?_ ?_
     ·refine PoS.hard0 (YE (pre:=[_,_,_]) (L:=YO) (j:=n+1) rfl rfl Yz (Ym hY) hB1 (fun cur2 hB2=>?_));refine Yb ?_;refine PoS.hard0 (XK ?_);refine Po.done ?_;refine zW ?_;exact Yb2 rfl (H':=[(gx,lsO _),(gk,Zu (List.toArray cur2) 148)]) Zb ⟨rfl,Zd,_,_,[_],rfl,hB2.grow.of (by rw [set2 hlen];rfl) rfl,by omega⟩
     refine PoS.hard0 (XK ?_);refine Yb ?_;refine PoS.hard0 (YE (pre:=[_,_,_]) (L:=YO) (j:=n+1) rfl rfl Yz (Ym hY) hB1 (fun cur2 hB2=>?_));refine Po.done ?_;refine zW ?_;exact Yb2 rfl (H':=[(gx,lsO _),(gk,Zu (List.toArray cur2) 148)]) Zb ⟨rfl,Zd,_,_,[_],rfl,hB2.grow.of (by rw [set2 hlen];rfl) rfl,by omega⟩
    refine PoS.hard0 (XK ?_);refine Yb ?_;refine PoS.hard (DoesQ.does (Yo rfl ?_));refine Yb ?_;refine PoS.hard0 (YE (pre:=[_,_,_]) (L:=YO) (j:=n+1) rfl rfl Yz (Ym hY) hB1 (fun cur2 hB2=>?_));refine Po.done ?_;refine zW ?_;exact Yb2 rfl (H':=[(gx,lsO _),(gk,Zu (List.toArray cur2) 148)]) Zb ⟨rfl,Zd,_,_,[_],rfl,hB2.grow.of (by rw [set2 hlen];rfl) rfl,by omega⟩
   refine PoS.hard0 (XK ?_);refine Yb ?_;refine PoS.hard0 (YE (pre:=[_,_,_]) (L:=YO) (j:=n) rfl rfl Yz (YA hkw) hB (fun cur1 hB1=>?_));refine Yb ?_;refine PoS.hard (DoesQ.does (Yo rfl ?_));refine Yb ?_;refine PoS.hard0 (YE (pre:=[_,_,_]) (L:=YO) (j:=n+1) rfl rfl Yz (Ym hY) hB1 (fun cur2 hB2=>?_));refine Po.done ?_;refine zW ?_;exact Yb2 rfl (H':=[(gx,lsO _),(gk,Zu (List.toArray cur2) 148)]) Zb ⟨rfl,Zd,_,_,[_],rfl,hB2.grow.of (by rw [set2 hlen];rfl) rfl,by omega⟩
  refine PoS.hard0 (XK ?_);refine Yb ?_;refine PoS.hard (DoesQ.does (Yo rfl ?_));refine Yb ?_;refine PoS.hard0 (YE (pre:=[_,_,_]) (L:=YO) (j:=n) rfl rfl Yz (YA hkw) hB (fun cur1 hB1=>?_));refine Yb ?_;refine PoS.hard (DoesQ.does (Yo rfl ?_));refine Yb ?_;refine PoS.hard0 (YE (pre:=[_,_,_]) (L:=YO) (j:=n+1) rfl rfl Yz (Ym hY) hB1 (fun cur2 hB2=>?_));refine Po.done ?_;refine zW ?_;exact Yb2 rfl (H':=[(gx,lsO _),(gk,Zu (List.toArray cur2) 148)]) Zb ⟨rfl,Zd,_,_,[_],rfl,hB2.grow.of (by rw [set2 hlen];rfl) rfl,by omega⟩
 refine pX (fun g7=>?_);refine zW ?_;exact Yb2 rfl (H':=(gx,lsO _)::Hs) Zb ⟨rfl,Zd,_,_,Hs,rfl,hG.of (by simp) rfl,by omega⟩
theorem YiV {gx m:Nat} {l ks:List Sexpr} {kw:Bs} (hG:Grow YO 148 fz v n Hs l) (hK:Sl YO fz B m c ks) (hkw:Short kw) (hn:n<=100000000000:=by omega) (hm:m<=100000000000:=by omega):
 GFn prog 119 [Zp gx,Zy kw,Zc B m c] fz ((gx,lsO v)::Hs) (PartR gx n (l++if ks=[] then [] else [YK (Yi kw::ks)]) fz):=by
 have hlen:=hG.len;obtain ⟨Av,cv,rfl,_,_⟩:=hG.form;unfold lsO;refine zF Tryz.func119 Tryz.ntmps119 (fun w0=>?_);refine wC ?_ ?_<;>intro c0
 ·have hks:ks≠ []:=(YaI hK.len).1 c0;refine zW ?_;refine Yay [15,16] [(gx,_)] ?_;refine wc (Yad (s:=kw)) ?_;refine Yx ?_;refine zW ?_;refine Yx (Yx ?_);refine zW ?_;refine Yx (Yx (Yx (Yx ?_)));refine PK.p Zz (fun fz'=>by first | exact Wo rfl | exact W6 Zz rfl | exact Xw rfl | exact YeW Zz Zz (Xr Zi) rfl | exact XD rfl) ?_;refine PK.p Zz (fun fz'=>by first | exact Wo rfl | exact W6 Zz rfl | exact Xw rfl | exact YeW Zz Zz (Xr Zi) rfl | exact XD rfl) ?_;refine pT ?_;refine YB ?_ ?_
  ·refine Ye (Yc (cs:=Yr kw) (fun gb1=>⟨⟨Zd,Zx⟩,?_⟩));refine YB ?_ ?_
   ·refine Ye (XW T (n:=1) (l:=[Yi kw]) (Hr:=(gx,_)::Hs) (Hs:=[(gb1,_)]) Zz Zz Zz Zz Zz Zz Zz Zz (List.perm_append_singleton _ _).symm (Grow.block (ys:=[(Yi kw,Yr kw)]) rfl rfl (by simpa using YA hkw) rfl) Yz hK (by show _*72<=_;omega) Zi (fun v1 Hs1 hO1=>⟨⟨Zd,Zx⟩,?_⟩));obtain ⟨A1,c1,rfl,_,_⟩:=hO1.form;refine YB ?_ ?_
    ·refine PoS.qk ⟨Zd,Zx⟩ (Yt Xj ?_);unfold sxV;refine Yb ?_;refine Ye (Yc (cs:=YbW) (fun gz=>⟨⟨Zd,Zx⟩,?_⟩));refine Yb ?_;refine PoS.hard (Does.freezeAll (H1:=(gz,_)::(gx,_)::Hs) (H2:=Hs1) (Zr _) (fun fz2 hl2 hf2=>YG (Hr:=[_,_]) (Zr _) (hG.mono hl2) Yz (.head _) WT (fun v' Hs' hO'=>?_)));obtain ⟨gk,cap,cur,rfl,rfl,hB⟩:=hO'.b Zi;obtain ⟨A2,c2,he2,hsl⟩:=hO1.sl hl2 hf2 Zi;injection he2 with e1 e2 e3
     subst e1 e3;have hX:Wq fz2 (YK (Yi kw::ks)) (Zc A1 (1+m) c1):=⟨YgN,XP,XP,XP,Y5,hsl.is⟩;refine YB ?_ ?_
     ·refine PoS.hard (DoesQ.does (Yo rfl ?_));refine YB ?_ ?_
      ·refine PoS.hard0 (YE (pre:=[_,_]) (L:=YO) (j:=n) rfl rfl Yz (Ym (x:=YK (Yi kw::ks)) hX) hB (fun cur1 hB1=>?_));refine Yb ?_;refine PoS.hard0 (YX ?_);refine Po.done ?_;refine zW ?_;exact Yb2 rfl (H':=[(gx,lsO _),(gk,Zu (List.toArray cur1) 148)]) Zb ⟨rfl,hl2,_,_,[_],rfl,hB1.grow.of (by rw [set1 hlen,if_neg hks]) rfl,by omega⟩
      refine PoS.hard0 (YX ?_);refine Yb ?_;refine PoS.hard0 (YE (pre:=[_,_]) (L:=YO) (j:=n) rfl rfl Yz (Ym (x:=YK (Yi kw::ks)) hX) hB (fun cur1 hB1=>?_));refine Po.done ?_;refine zW ?_;exact Yb2 rfl (H':=[(gx,lsO _),(gk,Zu (List.toArray cur1) 148)]) Zb ⟨rfl,hl2,_,_,[_],rfl,hB1.grow.of (by rw [set1 hlen,if_neg hks]) rfl,by omega⟩
     refine PoS.hard0 (YX ?_);refine Yb ?_;refine PoS.hard (DoesQ.does (Yo rfl ?_));refine Yb ?_;refine PoS.hard0 (YE (pre:=[_,_]) (L:=YO) (j:=n) rfl rfl Yz (Ym (x:=YK (Yi kw::ks)) hX) hB (fun cur1 hB1=>?_));refine Po.done ?_;refine zW ?_;exact Yb2 rfl (H':=[(gx,lsO _),(gk,Zu (List.toArray cur1) 148)]) Zb ⟨rfl,hl2,_,_,[_],rfl,hB1.grow.of (by rw [set1 hlen,if_neg hks]) rfl,by omega⟩
    refine Ye (Yc (cs:=YbW) (fun gz=>⟨⟨Zd,Zx⟩,?_⟩));refine Yb ?_;refine PoS.qk ⟨Zd,Zx⟩ (Yt Xj ?_);unfold sxV;refine Yb ?_;refine PoS.hard (Does.freezeAll (H1:=(gz,_)::(gx,_)::Hs) (H2:=Hs1) (Zr _) (fun fz2 hl2 hf2=>YG (Hr:=[_,_]) (Zr _) (hG.mono hl2) Yz (.head _) WT (fun v' Hs' hO'=>?_)));obtain ⟨gk,cap,cur,rfl,rfl,hB⟩:=hO'.b Zi;obtain ⟨A2,c2,he2,hsl⟩:=hO1.sl hl2 hf2 Zi;injection he2 with e1 e2 e3
    subst e1 e3;have hX:Wq fz2 (YK (Yi kw::ks)) (Zc A1 (1+m) c1):=⟨YgN,XP,XP,XP,Y5,hsl.is⟩;refine YB ?_ ?_
    ·refine PoS.hard (DoesQ.does (Yo rfl ?_));refine YB ?_ ?_
     ·refine PoS.hard0 (YE (pre:=[_,_]) (L:=YO) (j:=n) rfl rfl Yz (Ym (x:=YK (Yi kw::ks)) hX) hB (fun cur1 hB1=>?_));refine Yb ?_;refine PoS.hard0 (YX ?_);refine Po.done ?_;refine zW ?_;exact Yb2 rfl (H':=[(gx,lsO _),(gk,Zu (List.toArray cur1) 148)]) Zb ⟨rfl,hl2,_,_,[_],rfl,hB1.grow.of (by rw [set1 hlen,if_neg hks]) rfl,by omega⟩
     refine PoS.hard0 (YX ?_);refine Yb ?_;refine PoS.hard0 (YE (pre:=[_,_]) (L:=YO) (j:=n) rfl rfl Yz (Ym (x:=YK (Yi kw::ks)) hX) hB (fun cur1 hB1=>?_));refine Po.done ?_;refine zW ?_;exact Yb2 rfl (H':=[(gx,lsO _),(gk,Zu (List.toArray cur1) 148)]) Zb ⟨rfl,hl2,_,_,[_],rfl,hB1.grow.of (by rw [set1 hlen,if_neg hks]) rfl,by omega⟩
    refine PoS.hard0 (YX ?_);refine Yb ?_;refine PoS.hard (DoesQ.does (Yo rfl ?_));refine Yb ?_;refine PoS.hard0 (YE (pre:=[_,_]) (L:=YO) (j:=n) rfl rfl Yz (Ym (x:=YK (Yi kw::ks)) hX) hB (fun cur1 hB1=>?_));refine Po.done ?_;refine zW ?_;exact Yb2 rfl (H':=[(gx,lsO _),(gk,Zu (List.toArray cur1) 148)]) Zb ⟨rfl,hl2,_,_,[_],rfl,hB1.grow.of (by rw [set1 hlen,if_neg hks]) rfl,by omega⟩
   refine Ye (Yc (cs:=YbW) (fun gz=>⟨⟨Zd,Zx⟩,?_⟩));refine Yb ?_;refine Ye (XW T (n:=1) (l:=[Yi kw]) (Hr:=(gz,_)::(gx,_)::Hs) (Hs:=[(gb1,_)]) Zz Zz Zz Zz Zz Zz Zz Zz (List.Perm.cons _ (List.perm_append_singleton _ _).symm) (Grow.block (ys:=[(Yi kw,Yr kw)]) rfl rfl (by simpa using YA hkw) rfl) Yz hK (by show _*72<=_;omega) Zi (fun v1 Hs1 hO1=>⟨⟨Zd,Zx⟩,?_⟩));obtain ⟨A1,c1,rfl,_,_⟩:=hO1.form;refine Yb ?_;refine PoS.qk ⟨Zd,Zx⟩ (Yt Xj ?_);unfold sxV;refine Yb ?_;refine PoS.hard (Does.freezeAll (H1:=(gz,_)::(gx,_)::Hs) (H2:=Hs1) (Zr _) (fun fz2 hl2 hf2=>YG (Hr:=[_,_]) (Zr _) (hG.mono hl2) Yz (.head _) WT (fun v' Hs' hO'=>?_)));obtain ⟨gk,cap,cur,rfl,rfl,hB⟩:=hO'.b Zi;obtain ⟨A2,c2,he2,hsl⟩:=hO1.sl hl2 hf2 Zi;injection he2 with e1 e2 e3
   subst e1 e3;have hX:Wq fz2 (YK (Yi kw::ks)) (Zc A1 (1+m) c1):=⟨YgN,XP,XP,XP,Y5,hsl.is⟩;refine YB ?_ ?_
   ·refine PoS.hard (DoesQ.does (Yo rfl ?_));refine YB ?_ ?_
    ·refine PoS.hard0 (YE (pre:=[_,_]) (L:=YO) (j:=n) rfl rfl Yz (Ym (x:=YK (Yi kw::ks)) hX) hB (fun cur1 hB1=>?_));refine Yb ?_;refine PoS.hard0 (YX ?_);refine Po.done ?_;refine zW ?_;exact Yb2 rfl (H':=[(gx,lsO _),(gk,Zu (List.toArray cur1) 148)]) Zb ⟨rfl,hl2,_,_,[_],rfl,hB1.grow.of (by rw [set1 hlen,if_neg hks]) rfl,by omega⟩
    refine PoS.hard0 (YX ?_);refine Yb ?_;refine PoS.hard0 (YE (pre:=[_,_]) (L:=YO) (j:=n) rfl rfl Yz (Ym (x:=YK (Yi kw::ks)) hX) hB (fun cur1 hB1=>?_));refine Po.done ?_;refine zW ?_;exact Yb2 rfl (H':=[(gx,lsO _),(gk,Zu (List.toArray cur1) 148)]) Zb ⟨rfl,hl2,_,_,[_],rfl,hB1.grow.of (by rw [set1 hlen,if_neg hks]) rfl,by omega⟩
   refine PoS.hard0 (YX ?_);refine Yb ?_;refine PoS.hard (DoesQ.does (Yo rfl ?_));refine Yb ?_;refine PoS.hard0 (YE (pre:=[_,_]) (L:=YO) (j:=n) rfl rfl Yz (Ym (x:=YK (Yi kw::ks)) hX) hB (fun cur1 hB1=>?_));refine Po.done ?_;refine zW ?_;exact Yb2 rfl (H':=[(gx,lsO _),(gk,Zu (List.toArray cur1) 148)]) Zb ⟨rfl,hl2,_,_,[_],rfl,hB1.grow.of (by rw [set1 hlen,if_neg hks]) rfl,by omega⟩
  refine Ye (Yc (cs:=YbW) (fun gz=>⟨⟨Zd,Zx⟩,?_⟩));refine Yb ?_;refine Ye (Yc (cs:=Yr kw) (fun gb1=>⟨⟨Zd,Zx⟩,?_⟩));refine Yb ?_;refine Ye (XW T (n:=1) (l:=[Yi kw]) (Hr:=(gz,_)::(gx,_)::Hs) (Hs:=[(gb1,_)]) Zz Zz Zz Zz Zz Zz Zz Zz (List.perm_append_singleton _ _).symm (Grow.block (ys:=[(Yi kw,Yr kw)]) rfl rfl (by simpa using YA hkw) rfl) Yz hK (by show _*72<=_;omega) Zi (fun v1 Hs1 hO1=>⟨⟨Zd,Zx⟩,?_⟩));obtain ⟨A1,c1,rfl,_,_⟩:=hO1.form;refine Yb ?_;refine PoS.qk ⟨Zd,Zx⟩ (Yt Xj ?_);unfold sxV;refine Yb ?_;refine PoS.hard (Does.freezeAll (H1:=(gz,_)::(gx,_)::Hs) (H2:=Hs1) (Zr _) (fun fz2 hl2 hf2=>YG (Hr:=[_,_]) (Zr _) (hG.mono hl2) Yz (.head _) WT (fun v' Hs' hO'=>?_)));obtain ⟨gk,cap,cur,rfl,rfl,hB⟩:=hO'.b Zi;obtain ⟨A2,c2,he2,hsl⟩:=hO1.sl hl2 hf2 Zi;injection he2 with e1 e2 e3
  subst e1 e3;have hX:Wq fz2 (YK (Yi kw::ks)) (Zc A1 (1+m) c1):=⟨YgN,XP,XP,XP,Y5,hsl.is⟩;refine YB ?_ ?_
  ·refine PoS.hard (DoesQ.does (Yo rfl ?_));refine YB ?_ ?_
   ·refine PoS.hard0 (YE (pre:=[_,_]) (L:=YO) (j:=n) rfl rfl Yz (Ym (x:=YK (Yi kw::ks)) hX) hB (fun cur1 hB1=>?_));refine Yb ?_;refine PoS.hard0 (YX ?_);refine Po.done ?_;refine zW ?_;exact Yb2 rfl (H':=[(gx,lsO _),(gk,Zu (List.toArray cur1) 148)]) Zb ⟨rfl,hl2,_,_,[_],rfl,hB1.grow.of (by rw [set1 hlen,if_neg hks]) rfl,by omega⟩
   refine PoS.hard0 (YX ?_);refine Yb ?_;refine PoS.hard0 (YE (pre:=[_,_]) (L:=YO) (j:=n) rfl rfl Yz (Ym (x:=YK (Yi kw::ks)) hX) hB (fun cur1 hB1=>?_));refine Po.done ?_;refine zW ?_;exact Yb2 rfl (H':=[(gx,lsO _),(gk,Zu (List.toArray cur1) 148)]) Zb ⟨rfl,hl2,_,_,[_],rfl,hB1.grow.of (by rw [set1 hlen,if_neg hks]) rfl,by omega⟩
  refine PoS.hard0 (YX ?_);refine Yb ?_;refine PoS.hard (DoesQ.does (Yo rfl ?_));refine Yb ?_;refine PoS.hard0 (YE (pre:=[_,_]) (L:=YO) (j:=n) rfl rfl Yz (Ym (x:=YK (Yi kw::ks)) hX) hB (fun cur1 hB1=>?_));refine Po.done ?_;refine zW ?_;exact Yb2 rfl (H':=[(gx,lsO _),(gk,Zu (List.toArray cur1) 148)]) Zb ⟨rfl,hl2,_,_,[_],rfl,hB1.grow.of (by rw [set1 hlen,if_neg hks]) rfl,by omega⟩
 have hks:ks=[]:=Classical.byContradiction fun h0=>c0 ((YaI hK.len).2 h0)
 refine zW ?_;exact Yb2 rfl (H':=(gx,lsO _)::Hs) Zb ⟨rfl,Zd,_,_,Hs,rfl,hG.of (by rw [if_pos hks,List.append_nil]) rfl,by omega⟩
end Go.Proofs.YtbdpaoikccabhaaGreatDoor
