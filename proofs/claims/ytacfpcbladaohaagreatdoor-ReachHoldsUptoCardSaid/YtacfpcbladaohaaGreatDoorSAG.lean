/- The texts PWalkB, PCA, PCB, PWalkC, PWalkD, PWalkE, PWalkF, laid together. Conditions: none. -/
import Derived.Test.YtacfpcbladaohaaGreatDoorSAF
set_option linter.all false
set_option maxHeartbeats 4000000
noncomputable section
set_option maxRecDepth 20000
open Go.Lx Go.RowKit
attribute [local instance 10] Classical.propDecidable
open Go.Proofs.Tryz (prog)
namespace Go.Proofs.YtacfpcbladaohaaGreatDoor
variable {α β:Type} {fz fz':FZ} {s:Bs} {A:Option Addr} {c n k:Nat} {v:Value} {l:List α} {L:Lay α}
def sxV (k v:Int) (s:Bs) (kids:Value):Value:=.agg #[Zk k,Zk v,Zk 0,Zk 0,Zy s,kids]
theorem Ybw:QFn prog 133 [Zy s] fz (sxV 1 0 s Zn):=by
 refine qF Tryz.func133 Tryz.ntmps133 (fun w0=>?_);refine zW ?_;intros;exact Wm (i:=0) rfl (fun _ hi=>⟨_,[],hi.forget (List.nil_sublist _),rfl⟩)
theorem W8:QFn prog 157 [Zy s] fz (sxV 1 0 s Zn):=by
 refine qF Tryz.func157 Tryz.ntmps157 (fun w0=>?_);refine zW ?_;intros;exact Wm (i:=0) rfl (fun _ hi=>⟨_,[],hi.forget (List.nil_sublist _),rfl⟩)
theorem Ya5:QFn prog 167 [Zy s] fz (sxV 1 0 s Zn):=by
 refine qF Tryz.func167 Tryz.ntmps167 (fun w0=>?_);refine zW ?_;intros;exact Wm (i:=0) rfl (fun _ hi=>⟨_,[],hi.forget (List.nil_sublist _),rfl⟩)
theorem Yc0:QFn prog 132 [Zc A n c] fz (sxV 3 0 ⟨#[]⟩ (Zc A n c)):=by
 refine qF Tryz.func132 Tryz.ntmps132 (fun w0=>?_);refine zW ?_;intros;exact Wm (i:=0) rfl (fun _ hi=>⟨_,[],hi.forget (List.nil_sublist _),rfl⟩)
theorem WR:QFn prog 156 [Zc A n c] fz (sxV 3 0 ⟨#[]⟩ (Zc A n c)):=by
 refine qF Tryz.func156 Tryz.ntmps156 (fun w0=>?_);refine zW ?_;intros;exact Wm (i:=0) rfl (fun _ hi=>⟨_,[],hi.forget (List.nil_sublist _),rfl⟩)
theorem YdK:QFn prog 166 [Zc A n c] fz (sxV 3 0 ⟨#[]⟩ (Zc A n c)):=by
 refine qF Tryz.func166 Tryz.ntmps166 (fun w0=>?_);refine zW ?_;intros;exact Wm (i:=0) rfl (fun _ hi=>⟨_,[],hi.forget (List.nil_sublist _),rfl⟩)
theorem YfS {n:Int}:QFn prog 161 [Zk n] fz (sxV 2 n ⟨#[]⟩ Zn):=by
 refine qF Tryz.func161 Tryz.ntmps161 (fun w0=>?_);refine zW ?_;intros;exact Wm (i:=0) rfl (fun _ hi=>⟨_,[],hi.forget (List.nil_sublist _),rfl⟩)
theorem flat_get {α:Type} {f:α->List Value} {z:Nat} (hz:∀ x,(f x).length=z):∀ {l:List α} {i j:Nat} {x:α} {u:Value},l[i]?=some x->(f x)[j]?=some u->(l.flatMap f)[i*z+j]?=some u
 | [],i,j,x,u,h,_=>by simp at h
 | y::r,0,j,x,u,h,hu=>by
  simp at h;subst h;have hj:j<(f y).length:=(Zg hu).1;rw [List.flatMap_cons,Nat.zero_mul,Nat.zero_add,List.getElem?_append_left hj];exact hu
 | y::r,i+1,j,x,u,h,hu=>by
  have h2:=flat_get hz (l:=r) (i:=i) (j:=j) (x:=x) (u:=u) (by simpa using h) hu;have e:(i+1)*z+j=z+(i*z+j):=by rw [Nat.succ_mul];omega
  rw [List.flatMap_cons,e,List.getElem?_append_right (by rw [hz];omega),hz,Nat.add_sub_cancel_left];exact h2
theorem YpP {f:α->List β} {a:α} {x:α} (hx:l[k]?=some x):(a::l.take (k+1)).flatMap f=(a::l.take k).flatMap f++f x:=by
 rw [List.take_add_one,hx];simp
theorem Yiv {f:β->List Value} {g:β->α} {e:Nat} {l:List β} {b:HP} (hz:∀ x,(f x).length=L.size) (hO:OwnS e L.size v n (l.flatMap f) b) (hf:∀ p∈b,fz' p.1=some p.2) (hl:l.length=n) (hn:n<=140737488355328) (hr:∀ x∈l,L.rep fz' (g x) (f x)):
 ∃ A c,v=Zc A n c/\Sl L fz' A n c (l.map g):=by
 obtain ⟨A,c,h1,h2,h3,h4⟩:=hO.row hf;refine ⟨A,c,h1,h4.sl h2 h3 hn (by simpa using hl) fun i d hd=>?_⟩;rw [List.getElem?_map] at hd;cases hx:l[i]? with
 | none=>simp [hx] at hd
 | some x=>
  simp [hx] at hd;subst hd;exact ⟨f x,hr x (Zm hx),fun j u hu=>flat_get hz hx hu⟩
theorem short_of {l:List Bs} (h:Sl strL fz A n c l) {x:Bs} (hx:x∈l):Short x:=by
 obtain ⟨i,hi⟩:=List.mem_iff_getElem?.1 hx;rcases h.elem with h0 | ⟨ad,h1,h2⟩
 ·have:=Ygx hi;have:=h.len;omega
 obtain ⟨v,⟨_,h3⟩,_⟩:=(h2 i x hi).cell rfl;exact h3
def Yl (s:Bs):Sexpr:=.mk 1 0 0 0 s []
def YF (s:Bs):List Value:=[Zk 1,Zk 0,Zk 0,Zk 0,Zy s,Zn]
theorem YH (hs:Short s):YM.rep fz (Yl s) (YF s):=
 Ys (x:=Yl s) ⟨by show I64 1;unfold I64;omega,by show I64 0;unfold I64;omega,by show I64 0;unfold I64;omega,by show I64 0;unfold I64;omega,hs,IsSl.nil⟩
theorem YiY {f0:Bs} {l:List Bs} (hf:Short f0) (h1:Sl strL fz A n c l) (hn:n<=1000000000):
 GFn prog 131 [Zy f0,Zc A n c] fz [] (fun v fz' H'=>H'=[]/\∃ B m cc,v=sxV 3 0 ⟨#[]⟩ (Zc B m cc)/\Sl YM fz' B m cc (Yl f0::l.map Yl)):=by
 have l1:=h1.len;refine zF Tryz.func131 Tryz.ntmps131 (fun w0=>?_);refine zW ?_;intros;rename_i g4;refine zc (Ybw (s:=f0)) ?_;refine Ya (Yb (cs:=YF f0) (fun gb=>?_));refine zc Yc0 ?_;refine zW ?_;intros;rename_i g5;refine Wp.perm (List.Perm.cons _ (List.Perm.swap _ _ _)) ?_;refine Yi (fun q σ fz' H'=>∃ (k:Nat) (v:Value) (Hs:HP),k<=n/\q=n - k/\σ=[(14,Zk k),(13,Zk n),(12,Zc A n c),(5,Zp g5),(4,Zp g4)]/\fz=fz'/\
  H'=(g5,Zu #[Zk 3,Zk 0,Zk 0,Zk 0,Ze,v] 146)::(g4,Zu #[Zk 0,Zk 0,Zk 0,Zk 0,Ze,Zn] 146)::Hs/\OwnS 146 6 v (k+1) ((f0::l.take k).flatMap YF) Hs)
  ⟨0,_,[_],Z0 _,rfl,rfl,rfl,rfl,?_⟩ Zw Zb ?_
 ·exact OwnS.of_block (size:=6) (cs:=YF f0) (n:=1) rfl
 rintro q σ fz' H' ⟨k,v,Hs,hk,rfl,rfl,rfl,rfl,hO⟩;refine wC ?_ ?_<;>intro c1
 ·obtain ⟨x,hx⟩:=Yc (l:=l) (k:=k) Zi;obtain ⟨Av,cv,rfl,_,_⟩:=hO.form;refine wI h1 hx (fun p hp=>?_);refine zH hp (fun ix=>?_);refine zW ?_;refine YS [_,_] ?_;refine zW ?_;refine Yj (Yj (Yj ?_));refine zW ?_;refine pU ?_;refine Ch.qk ⟨Zd,Zx⟩ (Yu (Ybw (s:=x)) ?_);refine Yf (Yb (cs:=YF x) (fun gb=>⟨⟨Zd,Zx⟩,?_⟩));refine Yf (Ycz (Hr:=[_,_,_]) (Zr _) (YeI (.head _)) (fun v' Hs' hO'=>⟨⟨Zd,Zx⟩,?_⟩) (ho:=hO) (hl:=rfl) (h1:=by intro u hu;simp [YF] at hu;rcases hu with rfl | rfl | rfl | rfl | rfl | rfl<;>rfl));obtain ⟨Av',cv',rfl,_,_⟩:=hO'.form;refine Ch.hard0 (Y1 ?_);refine Ch.done ?_;exact wP (h:=by exact ⟨k+1,_,Hs',by omega,rfl,rfl,rfl,rfl,by rw [YpP (a:=f0) hx];exact hO'⟩)
 have hk1:k=n:=by omega
 subst hk1;obtain ⟨Av,cv,rfl,_,_⟩:=hO.form;refine zW ?_;refine YL (i:=1) rfl (fun fz3 hle3 hf3=>?_);rw [Zl Zi] at hO;obtain ⟨A',c',he,hsl⟩:=Yiv (L:=YM) (g:=Yl) (fun _=>rfl) hO (fun p hp=>hf3 p (by simp [hp])) (by simp [l1]) Zi (fun x hx=>YH (by
  rcases List.mem_cons.1 hx with rfl | hx
  ·exact hf
  exact short_of h1 hx))
 exact ⟨rfl,_,_,_,by rw [he];rfl,hsl⟩
theorem Ym2 {l:List Bs}:∀ u∈l.flatMap YF,u.oneCell'=true:=by
 intro u hu;obtain ⟨x,_,hx⟩:=List.mem_flatMap.1 hu;simp [YF] at hx;rcases hx with rfl | rfl | rfl | rfl<;>rfl
theorem rep_of (h:Sl L fz A n c l) {x:α} (hx:x∈l):∃ cs,L.rep fz x cs:=by
 obtain ⟨i,hi⟩:=List.mem_iff_getElem?.1 hx;rcases h.elem with h0 | ⟨ad,h1,h2⟩
 ·have:=Ygx hi;have:=h.len;omega
 obtain ⟨cs,hr,_⟩:=h2 i x hi;exact ⟨cs,hr⟩
def YaA (p:Param):List Bs:=[p.name,Yb7,p.typ]
theorem YnF {γ:Type} {f:α->List β} {h:β->List γ} {x:α} (hx:l[k]?=some x):((l.take (k+1)).flatMap f).flatMap h=((l.take k).flatMap f).flatMap h++(f x).flatMap h:=by
 rw [List.take_add_one,hx];simp
theorem YeR:∀ {l:List Param},(l.flatMap YaA).length=3*l.length
 | []=>rfl
 | p::r=>by rw [List.flatMap_cons,List.length_append,YeR];simp [YaA];omega
theorem YfJ {l:List Param} (h1:Sl paramL fz A n c l) (hn:n<=1000000000):
 GFn prog 135 [Zc A n c] fz [] (fun v fz' H'=>H'=[]/\∃ B cc,v=Zc B (3*n) cc/\Sl YM fz' B (3*n) cc ((l.flatMap YaA).map Yl)):=by
 have l1:=h1.len;refine zF Tryz.func135 Tryz.ntmps135 (fun w0=>?_);refine zW ?_;refine Yi (fun q σ fz' H'=>∃ (k:Nat) (v:Value) (Hs:HP),k<=n/\q=n - k/\σ=[(8,Zk k),(7,Zk n),(6,Zc A n c),(3,v)]/\fz=fz'/\
  H'=Hs/\OwnS 146 6 v (3*k) (((l.take k).flatMap YaA).flatMap YF) Hs)
  ⟨0,_,[],Z0 _,rfl,rfl,rfl,rfl,OwnS.nil _ _⟩ Zw Zb ?_
 rintro q σ fz' H' ⟨k,v,Hs,hk,rfl,rfl,rfl,rfl,hO⟩;refine wC ?_ ?_<;>intro c1
 ·obtain ⟨x,hx⟩:=Yc (l:=l) (k:=k) Zi;obtain ⟨Av,cv,rfl,_,_⟩:=hO.form;refine wI h1 hx (fun p hp=>?_);refine zL hp ?_;intro cs hcs;obtain ⟨rfl,hR⟩:=Yz hcs;refine zW ?_;intros;rename_i g5;refine YS [_] ?_;refine zW ?_;refine Yj (Yj ?_);refine zW ?_;refine pU ?_;refine Ch.qk ⟨Zd,Zx⟩ (Yu (Ybw (s:=x.name)) ?_);refine Ch.qk ⟨Zd,Zx⟩ (Yu (Ybw (s:=Yb7)) ?_);refine Ch.qk ⟨Zd,Zx⟩ (Yu (Ybw (s:=x.typ)) ?_);refine Yf (Yb (cs:=(YaA x).flatMap YF) (fun gb=>⟨⟨Zd,Zx⟩,?_⟩));refine Yf (Ycz (Hr:=[_,_]) (Zr _) (YeI (.head _)) (fun v' Hs' hO'=>⟨⟨Zd,Zx⟩,?_⟩) (ho:=hO) (hl:=rfl) (h1:=Ym2));refine Ch.qk ⟨Zd,Zx⟩ (YE ?_);refine Ch.done ?_;exact wP (h:=by exact ⟨k+1,_,Hs',by omega,rfl,rfl,rfl,rfl,by rw [YnF hx];exact hO'⟩)
 have hk1:k=n:=by omega
 subst hk1;obtain ⟨Av,cv,rfl,_,_⟩:=hO.form;refine zW ?_;refine Yb3 rfl rfl (fun fz3 hle3 hf3=>?_);rw [Zl Zi] at hO;obtain ⟨A',c',he,hsl⟩:=Yiv (L:=YM) (g:=Yl) (fun _=>rfl) hO (fun p hp=>hf3 p hp) (by rw [YeR,l1]) Zi (fun x hx=>YH (by
  obtain ⟨p,hp,hx⟩:=List.mem_flatMap.1 hx;obtain ⟨cs,hr⟩:=rep_of h1 hp;obtain ⟨_,hR⟩:=Yz hr;simp only [YaA,List.mem_cons,List.not_mem_nil,or_false] at hx;rcases hx with rfl | rfl | rfl
  ·exact hR.name
  ·unfold Short Yb7;decide
  exact hR.typ))
 exact ⟨rfl,_,_,he,hsl⟩
end Go.Proofs.YtacfpcbladaohaaGreatDoor
namespace Go.Lx
open Go.RowKit
section
variable {P:Program} {cx:Cx} {r:Operand->Option Value} {fz:FZ} {H:HP} {dst:Option Nat} {ty:TypeId} {pos:String} {af:Array Edge} {gd:Option (Nat × Bool)} {V:Value->Prop}
variable {X:Ty} {e t t':TypeId} {x y:Operand}
theorem Yj0 (T:Tab P) {p:Option Addr} (hT:T.inf t=some X) (hd:X.desc=.pointer e) (hx:r x=some (.pointer p)) (hy:r y=some (.pointer none)) (h:V (Zo p.isNone)):
 DoesQ P cx ⟨dst,.binOp .eql t x y t',ty,pos,af,gd⟩ r fz H V:=
 YC (fun ρ w hr=>by
  have hu:P.underlying t=some (.pointer (P.pointee t)):=by rw [Program.pointee,und_plain T hT hd rfl]
  simp only [execOp,hr _ _ hx,hr _ _ hy,Sem.run_bind,eqGuard_at_pointer,Sem.run_pure,Result.andThen_ok,run_eql_pointer_nil w t p hu]) h
end
end Go.Lx
namespace Go.Proofs.YtacfpcbladaohaaGreatDoor
variable {i c n:Nat} {m:List (Bs × Value)} {fz fz':FZ} {v:Value} {A:Option Addr}
def tyM (l:List Param):List (Bs × Value):=l.map fun p=>(p.name,Zy p.typ)
def tyF:List Param->Bs->Option Bs
 | [],_=>none
 | p::r,t=>if t=p.name then some p.typ else tyF r t
theorem Yi3 (t:Bs):∀ (l:List Param) (i:Nat),(fndS (tyM l) t i).map (·.2)=(tyF l t).map Value.string
 | [],_=>rfl
 | p::r,i=>by
  rw [show tyM (p::r)=(p.name,Zy p.typ)::tyM r from rfl,fndS,tyF];split
  ·rfl
  exact Yi3 t r (i+1)
theorem fndS_val {t:Bs} {z:Value}:(fndS m t i).elim z (·.2)=((fndS m t i).map (·.2)).getD z:=by cases fndS m t i<;>rfl
theorem fndS_ok {t:Bs}:(fndS m t i).isSome=((fndS m t i).map (·.2)).isSome:=by cases fndS m t i<;>rfl
theorem Yil {l:List Param} {t:Bs}:(fndS (tyM l) t 0).elim Ze (·.2)=Zy ((tyF l t).getD ⟨#[]⟩):=by
 rw [fndS_val,Yi3];cases tyF l t<;>rfl
theorem Yol {l:List Param} {t:Bs}:(fndS (tyM l) t 0).isSome=(tyF l t).isSome:=by
 rw [fndS_ok,Yi3];cases tyF l t<;>rfl
def ForR (fz:FZ) (v:Value) (l:List Param):Prop:=∃ gf gm,v=Zp gf/\fz gf=some (Zu #[.map (some gm)] 249)/\fz gm=some (mapS (tyM l))
theorem ForR.mono {l:List Param} (h:ForR fz v l) (hle:Le fz fz'):ForR fz' v l:=by
 obtain ⟨gf,gm,h1,h2,h3⟩:=h;exact ⟨gf,gm,h1,hle _ _ h2,hle _ _ h3⟩
def HasT (l:List Param) (t:Bs):Prop:=t=YaJ\/(tyF l t).isSome=true
theorem YnC {l:List Param} {t:Bs} (h:ForR fz v l):QFn prog 74 [v,Zy t] fz (Zo (decide (HasT l t))):=by
 obtain ⟨gf,gm,rfl,h1,h2⟩:=h;refine qF Tryz.func74 Tryz.ntmps74 (fun w0=>?_);refine vG ?_;refine Xe h2 ?_ (hv:=Yil) (hb:=Yol);refine zV ?_;cases hs:(tyF l t).isSome with
 | true=>
  exact vR (h:=by exact Ym (.inr hs))
 | false=>
  refine vC ?_ ?_<;>intro c1
  ·exact vR (h:=by exact Ym (.inl c1))
  exact vR (h:=by exact Yg (fun h0=>h0.elim c1 (fun h0=>by rw [hs] at h0;cases h0)))
def upT (l:List Param) (t:Bs):Bs:=(tyF l t).getD ⟨#[]⟩
def cycM (l:List Param) (t:Bs):Nat->Bs->Bool
 | 0,_=>false
 | n+1,a=>if upT l a=t then true else if upT l a=YaJ then false else cycM l t n (upT l a)
theorem cycle_q {l:List Param} {t:Bs} (h:ForR fz v l) (hn:l.length<=1000000000):QFn prog 190 [v,Zy t] fz (Zo (cycM l t l.length t)):=by
 obtain ⟨gf,gm,rfl,h1,h2⟩:=h;have hlen:(tyM l).length=l.length:=by unfold tyM;simp
 refine qF Tryz.func190 Tryz.ntmps190 (fun w0=>?_);refine vG ?_;refine YiF T Zz Zz Zz h2 ?_;rw [hlen];refine zV ?_;refine Yi (fun q σ fz' H'=>∃ (k:Nat) (a:Bs),k<=l.length/\q=l.length - k/\σ=[(12,Zk k),(11,Zk l.length),(5,Zy a),(0,Zp gf),(1,Zy t)]/\fz=fz'/\H'=[]/\cycM l t (l.length - k) a=cycM l t l.length t) ⟨0,t,Z0 _,rfl,rfl,rfl,rfl,rfl⟩ Zw Zb ?_;rintro q σ fz' H' ⟨k,a,hk,rfl,rfl,rfl,rfl,hh⟩;refine vC ?_ ?_<;>intro c1
 ·have e1:l.length - k=(l.length - (k+1))+1:=by omega
  rw [e1,cycM] at hh;refine vG ?_;refine WL h2 ?_ (hv:=Yil);rw [show (tyF l a).getD ⟨#[]⟩=upT l a from rfl];refine vC ?_ ?_<;>intro c2
  ·rw [if_pos c2] at hh;exact vR (h:=by rw [<- hh])
  rw [if_neg c2] at hh;refine vC ?_ ?_<;>intro c3
  ·rw [if_pos (show upT l a=YaJ from c3)] at hh;exact vR (h:=by rw [<- hh])
  rw [if_neg (show ¬upT l a=YaJ from c3)] at hh;exact vP (h:=by exact ⟨k+1,upT l a,by omega,rfl,rfl,rfl,rfl,hh⟩)
 have e1:l.length - k=0:=by omega
 rw [e1] at hh;exact vR (h:=by rw [<- hh];rfl)
def upN (l:List Param):Nat->Bs->Prop
 | 0,t=>t=YaJ
 | n+1,t=>t≠YaJ/\upN l n (upT l t)
def chN (l:List Param):Nat->Bs->List Bs
 | 0,t=>[t]
 | n+1,t=>t::chN l n (upT l t)
theorem Yoh {l:List Param}:∀ {n m:Nat} {t:Bs},upN l n t->upN l m t->n=m
 | 0,0,_,_,_=>rfl
 | 0,m+1,t,h1,h2=>absurd h1 h2.1
 | n+1,0,t,h1,h2=>absurd h2 h1.1
 | n+1,m+1,t,h1,h2=>by rw [Yoh h1.2 h2.2]
theorem Yog {l:List Param} (hs:∀ p∈l,Short p.typ) {t:Bs}:Short (upT l t):=by
 unfold upT
 induction l with
 | nil=>show Short ⟨#[]⟩;unfold Short;decide
 | cons p r ih=>
  rw [tyF];split
  ·exact hs p (by simp)
  exact ih (fun q hq=>hs q (by simp [hq]))
theorem WP:OneC strL:=by
 intro fz d cs h u hu;obtain ⟨rfl,_⟩:=h;simp at hu;subst hu;rfl
theorem above_q {l:List Param} {t:Bs} {m:Nat} (h:ForR fz v l) (hs:∀ p∈l,Short p.typ) (ht:Short t) (hm:m<=1000000000) (hu:upN l m t):
 GFn prog 231 [v,Zy t] fz [] (fun v fz' H'=>H'=[]/\∃ A c,v=Zc A (m+1) c/\Sl strL fz' A (m+1) c (chN l m t)):=by
 obtain ⟨gf,gm,rfl,h1,h2⟩:=h;refine zF Tryz.func231 Tryz.ntmps231 (fun w0=>?_);refine zV ?_;refine Ya (Yb (cs:=[Zy t]) (fun gb=>?_));refine zV ?_;refine Yi (fun q σ fz' H'=>∃ (k n:Nat) (a:Bs) (vo:Value) (Ho:HP) (out:List Bs),k<=m/\q=m - k/\n=k+1/\σ=[(5,vo),(0,Zp gf),(1,Zy a)]/\fz=fz'/\H'=Ho/\Short a/\upN l (m - k) a/\Grow strL 9 fz vo n Ho (out++ [a])/\out++chN l (m - k) a=chN l m t)
  ⟨0,1,t,_,_,[],Z0 _,rfl,rfl,rfl,rfl,rfl,ht,hu,Grow.block (ys:=[(t,[Zy t])]) rfl rfl (by intro p hp;simp only [List.mem_singleton] at hp;subst hp;exact ⟨rfl,ht⟩) rfl,rfl⟩ Zw Zb ?_
 rintro q σ fz' H' ⟨k,n,a,vo,Ho,out,hk,rfl,rfl,rfl,rfl,rfl,ha,hua,hG,hh⟩;obtain ⟨Ao,co,rfl,_,_⟩:=hG.form;refine vC ?_ ?_<;>intro c1
 ·have e1:m - k=(m - (k+1))+1:=by
   have:m - k≠0:=fun h0=>by rw [h0] at hua;exact c1 hua
   omega
  rw [e1] at hua hh;refine vG ?_;refine WL h2 ?_ (hv:=Yil);rw [show (tyF l a).getD ⟨#[]⟩=upT l a from rfl];have hsu:=Yog hs (t:=a);refine zV ?_;refine Ya (Yb (cs:=[Zy (upT l a)]) (fun gc=>?_));refine Ya (YD (Hr:=[_]) (d:=upT l a) (Zr _) hG WP (.head _) ⟨rfl,hsu⟩ (fun v' Hs' hO'=>?_));obtain ⟨Av',cv',rfl,_,_⟩:=hO'.form;exact vP (h:=by exact ⟨k+1,_,upT l a,_,Hs',out++ [a],by omega,rfl,rfl,rfl,rfl,rfl,hsu,hua.2,hO',by rw [<- hh,chN];simp⟩)
 have e1:m - k=0:=by
  cases hd:m - k with
  | zero=>rfl
  | succ j=>rw [hd] at hua;exact absurd c1 hua.1
 rw [e1] at hh;have hkm:k=m:=by omega
 subst hkm;refine zV ?_;refine Yb3 rfl rfl (fun fz3 hle3 hf3=>?_);obtain ⟨A',c',he,hsl⟩:=hG.sl hle3 hf3 Zi;injection he with x1 x2 x3
 subst x1 x3;exact ⟨rfl,_,_,rfl,by rw [<- hh];exact hsl⟩
def WFT (l:List Param):Prop:=(∀ p∈l,Short p.typ)/\∀ t,HasT l t->∃ m,m<=1000/\upN l m t
def IsT (l:List Param) (a b:Bs):Prop:=HasT l a/\HasT l b/\∃ m,upN l m a/\b∈chN l m a
theorem YpB {l:List Param} {a b:Bs} {m:Nat} (h:upN l m a):(∃ m,upN l m a/\b∈chN l m a)↔b∈chN l m a:=
 ⟨fun ⟨k,h1,h2⟩=>by rw [Yoh h h1];exact h2,fun h2=>⟨m,h,h2⟩⟩
theorem is_q {l:List Param} {a b:Bs} (h:ForR fz v l) (hw:WFT l) (ha:Short a):QFn prog 149 [v,Zy a,Zy b] fz (Zo (decide (IsT l a b))):=by
 have h0:=h;obtain ⟨gf,gm,rfl,h1,h2⟩:=h;refine qF Tryz.func149 Tryz.ntmps149 (fun w0=>?_);refine vb (YnC h0) (fun f1=>?_) (fun f1=>?_)
 ·have hA:=Zt f1;refine vb (YnC h0) (fun f2=>?_) (fun f2=>?_)
  ·have hB:=Zt f2;obtain ⟨m,hm,hu⟩:=hw.2 a hA;refine zV ?_;refine Wy (Yh [] _ Zz (above_q h0 hw.1 ha Zi hu) (fun v6 fz6 H6 hle6 hR6=>?_));obtain ⟨rfl,B6,cc6,rfl,hs6⟩:=hR6;refine vb (YdQ (x:=b) hs6) (fun f3=>?_) (fun f3=>?_)
   ·exact vR (h:=by exact (Ym ⟨hA,hB,(YpB hu).2 (Zt f3)⟩))
   exact vR (h:=by exact Yg (fun h=>Zf f3 ((YpB hu).1 h.2.2)))
  exact vR (h:=by exact Yg (fun h=>Zf f2 h.2.1))
 exact vR (h:=by exact Yg (fun h=>Zf f1 h.1))
def ofT (l:List Param) (t:Bs) (os:List Param):List Bs:=(os.filter fun o=>decide (IsT l o.typ t)).map (·.name)
theorem of_q {l os:List Param} {t:Bs} (h:ForR fz v l) (hw:WFT l) (ho:Sl paramL fz A n c os) (hn:n<=1000000000):
 GFn prog 116 [v,Zc A n c,Zy t] fz [] (fun v fz' H'=>H'=[]/\∃ B m cc,v=Zc B m cc/\Sl strL fz' B m cc (ofT l t os)):=by
 have h0:=h;obtain ⟨gf,gm,rfl,h1,h2⟩:=h;have lo:=ho.len;have so:=ho.short;refine zF Tryz.func116 Tryz.ntmps116 (fun w0=>?_);refine zV ?_;refine Yi (fun q σ fz' H'=>∃ (k m:Nat) (vo:Value) (Ho:HP),k<=n/\q=n - k/\m<=k/\σ=[(12,Zk k),(11,Zk n),(10,Zc A n c),(7,vo),(0,Zp gf),(2,Zy t)]/\Le fz fz'/\H'=Ho/\Grow strL 9 fz' vo m Ho (ofT l t (os.take k)))
  ⟨0,0,_,[],Z0 _,rfl,Zs _,rfl,Zd,rfl,Grow.nil _ _ _⟩ Zw Zb ?_
 rintro q σ fz' H' ⟨k,m,vo,Ho,hk,rfl,hmk,rfl,hlk,rfl,hG⟩;obtain ⟨Ao,co,rfl,_,_⟩:=hG.form;have ok:=ho.mono hlk;refine vC ?_ ?_<;>intro c1
 ·obtain ⟨x,hx⟩:=Yc (l:=os) (k:=k) Zi;refine vI ok hx (fun p hp=>?_);refine zL hp ?_;intro cs hcs;obtain ⟨rfl,hR⟩:=Yz hcs;refine zV ?_;intros;refine zb (is_q (h0.mono hlk) hw hR.typ) (fun f1=>?_) (fun f1=>?_)
  ·have e1:ofT l t (os.take (k+1))=ofT l t (os.take k)++ [x.name]:=by
    rw [List.take_add_one,hx];simp [ofT,Zt f1]
   refine zV ?_;refine Ya (Yb (cs:=[Zy x.name]) (fun gc=>?_));refine Ya (YD (Hr:=[_,_]) (d:=x.name) (Zr _) hG WP (.head _) ⟨rfl,hR.name⟩ (fun v' Hs' hO'=>?_));obtain ⟨Av',cv',rfl,_,_⟩:=hO'.form;exact vP (h:=by exact ⟨k+1,m+1,_,Hs',by omega,rfl,by omega,rfl,hlk,rfl,hO'.of e1.symm rfl⟩)
  have e1:ofT l t (os.take (k+1))=ofT l t (os.take k):=by
   rw [List.take_add_one,hx];simp [ofT,Zf f1]
  exact vP (h:=by exact ⟨k+1,m,_,_,by omega,rfl,by omega,rfl,hlk,rfl,hG.of e1.symm rfl⟩)
 have hk1:n=k:=by omega
 subst hk1;rw [show os.take n=os from Zl Zi] at hG;refine zV ?_;refine Yb3 rfl rfl (fun fz3 hle3 hf3=>?_);obtain ⟨A',c',he,hsl⟩:=hG.sl hle3 hf3 Zi;injection he with x1 x2 x3
 subst x1 x3;exact ⟨rfl,_,_,_,rfl,hsl⟩
end Go.Proofs.YtacfpcbladaohaaGreatDoor
namespace Go.Proofs.YtacfpcbladaohaaGreatDoor
variable {fz fz':FZ} {v va vk ve vp:Value} {A:Option Addr} {c n:Nat} {f:Formula}
def kNumber:Bs:=⟨#[110,117,109,98,101,114]⟩
def kFluent:Bs:=⟨#[102,108,117,101,110,116]⟩
def SxIs (fz:FZ) (v:Value) (x:Sexpr):Prop:=∃ cs,v=.agg (List.toArray cs)/\YM.rep fz x cs
theorem SxIs.mono (h:Le fz fz') {x:Sexpr} (hs:SxIs fz v x):SxIs fz' v x:=by
 obtain ⟨cs,e,hr⟩:=hs;exact ⟨cs,e,YM.mono h hr⟩
def YJ (l:List Sexpr):Sexpr:=.mk 3 0 0 0 ⟨#[]⟩ l
def numE (n:Int):Sexpr:=.mk 2 n 0 0 ⟨#[]⟩ []
def Wg (f:Bs) (l:List Bs):Sexpr:=YJ (Yl f::l.map Yl)
theorem Wh:I64 0:=by unfold I64;omega
theorem i64_2:I64 2:=by unfold I64;omega
theorem Yku:I64 3:=by unfold I64;omega
theorem Y3:Short ⟨#[]⟩:=by unfold Short;decide
theorem W2 {l:List Sexpr} (h:Sl YM fz A n c l):SxIs fz (sxV 3 0 ⟨#[]⟩ (Zc A n c)) (YJ l):=
 ⟨_,rfl,Ys (x:=YJ l) ⟨Yku,Wh,Wh,Wh,Y3,h.is⟩⟩
theorem numE_is {n:Int} (h:I64 n):SxIs fz (sxV 2 n ⟨#[]⟩ Zn) (numE n):=
 ⟨_,rfl,Ys (x:=numE n) ⟨i64_2,h,Wh,Wh,Y3,IsSl.nil⟩⟩
inductive EShape:Lx.Expr->Prop
 | num {e:Lx.Expr} (h:e.op=kNumber):EShape e
 | flu {e:Lx.Expr} (h:e.op=kFluent) (hn:e.args.length<=1000000000):EShape e
 | bin {e a b:Lx.Expr} (h1:e.op≠kNumber) (h2:e.op≠kFluent) (hk:e.kids=[a,b]) (ha:EShape a) (hb:EShape b):EShape e
def Wz:Nat->Lx.Expr->Sexpr
 | 0,_=>numE 0
 | s+1,e=>open Classical in if e.op=kNumber then numE e.n else if e.op=kFluent then Wg e.name e.args else YJ (Yl e.op::e.kids.map (Wz s))
theorem YdE:∀ (s:Nat) {fz:FZ} {e:Lx.Expr} {va vk:Value},SizeOf.sizeOf e<=s->ExprR fz e va vk->EShape e->
 GFn prog 134 [.agg #[Zy e.op,Zy e.name,Zk e.n,va,vk]] fz [] (fun v fz' H'=>H'=[]/\SxIs fz' v (Wz s e))
 | 0,_,e,_,_,hs,_,_=>by cases e;simp at hs
 | s+1,fz,e,va,vk,hs,h,hE=>by
  obtain ⟨⟨A,n,c,rfl,ha⟩,⟨B,m,d,rfl,hk⟩⟩:=h.sls;refine zF Tryz.func134 Tryz.ntmps134 (fun w0=>?_);refine pX (fun g0=>?_);refine zW ?_;intros;rename_i g1;refine zC (fun x1=>?_) (fun y1=>?_)
  ·refine zW ?_;refine YL (i:=0) rfl (fun fz3 hle3 hf3=>⟨rfl,?_⟩);rw [Wz,if_pos (show e.op=kNumber from x1)];exact numE_is h.n
  refine wC (fun x2=>?_) (fun y2=>?_)
  ·have hn:e.args.length<=1000000000:=by
    cases hE with
    | num h=>exact absurd h y1
    | flu _ hn=>exact hn
    | bin _ h2=>exact absurd x2 h2
   refine zW ?_;refine Ya (Yh [] [_,_] Zz (YiY (f0:=e.name) h.name ha (by rw [<- ha.len];exact hn)) (fun v fz2 H2 hle2 hR=>?_));obtain ⟨rfl,C,mm,cc,rfl,hsl⟩:=hR;unfold sxV;refine zW ?_;refine YL (i:=0) rfl (fun fz3 hle3 hf3=>⟨rfl,?_⟩);rw [Wz,if_neg (show ¬e.op=kNumber from y1),if_pos (show e.op=kFluent from x2)];exact (W2 hsl).mono hle3
  obtain ⟨a,b,hab,hsa,hsb⟩:∃ a b,e.kids=[a,b]/\EShape a/\EShape b:=by
   cases hE with
   | num h=>exact absurd h y1
   | flu h _=>exact absurd h y2
   | bin _ _ hk ha hb=>exact ⟨_,_,hk,ha,hb⟩
  have la:=Lx.Expr.kids_lt (x:=e) (k:=a) (by rw [hab];simp);have lb:=Lx.Expr.kids_lt (x:=e) (k:=b) (by rw [hab];simp);have l2:=hk.len;rw [hab] at l2;simp at l2;subst l2;refine zW ?_;refine YS [_,_] ?_;refine zW ?_;refine Yj ?_;refine wG ?_;refine Ya4 T 0 Zz Zz Zz Zz Zz Zz hk (by first | rfl | omega) (by rw [hab];rfl:e.kids[0]?=some a) (fun p hp=>?_);refine zL hp ?_;intro cs hcs;obtain ⟨wa,wk,rfl,hRa⟩:=Yw hcs;refine Yj ?_;refine wG ?_;refine Ya4 T 1 Zz Zz Zz Zz Zz Zz hk (by first | rfl | omega) (by rw [hab];rfl:e.kids[1]?=some b) (fun p2 hp2=>?_);refine zL hp2 ?_;intro cs2 hcs2;obtain ⟨za,zk,rfl,hRb⟩:=Yw hcs2;refine pU ?_;refine Ch.qk ⟨Zd,Zx⟩ (Yu (Ybw (s:=e.op)) ?_);refine Yf (Yh [] [_,_] Zz (YdE s (e:=a) Zi hRa hsa) (fun v2 fz2 H2 hle2 hR2=>?_));obtain ⟨rfl,cs3,rfl,hr3⟩:=hR2;obtain ⟨vk3,rfl,hR3⟩:=YB hr3;refine ⟨⟨hle2,Zp2⟩,?_⟩;refine Yf (Yh [] [_,_] Zz (YdE s (e:=b) Zi (hRb.mono hle2) hsb) (fun v4 fz4 H4 hle4 hR4=>?_));obtain ⟨rfl,cs5,rfl,hr5⟩:=hR4;obtain ⟨vk5,rfl,hR5⟩:=YB hr5;refine ⟨⟨hle2.trans hle4,Zp2⟩,?_⟩;refine Yf (Yb (cs:=YF e.op++ [Zk (Wz s a).kind,Zk (Wz s a).value,Zk (Wz s a).line,Zk (Wz s a).column,Zy (Wz s a).text,vk3]++ [Zk (Wz s b).kind,Zk (Wz s b).value,Zk (Wz s b).line,Zk (Wz s b).column,Zy (Wz s b).text,vk5]) (fun gb=>⟨⟨hle2.trans hle4,Zp3⟩,?_⟩));refine Ch.qk ⟨hle2.trans hle4,Zp3⟩ (Yu Yc0 ?_);unfold sxV;refine Ch.hard0 (Y1 ?_);refine Ch.done ?_;refine zW ?_;refine YL (i:=1) rfl (fun fz3 hle3 hf3=>⟨rfl,?_⟩);rw [Wz,if_neg (show ¬e.op=kNumber from y1),if_neg (show ¬e.op=kFluent from y2),hab];obtain ⟨A',c',he,hsl⟩:=Yiv (β:={p:Sexpr × List Value // p.2.length=6}) (L:=YM) (f:=fun p=>p.1.2) (g:=fun p=>p.1.1) (e:=146) (n:=3) (v:=Zv gb 3 3)
   (l:=[⟨(Yl e.op,YF e.op),rfl⟩,⟨(Wz s a,[Zk (Wz s a).kind,Zk (Wz s a).value,Zk (Wz s a).line,Zk (Wz s a).column,Zy (Wz s a).text,vk3]),rfl⟩,⟨(Wz s b,[Zk (Wz s b).kind,Zk (Wz s b).value,Zk (Wz s b).line,Zk (Wz s b).column,Zy (Wz s b).text,vk5]),rfl⟩]) (fun p=>p.2) (OwnS.of_block (size:=6) rfl) (fun p hp=>hf3 p (by simp at hp;subst hp;exact .head _)) rfl Zh (fun x hx=>by
    simp only [List.mem_cons,List.not_mem_nil,or_false] at hx;rcases hx with rfl | rfl | rfl
    ·exact YH h.op
    ·exact Ys (x:=Wz s a) (hR3.mono (hle4.trans hle3))
    exact Ys (x:=Wz s b) (hR5.mono hle3))
  injection he with he1 he2 he3
  subst he1 he3;exact W2 hsl
theorem Ye3:∀ (s s':Nat) (e:Lx.Expr),SizeOf.sizeOf e<=s->SizeOf.sizeOf e<=s'->Wz s e=Wz s' e
 | 0,_,e,h,_=>by cases e;simp at h
 | _+1,0,e,_,h=>by cases e;simp at h
 | s+1,s'+1,e,h,h'=>by
  have hk:e.kids.map (Wz s)=e.kids.map (Wz s'):=List.map_congr_left (fun k hk=>Ye3 s s' k (by have:=Lx.Expr.kids_lt hk;omega) (by have:=Lx.Expr.kids_lt hk;omega));simp only [Wz,hk]
def X8 (e:Lx.Expr):Sexpr:=Wz (SizeOf.sizeOf e) e
open Classical in
theorem exprX_eq (e:Lx.Expr):X8 e=if e.op=kNumber then numE e.n else if e.op=kFluent then Wg e.name e.args else YJ (Yl e.op::e.kids.map X8):=by
 have hk:e.kids.map (Wz (SizeOf.sizeOf e))=e.kids.map X8:=List.map_congr_left (fun k hk=>Ye3 _ _ k (by have:=Lx.Expr.kids_lt hk;omega) (Zs _));rw [X8,Ye3 _ (SizeOf.sizeOf e+1) e (Zs _) Zi,Wz,hk]
theorem WF {e:Lx.Expr} (h:ExprR fz e va vk) (hE:EShape e):
 GFn prog 134 [.agg #[Zy e.op,Zy e.name,Zk e.n,va,vk]] fz [] (fun v fz' H'=>H'=[]/\SxIs fz' v (X8 e)):=YdE _ (Zs _) h hE
def kAtom:Bs:=⟨#[97,116,111,109]⟩
def kSame:Bs:=⟨#[115,97,109,101]⟩
def kEq:Bs:=⟨#[61]⟩
def kLt:Bs:=⟨#[60]⟩
def kLe:Bs:=⟨#[60,61]⟩
def kAnd:Bs:=⟨#[97,110,100]⟩
def kForall:Bs:=⟨#[102,111,114,97,108,108]⟩
def kExists:Bs:=⟨#[101,120,105,115,116,115]⟩
def CmpOp (s:Bs):Prop:=s=kLt\/s=kLe\/s=kEq
inductive FShape:Formula->Prop
 | atom {f:Formula} (h:f.op=kAtom\/f.op=kSame) (hn:f.args.length<=1000000000):FShape f
 | cmp {f:Formula} {a b:Lx.Expr} (h:CmpOp f.op) (he:f.exprs=[a,b]) (ha:EShape a) (hb:EShape b):FShape f
 | other {f:Formula} (h0:f.op≠kAtom) (h1:f.op≠kSame) (h2:¬CmpOp f.op) (hp:f.params.length<=1000000000) (hn:f.kids.length<=1000000000) (hk:∀ k∈f.kids,FShape k):FShape f
open Classical in
def Ybx:Nat->Formula->Sexpr
 | 0,_=>numE 0
 | s+1,f=>if f.op=kAtom then Wg f.name f.args else if f.op=kSame then Wg kEq f.args else if CmpOp f.op then YJ (Yl f.op::f.exprs.map X8)
  else YJ ((if f.op≠kAnd\/f.kids≠ [] then [Yl f.op] else [])++(if f.op=kForall\/f.op=kExists then [YJ ((f.params.flatMap YaA).map Yl)] else [])++f.kids.map (Ybx s))
theorem Ye0:∀ (s s':Nat) (f:Formula),SizeOf.sizeOf f<=s->SizeOf.sizeOf f<=s'->Ybx s f=Ybx s' f
 | 0,_,e,h,_=>by cases e;simp at h
 | _+1,0,e,_,h=>by cases e;simp at h
 | s+1,s'+1,e,h,h'=>by
  have hk:e.kids.map (Ybx s)=e.kids.map (Ybx s'):=List.map_congr_left (fun k hk=>Ye0 s s' k (by have:=Formula.kids_lt hk;omega) (by have:=Formula.kids_lt hk;omega));simp only [Ybx,hk]
theorem Yf5 {fz3:FZ} {gb:Nat} {o:Bs} {X Y:Sexpr} {vk3 vk5:Value} (ho:Short o) (hg:fz3 gb=some (.cells (YF o++ [Zk X.kind,Zk X.value,Zk X.line,Zk X.column,Zy X.text,vk3]++ [Zk Y.kind,Zk Y.value,Zk Y.line,Zk Y.column,Zy Y.text,vk5]).toArray 146 (0,0))) (hX:Wu fz3 X vk3) (hY:Wu fz3 Y vk5):
 SxIs fz3 (sxV 3 0 ⟨#[]⟩ (Zv gb 3 3)) (YJ [Yl o,X,Y]):=by
 obtain ⟨A',c',he,hsl⟩:=Yiv (β:={p:Sexpr × List Value // p.2.length=6}) (L:=YM) (f:=fun p=>p.1.2) (g:=fun p=>p.1.1) (e:=146) (n:=3) (v:=Zv gb 3 3) (fz':=fz3)
  (l:=[⟨(Yl o,YF o),rfl⟩,⟨(X,[Zk X.kind,Zk X.value,Zk X.line,Zk X.column,Zy X.text,vk3]),rfl⟩,⟨(Y,[Zk Y.kind,Zk Y.value,Zk Y.line,Zk Y.column,Zy Y.text,vk5]),rfl⟩]) (fun p=>p.2) (OwnS.of_block (size:=6) rfl) (fun p hp=>by simp at hp;subst hp;exact hg) rfl Zh (fun x hx=>by
   simp only [List.mem_cons,List.not_mem_nil,or_false] at hx;rcases hx with rfl | rfl | rfl
   ·exact YH ho
   ·exact Ys (x:=X) hX
   exact Ys (x:=Y) hY)
 injection he with he1 he2 he3
 subst he1 he3;exact W2 hsl
theorem Yqh (hF:FShape f) (hc:CmpOp f.op):∃ a b,f.exprs=[a,b]/\EShape a/\EShape b:=by
 cases hF with
 | atom h0=>
  rcases h0 with h0 | h0<;>rw [h0] at hc<;>rcases hc with hc | hc | hc<;>exact absurd (congrArg ByteArray.size hc) Zh
 | cmp _ he ha hb=>exact ⟨_,_,he,ha,hb⟩
 | other _ _ h2=>exact absurd hc h2
theorem YnX:∀ (s:Nat) {fz:FZ} {f:Formula} {va vp ve vk:Value},SizeOf.sizeOf f<=s->FormulaR fz f va vp ve vk->FShape f->
 GFn prog 54 [.agg #[Zy f.op,Zy f.name,va,vp,ve,vk]] fz [] (fun v fz' H'=>H'=[]/\SxIs fz' v (Ybx s f))
 | 0,_,f,_,_,_,_,hs,_,_=>by cases f;simp at hs
 | s+1,fz,f,va,vp,ve,vk,hs,h,hF=>by
  obtain ⟨⟨A,n,c,rfl,ha⟩,⟨B,m,d,rfl,hp⟩,⟨C,r,cr,rfl,he⟩,⟨D,q,cq,rfl,hk⟩⟩:=h.sls;refine zF Tryz.func54 Tryz.ntmps54 (fun w0=>?_);refine pX (fun g0=>?_);refine zW ?_;intros;rename_i g1;refine zC (fun x1=>?_) (fun y1=>?_)
  ·have hn:f.args.length<=1000000000:=by
    cases hF with
    | atom _ hn=>exact hn
    | cmp hc=>rw [show f.op=kAtom from x1] at hc;rcases hc with hc | hc | hc<;>exact absurd (congrArg ByteArray.size hc) Zh
    | other h0=>exact absurd x1 h0
   refine zW ?_;refine Ya (Yh [] [_,_] Zz (YiY (f0:=f.name) h.name ha (by rw [<- ha.len];exact hn)) (fun v fz2 H2 hle2 hR=>?_));obtain ⟨rfl,C,mm,cc,rfl,hsl⟩:=hR;unfold sxV;refine zW ?_;refine YL (i:=0) rfl (fun fz3 hle3 hf3=>⟨rfl,?_⟩);rw [Ybx,if_pos (show f.op=kAtom from x1)];exact (W2 hsl).mono hle3
  refine wC (fun x2=>?_) (fun y2=>?_)
  ·have hn:f.args.length<=1000000000:=by
    cases hF with
    | atom _ hn=>exact hn
    | cmp hc=>rw [show f.op=kSame from x2] at hc;rcases hc with hc | hc | hc<;>exact absurd (congrArg ByteArray.size hc) Zh
    | other _ h1=>exact absurd x2 h1
   refine zW ?_;refine Ya (Yh [] [_,_] Zz (YiY (f0:=kEq) (by unfold Short kEq;decide) ha (by rw [<- ha.len];exact hn)) (fun v fz2 H2 hle2 hR=>?_));obtain ⟨rfl,C,mm,cc,rfl,hsl⟩:=hR;unfold sxV;refine zW ?_;refine YL (i:=0) rfl (fun fz3 hle3 hf3=>⟨rfl,?_⟩);rw [Ybx,if_neg (show ¬f.op=kAtom from y1),if_pos (show f.op=kSame from x2)];exact (W2 hsl).mono hle3
  refine wC (fun x3=>?_) (fun y3=>?_)
  ·have hcmp:CmpOp f.op:=.inl x3;obtain ⟨a,b,hab,hsa,hsb⟩:=Yqh hF hcmp;have l2:=he.len;rw [hab] at l2;simp at l2;subst l2;refine zW ?_;refine YS [_,_] ?_;refine zW ?_;refine Yj ?_;refine zW ?_;((refine zG ?_);refine Ya4 T 0 Zz Zz Zz Zz Zz Zz he (by first | rfl | omega) (by rw [hab];rfl:f.exprs[0]?=some a) (fun p hp0=>?_));refine zL hp0 ?_;intro cs hcs;obtain ⟨wa,wk,rfl,hRa⟩:=Yw hcs;refine Yj ?_;refine zW ?_;((refine zG ?_);refine Ya4 T 1 Zz Zz Zz Zz Zz Zz he (by first | rfl | omega) (by rw [hab];rfl:f.exprs[1]?=some b) (fun p2 hp2=>?_));refine zL hp2 ?_;intro cs2 hcs2;obtain ⟨za,zk,rfl,hRb⟩:=Yw hcs2;refine Yj ?_;refine Yj ?_;refine Yj ?_;refine Yj ?_;refine QK.dz ?_;refine Ch.qk ⟨Zd,Zx⟩ (Yu (Ybw (s:=f.op)) ?_);refine Yf (Yh [] [_,_] Zz (WF hRa hsa) (fun v2 fz2 H2 hle2 hR2=>?_));obtain ⟨rfl,cs3,rfl,hr3⟩:=hR2;obtain ⟨vk3,rfl,hR3⟩:=YB hr3;refine ⟨⟨hle2,Zp2⟩,?_⟩;refine Yf (Yh [] [_,_] Zz (WF (hRb.mono hle2) hsb) (fun v4 fz4 H4 hle4 hR4=>?_));obtain ⟨rfl,cs5,rfl,hr5⟩:=hR4;obtain ⟨vk5,rfl,hR5⟩:=YB hr5;refine ⟨⟨hle2.trans hle4,Zp2⟩,?_⟩;refine Yf (Yb (cs:=YF f.op++ [Zk (X8 a).kind,Zk (X8 a).value,Zk (X8 a).line,Zk (X8 a).column,Zy (X8 a).text,vk3]++ [Zk (X8 b).kind,Zk (X8 b).value,Zk (X8 b).line,Zk (X8 b).column,Zy (X8 b).text,vk5]) (fun gb=>⟨⟨hle2.trans hle4,Zp3⟩,?_⟩));refine Ch.qk ⟨hle2.trans hle4,Zp3⟩ (Yu Yc0 ?_);unfold sxV;refine Ch.hard0 (Y1 ?_);refine Ch.done ?_;refine zW ?_;refine YL (i:=1) rfl (fun fz3 hle3 hf3=>⟨rfl,?_⟩);rw [Ybx,if_neg (show ¬f.op=kAtom from y1),if_neg (show ¬f.op=kSame from y2),if_pos hcmp,hab];exact Yf5 h.op (hf3 _ (.head _)) (hR3.mono (hle4.trans hle3)) (hR5.mono hle3)
  refine wC (fun x4=>?_) (fun y4=>?_)
  ·have hcmp:CmpOp f.op:=.inr (.inl x4);obtain ⟨a,b,hab,hsa,hsb⟩:=Yqh hF hcmp;have l2:=he.len;rw [hab] at l2;simp at l2;subst l2;refine zW ?_;refine YS [_,_] ?_;refine zW ?_;refine Yj ?_;refine zW ?_;((refine zG ?_);refine Ya4 T 0 Zz Zz Zz Zz Zz Zz he (by first | rfl | omega) (by rw [hab];rfl:f.exprs[0]?=some a) (fun p hp0=>?_));refine zL hp0 ?_;intro cs hcs;obtain ⟨wa,wk,rfl,hRa⟩:=Yw hcs;refine Yj ?_;refine zW ?_;((refine zG ?_);refine Ya4 T 1 Zz Zz Zz Zz Zz Zz he (by first | rfl | omega) (by rw [hab];rfl:f.exprs[1]?=some b) (fun p2 hp2=>?_));refine zL hp2 ?_;intro cs2 hcs2;obtain ⟨za,zk,rfl,hRb⟩:=Yw hcs2;refine Yj ?_;refine Yj ?_;refine Yj ?_;refine Yj ?_;refine QK.dz ?_;refine Ch.qk ⟨Zd,Zx⟩ (Yu (Ybw (s:=f.op)) ?_);refine Yf (Yh [] [_,_] Zz (WF hRa hsa) (fun v2 fz2 H2 hle2 hR2=>?_));obtain ⟨rfl,cs3,rfl,hr3⟩:=hR2;obtain ⟨vk3,rfl,hR3⟩:=YB hr3;refine ⟨⟨hle2,Zp2⟩,?_⟩;refine Yf (Yh [] [_,_] Zz (WF (hRb.mono hle2) hsb) (fun v4 fz4 H4 hle4 hR4=>?_));obtain ⟨rfl,cs5,rfl,hr5⟩:=hR4;obtain ⟨vk5,rfl,hR5⟩:=YB hr5;refine ⟨⟨hle2.trans hle4,Zp2⟩,?_⟩;refine Yf (Yb (cs:=YF f.op++ [Zk (X8 a).kind,Zk (X8 a).value,Zk (X8 a).line,Zk (X8 a).column,Zy (X8 a).text,vk3]++ [Zk (X8 b).kind,Zk (X8 b).value,Zk (X8 b).line,Zk (X8 b).column,Zy (X8 b).text,vk5]) (fun gb=>⟨⟨hle2.trans hle4,Zp3⟩,?_⟩));refine Ch.qk ⟨hle2.trans hle4,Zp3⟩ (Yu Yc0 ?_);unfold sxV;refine Ch.hard0 (Y1 ?_);refine Ch.done ?_;refine zW ?_;refine YL (i:=1) rfl (fun fz3 hle3 hf3=>⟨rfl,?_⟩);rw [Ybx,if_neg (show ¬f.op=kAtom from y1),if_neg (show ¬f.op=kSame from y2),if_pos hcmp,hab];exact Yf5 h.op (hf3 _ (.head _)) (hR3.mono (hle4.trans hle3)) (hR5.mono hle3)
  refine wC (fun x5=>?_) (fun y5=>?_)
  ·have hcmp:CmpOp f.op:=.inr (.inr x5);obtain ⟨a,b,hab,hsa,hsb⟩:=Yqh hF hcmp;have l2:=he.len;rw [hab] at l2;simp at l2;subst l2;refine zW ?_;refine YS [_,_] ?_;refine zW ?_;refine Yj ?_;refine zW ?_;((refine zG ?_);refine Ya4 T 0 Zz Zz Zz Zz Zz Zz he (by first | rfl | omega) (by rw [hab];rfl:f.exprs[0]?=some a) (fun p hp0=>?_));refine zL hp0 ?_;intro cs hcs;obtain ⟨wa,wk,rfl,hRa⟩:=Yw hcs;refine Yj ?_;refine zW ?_;((refine zG ?_);refine Ya4 T 1 Zz Zz Zz Zz Zz Zz he (by first | rfl | omega) (by rw [hab];rfl:f.exprs[1]?=some b) (fun p2 hp2=>?_));refine zL hp2 ?_;intro cs2 hcs2;obtain ⟨za,zk,rfl,hRb⟩:=Yw hcs2;refine Yj ?_;refine Yj ?_;refine Yj ?_;refine Yj ?_;refine QK.dz ?_;refine Ch.qk ⟨Zd,Zx⟩ (Yu (Ybw (s:=f.op)) ?_);refine Yf (Yh [] [_,_] Zz (WF hRa hsa) (fun v2 fz2 H2 hle2 hR2=>?_));obtain ⟨rfl,cs3,rfl,hr3⟩:=hR2;obtain ⟨vk3,rfl,hR3⟩:=YB hr3;refine ⟨⟨hle2,Zp2⟩,?_⟩;refine Yf (Yh [] [_,_] Zz (WF (hRb.mono hle2) hsb) (fun v4 fz4 H4 hle4 hR4=>?_));obtain ⟨rfl,cs5,rfl,hr5⟩:=hR4;obtain ⟨vk5,rfl,hR5⟩:=YB hr5;refine ⟨⟨hle2.trans hle4,Zp2⟩,?_⟩;refine Yf (Yb (cs:=YF f.op++ [Zk (X8 a).kind,Zk (X8 a).value,Zk (X8 a).line,Zk (X8 a).column,Zy (X8 a).text,vk3]++ [Zk (X8 b).kind,Zk (X8 b).value,Zk (X8 b).line,Zk (X8 b).column,Zy (X8 b).text,vk5]) (fun gb=>⟨⟨hle2.trans hle4,Zp3⟩,?_⟩));refine Ch.qk ⟨hle2.trans hle4,Zp3⟩ (Yu Yc0 ?_);unfold sxV;refine Ch.hard0 (Y1 ?_);refine Ch.done ?_;refine zW ?_;refine YL (i:=1) rfl (fun fz3 hle3 hf3=>⟨rfl,?_⟩);rw [Ybx,if_neg (show ¬f.op=kAtom from y1),if_neg (show ¬f.op=kSame from y2),if_pos hcmp,hab];exact Yf5 h.op (hf3 _ (.head _)) (hR3.mono (hle4.trans hle3)) (hR5.mono hle3)
  refine zW ?_;have hc:¬CmpOp f.op:=fun h1=>h1.elim y3 (fun h1=>h1.elim y4 y5)
  obtain ⟨hpn,hkn,hks⟩:f.params.length<=1000000000/\f.kids.length<=1000000000/\∀ k∈f.kids,FShape k:=by
   cases hF with
   | atom h0=>exact (h0.elim y1 y2).elim
   | cmp h1=>exact absurd h1 hc
   | other _ _ _ h1 h2 h3=>exact ⟨h1,h2,h3⟩
  refine zc (Yc0 (A:=none) (n:=0) (c:=0)) ?_;unfold sxV;refine zWO ?_;intros;rename_i g2;have l4:=hk.len;refine Yy (YV (fun σ fz' H'=>∃ (v:Value) (k:Nat) (Hs:HP),σ=[(3,Zp g2),(2,Zp g1),(1,Zp g0)]/\fz=fz'/\k<=1/\
   H'=(g2,Zu #[Zk 3,Zk 0,Zk 0,Zk 0,Ze,v] 146)::(g1,Zu #[Zk 0,Zk 0,Zk 0,Zk 0,Ze,Zn] 146)::(g0,Zu #[Zy f.op,Zy f.name,Zc A n c,Zc B m d,Zc C r cr,Zc D q cq] 35)::Hs/\
   Grow YM 146 fz' v k Hs (if f.op≠kAnd\/f.kids≠ [] then [Yl f.op] else [])) ?_ ?_)
  ·refine wC ?_ ?_<;>intro z1
   ·refine zW ?_;refine YS [_,_,_] ?_;refine zW ?_;refine Yj (Yj (Yj ?_));refine zW ?_;refine pU ?_;refine Ch.qk ⟨Zd,Zx⟩ (Yu (Ybw (s:=f.op)) ?_);refine Yf (Yb (cs:=YF f.op) (fun gb=>⟨⟨Zd,Zx⟩,?_⟩));refine Yf (YD (Hr:=[_,_,_,_]) (Zr _) (Grow.nil YM 146 fz) YI (.head _) (YH h.op) (fun v' Hs' hO'=>⟨⟨Zd,Zx⟩,?_⟩) (hb:=by decide) (hm2:=by decide));obtain ⟨Av',cv',rfl,_,_⟩:=hO'.form;refine Ch.hard0 (Y1 ?_);refine Ch.done ?_;exact wN (h:=by exact ⟨_,1,Hs',rfl,rfl,by omega,rfl,by rw [if_pos (.inl z1)];exact hO'⟩)
   refine wC ?_ ?_<;>intro z2
   ·have hkn0:f.kids≠ []:=fun h0=>by rw [h0] at l4;simp at l4;omega
    refine zW ?_;refine YS [_,_,_] ?_;refine zW ?_;refine Yj (Yj (Yj ?_));refine zW ?_;refine pU ?_;refine Ch.qk ⟨Zd,Zx⟩ (Yu (Ybw (s:=f.op)) ?_);refine Yf (Yb (cs:=YF f.op) (fun gb=>⟨⟨Zd,Zx⟩,?_⟩));refine Yf (YD (Hr:=[_,_,_,_]) (Zr _) (Grow.nil YM 146 fz) YI (.head _) (YH h.op) (fun v' Hs' hO'=>⟨⟨Zd,Zx⟩,?_⟩) (hb:=by decide) (hm2:=by decide));obtain ⟨Av',cv',rfl,_,_⟩:=hO'.form;refine Ch.hard0 (Y1 ?_);refine Ch.done ?_;exact wN (h:=by exact ⟨_,1,Hs',rfl,rfl,by omega,rfl,by rw [if_pos (.inr hkn0)];exact hO'⟩)
   have hkn0:f.kids=[]:=List.eq_nil_of_length_eq_zero Zi;exact wN (h:=by exact ⟨_,0,[],rfl,rfl,by omega,rfl,by rw [if_neg (by rintro (h0 | h0);exact h0 z1;exact h0 hkn0)];exact Grow.nil _ _ _⟩)
  rintro σ fz' H' ⟨v,k,Hs,rfl,rfl,hk1,rfl,hG⟩;refine Yy (YV (fun σ fz' H'=>∃ (v:Value) (k:Nat) (Hs:HP),σ=[(3,Zp g2),(2,Zp g1),(1,Zp g0)]/\Le fz fz'/\k<=2/\
   H'=(g2,Zu #[Zk 3,Zk 0,Zk 0,Zk 0,Ze,v] 146)::(g1,Zu #[Zk 0,Zk 0,Zk 0,Zk 0,Ze,Zn] 146)::(g0,Zu #[Zy f.op,Zy f.name,Zc A n c,Zc B m d,Zc C r cr,Zc D q cq] 35)::Hs/\
   Grow YM 146 fz' v k Hs ((if f.op≠kAnd\/f.kids≠ [] then [Yl f.op] else [])++(if f.op=kForall\/f.op=kExists then [YJ ((f.params.flatMap YaA).map Yl)] else []))) ?_ ?_)
  ·obtain ⟨Av,cv,rfl,_,_⟩:=hG.form;refine wC ?_ ?_<;>intro w1
   ·refine zW ?_;refine YS [_,_,_] ?_;refine zW ?_;refine Yj (Yj (Yj (Yj ?_)));refine zW ?_;refine pU ?_;refine Yf (Yh [] _ Zz (YfJ hp (by rw [<- hp.len];exact hpn)) (fun v2 fz2 H2 hle2 hR2=>?_));obtain ⟨rfl,B2,cc2,rfl,hsl2⟩:=hR2;refine ⟨⟨hle2,Zx⟩,?_⟩;refine Ch.qk ⟨hle2,Zx⟩ (Yu Yc0 ?_);unfold sxV;refine Yf (Yb (cs:=[Zk 3,Zk 0,Zk 0,Zk 0,Ze,Zc B2 (3*m) cc2]) (fun gb=>⟨⟨hle2,Zx⟩,?_⟩));refine Yf (YD (Hr:=[_,_,_,_]) (d:=YJ ((f.params.flatMap YaA).map Yl)) (Zr _) (hG.mono hle2) YI (.head _) (Ys (x:=YJ _) ⟨Yku,Wh,Wh,Wh,Y3,hsl2.is⟩) (fun v' Hs' hO'=>⟨⟨hle2,Zx⟩,?_⟩));obtain ⟨Av',cv',rfl,_,_⟩:=hO'.form;refine Ch.hard0 (Y1 ?_);refine Ch.done ?_;exact wN (h:=by exact ⟨_,k+1,Hs',rfl,hle2,by omega,rfl,by rw [if_pos (Or.inl w1:f.op=kForall\/f.op=kExists)];exact hO'⟩)
   refine wC ?_ ?_<;>intro w2
   ·refine zW ?_;refine YS [_,_,_] ?_;refine zW ?_;refine Yj (Yj (Yj (Yj ?_)));refine zW ?_;refine pU ?_;refine Yf (Yh [] _ Zz (YfJ hp (by rw [<- hp.len];exact hpn)) (fun v2 fz2 H2 hle2 hR2=>?_));obtain ⟨rfl,B2,cc2,rfl,hsl2⟩:=hR2;refine ⟨⟨hle2,Zx⟩,?_⟩;refine Ch.qk ⟨hle2,Zx⟩ (Yu Yc0 ?_);unfold sxV;refine Yf (Yb (cs:=[Zk 3,Zk 0,Zk 0,Zk 0,Ze,Zc B2 (3*m) cc2]) (fun gb=>⟨⟨hle2,Zx⟩,?_⟩));refine Yf (YD (Hr:=[_,_,_,_]) (d:=YJ ((f.params.flatMap YaA).map Yl)) (Zr _) (hG.mono hle2) YI (.head _) (Ys (x:=YJ _) ⟨Yku,Wh,Wh,Wh,Y3,hsl2.is⟩) (fun v' Hs' hO'=>⟨⟨hle2,Zx⟩,?_⟩));obtain ⟨Av',cv',rfl,_,_⟩:=hO'.form;refine Ch.hard0 (Y1 ?_);refine Ch.done ?_;exact wN (h:=by exact ⟨_,k+1,Hs',rfl,hle2,by omega,rfl,by rw [if_pos (Or.inr w2:f.op=kForall\/f.op=kExists)];exact hO'⟩)
   exact wN (h:=by exact ⟨_,k,Hs,rfl,Zd,by omega,rfl,by rw [if_neg (show ¬(f.op=kForall\/f.op=kExists) from fun h0=>h0.elim w1 w2),List.append_nil];exact hG⟩)
  rintro σ fz' H' ⟨v,k,Hs,rfl,hle,hk1,rfl,hG⟩;generalize hbase:(if f.op≠kAnd\/f.kids≠ [] then [Yl f.op] else [])++(if f.op=kForall\/f.op=kExists then [YJ ((f.params.flatMap YaA).map Yl)] else [])=base at hG;refine zW ?_;refine Yi (fun mm σ fz2 H'=>∃ (j:Nat) (v:Value) (k:Nat) (Hs:HP),j<=q/\mm=q - j/\σ=[(77,Zk j),(76,Zk q),(75,Zc D q cq),(3,Zp g2),(2,Zp g1)]/\Le fz' fz2/\k<=2+j/\
   H'=(g2,Zu #[Zk 3,Zk 0,Zk 0,Zk 0,Ze,v] 146)::(g1,Zu #[Zk 0,Zk 0,Zk 0,Zk 0,Ze,Zn] 146)::Hs/\Grow YM 146 fz2 v k Hs (base++(f.kids.take j).map (Ybx s)))
   ⟨0,v,k,Hs,Z0 _,rfl,rfl,Zd,by omega,rfl,by simpa using hG⟩ Zw Zb ?_
  rintro mm σ fz2 H' ⟨j,v,k,Hs,hj,rfl,rfl,hle2,hk2,rfl,hG⟩;obtain ⟨Av,cv,rfl,_,_⟩:=hG.form;have hk3:=hk.mono (hle.trans hle2);refine wC ?_ ?_<;>intro c1
  ·obtain ⟨x,hx⟩:=Yc (l:=f.kids) (k:=j) Zi;have hxm:x∈f.kids:=Zm hx;have hlt:=Formula.kids_lt hxm;refine wI hk3 hx (fun p hp5=>?_);refine zL hp5 ?_;intro cs hcs;obtain ⟨wa,wp,we,wk,rfl,hRx⟩:=Yn hcs;obtain ⟨⟨A1,n1,b1,rfl,_⟩,⟨A2,n2,b2,rfl,_⟩,⟨A3,n3,b3,rfl,_⟩,⟨A4,n4,b4,rfl,_⟩⟩:=hRx.sls;refine zW ?_;intros;rename_i g5;refine YS [_,_,_] ?_;refine zW ?_;refine Yj (Yj (Yj ?_));refine zW ?_;refine pU ?_;refine Yf (Yh [] _ Zz (YnX s (f:=x) Zi hRx (hks x hxm)) (fun v2 fz4 H2 hle4 hR2=>?_));obtain ⟨rfl,cs3,rfl,hr3⟩:=hR2;obtain ⟨vk3,rfl,hR3⟩:=YB hr3;refine ⟨⟨hle4,Zx⟩,?_⟩;refine Yf (Yb (cs:=[Zk (Ybx s x).kind,Zk (Ybx s x).value,Zk (Ybx s x).line,Zk (Ybx s x).column,Zy (Ybx s x).text,vk3]) (fun gb=>⟨⟨hle4,Zx⟩,?_⟩));refine Yf (YD (Hr:=[_,_,_,_]) (d:=Ybx s x) (Zr _) (hG.mono hle4) YI (.head _) (Ys hR3) (fun v' Hs' hO'=>⟨⟨hle4,Zx⟩,?_⟩));obtain ⟨Av',cv',rfl,_,_⟩:=hO'.form;refine Ch.hard0 (Wk ?_);refine Ch.done ?_;exact wP (h:=by exact ⟨j+1,_,k+1,Hs',by omega,rfl,rfl,hle2.trans hle4,by omega,rfl,by rw [List.take_add_one,hx,Option.toList,List.map_append,<- List.append_assoc];exact hO'⟩)
  have hj1:j=q:=by omega
  subst hj1;refine zW ?_;refine YL (i:=1) rfl (fun fz3 hle3 hf3=>⟨rfl,?_⟩);rw [Zl Zi] at hG;obtain ⟨A',c',he5,hsl⟩:=hG.sl hle3 (fun p hp=>hf3 p (by simp [hp])) Zi;injection he5 with e1 e2 e3
  subst e1 e3;rw [Ybx,if_neg (show ¬f.op=kAtom from y1),if_neg (show ¬f.op=kSame from y2),if_neg hc,hbase];exact W2 hsl
def YY (f:Formula):Sexpr:=Ybx (SizeOf.sizeOf f) f
open Classical in
theorem YfQ (f:Formula):YY f=if f.op=kAtom then Wg f.name f.args else if f.op=kSame then Wg kEq f.args else if CmpOp f.op then YJ (Yl f.op::f.exprs.map X8)
 else YJ ((if f.op≠kAnd\/f.kids≠ [] then [Yl f.op] else [])++(if f.op=kForall\/f.op=kExists then [YJ ((f.params.flatMap YaA).map Yl)] else [])++f.kids.map YY):=by
 have hk:f.kids.map (Ybx (SizeOf.sizeOf f))=f.kids.map YY:=List.map_congr_left (fun k hk=>Ye0 _ _ k (by have:=Formula.kids_lt hk;omega) (Zs _));rw [YY,Ye0 _ (SizeOf.sizeOf f+1) f (Zs _) Zi,Ybx,hk]
theorem YnW (h:FormulaR fz f va vp ve vk) (hF:FShape f):
 GFn prog 54 [.agg #[Zy f.op,Zy f.name,va,vp,ve,vk]] fz [] (fun v fz' H'=>H'=[]/\SxIs fz' v (YY f)):=YnX _ (Zs _) h hF
end Go.Proofs.YtacfpcbladaohaaGreatDoor
namespace Go.Lx
theorem XX {P:Program} {cx:Cx} {r:Operand->Option Value} {fz:FZ} {H:HP} {V:Value->Prop} {dst:Option Nat} {ty:TypeId} {pos:String} {af:Array Edge} {gd:Option (Nat × Bool)} {f:FuncId} {ff:Operand} {xs:List Operand} {ats:Array TypeId} {us vs first capt:List Value} {p:Prop} [Decidable p] (hf:r ff=some (.func (.func f) first.toArray capt.toArray)) (hx:rds r xs=some us) (hv:first++us++capt=vs) (hq:QFn P f vs fz (Zo (decide p)))
 (h1:p->V (.bool true)) (h2:¬p->V (.bool false)):DoesQ P cx ⟨dst,.call {callee:=.value ff,args:=xs.toArray,argTypes:=ats},ty,pos,af,gd⟩ r fz H V:=
 Ybr hq (Yik h1 h2) (hf:=hf) (hx:=hx) (hv:=hv)
end Go.Lx
namespace Go.Proofs.YtacfpcbladaohaaGreatDoor
variable {A:Option Addr} {c n g:Nat} {ff:FuncId} {fz:FZ} {s:Bs} {va vk ve vp:Value} {f:Formula}
theorem YmW {p:Prop} [Decidable p]:Value.bool (!decide p)=Value.bool (decide (¬p)):=by rw [decide_not]
theorem indexF_q {l:List Bs} {p:Bs->Prop} [DecidablePred p] (h1:Sl strL fz A n c l) (hq:∀ x,Short x->QFn prog ff [Zy x] fz (Zo (decide (p x)))):
 QFn prog 220 [Zc A n c,.func (.func ff) #[] #[]] fz (Zk (WU p l 0)):=by
 refine qF Tryz.func220 Tryz.ntmps220 (fun w0=>?_);have l1:=h1.len;have hm:=h1.short;refine zW ?_;refine XW n (fun k=>[(8,Zk k),(7,Zk n),(0,Zc A n c),(1,.func (.func ff) #[] #[])]) [] (fun k=>(∀ i,i<k->∀ x,l[i]?=some x->¬p x)) (fun i hi=>absurd hi Zi) ?_;intro k hk hh;refine wC (fun hlt=>?_) (fun hge=>?_)
 ·refine zW ?_;obtain ⟨x,hx⟩:=Yc (l:=l) (k:=k) Zi;refine zI h1 hx (fun a ha=>?_);refine zH ha (fun iy=>?_);refine wG ?_;refine XX Zz Zz Zz (hq x iy) (fun c1=>?_) (fun c1=>?_)
  ·exact wR (h:=by rw [Xg hh hx c1,Int.zero_add])
  exact wM (h:=by exact Yx hh hx c1)
 exact wR (h:=by rw [YR (YQ hh Zi)])
theorem YcC {l:List Bs} {p:Bs->Prop} [DecidablePred p] (h1:Sl strL fz A n c l) (hq:∀ x,Short x->QFn prog ff [Zy x] fz (Zo (decide (p x)))):
 QFn prog 124 [Zc A n c,.func (.func ff) #[] #[]] fz (Zo (decide (∃ x∈l,p x))):=by
 refine qF Tryz.func124 Tryz.ntmps124 (fun w0=>?_);refine wc (indexF_q h1 hq) ?_;refine zC ?_ ?_<;>intro c1
 ·exact wR (h:=by exact Ym ((YN (Int.le_refl 0)).1 c1))
 exact wR (h:=by exact Yg (fun h=>c1 ((YN (Int.le_refl 0)).2 h)))
theorem YjM (hs:Short s):QFn prog 125 [Zy s] fz (Zo (decide (¬Yfb s))):=by
 refine qF Tryz.func125 Tryz.ntmps125 (fun w0=>?_);refine wc (term_q hs) ?_;exact wR (h:=by exact YmW)
theorem YpK (hs:Short s):QFn prog 221 [Zy s] fz (Zo (decide (¬Yfb s))):=by
 refine qF Tryz.func221 Tryz.ntmps221 (fun w0=>?_);refine wc (term_q hs) ?_;exact wR (h:=by exact YmW)
def budO (c:Int):Obj:=Zu #[Zk c] 142
theorem take_q {d:Nat} (hc:c<=5000):GFn prog 122 [Zp g,Zk d] fz [(g,budO c)] (fun v fz' H'=>Le fz fz'/\H'=[(g,budO (c+1:Nat))]/\∃ b:Bool,v=Zo b/\(b=true↔c+1<=4096/\d<=32)):=by
 unfold budO;refine zF Tryz.func122 Tryz.ntmps122 (fun w0=>?_);refine wC ?_ ?_<;>intro c1
 ·refine wC ?_ ?_<;>intro c2
  ·exact wR (h:=by exact ⟨Zd,rfl,true,rfl,iff_of_true rfl ⟨by omega,by omega⟩⟩)
  exact wR (h:=by exact ⟨Zd,rfl,false,rfl,iff_of_false (by simp) (fun h=>c2 Zi)⟩)
 exact wR (h:=by exact ⟨Zd,rfl,false,rfl,iff_of_false (by simp) (fun h=>c1 Zi)⟩)
def Ypy:Bs:=⟨#[43]⟩
def kStar:Bs:=⟨#[42]⟩
def BinP (s:Bs):Prop:=s=Ypy\/s=Yb7\/s=kStar
def YfC (e:Lx.Expr):Prop:=
 (e.op=kNumber/\e.name=YaC/\e.args=[]/\e.kids=[]/\Yex e.n)\/(e.op=kFluent/\e.n=0/\e.kids=[]/\YZ e.name/\∀ s∈e.args,Yfb s)\/(BinP e.op/\e.n=0/\e.name=YaC/\e.args=[]/\e.kids.length=2)
abbrev EOk (e:Lx.Expr):Prop:=EAll YfC e
theorem YkI {e:Lx.Expr} (h:e.op=kNumber):YfC e↔e.name=YaC/\e.args=[]/\e.kids=[]/\Yex e.n:=by
 unfold YfC BinP;rw [h];refine ⟨fun h=>?_,fun h=>.inl ⟨rfl,h⟩⟩;rcases h with h | h | h
 ·exact h.2
 ·exact absurd (congrArg (fun s=>Yac s 0) h.1) Zh
 rcases h.1 with h | h | h<;>exact absurd (congrArg ByteArray.size h) Zh
theorem YkJ {e:Lx.Expr} (h:e.op=kFluent):YfC e↔e.n=0/\e.kids=[]/\YZ e.name/\∀ s∈e.args,Yfb s:=by
 unfold YfC BinP;rw [h];refine ⟨fun h=>?_,fun h=>.inr (.inl ⟨rfl,h⟩)⟩;rcases h with h | h | h
 ·exact absurd (congrArg (fun s=>Yac s 0) h.1) Zh
 ·exact h.2
 rcases h.1 with h | h | h<;>exact absurd (congrArg ByteArray.size h) Zh
theorem YkK {e:Lx.Expr} (h1:¬e.op=kNumber) (h2:¬e.op=kFluent):YfC e↔BinP e.op/\e.n=0/\e.name=YaC/\e.args=[]/\e.kids.length=2:=
 ⟨fun h=>by rcases h with h | h | h;exact absurd h.1 h1;exact absurd h.1 h2;exact h,fun h=>.inr (.inr h)⟩
def EBud (g:Nat) (e:Lx.Expr) (d c:Nat) (v:Value) (H':HP):Prop:=
 ∃ (b:Bool) (c':Int),v=Zo b/\H'=[(g,budO c')]/\(b=true->c'=((c+ecount e:Nat):Int))/\(b=true↔EOk e/\d+edepth e<=33/\c+ecount e<=4096)
theorem Yja {e:Lx.Expr} {d:Nat} {c':Int} (h:¬(EOk e/\d+edepth e<=33/\c+ecount e<=4096)):EBud g e d c (Zo false) [(g,budO c')]:=⟨false,c',rfl,rfl,(by simp),iff_of_false (by simp) h⟩
theorem YkM {e:Lx.Expr} {d:Nat} (h:YfC e) (hk:e.kids=[]) (ht:c+1<=4096/\d<=32):EBud g e d c (Zo true) [(g,budO (c+1:Nat))]:=by
 have h1:ecount e=1:=by rw [Yc2,hk];simp [ecountL]
 have h2:edepth e=1:=by rw [Yep,hk];simp [edepthL]
 exact ⟨true,_,rfl,rfl,fun _=>by rw [h1],iff_of_true rfl ⟨YbT.2 ⟨h,by rw [hk];simp⟩,by omega,by omega⟩⟩
theorem len0 {α:Type} {l:List α} {n:Nat} (h:l.length=n):(n:Int)=0↔l=[]:=by
 constructor
 ·intro h0;exact List.eq_nil_of_length_eq_zero Zi
 intro h0;subst h0;simp at h;omega
theorem Yi0:∀ (s:Nat) {fz:FZ} {e:Lx.Expr} {va vk:Value} {g d c:Nat},SizeOf.sizeOf e<=s->ExprR fz e va vk->d<=33->c<=4096->
 GFn prog 129 [.agg #[Zy e.op,Zy e.name,Zk e.n,va,vk],Zk d,Zp g] fz [(g,budO c)] (fun v fz' H'=>Le fz fz'/\EBud g e d c v H')
 | 0,_,e,_,_,_,_,_,hs,_,_,_=>by cases e;simp at hs
 | s+1,fz,e,va,vk,g,d,c,hs,h,hd,hc=>by
  obtain ⟨⟨A,n,ca,rfl,ha⟩,⟨B,m,cb,rfl,hk⟩⟩:=h.sls;have no:∀ {c':Int},¬YfC e->EBud g e d c (Zo false) [(g,budO c')]:=fun h0=>Yja (fun h1=>h0 (YbT.1 h1.1).1)
  refine zF Tryz.func129 Tryz.ntmps129 (fun w0=>?_);refine pX (fun g0=>?_)
  first | refine Wp.perm (List.Perm.swap _ _ _) ?_ | refine Seq.perm (List.Perm.swap _ _ _) ?_
  refine zW ?_;refine Ya (Yh [_] [_] Zz (take_q (c:=c) Zi) (fun v fz2 H2 hle2 hR=>?_));obtain ⟨hle3,rfl,b,rfl,hb⟩:=hR;cases b
  ·refine zW ?_
   (exact ret1 rfl rfl Zb ⟨hle2,Yja (fun h0=>by
    have h1:=Yc2 e;have h2:=Yep e;exact absurd (hb.2 ⟨by omega,by omega⟩) (by simp))⟩)
  have ht:=hb.1 rfl;refine wC (fun x1=>?_) (fun y1=>?_)
  ·have hn:=YkI (e:=e) x1;refine zW ?_
   (((refine zC (fun n1=>?_) (fun n1=>?_));rotate_left 1;((refine zW ?_);(exact ret1 rfl rfl Zb ⟨hle2,no (fun h0=>n1 (hn.1 h0).1)⟩));(refine zW ?_)))
   (((refine zC (fun n2=>?_) (fun n2=>?_));rotate_left 1;((refine zW ?_);(exact ret1 rfl rfl Zb ⟨hle2,no (fun h0=>n2 ((len0 ha.len).2 (hn.1 h0).2.1))⟩));(refine zW ?_)))
   (((refine zC (fun n3=>?_) (fun n3=>?_));rotate_left 1;((refine zW ?_);(exact ret1 rfl rfl Zb ⟨hle2,no (fun h0=>n3 ((len0 hk.len).2 (hn.1 h0).2.2.1))⟩));(refine zW ?_)))
   (((refine zC (fun n4=>?_) (fun n4=>?_));rotate_left 1;((refine zW ?_);(exact ret1 rfl rfl Zb ⟨hle2,no (fun h0=>n4 (hn.1 h0).2.2.2.1)⟩));(refine zW ?_)))
   (((refine zC (fun n5=>?_) (fun n5=>?_));rotate_left 1;((refine zW ?_);(exact ret1 rfl rfl Zb ⟨hle2,no (fun h0=>n5 (hn.1 h0).2.2.2.2)⟩));(refine zW ?_)));exact wR (h:=by exact ⟨hle2,YkM (hn.2 ⟨n1,(len0 ha.len).1 n2,(len0 hk.len).1 n3,n4,n5⟩) ((len0 hk.len).1 n3) ht⟩)
  refine wC (fun x2=>?_) (fun y2=>?_)
  ·have hn:=YkJ (e:=e) x2;refine zW ?_
   (((refine zC (fun n1=>?_) (fun n1=>?_));rotate_left 1;((refine zW ?_);(exact ret1 rfl rfl Zb ⟨hle2,no (fun h0=>n1 (hn.1 h0).1)⟩));(refine zW ?_)))
   (((refine zC (fun n2=>?_) (fun n2=>?_));rotate_left 1;((refine zW ?_);(exact ret1 rfl rfl Zb ⟨hle2,no (fun h0=>n2 ((len0 hk.len).2 (hn.1 h0).2.1))⟩));(refine zW ?_)));refine zb (Ya2 h.name) (fun f1=>?_) (fun f1=>?_)
   ·refine wG ?_;refine Xu (YcC (ha.mono hle2) (fun x hx=>YpK hx)) (fun f2=>?_) (fun f2=>?_)
    ·refine zW ?_
     (exact ret1 rfl rfl Zb ⟨hle2,no (fun h0=>by
      obtain ⟨x,hx,hx2⟩:=Zt f2;exact hx2 ((hn.1 h0).2.2.2 x hx))⟩)
    exact wR (h:=by exact ⟨hle2,YkM (hn.2 ⟨n1,(len0 hk.len).1 n2,Zt f1,fun x hx=>Classical.byContradiction fun h0=>Zf f2 ⟨x,hx,h0⟩⟩) ((len0 hk.len).1 n2) ht⟩)
   refine zW ?_;exact ret1 rfl rfl Zb ⟨hle2,no (fun h0=>Zf f1 (hn.1 h0).2.2.1)⟩
  refine zWO ?_;refine Wb ?_;refine Yy (YV (fun σ fz' H'=>∃ b:Bool,σ=[(62,Zo b),(3,Zp g0),(2,Zp g),(1,Zk d)]/\fz2=fz'/\H'=[(g,budO (c+1:Nat)),(g0,Zu #[Zy e.op,Zy e.name,Zk e.n,Zc A n ca,Zc B m cb] 61)]/\(b=true↔BinP e.op)) ?_ ?_)
  ·refine wC ?_ ?_<;>intro p1
   ·exact wN (h:=by exact ⟨true,rfl,rfl,rfl,iff_of_true rfl (.inl p1)⟩)
   refine wC ?_ ?_<;>intro p2
   ·exact wN (h:=by exact ⟨true,rfl,rfl,rfl,iff_of_true rfl (.inr (.inl p2))⟩)
   refine wC ?_ ?_<;>intro p3
   ·exact wN (h:=by exact ⟨true,rfl,rfl,rfl,iff_of_true rfl (.inr (.inr p3))⟩)
   refine zW ?_;exact midN ⟨false,rfl,rfl,rfl,iff_of_false (by simp) (fun h0=>h0.elim p1 (fun h0=>h0.elim p2 p3))⟩ Zw Zb
  rintro σ fz' H' ⟨b,rfl,rfl,rfl,hbp⟩;have hn:=YkK (e:=e) y1 y2;cases b
  ·refine zW ?_;exact ret1 rfl rfl Zb ⟨hle2,no (fun h0=>absurd (hbp.2 (hn.1 h0).1) (by simp))⟩
  have lk:=hk.len;refine zW ?_
  (((refine zC (fun n1=>?_) (fun n1=>?_));rotate_left 1;((refine zW ?_);(exact ret1 rfl rfl Zb ⟨hle2,no (fun h0=>n1 (hn.1 h0).2.1)⟩));(refine zW ?_)))
  (((refine zC (fun n2=>?_) (fun n2=>?_));rotate_left 1;((refine zW ?_);(exact ret1 rfl rfl Zb ⟨hle2,no (fun h0=>n2 (hn.1 h0).2.2.1)⟩));(refine zW ?_)))
  (((refine zC (fun n3=>?_) (fun n3=>?_));rotate_left 1;((refine zW ?_);(exact ret1 rfl rfl Zb ⟨hle2,no (fun h0=>n3 ((len0 ha.len).2 (hn.1 h0).2.2.2.1))⟩));(refine zW ?_)))
  (((refine zC (fun n4=>?_) (fun n4=>?_));rotate_left 1;((refine zW ?_);(exact ret1 rfl rfl Zb ⟨hle2,no (fun h0=>n4 (by have:=(hn.1 h0).2.2.2.2;omega))⟩));(refine zW ?_)));have hN:YfC e:=hn.2 ⟨hbp.1 rfl,n1,n2,(len0 ha.len).1 n3,by omega⟩;obtain ⟨a,b,hab⟩:∃ a b,e.kids=[a,b]:=by
   match hK:e.kids,(show e.kids.length=2 by omega) with
   | [a,b],_=>exact ⟨a,b,rfl⟩
  have la:=Lx.Expr.kids_lt (x:=e) (k:=a) (by rw [hab];simp);have lb:=Lx.Expr.kids_lt (x:=e) (k:=b) (by rw [hab];simp);have hcnt:ecount e=1+(ecount a+ecount b):=by rw [Yc2,hab];simp [ecountL]
  have hdep:edepth e=1+max (edepth a) (edepth b):=by rw [Yep,hab];simp [edepthL]
  have hall:EOk e↔EOk a/\EOk b:=by
   refine (YbT (p:=YfC) (e:=e)).trans ?_;rw [hab];simp only [List.mem_cons,List.not_mem_nil,or_false,forall_eq_or_imp,forall_eq];exact ⟨fun h0=>h0.2,fun h0=>⟨hN,h0⟩⟩
  have hk2:=hk.mono hle2
  ((refine zG ?_);refine Ya4 T 0 Zz Zz Zz Zz Zz Zz hk2 (by first | rfl | omega) (by rw [hab];rfl:e.kids[0]?=some a) (fun p hp=>?_));refine zL hp ?_;intro cs hcs;obtain ⟨wa,wk,rfl,hRa⟩:=Yw hcs;refine zW ?_;refine Wy (Yh [_] [_] Zz (Yi0 s (e:=a) (d:=d+1) (c:=c+1) Zi hRa Zi Zi) (fun v4 fz4 H4 hle4 hR4=>?_));obtain ⟨_,b1,c1,rfl,rfl,hc1,hb1⟩:=hR4;cases b1
  ·refine zW ?_;exact ret1 rfl rfl Zb ⟨hle2.trans hle4,Yja (fun h0=>absurd (hb1.2 ⟨(hall.1 h0.1).1,by omega,by omega⟩) (by simp))⟩
  have hc1:=hc1 rfl;have hb1:=hb1.1 rfl;subst hc1;refine zW ?_
  ((refine zG ?_);refine Ya4 T 1 Zz Zz Zz Zz Zz Zz (hk2.mono hle4) (by first | rfl | omega) (by rw [hab];rfl:e.kids[1]?=some b) (fun p2 hp2=>?_));refine zL hp2 ?_;intro cs2 hcs2;obtain ⟨za,zk,rfl,hRb⟩:=Yw hcs2;refine zW ?_;refine Wy (Yh [_] [_] Zz (Yi0 s (e:=b) (d:=d+1) (c:=c+1+ecount a) Zi hRb Zi Zi) (fun v5 fz5 H5 hle5 hR5=>?_));obtain ⟨_,b2,c2,rfl,rfl,hc2,hb2⟩:=hR5;cases b2
  ·refine zW ?_;exact ret1 rfl rfl Zb ⟨hle2.trans (hle4.trans hle5),Yja (fun h0=>absurd (hb2.2 ⟨(hall.1 h0.1).2,by omega,by omega⟩) (by simp))⟩
  have hc2:=hc2 rfl;have hb2:=hb2.1 rfl;subst hc2;refine zW ?_;exact ret1 rfl rfl Zb ⟨hle2.trans (hle4.trans hle5),true,_,rfl,rfl,fun _=>by omega,iff_of_true rfl ⟨hall.2 ⟨hb1.1,hb2.1⟩,by omega,by omega⟩⟩
theorem YmE {e:Lx.Expr} {d:Nat} (h:ExprR fz e va vk) (hd:d<=33) (hc:c<=4096):
 GFn prog 129 [.agg #[Zy e.op,Zy e.name,Zk e.n,va,vk],Zk d,Zp g] fz [(g,budO c)] (fun v fz' H'=>Le fz fz'/\EBud g e d c v H'):=Yi0 _ (Zs _) h hd hc
def kOr:Bs:=⟨#[111,114]⟩
def kNot:Bs:=⟨#[110,111,116]⟩
def kImply:Bs:=⟨#[105,109,112,108,121]⟩
def WJ (f:Formula):Option (Nat × Bool × Nat):=
 if f.op=kAtom\/f.op=kSame then some (0,false,0) else if CmpOp f.op then some (2,false,0) else if f.op=kAnd\/f.op=kOr then some (0,false,f.kids.length) else if f.op=kNot then some (0,false,1)
 else if f.op=kImply then some (0,false,2) else if f.op=kForall\/f.op=kExists then some (0,true,1) else none
def fhead (f:Formula):Prop:=(f.op=kAtom->YZ f.name)/\(f.op=kSame->f.name=YaC/\f.args.length=2)/\(f.op=kAtom\/f.op=kSame->∀ s∈f.args,Yfb s)
def frest (f:Formula) (k:Nat × Bool × Nat):Prop:=(f.op≠kAtom->f.op≠kSame->f.name=YaC/\f.args=[])/\f.exprs.length=k.1/\f.kids.length=k.2.2/\(k.2.1=false->f.params=[])
def YqG (f:Formula):Prop:=fhead f/\(∃ k,WJ f=some k/\frest f k)/\∀ p∈f.params,VarP p.name/\YdB p.typ
abbrev FOk (f:Formula):Prop:=FAll YqG YfC f
def FBud (g:Nat) (f:Formula) (d c:Nat) (v:Value) (H':HP):Prop:=
 ∃ (b:Bool) (c':Int),v=Zo b/\H'=[(g,budO c')]/\(b=true->c'=((c+fcount f:Nat):Int))/\(b=true↔FOk f/\d+fdepth f<=33/\c+fcount f<=4096)
theorem Yi6 {d:Nat} {c':Int} (h:¬(FOk f/\d+fdepth f<=33/\c+fcount f<=4096)):FBud g f d c (Zo false) [(g,budO c')]:=⟨false,c',rfl,rfl,(by simp),iff_of_false (by simp) h⟩
theorem YaG {α:Type} {l:List α} {n:Nat} (h:l.length=n):(0:Int)<(n:Int)↔l≠ []:=by
 constructor
 ·intro h0 h1;subst h1;simp at h;omega
 intro h0;have:=List.length_pos_iff.2 h0;omega
theorem Yma:∀ (s:Nat) {fz:FZ} {f:Formula} {va vp ve vk:Value} {g d c:Nat},SizeOf.sizeOf f<=s->FormulaR fz f va vp ve vk->d<=33->c<=4096->
 GFn prog 52 [.agg #[Zy f.op,Zy f.name,va,vp,ve,vk],Zk d,Zp g] fz [(g,budO c)] (fun v fz' H'=>Le fz fz'/\FBud g f d c v H')
 | 0,_,e,_,_,_,_,_,_,_,hs,_,_,_=>by cases e;simp at hs
 | s+1,fz,f,va,vp,ve,vk,g,d,c,hs,h,hd,hc=>by
  obtain ⟨⟨A,n,ca,rfl,ha⟩,⟨B,m,cb,rfl,hp⟩,⟨C,r,cr,rfl,he⟩,⟨D,q,cq,rfl,hk⟩⟩:=h.sls;have no:∀ {c':Int},¬YqG f->FBud g f d c (Zo false) [(g,budO c')]:=fun h0=>Yi6 (fun h1=>h0 (XT.1 h1.1).1)
  refine zF Tryz.func52 Tryz.ntmps52 (fun w0=>?_);refine pX (fun g0=>?_)
  first | refine Wp.perm (List.Perm.swap _ _ _) ?_ | refine Seq.perm (List.Perm.swap _ _ _) ?_
  refine zW ?_;refine Ya (Yh [_] [_] Zz (take_q (c:=c) Zi) (fun v fz2 H2 hle2 hR=>?_));obtain ⟨hle3,rfl,b,rfl,hb⟩:=hR;cases b
  ·refine zW ?_
   (exact ret1 rfl rfl Zb ⟨hle2,Yi6 (fun h0=>by
    have h1:=Yem f;have h2:=YgY f;exact absurd (hb.2 ⟨by omega,by omega⟩) (by simp))⟩)
  have ht:=hb.1 rfl;refine zWO ?_;refine Wb ?_;refine YbS ?_;refine Ydn ?_;refine Yy (Yae ?_);refine zWO ?_;refine Yy (YV (fun σ fz' H'=>∃ (ex:Nat) (pa:Bool) (mn:Nat),σ=[(9,Zk mn),(8,Zo pa),(7,Zk ex),(3,Zp g0),(2,Zp g),(1,Zk d)]/\fz2=fz'/\
   H'=[(g,budO (c+1:Nat)),(g0,Zu #[Zy f.op,Zy f.name,Zc A n ca,Zc B m cb,Zc C r cr,Zc D q cq] 35)]/\fhead f/\WJ f=some (ex,pa,mn)) ?_ ?_)
  ·refine wC (fun x1=>?_) (fun y1=>?_)
   ·have y2:¬f.op=⟨#[115,97,109,101]⟩:=fun h0=>absurd (congrArg (fun s=>Yac s 0) (x1.symm.trans h0)) Zh
    refine wb (Ya2 h.name) (fun f1=>?_) (fun f1=>?_)
    ·refine wG ?_;refine Xu (YcC (ha.mono hle2) (fun x hx=>YjM hx)) (fun f2=>?_) (fun f2=>?_)
     ·refine zW ?_
      (exact ret1 rfl rfl Zb ⟨hle2,no (fun h0=>by
       obtain ⟨x,hx,hx2⟩:=Zt f2;exact hx2 (h0.1.2.2 (.inl x1) x hx))⟩)
     exact wN (h:=by exact ⟨0,false,0,rfl,rfl,rfl,⟨fun _=>Zt f1,fun h0=>absurd h0 y2,fun _ x hx=>Classical.byContradiction fun h0=>Zf f2 ⟨x,hx,h0⟩⟩,if_pos (.inl x1)⟩)
    refine zW ?_;exact ret1 rfl rfl Zb ⟨hle2,no (fun h0=>Zf f1 (h0.1.1 x1))⟩
   refine wC (fun x2=>?_) (fun y2=>?_)
   ·refine zW ?_;refine zC ?_ ?_<;>intro n1
    ·refine zW ?_;exact ret1 rfl rfl Zb ⟨hle2,no (fun h0=>n1 (h0.1.2.1 x2).1)⟩
    refine zW ?_;refine zC ?_ ?_<;>intro n2
    ·refine zW ?_;exact ret1 rfl rfl Zb ⟨hle2,no (fun h0=>n2 (by have:=(h0.1.2.1 x2).2;have:=ha.len;omega))⟩
    refine wG ?_;refine Xu (YcC (ha.mono hle2) (fun x hx=>YjM hx)) (fun f2=>?_) (fun f2=>?_)
    ·refine zW ?_
     (exact ret1 rfl rfl Zb ⟨hle2,no (fun h0=>by
      obtain ⟨x,hx,hx2⟩:=Zt f2;exact hx2 (h0.1.2.2 (.inr x2) x hx))⟩)
    exact wN (h:=by exact ⟨0,false,0,rfl,rfl,rfl,⟨fun h0=>absurd h0 y1,fun _=>⟨n1,by have:=ha.len;omega⟩,fun _ x hx=>Classical.byContradiction fun h0=>Zf f2 ⟨x,hx,h0⟩⟩,if_pos (.inr x2)⟩)
   have hh:fhead f:=⟨fun h0=>absurd h0 y1,fun h0=>absurd h0 y2,fun h0=>(h0.elim y1 y2).elim⟩;have k0:¬(f.op=kAtom\/f.op=kSame):=fun h0=>h0.elim y1 y2
   refine wC (fun x3=>?_) (fun y3=>?_)
   ·exact wN (h:=by exact ⟨2,false,0,rfl,rfl,rfl,hh,(if_neg k0).trans (if_pos (.inl x3))⟩)
   refine wC (fun x4=>?_) (fun y4=>?_)
   ·exact wN (h:=by exact ⟨2,false,0,rfl,rfl,rfl,hh,(if_neg k0).trans (if_pos (.inr (.inl x4)))⟩)
   refine wC (fun x5=>?_) (fun y5=>?_)
   ·exact wN (h:=by exact ⟨2,false,0,rfl,rfl,rfl,hh,(if_neg k0).trans (if_pos (.inr (.inr x5)))⟩)
   have k1:¬CmpOp f.op:=fun h0=>h0.elim y3 (fun h0=>h0.elim y4 y5)
   refine wC (fun x6=>?_) (fun y6=>?_)
   ·exact wN (h:=by exact ⟨0,false,q,rfl,rfl,rfl,hh,(if_neg k0).trans ((if_neg k1).trans ((if_pos (.inl x6)).trans (by rw [hk.len])))⟩)
   refine wC (fun x7=>?_) (fun y7=>?_)
   ·exact wN (h:=by exact ⟨0,false,q,rfl,rfl,rfl,hh,(if_neg k0).trans ((if_neg k1).trans ((if_pos (.inr x7)).trans (by rw [hk.len])))⟩)
   have k2:¬(f.op=kAnd\/f.op=kOr):=fun h0=>h0.elim y6 y7
   refine wC (fun x8=>?_) (fun y8=>?_)
   ·exact wN (h:=by exact ⟨0,false,1,rfl,rfl,rfl,hh,(if_neg k0).trans ((if_neg k1).trans ((if_neg k2).trans (if_pos x8)))⟩)
   refine wC (fun x9=>?_) (fun y9=>?_)
   ·exact wN (h:=by exact ⟨0,false,2,rfl,rfl,rfl,hh,(if_neg k0).trans ((if_neg k1).trans ((if_neg k2).trans ((if_neg y8).trans (if_pos x9))))⟩)
   refine wC ?_ ?_<;>intro z1
   ·refine zW ?_;exact wN (h:=by exact ⟨0,true,1,rfl,rfl,rfl,hh,(if_neg k0).trans ((if_neg k1).trans ((if_neg k2).trans ((if_neg y8).trans ((if_neg y9).trans (if_pos (.inl z1))))))⟩)
   refine zW ?_;refine zC ?_ ?_<;>intro z2
   ·refine zW ?_;exact midN ⟨0,true,1,rfl,rfl,rfl,hh,(if_neg k0).trans ((if_neg k1).trans ((if_neg k2).trans ((if_neg y8).trans ((if_neg y9).trans (if_pos (.inr z2))))))⟩ Zw Zb
   have k3:WJ f=none:=(if_neg k0).trans ((if_neg k1).trans ((if_neg k2).trans ((if_neg y8).trans ((if_neg y9).trans (if_neg (fun h0=>h0.elim z1 z2))))));refine zW ?_;exact ret1 rfl rfl Zb ⟨hle2,no (fun h0=>by obtain ⟨_,⟨k,h1,_⟩,_⟩:=h0;rw [k3] at h1;cases h1)⟩
  rintro σ fz' H' ⟨ex,pa,mn,rfl,rfl,rfl,hh,hkind⟩;have no2:YqG f->¬¬frest f (ex,pa,mn):=fun h0 h1=>by
   obtain ⟨_,⟨k,h2,h3⟩,_⟩:=h0;rw [hkind] at h2;cases h2;exact h1 h3
  refine Yy (YV (fun σ fz' H'=>σ=[(3,Zp g0),(2,Zp g),(1,Zk d)]/\fz2=fz'/\
   H'=[(g,budO (c+1:Nat)),(g0,Zu #[Zy f.op,Zy f.name,Zc A n ca,Zc B m cb,Zc C r cr,Zc D q cq] 35)]/\frest f (ex,pa,mn)) ?_ ?_)
  ·refine zW ?_;refine zC ?_ ?_<;>intro x1
   ·refine zW ?_;refine zC ?_ ?_<;>intro x2
    ·refine zW ?_;refine zC ?_ ?_<;>intro x3
     ·refine zW ?_;exact ret1 rfl rfl Zb ⟨hle2,no (fun h0=>no2 h0 (fun h1=>x3 (h1.1 x1 x2).1))⟩
     refine zW ?_;refine zC ?_ ?_<;>intro x4
     ·refine zW ?_;exact ret1 rfl rfl Zb ⟨hle2,no (fun h0=>no2 h0 (fun h1=>(YaG ha.len).1 x4 (h1.1 x1 x2).2))⟩
     refine zW ?_;refine zC ?_ ?_<;>intro w1
     ·refine zW ?_;exact ret1 rfl rfl Zb ⟨hle2,no (fun h0=>no2 h0 (fun h1=>w1 (by have:=h1.2.1;have:=he.len;simp only at*;omega)))⟩
     refine zW ?_;refine zC ?_ ?_<;>intro w2
     ·refine zW ?_;exact ret1 rfl rfl Zb ⟨hle2,no (fun h0=>no2 h0 (fun h1=>w2 (by have:=h1.2.2.1;have:=hk.len;simp only at*;omega)))⟩
     refine zW ?_;refine zC ?_ ?_<;>intro w3
     ·cases pa
      ·refine zW ?_;exact ret1 rfl rfl Zb ⟨hle2,no (fun h0=>no2 h0 (fun h1=>(YaG hp.len).1 w3 (h1.2.2.2 rfl)))⟩
      refine zW ?_;exact midN ⟨rfl,rfl,rfl,fun _ _=>⟨x3,Classical.byContradiction fun h1=>x4 ((YaG ha.len).2 h1)⟩,by have:=he.len;simp only;omega,by have:=hk.len;simp only;omega,fun h0=>by cases h0⟩ Zw Zb
     refine zW ?_;exact midN ⟨rfl,rfl,rfl,fun _ _=>⟨x3,Classical.byContradiction fun h1=>x4 ((YaG ha.len).2 h1)⟩,by have:=he.len;simp only;omega,by have:=hk.len;simp only;omega,fun _=>Classical.byContradiction fun h1=>w3 ((YaG hp.len).2 h1)⟩ Zw Zb
    refine zW ?_;refine zC ?_ ?_<;>intro w1
    ·refine zW ?_;exact ret1 rfl rfl Zb ⟨hle2,no (fun h0=>no2 h0 (fun h1=>w1 (by have:=h1.2.1;have:=he.len;simp only at*;omega)))⟩
    refine zW ?_;refine zC ?_ ?_<;>intro w2
    ·refine zW ?_;exact ret1 rfl rfl Zb ⟨hle2,no (fun h0=>no2 h0 (fun h1=>w2 (by have:=h1.2.2.1;have:=hk.len;simp only at*;omega)))⟩
    refine zW ?_;refine zC ?_ ?_<;>intro w3
    ·cases pa
     ·refine zW ?_;exact ret1 rfl rfl Zb ⟨hle2,no (fun h0=>no2 h0 (fun h1=>(YaG hp.len).1 w3 (h1.2.2.2 rfl)))⟩
     refine zW ?_;exact wN (h:=by exact ⟨rfl,rfl,rfl,fun _ h0=>absurd x2 h0,by have:=he.len;simp only;omega,by have:=hk.len;simp only;omega,fun h0=>by cases h0⟩)
    refine zW ?_;exact midN ⟨rfl,rfl,rfl,fun _ h0=>absurd x2 h0,by have:=he.len;simp only;omega,by have:=hk.len;simp only;omega,fun _=>Classical.byContradiction fun h1=>w3 ((YaG hp.len).2 h1)⟩ Zw Zb
   refine zW ?_;refine zC ?_ ?_<;>intro w1
   ·refine zW ?_;exact ret1 rfl rfl Zb ⟨hle2,no (fun h0=>no2 h0 (fun h1=>w1 (by have:=h1.2.1;have:=he.len;simp only at*;omega)))⟩
   refine zW ?_;refine zC ?_ ?_<;>intro w2
   ·refine zW ?_;exact ret1 rfl rfl Zb ⟨hle2,no (fun h0=>no2 h0 (fun h1=>w2 (by have:=h1.2.2.1;have:=hk.len;simp only at*;omega)))⟩
   refine zW ?_;refine zC ?_ ?_<;>intro w3
   ·cases pa
    ·refine zW ?_;exact ret1 rfl rfl Zb ⟨hle2,no (fun h0=>no2 h0 (fun h1=>(YaG hp.len).1 w3 (h1.2.2.2 rfl)))⟩
    exact wN (h:=by exact ⟨rfl,rfl,rfl,fun h0=>absurd x1 h0,by have:=he.len;simp only;omega,by have:=hk.len;simp only;omega,fun h0=>by cases h0⟩)
   exact wN (h:=by exact ⟨rfl,rfl,rfl,fun h0=>absurd x1 h0,by have:=he.len;simp only;omega,by have:=hk.len;simp only;omega,fun _=>Classical.byContradiction fun h1=>w3 ((YaG hp.len).2 h1)⟩)
  rintro σ fz' H' ⟨rfl,rfl,rfl,hrest⟩;have hE:=Yem f;have hD:=YgY f;have hp2:=hp.mono hle2;refine zW ?_;refine Yi (fun mm σ fz' H'=>∃ k:Nat,k<=m/\mm=m - k/\σ=[(118,Zk k),(117,Zk m),(116,Zc B m cb),(3,Zp g0),(2,Zp g),(1,Zk d)]/\fz2=fz'/\H'=[(g,budO (c+1:Nat)),(g0,Zu #[Zy f.op,Zy f.name,Zc A n ca,Zc B m cb,Zc C r cr,Zc D q cq] 35)]/\(∀ i,i<k->∀ x,f.params[i]?=some x->VarP x.name/\YdB x.typ)) ⟨0,Z0 _,rfl,rfl,rfl,rfl,fun i hi=>absurd hi Zi⟩ Zw Zb ?_;rintro _ σ fz' H' ⟨k,hkm,rfl,rfl,rfl,rfl,hh1⟩;have lp:=hp.len;have sp:=hp.short;refine zW ?_;refine zC ?_ ?_<;>intro c1
  ·obtain ⟨x,hx⟩:=Yc (l:=f.params) (k:=k) Zi;have bad:¬(VarP x.name/\YdB x.typ)->¬YqG f:=fun h1 h0=>h1 (h0.2.2 x (Zm hx))
   refine zW ?_;refine zI hp2 hx (fun p1 hp1=>?_);refine zL hp1 ?_;intro cs hcs;obtain ⟨rfl,hRx⟩:=Yz hcs;refine zW ?_;intros;refine zb (Yc9 hRx.name) (fun f1=>?_) (fun f1=>?_)
   ·refine wb (typed_q hRx.typ) (fun f2=>?_) (fun f2=>?_)
    ·refine zW ?_;exact Wr ⟨k+1,by omega,rfl,rfl,rfl,rfl,Yx hh1 hx ⟨Zt f1,Zt f2⟩⟩ Zi Zw Zb
    refine zW ?_;exact ret1 rfl rfl Zb ⟨hle2,no (bad (fun h1=>Zf f2 h1.2))⟩
   refine zW ?_;exact ret1 rfl rfl Zb ⟨hle2,no (bad (fun h1=>Zf f1 h1.1))⟩
  have hN:YqG f:=⟨hh,⟨_,hkind,hrest⟩,YQ hh1 Zi⟩;have le:=he.len;have se:=he.short;refine zW ?_;refine Yi (fun mm σ fz' H'=>∃ k:Nat,k<=r/\mm=r - k/\σ=[(136,Zk k),(135,Zk r),(134,Zc C r cr),(3,Zp g0),(2,Zp g),(1,Zk d)]/\Le fz2 fz'/\H'=[(g,budO (c+1+ecountL (f.exprs.take k):Nat)),(g0,Zu #[Zy f.op,Zy f.name,Zc A n ca,Zc B m cb,Zc C r cr,Zc D q cq] 35)]/\(∀ i,i<k->∀ x,f.exprs[i]?=some x->EOk x/\d+1+edepth x<=33)/\c+1+ecountL (f.exprs.take k)<=4096) ⟨0,Z0 _,rfl,rfl,Zd,rfl,(fun i hi=>absurd hi Zi),by simp [ecountL];omega⟩ Zw Zb ?_;rintro _ σ fz' H' ⟨k,hkr,rfl,rfl,hle4,rfl,hh2,hcc⟩;have he2:=he.mono (hle2.trans hle4);refine wC ?_ ?_<;>intro c2
  ·obtain ⟨x,hx⟩:=Yc (l:=f.exprs) (k:=k) Zi;have hxm:=Zm hx;have hst:=Yc4 hx;have htk:=Yc3 (l:=f.exprs) (k:=k+1);refine wI he2 hx (fun p1 hp1=>?_);refine zL hp1 ?_;intro cs hcs;obtain ⟨wa,wk,rfl,hRx⟩:=Yw hcs;obtain ⟨⟨A1,n1,b1,rfl,_⟩,⟨A2,n2,b2,rfl,_⟩⟩:=hRx.sls;refine zW ?_;intros
   first | refine Wp.perm (List.Perm.swap _ _ _) ?_ | refine Seq.perm (List.Perm.swap _ _ _) ?_
   refine Ya (Yh [_] [_,_] Zz (YmE (e:=x) (d:=d+1) (c:=c+1+ecountL (f.exprs.take k)) hRx Zi hcc) (fun v5 fz5 H5 hle5 hR5=>?_));obtain ⟨_,b5,c5,rfl,rfl,hc5,hb5⟩:=hR5;cases b5
   ·refine zW ?_;exact ret1 rfl rfl Zb ⟨hle2.trans (hle4.trans hle5),Yi6 (fun h0=>absurd (hb5.2 ⟨(XT.1 h0.1).2.1 x hxm,by have:=(Yh6 (l:=f.exprs)).1 (Zs _) x hxm;omega,by omega⟩) (by simp))⟩
   have hc5:=hc5 rfl;have hb5:=hb5.1 rfl;subst hc5;exact wP (h:=by exact ⟨k+1,by omega,rfl,rfl,hle4.trans hle5,by rw [hst,<- Nat.add_assoc],Yx hh2 hx ⟨hb5.1,hb5.2.1⟩,by omega⟩)
  rw [show f.exprs.take k=f.exprs from Zl Zi] at hcc ⊢;have hEX:=YQ hh2 Zi;have lk:=hk.len;have sk:=hk.short;refine zW ?_;refine Yi (H0:=[(g,budO (c+1+ecountL f.exprs:Nat)),(g0,Zu #[Zy f.op,Zy f.name,Zc A n ca,Zc B m cb,Zc C r cr,Zc D q cq] 35)]) (fun mm σ fz7 H'=>∃ j:Nat,j<=q/\mm=q - j/\σ=[(150,Zk j),(149,Zk q),(148,Zc D q cq),(2,Zp g),(1,Zk d)]/\Le fz' fz7/\H'=[(g,budO (c+1+ecountL f.exprs+fcountL (f.kids.take j):Nat)),(g0,Zu #[Zy f.op,Zy f.name,Zc A n ca,Zc B m cb,Zc C r cr,Zc D q cq] 35)]/\(∀ i,i<j->∀ x,f.kids[i]?=some x->FOk x/\d+1+fdepth x<=33)/\c+1+ecountL f.exprs+fcountL (f.kids.take j)<=4096) ⟨0,Z0 _,rfl,rfl,Zd,by simp [fcountL],(fun i hi=>absurd hi Zi),by simp [fcountL];omega⟩ Zw Zb ?_;rintro _ σ fz7 H' ⟨j,hjq,rfl,rfl,hle7,rfl,hh3,hcc3⟩;have hk2:=hk.mono (hle2.trans (hle4.trans hle7));refine wC ?_ ?_<;>intro c3
  ·obtain ⟨x,hx⟩:=Yc (l:=f.kids) (k:=j) Zi;have hxm:=Zm hx;have hlt:=Formula.kids_lt hxm;have hst:=Yfo hx;have htk:=Yfn (l:=f.kids) (k:=j+1);refine wI hk2 hx (fun p1 hp1=>?_);refine zL hp1 ?_;intro cs hcs;obtain ⟨wa,wp,we,wk,rfl,hRx⟩:=Yn hcs;obtain ⟨⟨A1,n1,b1,rfl,_⟩,⟨A2,n2,b2,rfl,_⟩,⟨A3,n3,b3,rfl,_⟩,⟨A4,n4,b4,rfl,_⟩⟩:=hRx.sls;refine zW ?_;intros
   first | refine Wp.perm (List.Perm.swap _ _ _) ?_ | refine Seq.perm (List.Perm.swap _ _ _) ?_
   refine Ya (Yh [_] [_,_] Zz (Yma s (f:=x) (d:=d+1) (c:=c+1+ecountL f.exprs+fcountL (f.kids.take j)) Zi hRx Zi hcc3) (fun v5 fz5 H5 hle5 hR5=>?_));obtain ⟨_,b5,c5,rfl,rfl,hc5,hb5⟩:=hR5;cases b5
   ·refine zW ?_;exact ret1 rfl rfl Zb ⟨hle2.trans (hle4.trans (hle7.trans hle5)),Yi6 (fun h0=>absurd (hb5.2 ⟨(XT.1 h0.1).2.2 x hxm,by have:=(Yh5 (l:=f.kids)).1 (Zs _) x hxm;omega,by omega⟩) (by simp))⟩
   have hc5:=hc5 rfl;have hb5:=hb5.1 rfl;subst hc5;exact wP (h:=by exact ⟨j+1,by omega,rfl,rfl,hle7.trans hle5,by rw [hst,<- Nat.add_assoc],Yx hh3 hx ⟨hb5.1,hb5.2.1⟩,by omega⟩)
  rw [Zl Zi] at hcc3 ⊢;have hKX:=YQ hh3 Zi;refine zW ?_
  (exact ret1 rfl rfl Zb ⟨hle2.trans (hle4.trans hle7),true,_,rfl,rfl,fun _=>by rw [hE];simp only [Nat.add_assoc],iff_of_true rfl ⟨XT.2 ⟨hN,fun x hx=>(hEX x hx).1,fun x hx=>(hKX x hx).1⟩,by
   have e1:edepthL f.exprs<=32 - d:=Yh6.2 (fun x hx=>by have:=(hEX x hx).2;omega);have e2:fdepthL f.kids<=32 - d:=Yh5.2 (fun x hx=>by have:=(hKX x hx).2;omega);omega,by omega⟩⟩)
theorem shaped_q {d:Nat} (h:FormulaR fz f va vp ve vk) (hd:d<=33) (hc:c<=4096):
 GFn prog 52 [.agg #[Zy f.op,Zy f.name,va,vp,ve,vk],Zk d,Zp g] fz [(g,budO c)] (fun v fz' H'=>Le fz fz'/\FBud g f d c v H'):=Yma _ (Zs _) h hd hc
end Go.Proofs.YtacfpcbladaohaaGreatDoor
