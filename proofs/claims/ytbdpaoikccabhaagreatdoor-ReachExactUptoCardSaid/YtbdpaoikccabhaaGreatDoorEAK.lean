/- The texts QF, PGrowB, QG, UG, UA, UC, QH, QI, laid together. Conditions: none. -/
import Derived.Test.YtbdpaoikccabhaaGreatDoorEAJ
set_option linter.all false
set_option maxHeartbeats 8000000
noncomputable section
set_option maxRecDepth 20000
open Go.Lx Go.RowKit
attribute [local instance 10] Classical.propDecidable
open Go.Proofs.Tryz (prog)
namespace Go.Proofs.YtbdpaoikccabhaaGreatDoor
variable {f:Formula} {K:Kn} {n k:Nat} {fz:FZ} {v va ve vk vp:Value}
inductive ShN:Formula->Prop
 | mk {f:Formula} (h1:f.op=kSame->2<=f.args.length) (h2:f.op=kNot\/f.op=kForall\/f.op=kExists->f.kids≠ []) (h3:∀ k∈f.kids,ShN k):ShN f
theorem ShN.head (h:ShN f):f.op=kNot\/f.op=kForall\/f.op=kExists->f.kids≠ []:=by cases h with | mk _ h2 _=>exact h2
theorem ShN.kid {k:Formula} (h:ShN f) (hk:k∈f.kids):ShN k:=by cases h with | mk _ _ h3=>exact h3 k hk
def powT (n:Nat):Nat->Nat->Nat
 | 0,out=>out
 | k+1,out=>if 64<out*n\/out*n=0 then min (out*n) 65 else powT n k (out*n)
def Yec (K:Kn) (ps:List Param):Nat:=ps.foldl (fun m p=>min (m*(ofK K p.typ).length) 1048576) 1
def quantT (K:Kn) (op:Bs) (ps:List Param) (n:Nat):Nat:=
 if 64<n then 65 else if op=kExists then min (n*Yec K ps) 65 else if Yec K ps=0\/n=1 then 1 else powT n (Yec K ps) 1
mutual
def termsM (K:Kn):Formula->Nat
 | .mk op _ _ params _ kids=>
  if op=kAnd then andT K 1 kids
  else if op=kOr then orT K 0 kids
  else if op=kForall\/op=kExists then quantT K op params (headT K kids)
  else 1
def headT (K:Kn):List Formula->Nat
 | []=>0
 | g::_=>termsM K g
def andT (K:Kn):Nat->List Formula->Nat
 | n,[]=>n
 | n,g::r=>if 64<n*termsM K g\/64<termsM K g then 65 else andT K (n*termsM K g) r
def orT (K:Kn):Nat->List Formula->Nat
 | n,[]=>n
 | n,g::r=>if 64<n+termsM K g then 65 else orT K (n+termsM K g) r
end
theorem YcQ (f:Formula):termsM K f=if f.op=kAnd then andT K 1 f.kids else if f.op=kOr then orT K 0 f.kids else if f.op=kForall\/f.op=kExists then quantT K f.op f.params (headT K f.kids) else 1:=by
 cases f;rw [termsM];rfl
theorem Yo3 (n:Nat):∀ (k out:Nat),out<=64->powT n k out<=65
 | 0,out,h=>by unfold powT;omega
 | k+1,out,h=>by
  unfold powT;split
  ·omega
  exact Yo3 n k _ Zi
theorem YoV {op:Bs} {ps:List Param}:quantT K op ps n<=65:=by
 unfold quantT;split
 ·omega
 split
 ·omega
 split
 ·omega
 exact Yo3 _ _ _ Zi
theorem Yqv {K:Kn}:∀ (l:List Formula) (n:Nat),n<=64->andT K n l<=65
 | [],n,h=>by unfold andT;omega
 | g::r,n,h=>by
  unfold andT;split
  ·omega
  exact Yqv r _ Zi
theorem orT_le {K:Kn}:∀ (l:List Formula) (n:Nat),n<=64->orT K n l<=65
 | [],n,h=>by unfold orT;omega
 | g::r,n,h=>by
  unfold orT;split
  ·omega
  exact orT_le r _ Zi
theorem Ygf (f:Formula):termsM K f<=65:=by
 rw [YcQ];split
 ·exact Yqv _ _ Zi
 split
 ·exact orT_le _ _ Zi
 split
 ·exact YoV
 omega
theorem YiM (K:Kn):∀ (ps:List Param) (m:Nat),m<=1048576->ps.foldl (fun m p=>min (m*(ofK K p.typ).length) 1048576) m<=1048576
 | [],_,h=>h
 | p::ps,m,_=>YiM K ps _ (Nat.min_le_right _ _)
theorem YkO {a b:Nat}:min ((a:Int)*(b:Int)) 1048576=((min (a*b) 1048576:Nat):Int):=by
 rw [<- Int.natCast_mul];omega
theorem quant_of {g:Formula} {rest:List Formula} (hK:KnR fz v K) (hR:FormulaR fz f va vp ve vk) (hk:f.kids=g::rest)
 (ih:∀ {fz':FZ} {wa wp we wk:Value},Le fz fz'->FormulaR fz' g wa wp we wk->QFn prog 88 [v,.agg #[Zy g.op,Zy g.name,wa,wp,we,wk]] fz' (Zk (termsM K g))):
 QFn prog 177 [v,.agg #[Zy f.op,Zy f.name,va,vp,ve,vk]] fz (Zk (quantT K f.op f.params (termsM K g))):=by
 obtain ⟨⟨B1,m1,d1,rfl,ia⟩,⟨B2,m2,d2,rfl,ip⟩,⟨B3,m3,d3,rfl,ie⟩,⟨B4,m4,d4,rfl,ik⟩⟩:=hR.sls;have l2:=ip.len;have l4:=ik.len;have s2:=ip.short;have hg0:f.kids[0]?=some g:=by rw [hk];rfl
 have hm4:0<m4:=by rw [<- l4,hk];simp
 have hT:=Ygf (K:=K) g;have hmany:=hK.many;have hK0:=hK;obtain ⟨⟨gk,a0,a1,a2,a3,a4,a5,a6,a7,a8,a9,a10,a11,a12,a13,a14,a15,a16,a17,vf,Ao,no,co,gc,gi,mc,mi,rfl,hg,hF,hO,h5,h6,h7,h8⟩,hw,_⟩:=hK;refine qF Tryz.func177 Tryz.ntmps177 (fun w0=>?_);refine pX (fun g0=>?_);refine wI ik hg0 (fun p1 hp1=>?_);refine zL hp1 ?_;intro cs hcs;obtain ⟨wa,wp,we,wk,rfl,hRg⟩:=Yu hcs;obtain ⟨⟨E1,r1,q1,rfl,_⟩,⟨E2,r2,q2,rfl,_⟩,⟨E3,r3,q3,rfl,_⟩,⟨E4,r4,q4,rfl,_⟩⟩:=hRg.sls;refine wG ?_;refine Yt (ih Zd hRg) ?_;generalize hn0:termsM K g=n0 at hT ih;refine wC ?_ ?_<;>intro c1
 ·exact wR (h:=by rw [quantT,if_pos Zi];rfl)
 refine zW ?_;refine Yn (fun q σ fz' H'=>∃ k:Nat,k<=m2/\q=m2 - k/\σ=[(21,Zk k),(20,Zk m2),(19,Zc B2 m2 d2),(6,Zk ((Yec K (f.params.take k):Nat):Int)),(5,Zk n0),(3,Zp g0),(0,Zp gk)]/\Le fz fz'/\H'=[(g0,Zu #[Zy f.op,Zy f.name,Zc B1 m1 d1,Zc B2 m2 d2,Zc B3 m3 d3,Zc B4 m4 d4] 35)]) ⟨0,Z0 _,rfl,rfl,Zd,rfl⟩ Zw Zb ?_;rintro q σ fz' H' ⟨k,hk2,rfl,rfl,hle,rfl⟩;refine wC ?_ ?_<;>intro c2
 ·obtain ⟨x,hx⟩:=Yf (l:=f.params) (k:=k) Zi;refine wI (ip.mono hle) hx (fun p2 hp2=>?_);refine zL hp2 ?_;intro cs hcs;obtain ⟨rfl,hRx⟩:=YM hcs;refine zW ?_;intros;refine Yd (Yk [] [_,_] Zz (kof_f (t:=x.typ) (hK0.mono hle)) (fun v4 fz4 H4 hle4 hR4=>?_));obtain ⟨rfl,Bo,mo,do_,rfl,hSo⟩:=hR4;have lo:=hSo.len;have hmo:mo<=2000000:=by rw [<- lo];exact Nat.le_trans (Yo5 K x.typ) hmany
  have hml:=YiM K (f.params.take k) 1 Zh;have hm1:Yec K (f.params.take k)<=1048576:=hml;have hmm:Yec K (f.params.take k)*mo<=1048576*2000000:=Nat.mul_le_mul hm1 hmo;have hmz:((Yec K (f.params.take k):Nat):Int)*(mo:Int)=((Yec K (f.params.take k)*mo:Nat):Int):=(Int.natCast_mul _ _).symm;refine wG ?_;refine YjS Zz Zz (Xr (by rw [hmz];omega)) ?_;refine wG ?_;refine YoZ ?_;rw [show min (((Yec K (f.params.take k):Nat):Int)*(mo:Int)) 1048576=((Yec K (f.params.take (k+1)):Nat):Int) from by
   rw [YkO,Yec,Yec,List.take_add_one,hx,List.foldl_append,<- lo];rfl]
  exact wP (h:=by exact ⟨k+1,by omega,rfl,rfl,hle.trans hle4,rfl⟩)
 have hk3:k=m2:=by omega
 subst hk3;rw [Zl (show f.params.length<=k by omega)];have hml:=YiM K f.params 1 Zh;have hm1:Yec K f.params<=1048576:=hml;generalize hmn:Yec K f.params=mn at hm1;have hmm:n0*mn<=64*1048576:=Nat.mul_le_mul Zi hm1;have hmz:(n0:Int)*(mn:Int)=((n0*mn:Nat):Int):=(Int.natCast_mul _ _).symm;by_cases w1:f.op=kExists
 ·refine wG ?_;refine YjS Zz Zz (Xr (by rw [hmz];omega)) ?_;refine wG ?_;refine YoZ ?_;refine zW ?_
  (exact ret1 rfl rfl Zb (by
   rw [quantT,if_neg Zi,if_pos w1,hmn,hmz]
   congr 1
   omega))
 refine wC ?_ ?_<;>intro c3
 ·exact wR (h:=by rw [quantT,if_neg Zi,if_neg w1,hmn,if_pos (.inl Zi)];rfl)
 refine wC ?_ ?_<;>intro c4
 ·exact wR (h:=by rw [quantT,if_neg Zi,if_neg w1,hmn,if_pos (.inr Zi)];rfl)
 refine zW ?_;refine Yn (fun q σ fz2 H'=>∃ k out:Nat,k<=mn/\q=mn - k/\σ=[(48,Zk k),(47,Zk mn),(9,Zk out),(5,Zk n0)]/\fz'=fz2/\H'=[]/\out<=64/\powT n0 (mn - k) out=powT n0 mn 1) ⟨0,1,Z0 _,rfl,rfl,rfl,rfl,by omega,rfl⟩ Zw Zb ?_;rintro q σ fz2 H' ⟨j,out,hj,rfl,rfl,rfl,rfl,ho,hpw⟩;have hoz:(out:Int)*(n0:Int)=((out*n0:Nat):Int):=(Int.natCast_mul _ _).symm;have hon:out*n0<=64*65:=Nat.mul_le_mul ho Zi;have hq:quantT K f.op f.params n0=powT n0 mn 1:=by rw [quantT,if_neg Zi,if_neg w1,hmn,if_neg Zi]
 refine wC ?_ ?_<;>intro c5
 ·have e1:mn - j=(mn - (j+1))+1:=by omega
  rw [e1,powT] at hpw;refine wG ?_;refine YjS Zz Zz (Xr (by rw [hoz];omega)) ?_;rw [hoz];refine wC ?_ ?_<;>intro c6
  ·rw [if_pos (.inl Zi)] at hpw;refine wG ?_;refine YoZ ?_;exact wR (h:=by rw [hq,<- hpw];congr 1;omega)
  refine wC ?_ ?_<;>intro c7
  ·rw [if_pos (.inr Zi)] at hpw;refine wG ?_;refine YoZ ?_;exact wR (h:=by rw [hq,<- hpw];congr 1;omega)
  rw [if_neg Zi] at hpw;exact wP (h:=by exact ⟨j+1,out*n0,by omega,rfl,rfl,rfl,rfl,by omega,hpw⟩)
 rw [show mn - j=0 from by omega,powT] at hpw;exact wR (h:=by rw [hq,<- hpw])
theorem andT_at {l:List Formula} {x:Formula} (hx:l[k]?=some x) (h:andT K n (l.drop k)=andT K 1 l):(if 64<n*termsM K x\/64<termsM K x then 65 else andT K (n*termsM K x) (l.drop (k+1)))=andT K 1 l:=by
 obtain ⟨h1,h2⟩:=Zg hx;rw [<- h,List.drop_eq_getElem_cons h1,h2,andT]
theorem orT_at {l:List Formula} {x:Formula} (hx:l[k]?=some x) (h:orT K n (l.drop k)=orT K 0 l):(if 64<n+termsM K x then 65 else orT K (n+termsM K x) (l.drop (k+1)))=orT K 0 l:=by
 obtain ⟨h1,h2⟩:=Zg hx;rw [<- h,List.drop_eq_getElem_cons h1,h2,orT]
theorem Yge:∀ (s:Nat) {fz:FZ} {v:Value} {K:Kn} {f:Formula} {va vp ve vk:Value},SizeOf.sizeOf f<=s->KnR fz v K->FormulaR fz f va vp ve vk->ShN f->
 QFn prog 88 [v,.agg #[Zy f.op,Zy f.name,va,vp,ve,vk]] fz (Zk (termsM K f))
 | 0,_,_,_,f,_,_,_,_,hse,_,_,_=>by cases f;simp at hse
 | s+1,fz,v,K,f,va,vp,ve,vk,hse,hK,hR,hS=>by
  have hR0:=hR;obtain ⟨⟨B1,m1,d1,rfl,ia⟩,⟨B2,m2,d2,rfl,ip⟩,⟨B3,m3,d3,rfl,ie⟩,⟨B4,m4,d4,rfl,ik⟩⟩:=hR.sls;have l4:=ik.len;have s4:=ik.short;have hK0:=hK;obtain ⟨⟨gk,a0,a1,a2,a3,a4,a5,a6,a7,a8,a9,a10,a11,a12,a13,a14,a15,a16,a17,vf,Ao,no,co,gc,gi,mc,mi,rfl,hg,hF,hO,h5,h6,h7,h8⟩,hw,_⟩:=hK;refine qF Tryz.func88 Tryz.ntmps88 (fun w0=>?_);refine pX (fun g0=>?_);by_cases w1:f.op=kAnd
  ·have e1:termsM K f=andT K 1 f.kids:=by rw [YcQ,if_pos w1]
   refine zW ?_;refine Yn (fun q σ fz' H'=>∃ k n:Nat,k<=m4/\q=m4 - k/\σ=[(18,Zk k),(17,Zk m4),(16,Zc B4 m4 d4),(5,Zk n),(0,Zp gk)]/\fz=fz'/\H'=[]/\n<=64/\andT K n (f.kids.drop k)=andT K 1 f.kids) ⟨0,1,Z0 _,rfl,rfl,rfl,rfl,by omega,rfl⟩ Zw Zb ?_;rintro q σ fz' H' ⟨k,n,hk,rfl,rfl,rfl,rfl,hn,ha⟩;refine wC ?_ ?_<;>intro c1
   ·obtain ⟨x,hx⟩:=Yf (l:=f.kids) (k:=k) Zi;have hxm:=Zm hx;have hlt:=Formula.kids_lt hxm;have ha2:=andT_at hx ha;have hT:=Ygf (K:=K) x;have hz:(n:Int)*((termsM K x:Nat):Int)=((n*termsM K x:Nat):Int):=(Int.natCast_mul _ _).symm;have hb:n*termsM K x<=64*65:=Nat.mul_le_mul hn hT;refine wI ik hx (fun p1 hp1=>?_);refine zL hp1 ?_;intro cs hcs;obtain ⟨wa,wp,we,wk,rfl,hRg⟩:=Yu hcs;obtain ⟨⟨E1,r1,q1,rfl,_⟩,⟨E2,r2,q2,rfl,_⟩,⟨E3,r3,q3,rfl,_⟩,⟨E4,r4,q4,rfl,_⟩⟩:=hRg.sls;refine zW ?_;intros
    ((refine zG ?_);refine Yt (Yge s Zi hK0 hRg (hS.kid hxm)) ?_);refine wG ?_;refine YjS Zz Zz (Xr (by rw [hz];omega)) ?_;rw [hz];refine wC ?_ ?_<;>intro c2
    ·rw [if_pos (.inl Zi)] at ha2;exact wR (h:=by rw [e1,<- ha2];rfl)
    refine wG ?_;refine Yt (Yge s Zi hK0 hRg (hS.kid hxm)) ?_;refine wC ?_ ?_<;>intro c3
    ·rw [if_pos (.inr Zi)] at ha2;exact wR (h:=by rw [e1,<- ha2];rfl)
    rw [if_neg Zi] at ha2;exact wP (h:=by exact ⟨k+1,n*termsM K x,by omega,rfl,rfl,rfl,rfl,by omega,ha2⟩)
   rw [List.drop_eq_nil_of_le Zi,andT] at ha;exact wR (h:=by rw [e1,<- ha])
  by_cases w2:f.op=kOr
  ·have e1:termsM K f=orT K 0 f.kids:=by rw [YcQ,if_neg w1,if_pos w2]
   refine zW ?_;refine Yn (fun q σ fz' H'=>∃ k n:Nat,k<=m4/\q=m4 - k/\σ=[(42,Zk k),(41,Zk m4),(40,Zc B4 m4 d4),(8,Zk n),(0,Zp gk)]/\fz=fz'/\H'=[]/\n<=64/\orT K n (f.kids.drop k)=orT K 0 f.kids) ⟨0,0,Z0 _,rfl,rfl,rfl,rfl,by omega,rfl⟩ Zw Zb ?_;rintro q σ fz' H' ⟨k,n,hk,rfl,rfl,rfl,rfl,hn,ha⟩;refine wC ?_ ?_<;>intro c1
   ·obtain ⟨x,hx⟩:=Yf (l:=f.kids) (k:=k) Zi;have hxm:=Zm hx;have hlt:=Formula.kids_lt hxm;have ha2:=orT_at hx ha;have hT:=Ygf (K:=K) x;refine wI ik hx (fun p1 hp1=>?_);refine zL hp1 ?_;intro cs hcs;obtain ⟨wa,wp,we,wk,rfl,hRg⟩:=Yu hcs;obtain ⟨⟨E1,r1,q1,rfl,_⟩,⟨E2,r2,q2,rfl,_⟩,⟨E3,r3,q3,rfl,_⟩,⟨E4,r4,q4,rfl,_⟩⟩:=hRg.sls;refine zW ?_;intros
    ((refine zG ?_);refine Yt (Yge s Zi hK0 hRg (hS.kid hxm)) ?_);refine wC ?_ ?_<;>intro c2
    ·rw [if_pos Zi] at ha2;exact wR (h:=by rw [e1,<- ha2];rfl)
    rw [if_neg Zi] at ha2;exact wP (h:=by exact ⟨k+1,n+termsM K x,by omega,rfl,rfl,rfl,rfl,by omega,ha2⟩)
   rw [List.drop_eq_nil_of_le Zi,orT] at ha;exact wR (h:=by rw [e1,<- ha])
  by_cases hq:f.op=kForall\/f.op=kExists
  ·have e1:termsM K f=quantT K f.op f.params (headT K f.kids):=by rw [YcQ,if_neg w1,if_neg w2,if_pos hq]
   obtain ⟨x,rest,hkd⟩:∃ x rest,f.kids=x::rest:=by
    cases hf:f.kids with
    | nil=>exact absurd hf (hS.head (.inr hq))
    | cons x rest=>exact ⟨x,rest,rfl⟩
   have hxm:x∈f.kids:=by rw [hkd];simp
   have hlt:=Formula.kids_lt hxm;have hh:headT K f.kids=termsM K x:=by rw [hkd,headT]
   have hqq:=quant_of hK0 hR0 hkd (fun hle hRg=>Yge s Zi (hK0.mono hle) hRg (hS.kid hxm));rcases hq with w3 | w3
   ·refine wc hqq ?_;exact wR (h:=by rw [e1,hh])
   have w4:¬f.op=kForall:=by rw [w3];decide
   refine wc hqq ?_;exact wR (h:=by rw [e1,hh])
  have w3:¬f.op=kForall:=fun h=>hq (.inl h)
  have w4:¬f.op=kExists:=fun h=>hq (.inr h)
  exact wR (h:=by rw [YcQ,if_neg w1,if_neg w2,if_neg hq];rfl)
theorem YoB (hK:KnR fz v K) (hR:FormulaR fz f va vp ve vk) (hS:ShN f):
 QFn prog 88 [v,.agg #[Zy f.op,Zy f.name,va,vp,ve,vk]] fz (Zk (termsM K f)):=Yge _ (Zs _) hK hR hS
end Go.Proofs.YtbdpaoikccabhaaGreatDoor
namespace Go.Lx
open Go.RowKit
variable {α:Type} {Hs:HP} {fz fz':FZ} {n g:Nat} {v:Value} {L:Lay α}
theorem Yen {α:Type} {z:Nat} {d:α × List Value} (hd:d.2.length=z):∀ {xs:List (α × List Value)} {i:Nat},(∀ p∈xs,p.2.length=z)->i<xs.length->
 (xs.flatMap Prod.snd).take (i*z)++d.2++(xs.flatMap Prod.snd).drop (i*z+z)=(xs.set i d).flatMap Prod.snd
 | [],i,_,hi=>by simp at hi
 | x::r,0,h,_=>by
  have hx:=h x (by simp);simp only [List.flatMap_cons,Nat.zero_mul,List.take_zero,List.nil_append,Nat.zero_add,List.set_cons_zero];rw [<- hx,List.drop_left]
 | x::r,i+1,h,hi=>by
  have hx:=h x (by simp);have ih:=Yen hd (xs:=r) (i:=i) (fun p hp=>h p (by simp [hp])) (by simpa using hi);simp only [List.flatMap_cons,List.set_cons_succ];rw [<- ih,Nat.succ_mul];have e1:i*z+z=x.2.length+i*z:=by omega
  have e2:i*z+z+z=x.2.length+(i*z+z):=by omega
  rw [e2,List.drop_append,e1,List.take_append];simp only [Zl (show x.2.length<=x.2.length+i*z by omega),Nat.add_sub_cancel_left,List.append_assoc];have e3:List.drop (x.2.length+(x.2.length+i*z)) x.2=[]:=List.drop_eq_nil_of_le Zi;simp [e3]
structure GrowB {α:Type} (L:Lay α) (e:Nat) (fz:FZ) (g n cap:Nat) (cur:List Value) (l:List α):Prop where
 pairs:∃ xs:List (α × List Value),xs.map Prod.fst=l/\(∀ p∈xs,L.rep fz p.1 p.2)/\cur.take (n*L.size)=xs.flatMap Prod.snd
 len:l.length=n
 capn:n<=cap
 max:cap<=maxLen
 size:cur.length=cap*L.size
theorem Grow.b {e:Nat} {l:List α} (hg:Grow L e fz v n Hs l) (hn:0<n):∃ g cap cur,v=Zv g n cap/\Hs=[(g,.cells (List.toArray cur) e (0,0))]/\GrowB L e fz g n cap cur l:=by
 obtain ⟨xs,h1,h2,h3,h4⟩:=hg;rcases h4.2 with ⟨_,h0,_⟩ | ⟨g,cap,cur,h5,h6,h7,h8,h9,h10⟩
 ·omega
 exact ⟨g,cap,cur.toList,h5,by rw [h6],⟨xs,h1,h2,h10⟩,h3,h7,h8,by simpa using h9⟩
theorem GrowB.grow {e:Nat} {cap:Nat} {cur:List Value} {l:List α} (h:GrowB L e fz g n cap cur l):Grow L e fz (Zv g n cap) n [(g,.cells (List.toArray cur) e (0,0))] l:=by
 obtain ⟨xs,h1,h2,h3⟩:=h.pairs;have hl:xs.length=n:=by have:=h.len;rw [<- h1,List.length_map] at this;exact this
 exact ⟨xs,h1,h2,h.len,by rw [YaQ (fun p hp=>L.len (h2 p hp)),hl],.inr ⟨g,cap,cur.toArray,rfl,rfl,h.capn,h.max,by simpa using h.size,by simpa using h3⟩⟩
theorem GrowB.mono {e:Nat} (hle:Le fz fz') {cap:Nat} {cur:List Value} {l:List α} (h:GrowB L e fz g n cap cur l):GrowB L e fz' g n cap cur l:=by
 obtain ⟨xs,h1,h2,h3⟩:=h.pairs;exact ⟨⟨xs,h1,fun p hp=>L.mono hle (h2 p hp),h3⟩,h.len,h.capn,h.max,h.size⟩
section
variable {P:Program} {cx:Cx} {r:Operand->Option Value} {fz:FZ} {H:HP} {V:Value->Prop} {dst:Option Nat} {ty:TypeId} {pos:String} {af:Array Edge} {gd:Option (Nat × Bool)}
theorem Yo {t e:TypeId} {x i:Operand} {X Y:Ty} {g n c z:Nat} {k:IntKind} {j:Int}
 (hs:Y.size=z) (h:V (.pointer (some ⟨g,j.toNat*z,none⟩))) (T:Tab P:=by exact T) (hT:T.inf t=some X:=by exact rfl) (hd:X.desc=.slice e:=by exact rfl) (hY:T.inf e=some Y:=by exact rfl) (hx:r x=some (Zv g n c):=by exact rfl) (hi:r i=some (.int k j):=by exact rfl) (h0:0<=j:=by omega) (hn:j<n:=by omega):DoesQ P cx ⟨dst,.indexAddr t x i,ty,pos,af,gd⟩ r fz H V:=by
  refine Yct T hT hd hY hx hi h0 hn ?_;have hadd:(⟨g,0,none⟩:Addr).add (j.toNat*Y.size)=⟨g,j.toNat*z,none⟩:=by rw [hs];unfold Addr.add;split<;>simp_all
  rw [hadd];exact h
theorem YE {t t':TypeId} {x y:Operand} {X:Ty} {pre post:HP} {g j n cap:Nat} {v:Value} {cs cur:List Value} {α:Type} {L:Lay α} {l:List α} {d:α} {K:Value->FZ->HP->Prop}
 (hH:H=pre++(g,.cells cur.toArray t' (0,0))::post) (hv:v.cells=cs.toArray) (h1:OneC L) (hr:L.rep fz d cs) (hb:GrowB L t' fz g n cap cur l)
  (h:∀ cur',GrowB L t' fz g n cap cur' (l.set j d)->K undef fz (pre++(g,.cells cur'.toArray t' (0,0))::post)) (T:Tab P:=by exact T) (hT:T.inf t=some X:=by exact rfl) (hx:r x=some (.pointer (some ⟨g,j*L.size,none⟩)):=by exact rfl) (hy:r y=some v:=by exact rfl) (hs:X.size=L.size:=by exact rfl) (hj:j<n:=by omega):Does P cx ⟨dst,.store t x y,ty,pos,af,gd⟩ r fz H K:=by
  refine Does.of fun ρ w hrd hw=>?_
  subst hH;have hcs:=L.len hr;have hgb:=(hw.hp.own (g,.cells cur.toArray t' (0,0)) (by simp)).1;obtain ⟨xs,e1,e2,e3⟩:=hb.pairs;have hxl:xs.length=n:=by have:=hb.len;rw [<- e1,List.length_map] at this;exact this
  have hsz:=hb.size;have hcap:=hb.capn;have hjn:j*L.size+L.size<=n*L.size:=by rw [<- Nat.succ_mul];exact Nat.mul_le_mul_right _ hj
  have hnc:n*L.size<=cap*L.size:=Nat.mul_le_mul_right _ hcap;have hle:j*L.size+0+cs.length<=cur.toArray.size:=by simp;omega
  have hst:=run_storeCells_at (P:=P) g (j*L.size) t' cs 0 cur.toArray w hgb hle (fun u hu=>h1 _ _ _ hr u hu);simp only [Nat.add_zero] at hst;have hz:=run_sizeOf T hT w;rw [hs,<- hcs] at hz;have hvl:v.cells.toList=cs:=by rw [hv]
  have:(execOp ρ ⟨dst,.store t x y,ty,pos,af,gd⟩).run P w=.ok .skip (w.setRow g (cur.take (j*L.size)++cs++cur.drop (j*L.size+cs.length)).toArray):=by
   simp only [execOp,hrd _ _ hx,hrd _ _ hy,Instr.storeAt,Instr.sureAddr,Sem.run_bind,Sem.run_pure,Result.andThen_ok,storeVar,hz,hvl];simp [hst,hv]
  rw [this];have hflat:(xs.flatMap Prod.snd).length=n*L.size:=by rw [YaQ (fun p hp=>L.len (e2 p hp)),hxl]
  have hcur:cur=xs.flatMap Prod.snd++cur.drop (n*L.size):=by rw [<- e3,List.take_append_drop]
  have hnew:(cur.take (j*L.size)++cs++cur.drop (j*L.size+cs.length)).take (n*L.size)=(xs.set j (d,cs)).flatMap Prod.snd:=by
   rw [<- Yen (z:=L.size) (d:=(d,cs)) hcs (fun p hp=>L.len (e2 p hp)) Zi,hcs];generalize hf:xs.flatMap Prod.snd=fl at*;generalize hT':cur.drop (n*L.size)=tl at*;subst hcur;have a1:(fl++tl).take (j*L.size)=fl.take (j*L.size):=List.take_append_of_le_length Zi;have a2:(fl++tl).drop (j*L.size+L.size)=fl.drop (j*L.size+L.size)++tl:=List.drop_append_of_le_length Zi;rw [a1,a2,<- List.append_assoc,List.take_append_of_le_length (by simp only [List.length_append,List.length_take,List.length_drop];omega),Zl (by simp only [List.length_append,List.length_take,List.length_drop];omega)]
  refine ⟨fz,_,hw.write (o':=.cells (cur.take (j*L.size)++cs++cur.drop (j*L.size+cs.length)).toArray t' (0,0)) rfl rfl rfl (by simp) ?_ (fun k hk=>?_),h _ ⟨⟨xs.set j (d,cs),?_,fun p hp=>?_,hnew⟩,by rw [List.length_set];exact hb.len,hcap,hb.max,?_⟩⟩
  ·simp [World.setRow,Array.getElem?_modify,hgb]
  ·simp only [World.setRow,Array.getElem?_modify];rw [if_neg Zi]
  ·rw [<- e1,List.map_set]
  ·rcases List.mem_or_eq_of_mem_set hp with hp | rfl
   ·exact e2 p hp
   exact hr
  simp only [List.length_append,List.length_take,List.length_drop];omega
end
end Go.Lx
namespace Go.Proofs.YtbdpaoikccabhaaGreatDoor
variable {α:Type} {fz fz':FZ} {g j n c k:Nat} {v vb va vk:Value} {A B:Option Addr} {cs:List Value} {f:Formula} {L:Lay α}
theorem Yes:OneC exprL:=by
 intro fz d cs h u hu;obtain ⟨va,vk,rfl,hR⟩:=YF h;obtain ⟨⟨A,n,c,rfl,_⟩,⟨B,m,d,rfl,_⟩⟩:=hR.sls;simp at hu;rcases hu with rfl | rfl | rfl | rfl | rfl<;>rfl
theorem YfX:OneC formulaL:=by
 intro fz d cs h u hu;obtain ⟨va,vp,ve,vk,rfl,hR⟩:=Yu h;obtain ⟨⟨A,n,c,rfl,_⟩,⟨B,m,d,rfl,_⟩,⟨C,q,e,rfl,_⟩,⟨D,o,f,rfl,_⟩⟩:=hR.sls;simp at hu;rcases hu with rfl | rfl | rfl | rfl | rfl | rfl<;>rfl
theorem YmQ {α:Type} {z:Nat}:∀ {xs:List (α × List Value)} {j:Nat} {p:α × List Value},(∀ p∈xs,p.2.length=z)->xs[j]?=some p->((xs.flatMap Prod.snd).drop (j*z)).take z=p.2
 | [],j,p,_,h=>by simp at h
 | x::r,0,p,h,hj=>by
  simp at hj;subst hj;have hx:=h x (by simp);rw [List.flatMap_cons,Nat.zero_mul,List.drop_zero,<- hx,List.take_left]
 | x::r,j+1,p,h,hj=>by
  have hx:=h x (by simp);have ih:=YmQ (xs:=r) (j:=j) (fun p hp=>h p (by simp [hp])) (by simpa using hj);have e:(j+1)*z=x.2.length+j*z:=by rw [Nat.succ_mul];omega
  rw [List.flatMap_cons,e,List.drop_append,List.drop_eq_nil_of_le Zi,List.nil_append,Nat.add_sub_cancel_left];exact ih
theorem YbH {e:Nat} {cap:Nat} {cur:List Value} {l:List α} (h:GrowB L e fz g n cap cur l) {d:α} (hj:l[j]?=some d):∃ cs,L.rep fz d cs/\(cur.drop (j*L.size)).take L.size=cs:=by
 obtain ⟨xs,h1,h2,h3⟩:=h.pairs;have hl:=h.len;have hjl:j<n:=by have:=(Zg hj).1;omega
 rw [<- h1,List.getElem?_map] at hj;cases hx:xs[j]? with
 | none=>rw [hx] at hj;cases hj
 | some p=>
  rw [hx] at hj;simp at hj;subst hj;refine ⟨p.2,h2 p (Zm hx),?_⟩;rw [<- YmQ (fun p hp=>L.len (h2 p hp)) hx,<- h3,List.drop_take,List.take_take];have:j*L.size+L.size<=n*L.size:=by rw [<- Nat.succ_mul];exact Nat.mul_le_mul_right _ hjl
  rw [Nat.min_eq_left Zi]
section
variable {P:Program} {cx:Cx} {r:Operand->Option Value} {fz:FZ} {H:HP} {dst:Option Nat} {ty:TypeId} {pos:String} {af:Array Edge} {gd:Option (Nat × Bool)} {V:Value->Prop}
variable {o:Oper}
theorem Does.perm {H':HP} {K:Value->FZ->HP->Prop} (hp:H'.Perm H) (h:Does P cx o r fz H' K):Does P cx o r fz H K:=Does.of fun ρ w hr hw=>h.run ρ w hr (hw.perm hp)
variable {X:Ty} {e t:TypeId}
theorem Yit (T:Tab P) {k:TypeId} {K E:Ty} {x:Bs} {w:World} (hT:T.inf t=some X) (hd:X.desc=.map k e) (hK:T.inf k=some K) (hkd:K.desc=.string) (hE:T.inf e=some E):
 (Instr.lookup t (.map none) (Zy x) true).run P w=.ok (.tuple #[E.zero,Zo false]) w:=by
 have hu:=run_underlying (und_plain T hT hd rfl) w;have hz:=Ybz T hE w;have hf:=Yam T hK hkd x [] w;simp only [Xp] at hf;simp only [Instr.lookup,Sem.run_bind,hu,Result.andThen_ok,Sem.run_pure,W5 T hK hkd,hf];simp [fndS,hz]
variable {v:Value} {y:Operand}
theorem Ylk (T:Tab P) {k:TypeId} {z:Operand} {K E:Ty} {x:Bs} (hT:T.inf t=some X) (hd:X.desc=.map k e) (hK:T.inf k=some K) (hkd:K.desc=.string) (hE:T.inf e=some E)
 (hy:r y=some (.map none)) (hz:r z=some (.string x)) (hv:E.zero=v) (h:V (.tuple #[v,.bool false])):DoesQ P cx ⟨dst,.lookup t y z true,ty,pos,af,gd⟩ r fz H V:=
 DoesQ.of (by rw [<- hv] at h;exact h) fun ρ w hr _=>by
  simp only [execOp,hr _ _ hy,hr _ _ hz,Sem.run_bind,Yit T hT hd hK hkd hE,Result.andThen_ok,Sem.run_pure];exact ⟨rfl,Fr.refl _ _⟩
end
def ToE (fz:FZ) (v:Value):Prop:=v=.map none\/∃ g,v=.map (some g)/\fz g=some (mapS [])
theorem ToE.mono (h:ToE fz v) (hle:Le fz fz'):ToE fz' v:=h.imp id fun ⟨g,h1,h2⟩=>⟨g,h1,hle _ _ h2⟩
theorem YmZ {l:List Lx.Expr} (h:Sl exprL fz A n c l) (hn:n<=1000000000):
 GFn prog 235 [Zc A n c] fz [] (fun v fz' H'=>Grow exprL 69 fz' v n H' l):=by
 have l1:=h.len;refine zF Tryz.func235 Tryz.ntmps235 (fun w0=>?_);refine vG ?_;refine WZ (fun eA=>?_) (fun eA=>?_)
 ·subst eA;have hl:l=[]:=by
   rcases h.elem with h0 | ⟨_,h0,_⟩
   ·exact List.eq_nil_of_length_eq_zero Zi
   cases h0
  subst hl;simp at l1;subst l1;refine zV ?_;refine Yd5 (H':=[]) (H2:=[]) rfl rfl (Zr _) (fun fz3 hle3 _=>Grow.nil _ _ _)
 refine zV ?_;refine Yd (Yas (fun gb=>?_));refine zV ?_;refine Yd (XW T (Hr:=[]) (n:=0) (l:=[]) Zz Zz Zz Zz Zz Zz Zz Zz (Zr _) (Grow.block (ys:=[]) rfl rfl (by intro p hp;cases hp) rfl) Yes h (by show _*88<=_;omega) Zi (fun v' Hs' hO'=>?_));obtain ⟨Av',cv',rfl,_,_⟩:=hO'.form;refine zV ?_;refine Yd5 (H':=Hs') (H2:=[]) rfl rfl (by simp) (fun fz3 hle3 _=>(hO'.mono hle3).of (by simp) Zi)
theorem cloneF_q {l:List Formula} (h:Sl formulaL fz A n c l) (hn:n<=1000000000):
 GFn prog 236 [Zc A n c] fz [] (fun v fz' H'=>Grow formulaL 35 fz' v n H' l):=by
 have l1:=h.len;refine zF Tryz.func236 Tryz.ntmps236 (fun w0=>?_);refine vG ?_;refine WZ (fun eA=>?_) (fun eA=>?_)
 ·subst eA;have hl:l=[]:=by
   rcases h.elem with h0 | ⟨_,h0,_⟩
   ·exact List.eq_nil_of_length_eq_zero Zi
   cases h0
  subst hl;simp at l1;subst l1;refine zV ?_;refine Yd5 (H':=[]) (H2:=[]) rfl rfl (Zr _) (fun fz3 hle3 _=>Grow.nil _ _ _)
 refine zV ?_;refine Yd (Yas (fun gb=>?_));refine zV ?_;refine Yd (XW T (Hr:=[]) (n:=0) (l:=[]) Zz Zz Zz Zz Zz Zz Zz Zz (Zr _) (Grow.block (ys:=[]) rfl rfl (by intro p hp;cases hp) rfl) YfX h (by show _*128<=_;omega) Zi (fun v' Hs' hO'=>?_));obtain ⟨Av',cv',rfl,_,_⟩:=hO'.form;refine zV ?_;refine Yd5 (H':=Hs') (H2:=[]) rfl rfl (by simp) (fun fz3 hle3 _=>(hO'.mono hle3).of (by simp) Zi)
theorem YhH {vt:Value} {l:List Bs} (h:Sl strL fz A n c l) (hn:n<=1000000000) (ht:ToE fz vt):
 GFn prog 234 [Zc A n c,vt,vb] fz [] (fun v fz' H'=>H'=[]/\IsSl strL fz' v l):=by
 have ln:=h.len;refine zF Tryz.func234 Tryz.ntmps234 (fun w0=>?_);refine zW ?_;refine Yd (Yk [] [] Zz (YbI h hn) (fun v6 fz6 H6 hle6 hR6=>?_));obtain ⟨A6,c6,rfl,_,_⟩:=hR6.form;refine Seq.freezeAll (H1:=[]) (H2:=H6) (by simp) (fun fz7 hle7 hf7=>?_);obtain ⟨A7,c7,e7,h7⟩:=hR6.sl hle7 hf7 Zi;injection e7 with e71 e72 e73
 subst e71;subst e73;have ht7:=ht.mono (hle6.trans hle7);refine zW ?_;refine Yn (fun q σ fz' H'=>∃ k:Nat,k<=n/\q=n - k/\σ=[(16,Zk k),(15,Zk n),(14,Zc A6 n c6),(7,Zc A6 n c6),(1,vt),(2,vb)]/\fz7=fz'/\H'=[]) ⟨0,Z0 _,rfl,rfl,rfl,rfl⟩ Zw Zb ?_;rintro q σ fz' H' ⟨k,hk,rfl,rfl,rfl,rfl⟩;refine wC ?_ ?_<;>intro c1
 ·obtain ⟨x,hx⟩:=Yf (l:=l) (k:=k) Zi;refine wI h7 hx (fun p1 hp1=>?_);refine zH hp1 (fun hs1=>?_);refine zW ?_;rcases ht7 with rfl | ⟨g,rfl,hg⟩
  ·refine zG ?_;refine Ylk (v:=Ze) T Zz Zz Zz Zz Zz Zz Zz rfl ?_;exact wP (h:=by exact ⟨k+1,by omega,rfl,rfl,rfl,rfl⟩)
  refine zG ?_;refine YY (v:=Ze) (b:=false) hg ?_ (hv:=rfl) (hb:=rfl);exact wP (h:=by exact ⟨k+1,by omega,rfl,rfl,rfl,rfl⟩)
 refine zW ?_;exact Yb1 rfl rfl (fun fz3 hle3 _=>⟨rfl,(h7.mono hle3).is⟩)
theorem Wt {α:Type}:∀ {l:List α} {k:Nat} {x:α},l[k]?=some x->l.set k x=l
 | [],k,x,h=>by simp at h
 | a::r,0,x,h=>by simp at h;subst h;rfl
 | a::r,k+1,x,h=>by rw [List.set_cons_succ,Wt (by simpa using h)]
def ExprV (fz:FZ) (e:Lx.Expr) (v:Value):Prop:=∃ wa wk,v=.agg #[Zy e.op,Zy e.name,Zk e.n,wa,wk]/\ExprR fz e wa wk
theorem Yjm:∀ (s:Nat) {fz:FZ} {e:Lx.Expr} {va vk vt vb:Value},SizeOf.sizeOf e<=s->ExprR fz e va vk->ToE fz vt->eW e<=1000000000->
 GFn prog 233 [.agg #[Zy e.op,Zy e.name,Zk e.n,va,vk],vt,vb] fz [] (fun v fz' H'=>H'=[]/\ExprV fz' e v)
 | 0,_,e,_,_,_,_,hse,_,_,_=>by cases e;simp at hse
 | s+1,fz,e,va,vk,vt,vb,hse,hR,ht,hW=>by
  have hweq:=YnN e;have hkl:=XR YmU e.kids;obtain ⟨⟨B1,m1,d1,rfl,ia⟩,⟨B2,m2,d2,rfl,ik⟩⟩:=hR.sls;have l1:=ia.len;have l2:=ik.len;refine zF Tryz.func233 Tryz.ntmps233 (fun w0=>?_);refine zW ?_;intros;rename_i g3 g6;refine Yd (Yk [] [_,_] Zz (YhH ia Zi ht) (fun v1 fz1 H1 hle1 hR1=>?_));obtain ⟨rfl,B3,m3,d3,rfl,ia1⟩:=hR1;refine zW ?_;refine Yd (Yk [] [_,_] Zz (YmZ (ik.mono hle1) Zi) (fun v2 fz2 H2 hle2 hR2=>?_));obtain ⟨B4,d4,rfl,_,_⟩:=hR2.form;refine Seq.perm Zq ?_;refine zW ?_;refine Yn (fun q σ fz' H'=>∃ (k:Nat) (Hk:HP),k<=m2/\q=m2 - k/\σ=[(22,Zk k),(21,Zk m2),(20,Zc B4 m2 d4),(6,Zp g6),(3,Zp g3),(1,vt),(2,vb)]/\Le fz2 fz'/\
   H'=(g6,Zu #[Ze,Ze,Zk 0,Zn,Zn] 69)::(g3,Zu #[Zy e.op,Zy e.name,Zk e.n,Zc B3 m3 d3,Zc B4 m2 d4] 69)::Hk/\
   Grow exprL 69 fz' (Zc B4 m2 d4) m2 Hk e.kids) ⟨0,H2,Z0 _,rfl,rfl,Zd,rfl,hR2⟩ Zw Zb ?_
  rintro q σ fz' H' ⟨k,Hk,hk,rfl,rfl,hle,rfl,hG⟩;refine wC ?_ ?_<;>intro c1
  ·obtain ⟨x,hx⟩:=Yf (l:=e.kids) (k:=k) Zi;have hxm:=Zm hx;have hlt:=Expr.kids_lt hxm;have hxw:=Xg (w:=eW) hxm;obtain ⟨gk,cap,cur,e8,rfl,hB⟩:=hG.b Zi;injection e8 with e81 e82 e83
   subst e81;subst e83;obtain ⟨cs,hrx,hcx⟩:=YbH hB hx;obtain ⟨wa,wk,rfl,hRx⟩:=YF hrx;obtain ⟨⟨E1,r1,q1,rfl,_⟩,⟨E2,r2,q2,rfl,_⟩⟩:=hRx.sls;refine wG ?_;refine Yo rfl ?_;refine zG ?_;refine Yh (vs:=[Zy x.op,Zy x.name,Zk x.n,Zc E1 r1 q1,Zc E2 r2 q2]) 2 ?_ (hv:=hcx);refine zWN ?_;intros;refine Y6 [_,_,_,_] ?_;refine zW ?_;refine pU ?_;refine Yg (Yk [] [_,_,_,_] Zz (Yjm s Zi hRx (ht.mono (hle1.trans (hle2.trans hle))) Zi) (fun v5 fz5 H5 hle5 hR5=>⟨⟨hle5,Zx⟩,?_⟩));obtain ⟨rfl,wa5,wk5,rfl,hR5⟩:=hR5;refine Ch.qk ⟨hle5,Zx⟩ (Yo rfl ?_);refine Ch.hard0 (YE (pre:=[_,_,_]) (L:=exprL) (j:=k) rfl rfl Yes (WL hR5) (hB.mono hle5) (fun cur1 hB1=>?_));refine Ch.done ?_;exact wP (h:=by exact ⟨k+1,_,by omega,rfl,rfl,hle.trans hle5,rfl,hB1.grow.of (Wt hx) rfl⟩)
  refine zW ?_;refine YW (i:=0) rfl (fun fz3 hle3 hf3=>?_);obtain ⟨A9,c9,e9,h9⟩:=hG.sl hle3 (fun p hp=>hf3 p (by simp [hp])) Zi;injection e9 with e91 e92 e93
  subst e91;subst e93;exact ⟨rfl,_,_,rfl,{hR with args:=(ia1.mono (hle2.trans (hle.trans hle3))).is,kids:=h9.is}⟩
def valN:List Bs->List Bs->Bs->Bs
 | n::ns,a::bs,s=>if n=s then a else valN ns bs s
 | _,_,s=>s
theorem Yoi {s a:Bs}:∀ {ns bs:List Bs} {i:Nat} {x:Bs},(∀ j,j<i->∀ y,ns[j]?=some y->¬s=y)->ns[i]?=some x->s=x->bs[i]?=some a->valN ns bs s=a
 | [],_,i,_,_,h,_,_=>by simp at h
 | n::ns,[],i,_,_,_,_,h=>by simp at h
 | n::ns,b::bs,0,x,_,h,e,hb=>by
  simp at h hb;subst h hb;rw [valN,if_pos e.symm]
 | n::ns,b::bs,i+1,x,hh,h,e,hb=>by
  rw [valN,if_neg (fun e'=>hh 0 Zi n rfl e'.symm)];exact Yoi (i:=i) (fun j hj y hy=>hh (j+1) Zi y (by simpa using hy)) (by simpa using h) e (by simpa using hb)
theorem Yoh {s:Bs}:∀ {ns bs:List Bs},(∀ y∈ns,¬s=y)->valN ns bs s=s
 | [],_,_=>by rw [valN];simp
 | n::ns,[],_=>by rw [valN];simp
 | n::ns,b::bs,h=>by rw [valN,if_neg (fun e=>h n (by simp) e.symm)];exact Yoh (fun y hy=>h y (by simp [hy]))
theorem Yf0 {α:Type} {p:α->Prop}:∀ l:List α,(∀ x∈l,¬p x)\/∃ (i:Nat) (x:α),(∀ j,j<i->∀ y,l[j]?=some y->¬p y)/\l[i]?=some x/\p x
 | []=>.inl (by simp)
 | x::r=>by
  by_cases h:p x
  ·exact .inr ⟨0,x,fun j hj=>absurd hj Zi,rfl,h⟩
  rcases Yf0 (p:=p) r with h1 | ⟨i,y,h1,h2,h3⟩
  ·exact .inl (by intro y hy;rcases List.mem_cons.1 hy with rfl | hy;exact h;exact h1 y hy)
  refine .inr ⟨i+1,y,fun j hj z hz=>?_,by simpa using h2,h3⟩;cases j with
  | zero=>simp at hz;subst hz;exact h
  | succ j=>exact h1 j Zi z (by simpa using hz)
theorem set_map {f:α->α} {l:List α} {x:α} (hx:l[k]?=some x):((l.take k).map f++l.drop k).set k (f x)=(l.take (k+1)).map f++l.drop (k+1):=by
 have hk:k<l.length:=(Zg hx).1;have h1:((l.take k).map f).length=k:=by rw [List.length_map,List.length_take];omega
 rw [List.set_append_right _ _ Zi,h1,Nat.sub_self,List.drop_eq_getElem_cons hk,List.set_cons_zero,List.take_add_one,hx];simp
theorem Yh8 {C:Option Addr} {m d q e:Nat} {l ns bs:List Bs} (h:Sl strL fz A n c l) (hn:n<=1000000000) (hN:Sl strL fz B m d ns) (hB:Sl strL fz C q e bs) (hl:ns.length<=bs.length):
 GFn prog 58 [Zc A n c,Zc B m d,Zc C q e] fz [] (fun v fz' H'=>H'=[]/\∃ A c,v=Zc A n c/\Sl strL fz' A n c (l.map (valN ns bs))):=by
 have ln:=h.len;have lN:=hN.len;have lB:=hB.len;have sB:=hB.short;refine zF Tryz.func58 Tryz.ntmps58 (fun w0=>?_);refine zW ?_;refine Yd (Yk [] [] Zz (YbI h hn) (fun v6 fz6 H6 hle6 hR6=>?_));obtain ⟨A6,c6,rfl,_,_⟩:=hR6.form;rw [List.append_nil];have hN6:=hN.mono hle6;have hB6:=hB.mono hle6;rcases Nat.eq_zero_or_pos n with h0 | hpos
 ·subst h0;have hl0:l=[]:=List.eq_nil_of_length_eq_zero Zi;subst hl0;refine zW ?_;refine Yn (fun q' σ fz' H'=>q'=0/\σ=[(15,Zk 0),(14,Zk 0),(13,Zc A6 0 c6),(7,Zc A6 0 c6)]/\fz6=fz'/\H'=H6) ⟨rfl,rfl,rfl,rfl⟩ Zw Zb ?_;rintro q' σ fz' H' ⟨rfl,rfl,rfl,rfl⟩;refine wC ?_ ?_<;>intro c1
  ·exact absurd c1 Zi
  refine zW ?_;refine Yb1 rfl rfl (fun fz3 hle3 hf3=>?_);obtain ⟨A',c',he,hsl⟩:=hR6.sl hle3 hf3 Zi;injection he with x1 x2 x3
  subst x1 x3;exact ⟨rfl,_,_,rfl,hsl⟩
 obtain ⟨g,cap,cur,e6,rfl,hb⟩:=hR6.b hpos;injection e6 with e61 e62 e63
 subst e61 e63;refine zW ?_;refine Yn (fun q' σ fz' H'=>∃ (k:Nat) (cur:List Value),k<=n/\q'=n - k/\σ=[(15,Zk k),(14,Zk n),(13,Zv g n c6),(7,Zv g n c6),(1,Zc B m d),(2,Zc C q e)]/\fz6=fz'/\H'=[(g,Zu cur.toArray 9)]/\GrowB strL 9 fz6 g n c6 cur ((l.take k).map (valN ns bs)++l.drop k)) ⟨0,cur,Z0 _,rfl,rfl,rfl,rfl,by simpa using hb⟩ Zw Zb ?_;rintro q' σ fz' H' ⟨k,cur1,hk,rfl,rfl,rfl,rfl,hb1⟩;refine wC ?_ ?_<;>intro c1
 ·obtain ⟨x,hx⟩:=Yf (l:=l) (k:=k) Zi;have hkx:((l.take k).map (valN ns bs)++l.drop k)[k]?=some x:=by
   rw [List.getElem?_append_right (by rw [List.length_map,List.length_take];omega),List.length_map,List.length_take,List.getElem?_drop,show k+(k - min k l.length)=k by omega];exact hx
  have hset:=set_map (f:=valN ns bs) hx;obtain ⟨cs1,hr1,hc1⟩:=YbH hb1 hkx;obtain ⟨rfl,hsx⟩:=hr1;refine wG ?_;refine Yo rfl ?_;have hcx:cur1[(k:Int).toNat*1]?=some (Zy x):=by
   have:((cur1.drop (k*1)).take 1)[0]?=some (Zy x):=by rw [show (cur1.drop (k*1)).take 1=[Zy x] from hc1];rfl
   rw [List.getElem?_take_of_lt Zi,List.getElem?_drop] at this;simpa using this
  refine zG ?_;refine Yw 0 ?_ (hv:=hcx);refine wc (YmH (x:=x) hN6) ?_;rcases Yf0 (p:=fun y=>x=y) ns with h1 | ⟨i,y,h1,h2,h3⟩
  ·have hv:=Yoh (bs:=bs) h1;rw [Xo h1];rw [hv] at hset;refine wC ?_ ?_<;>intro c2
   ·exact absurd c2 Zi
   exact wP (h:=by exact ⟨k+1,cur1,by omega,rfl,rfl,rfl,rfl,by rw [<- hset,Wt hkx];exact hb1⟩)
  have hi:i<bs.length:=by have:=(Zg h2).1;omega
  obtain ⟨a,ha⟩:=Yf (l:=bs) (k:=i) hi;have hv:=Yoi h1 h2 h3 ha;rw [XQ h1 h2 h3,Int.zero_add];rw [hv] at hset;refine wC ?_ ?_<;>intro c2
  ·refine wI hB6 ha (fun p1 hp1=>?_);refine zH hp1 (fun hsa=>?_);refine wG ?_;refine Yo rfl ?_;refine YI (YE (pre:=[]) (L:=strL) (j:=k) rfl rfl WY ⟨rfl,hsa⟩ hb1 (fun cur2 hb2=>?_));exact wP (h:=by exact ⟨k+1,cur2,by omega,rfl,rfl,rfl,rfl,by rw [<- hset];exact hb2⟩)
  exact absurd (show (0:Int)<=i by omega) c2
 have hk2:n=k:=by omega
 subst hk2;have hb3:=hb1.grow;rw [Zl Zi,List.drop_eq_nil_of_le Zi,List.append_nil] at hb3;refine zW ?_;refine Yb1 rfl rfl (fun fz3 hle3 hf3=>?_);obtain ⟨A',c',he,hsl⟩:=hb3.sl hle3 hf3 Zi;injection he with x1 x2 x3
 subst x1 x3;exact ⟨rfl,_,_,rfl,hsl⟩
mutual
def bE (ns bs:List Bs):Lx.Expr->Lx.Expr
 | .mk op name n args kids=>.mk op name n (args.map (valN ns bs)) (bEL ns bs kids)
def bEL (ns bs:List Bs):List Lx.Expr->List Lx.Expr
 | []=>[]
 | e::r=>bE ns bs e::bEL ns bs r
end
theorem bEL_eq {ns bs:List Bs}:∀ l:List Lx.Expr,bEL ns bs l=l.map (bE ns bs)
 | []=>rfl
 | e::r=>by rw [bEL,bEL_eq r,List.map_cons]
theorem bE_eq {ns bs:List Bs} (e:Lx.Expr):bE ns bs e=.mk e.op e.name e.n (e.args.map (valN ns bs)) (e.kids.map (bE ns bs)):=by
 cases e;rw [bE,bEL_eq];rfl
theorem Yjl:∀ (s:Nat) {fz:FZ} {e:Lx.Expr} {va vk:Value} {B C:Option Addr} {m d q c:Nat} {ns bs:List Bs},SizeOf.sizeOf e<=s->ExprR fz e va vk->Sl strL fz B m d ns->Sl strL fz C q c bs->ns.length<=bs.length->eW e<=1000000000->
 GFn prog 103 [.agg #[Zy e.op,Zy e.name,Zk e.n,va,vk],Zc B m d,Zc C q c] fz [] (fun v fz' H'=>H'=[]/\ExprV fz' (bE ns bs e) v)
 | 0,_,e,_,_,_,_,_,_,_,_,_,_,hse,_,_,_,_,_=>by cases e;simp at hse
 | s+1,fz,e,va,vk,B,C,m,d,q,c,ns,bs,hse,hR,hN,hB,hl,hW=>by
  have hweq:=YnN e;have hkl:=XR YmU e.kids;obtain ⟨⟨B1,m1,d1,rfl,ia⟩,⟨B2,m2,d2,rfl,ik⟩⟩:=hR.sls;have l1:=ia.len;have l2:=ik.len;refine zF Tryz.func103 Tryz.ntmps103 (fun w0=>?_);refine zW ?_;intros;rename_i g3 g6;refine Yd (Yk [] [_,_] Zz (Yh8 ia Zi hN hB hl) (fun v1 fz1 H1 hle1 hR1=>?_));obtain ⟨rfl,B3,d3,rfl,ia1⟩:=hR1;refine zW ?_;refine Yn (fun q' σ fz' H'=>∃ (k:Nat) (vo:Value) (Hk:HP),k<=m2/\q'=m2 - k/\σ=[(19,Zk k),(18,Zk m2),(17,Zc B2 m2 d2),(7,vo),(6,Zp g6),(3,Zp g3),(1,Zc B m d),(2,Zc C q c)]/\Le fz1 fz'/\
   H'=(g6,Zu #[Ze,Ze,Zk 0,Zn,Zn] 69)::(g3,Zu #[Zy e.op,Zy e.name,Zk e.n,Zc B3 m1 d3,Zc B2 m2 d2] 69)::Hk/\
   Grow exprL 69 fz' vo k Hk ((e.kids.take k).map (bE ns bs))) ⟨0,_,[],Z0 _,rfl,rfl,Zd,rfl,Grow.nil _ _ _⟩ Zw Zb ?_
  rintro q' σ fz' H' ⟨k,vo,Hk,hk,rfl,rfl,hle,rfl,hG⟩;obtain ⟨Ao,co,rfl,_,_⟩:=hG.form;have hle01:=hle1.trans hle;refine wC ?_ ?_<;>intro c1
  ·obtain ⟨x,hx⟩:=Yf (l:=e.kids) (k:=k) Zi;have hxm:=Zm hx;have hlt:=Expr.kids_lt hxm;have hxw:=Xg (w:=eW) hxm;refine wI (ik.mono hle01) hx (fun p1 hp1=>?_);refine zL hp1 ?_;intro cs hcs;obtain ⟨wa,wk,rfl,hRx⟩:=YF hcs;obtain ⟨⟨E1,r1,q1,rfl,_⟩,⟨E2,r2,q2,rfl,_⟩⟩:=id hRx.sls;refine zW ?_;intros;rename_i g9;refine Yd (Yk [] (_::_::_::Hk) Zz (Yjl s Zi hRx (hN.mono hle01) (hB.mono hle01) hl Zi) (fun v5 fz5 H5 hle5 hR5=>?_));obtain ⟨rfl,wa5,wk5,rfl,hR5⟩:=hR5;refine Yd (Yc (cs:=[Zy (bE ns bs x).op,Zy (bE ns bs x).name,Zk (bE ns bs x).n,wa5,wk5]) (fun gb=>?_));refine Yd (YG (Hr:=[_,_,_,_]) (d:=bE ns bs x) (Zr _) (hG.mono hle5) Yes (.head _) (WL hR5) (fun v' Hs' hO'=>?_));obtain ⟨Av',cv',rfl,_,_⟩:=hO'.form;exact wP (h:=by exact ⟨k+1,_,Hs',by omega,rfl,rfl,hle.trans hle5,rfl,hO'.of (by rw [List.take_add_one,hx];simp) rfl⟩)
  have hk2:m2=k:=by omega
  subst hk2;rw [show e.kids.take m2=e.kids from Zl Zi] at hG;refine zW ?_;refine YW (i:=0) rfl (fun fz3 hle3 hf3=>?_);obtain ⟨A9,c9,e9,h9⟩:=hG.sl hle3 (fun p hp=>hf3 p (by simp [hp])) Zi;injection e9 with e91 e92 e93
  subst e91;subst e93;refine ⟨rfl,_,_,by rw [bE_eq];rfl,?_⟩;rw [bE_eq];exact {op:=hR.op,name:=hR.name,n:=hR.n,args:=(ia1.mono (hle.trans hle3)).is,kids:=h9.is}
structure Mn where
 d:Domain
 l:List Param
 os:List Param
structure MnR (fz:FZ) (v:Value) (M:Mn):Prop where
 ex:∃ (g:Nat) (v1 v2 v3 v4 v5 v6 a7 a8 a9 a10 a11 a12 a13 a14 a15 a16 a17 vf:Value) (A:Option Addr) (n c:Nat),
  v=Zp g/\fz g=some (Zu #[Zy M.d.name,v1,v2,v3,v4,v5,v6,a7,a8,a9,a10,a11,a12,a13,a14,a15,a16,a17,vf,Zc A n c] 114)/\
  DomainR fz M.d v1 v2 v3 v4 v5 v6/\ForR fz vf M.l/\Sl paramL fz A n c M.os
 w:WFT M.l
 many:M.os.length<=6
variable {M:Mn}
theorem MnR.mono (h:MnR fz v M) (hle:Le fz fz'):MnR fz' v M:=by
 obtain ⟨⟨g,v1,v2,v3,v4,v5,v6,a7,a8,a9,a10,a11,a12,a13,a14,a15,a16,a17,vf,A,n,c,h1,h2,h3,h4,h5⟩,hw,hm⟩:=h;exact ⟨⟨g,v1,v2,v3,v4,v5,v6,a7,a8,a9,a10,a11,a12,a13,a14,a15,a16,a17,vf,A,n,c,h1,hle _ _ h2,h3.mono hle,h4.mono hle,h5.mono hle⟩,hw,hm⟩
def ofN (M:Mn) (t:Bs):List Bs:=ofT M.l t M.os
theorem Ylp (M:Mn) (t:Bs):(ofN M t).length<=M.os.length:=by
 unfold ofN ofT;rw [List.length_map];exact List.length_filter_le _ _
theorem Ynx {t:Bs} (h:MnR fz v M):GFn prog 21 [v,Zy t] fz [] (fun v fz' H'=>H'=[]/\∃ B m cc,v=Zc B m cc/\Sl strL fz' B m cc (ofN M t)):=by
 obtain ⟨⟨g,v1,v2,v3,v4,v5,v6,a7,a8,a9,a10,a11,a12,a13,a14,a15,a16,a17,vf,A,n,c,rfl,hg,hD,hF,hO⟩,hw,hm⟩:=h;have ln:=hO.len;have hF0:=hF;obtain ⟨gf,gm,rfl,hf1,hf2⟩:=hF;refine zF Tryz.func21 Tryz.ntmps21 (fun w0=>?_);refine zWN ?_;refine Y6 [] ?_;refine zW ?_;refine pU ?_;refine Yg (Yk [] [] Zz (of_q hF0 hw hO Zi) (fun v2 fz2 H2 hle2 hR2=>⟨⟨hle2,by intro p hp;cases hp⟩,?_⟩));obtain ⟨rfl,B,m,cc,rfl,hS⟩:=hR2;refine Ch.qk ⟨hle2,by intro p hp;cases hp⟩ (YR ?_);refine Ch.done ?_;refine zW ?_;exact Yb1 rfl rfl (fun fz3 hle3 _=>⟨rfl,B,m,cc,rfl,hS.mono hle3⟩)
theorem Yiq {ps:List Param} (h:Sl paramL fz A n c ps) (hn:n<=1000000):
 GFn prog 56 [Zc A n c] fz [] (fun r fz' H'=>H'=[]/\∃ B m d,r=Zc B m d/\Sl strL fz' B m d (ps.map (·.name))):=by
 have lp:=h.len;have sp:=h.short;refine zF Tryz.func56 Tryz.ntmps56 (fun w0=>?_);refine zW ?_;refine Yn (fun q σ fz' H'=>∃ (k:Nat) (vo:Value) (Ho:HP),k<=n/\q=n - k/\σ=[(8,Zk k),(7,Zk n),(6,Zc A n c),(3,vo)]/\fz=fz'/\H'=Ho/\Grow strL 9 fz vo k Ho ((ps.take k).map (·.name))) ⟨0,_,[],Z0 _,rfl,rfl,rfl,rfl,Grow.nil _ _ _⟩ Zw Zb ?_;rintro q σ fz' H' ⟨k,vo,Ho,hk,rfl,rfl,rfl,rfl,hG⟩;obtain ⟨Ao,co,rfl,_,_⟩:=hG.form;refine wC ?_ ?_<;>intro c1
 ·obtain ⟨x,hx⟩:=Yf (l:=ps) (k:=k) Zi;refine wI h hx (fun p hp=>?_);refine zL hp ?_;intro cs hcs;obtain ⟨rfl,hR⟩:=YM hcs;refine zW ?_;intros;refine Yd (Yc (cs:=[Zy x.name]) (fun gc=>?_));refine Yd (YG (Hr:=[_,_]) (d:=x.name) (Zr _) hG WY (.head _) ⟨rfl,hR.name⟩ (fun v' Hs' hO'=>?_));obtain ⟨Av',cv',rfl,_,_⟩:=hO'.form;exact wP (h:=by exact ⟨k+1,_,Hs',by omega,rfl,rfl,rfl,rfl,hO'.of (by rw [List.take_add_one,hx];simp) rfl⟩)
 have hk1:n=k:=by omega
 subst hk1;rw [show ps.take n=ps from Zl Zi] at hG;refine zW ?_;refine Yb1 rfl rfl (fun fz3 hle3 hf3=>?_);obtain ⟨A',c',he,hsl⟩:=hG.sl hle3 hf3 Zi;injection he with x1 x2 x3
 subst x1 x3;exact ⟨rfl,_,_,_,rfl,hsl⟩
def Ye1 (M:Mn) (out:List (List Bs)) (p:Param):List (List Bs):=out.flatMap fun l=>(ofN M p.typ).map fun o=>l++ [o]
def tupF (M:Mn) (ps:List Param):List (List Bs):=ps.foldl (Ye1 M) [[]]
def tupM (M:Mn) (ps:List Param):List (List Bs):=if ∃ p∈ps,ofN M p.typ=[] then [] else tupF M ps
theorem YlD {α β:Type} {f:α->List β} {b:Nat}:∀ {l:List α},(∀ x∈l,(f x).length<=b)->(l.flatMap f).length<=l.length*b
 | [],_=>by simp
 | x::r,h=>by
  have h1:=h x (by simp);have h2:=YlD (f:=f) (b:=b) (l:=r) (fun y hy=>h y (by simp [hy]));rw [List.flatMap_cons,List.length_append,List.length_cons,Nat.succ_mul];omega
theorem Yj8 (hm:M.os.length<=6) (out:List (List Bs)) (p:Param):(Ye1 M out p).length<=out.length*6:=
 YlD fun l _=>by rw [List.length_map];exact Nat.le_trans (Ylp M p.typ) hm
theorem Yma (hm:M.os.length<=6) {ps:List Param} (h:ps.length<=3):(tupF M ps).length<=216:=by
 have a:=Yj8 hm
 match ps,h with
 | [],_=>show 1<=216;omega
 | [p],_=>have:=a [[]] p;exact Nat.le_trans this Zh
 | [p,q],_=>have h1:=a [[]] p;have h2:=a (Ye1 M [[]] p) q;simp only [List.length_singleton] at h1;exact Nat.le_trans h2 Zi
 | [p,q,r],_=>have h1:=a [[]] p;have h2:=a (Ye1 M [[]] p) q;have h3:=a (Ye1 M (Ye1 M [[]] p) q) r;simp only [List.length_singleton] at h1;exact Nat.le_trans h3 Zi
theorem Ygc (M:Mn):∀ (ps:List Param) (out:List (List Bs)) (k:Nat),(∀ l∈out,l.length=k)->∀ l∈ps.foldl (Ye1 M) out,l.length=k+ps.length
 | [],_,_,h=>h
 | p::ps,out,k,h=>by
  intro l hl;have:=Ygc M ps (Ye1 M out p) (k+1) (fun l hl=>by
   obtain ⟨l',h2,h3⟩:=List.mem_flatMap.1 hl;obtain ⟨o,_,rfl⟩:=List.mem_map.1 h3;rw [List.length_append,h l' h2];rfl) l hl
  rw [this,List.length_cons];omega
theorem Yov {x:Param} {g2:Nat} {t2:TypeId} (hM:MnR fz v M) (h2:fz g2=some (.cells #[v] t2 (0,0))) (hcs:paramL.rep fz x cs):
 QFn prog 52 (.agg cs.toArray:: [Zp g2]) fz (Zo (decide (ofN M x.typ=[]))):=by
 obtain ⟨rfl,hRx⟩:=YM hcs;have hM0:=hM;obtain ⟨⟨g,v1,v2,v3,v4,v5,v6,a7,a8,a9,a10,a11,a12,a13,a14,a15,a16,a17,vf,A,n,c,rfl,hg,hD,hF,hO⟩,hw,hm⟩:=hM;refine qF Tryz.func52 Tryz.ntmps52 (fun w0=>?_);refine pX (fun g9=>?_);refine zW ?_;refine Yd (Yk [] [_] Zz (Ynx (t:=x.typ) hM0) (fun v4 fz4 H4 hle4 hR4=>?_));obtain ⟨rfl,B,m,cc,rfl,hS⟩:=hR4;have lS:=hS.len;refine wC ?_ ?_<;>intro c1
 ·exact wR (h:=by exact Ys (List.eq_nil_of_length_eq_zero Zi))
 exact wR (h:=by exact Yj (fun h=>c1 (by rw [h] at lS;simp at lS;omega)))
theorem Yl9 {ps:List Param} (hM:MnR fz v M) (hps:Sl paramL fz A n c ps) (hn:n<=3):
 GFn prog 22 [v,Zc A n c] fz [] (fun r fz' H'=>H'=[]/\∃ B m d,r=Zc B m d/\Sl (slL strL) fz' B m d (tupM M ps)):=by
 have lp:=hps.len;have hM0:=hM;have hmany:=hM.many;obtain ⟨⟨g,v1,v2,v3,v4,v5,v6,a7,a8,a9,a10,a11,a12,a13,a14,a15,a16,a17,vf,Ao,no,co,rfl,hg,hD,hF,hO⟩,hw,hm⟩:=hM;refine zF Tryz.func22 Tryz.ntmps22 (fun w0=>?_);refine pX (fun g2=>?_)
 first | refine Wp.freeze Zz (fun fz0 hle0 hf0=>?_) | refine Seq.freeze Zz (fun fz0 hle0 hf0=>?_)
 refine wG ?_;refine Y0 ?_
 ((refine zG ?_);refine XS (YcL (cap:=[Zp g2]) (p:=fun x=>ofN M x.typ=[]) (hps.mono hle0) (fun x _ cs hcs=>Yov (hM0.mono hle0) hf0 hcs)) (fun f1=>?_) (fun f1=>?_))
 ·have f2:=Zt f1;refine zW ?_;exact Yb1 rfl rfl (fun fz3 hle3 _=>⟨rfl,none,0,0,rfl,by rw [tupM,if_pos f2];exact Sl.nil⟩)
 have f2:=Zf f1;refine zW ?_;refine Yd (Yc (cs:=[Zn]) (fun gb=>?_));refine Seq.freezeAll (H1:=[]) (H2:=[_]) (Zr _) (fun fz1 hle1 hf1=>?_);have hgb:Grow (slL strL) 31 fz0 (Zv gb 1 1) 1 [(gb,Zu #[Zn] 31)] [[]]:=
  Grow.block (ys:=[(([]:List Bs),[Value.slice none 0 0])]) rfl rfl (by intro p hp;simp at hp;subst hp;exact ⟨none,0,0,rfl,Sl.nil⟩) rfl
 obtain ⟨B1,d1,e1,hS1⟩:=hgb.sl hle1 hf1 Zh;injection e1 with e11 e12 e13
 subst e11;subst e13;have hg2:=hle1 _ _ hf0;have hle01:=hle0.trans hle1;refine zW ?_;refine Yn (fun q σ fz' H'=>∃ (k:Nat) (B:Option Addr) (m d:Nat),k<=n/\q=n - k/\σ=[(19,Zk k),(18,Zk n),(17,Zc A n c),(5,Zc B m d),(2,Zp g2)]/\Le fz1 fz'/\H'=[]/\Sl (slL strL) fz' B m d (tupF M (ps.take k))) ⟨0,_,_,_,Z0 _,rfl,rfl,Zd,rfl,hS1⟩ Zw Zb ?_;rintro q σ fz2 H' ⟨k,B,m,d,hk,rfl,rfl,hle2,rfl,hS⟩;have lm:=hS.len;have hml:=Yma hmany (ps:=ps.take k) (by rw [List.length_take];omega);have hg3:=hle2 _ _ hg2;refine wC ?_ ?_<;>intro c1
 ·obtain ⟨x,hx⟩:=Yf (l:=ps) (k:=k) Zi;refine wI (hps.mono (hle01.trans hle2)) hx (fun p1 hp1=>?_);refine zL hp1 ?_;intro cs hcs;obtain ⟨rfl,hRx⟩:=YM hcs;refine zW ?_;intros;rename_i g9;refine Yn (fun q σ fz' H'=>∃ (j mm:Nat) (vn:Value) (Hn:HP),j<=m/\q=m - j/\mm<=j*6/\σ=[(25,Zk j),(24,Zk m),(23,Zc B m d),(19,Zk k),(18,Zk n),(17,Zc A n c),(8,vn),(7,Zp g9),(2,Zp g2)]/\Le fz2 fz'/\H'=(g9,Zu #[Zy x.name,Zy x.typ] 86)::Hn/\Grow (slL strL) 31 fz' vn mm Hn (((tupF M (ps.take k)).take j).flatMap fun l=>(ofN M x.typ).map fun o=>l++ [o]))
   ⟨0,0,_,[],Z0 _,rfl,Zs _,rfl,Zd,rfl,Grow.nil _ _ _⟩ Zw Zb ?_
  rintro q σ fz3 H' ⟨j,mm,vn,Hn,hj,rfl,hmm,rfl,hle3,rfl,hG⟩;obtain ⟨An,cn,rfl,_,_⟩:=hG.form;have hg4:=hle3 _ _ hg3;refine wC ?_ ?_<;>intro c2
  ·obtain ⟨y,hy⟩:=Yf (l:=tupF M (ps.take k)) (k:=j) Zi;have hyl:=Ygc M (ps.take k) [[]] 0 (by simp) _ (Zm hy);refine wI (hS.mono hle3) hy (fun p2 hp2=>?_)
   ((refine zG ?_);refine Wy hp2 (fun Ay ny cy hy2=>?_));have ly:=hy2.len;have hny:ny<=3:=by rw [<- ly,hyl,List.length_take];omega
   refine zW ?_;refine Yd (Yk [] (_::Hn) Zz (Ynx (t:=x.typ) (hM0.mono (hle01.trans (hle2.trans hle3)))) (fun v4 fz4 H4 hle4 hR4=>?_));obtain ⟨rfl,Bo,mo,do_,rfl,hSo⟩:=hR4;have lo:=hSo.len;have hmo:mo<=6:=by rw [<- lo];exact Nat.le_trans (Ylp M x.typ) hmany
   refine zW ?_;refine Yn (fun q σ fz' H'=>∃ (i:Nat) (vn:Value) (Hn:HP),i<=mo/\q=mo - i/\σ=[(34,Zk i),(33,Zk mo),(32,Zc Bo mo do_),(25,Zk j),(24,Zk m),(23,Zc B m d),(19,Zk k),(18,Zk n),(17,Zc A n c),(10,Zc Ay ny cy),(8,vn),(7,Zp g9),(2,Zp g2)]/\Le fz4 fz'/\H'=(g9,Zu #[Zy x.name,Zy x.typ] 86)::Hn/\Grow (slL strL) 31 fz' vn (mm+i) Hn ((((tupF M (ps.take k)).take j).flatMap fun l=>(ofN M x.typ).map fun o=>l++ [o])++((ofN M x.typ).take i).map fun o=>y++ [o]))
    ⟨0,_,Hn,Z0 _,rfl,rfl,Zd,rfl,(hG.mono hle4).of (by simp) rfl⟩ Zw Zb ?_
   rintro q σ fz5 H' ⟨i,vn5,Hn5,hi,rfl,rfl,hle5,rfl,hG5⟩;obtain ⟨A5,c5,rfl,_,_⟩:=hG5.form;refine wC ?_ ?_<;>intro c3
   ·obtain ⟨o,ho⟩:=Yf (l:=ofN M x.typ) (k:=i) Zi;refine wI (hSo.mono hle5) ho (fun p3 hp3=>?_);refine zH hp3 (fun hso=>?_);refine zW ?_;refine Yd (Yk [] (_::Hn5) Zz (YbI (hy2.mono (hle4.trans hle5)) Zi) (fun v6 fz6 H6 hle6 hR6=>?_));obtain ⟨A6,c6,rfl,_,_⟩:=hR6.form;refine zW ?_;refine Yd (Yc (cs:=[Zy o]) (fun gc7=>?_));refine Yd (YG (Hr:=(gc7,_)::(g9,_)::Hn5) (d:=o) (by exact (List.Perm.cons _ (List.perm_append_comm.trans (Zr _)))) hR6 WY (.head _) ⟨rfl,hso⟩ (fun v8 H8 hO8=>?_));obtain ⟨A8,c8,rfl,_,_⟩:=hO8.form;refine Seq.freezeAll (H1:=(gc7,_)::(g9,_)::Hn5) (H2:=H8) (Zr _) (fun fz8 hle8 hf8=>?_);obtain ⟨B8,d8,e8,hS8⟩:=hO8.sl hle8 hf8 Zi;injection e8 with e81 e82 e83
    subst e81;subst e83;refine Yd (Yc (cs:=[Zc A8 (ny+1) c8]) (fun gc9=>?_));refine Yd (YG (Hr:=(gc9,_)::(gc7,_)::(g9,_):: []) (d:=y++ [o]) (Zr _) (hG5.mono (hle6.trans hle8)) sl_one (.head _) ⟨_,_,_,rfl,hS8⟩ (fun v10 H10 hO10=>?_));obtain ⟨A10,c10,rfl,_,_⟩:=hO10.form;exact wP (h:=by exact ⟨i+1,_,H10,by omega,rfl,rfl,hle5.trans (hle6.trans hle8),rfl,hO10.of (by rw [List.take_add_one,ho];simp) rfl⟩)
   have hi2:i=mo:=by omega
   subst hi2;rw [Zl (show (ofN M x.typ).length<=i by omega)] at hG5;refine zW ?_;exact Ws ⟨j+1,mm+i,_,Hn5,by omega,rfl,by omega,rfl,hle3.trans (hle4.trans hle5),rfl,hG5.of (by
    have e7:(tupF M (ps.take k)).take (j+1)=(tupF M (ps.take k)).take j++ [y]:=by rw [List.take_add_one,hy];rfl
    rw [e7,List.flatMap_append];simp) rfl⟩ Zi Zw Zb
  have hj2:j=m:=by omega
  subst hj2;rw [Zl (show (tupF M (ps.take k)).length<=j by omega)] at hG
  first
  | refine Wp.freezeAll (H1:=[]) (H2:=_::Hn) (Zr _) (fun fz9 hle9 hf9=>?_)
  | refine Seq.freezeAll (H1:=[]) (H2:=_::Hn) (Zr _) (fun fz9 hle9 hf9=>?_)
  obtain ⟨B9,d9,e9,hS9⟩:=hG.sl hle9 (fun p hp=>hf9 p (by simp [hp])) Zi;injection e9 with e91 e92 e93
  subst e91;subst e93;exact wP (h:=by exact ⟨k+1,_,_,_,by omega,rfl,rfl,hle2.trans (hle3.trans hle9),rfl,by rw [tupF,List.take_add_one,hx,List.foldl_append];exact hS9⟩)
 have hk2:k=n:=by omega
 subst hk2;rw [Zl (show ps.length<=k by omega)] at hS;refine zW ?_;exact Yb1 rfl rfl (fun fz3 hle3 _=>⟨rfl,B,m,d,rfl,by rw [tupM,if_neg f2];exact hS.mono hle3⟩)
def FormulaV (fz:FZ) (f:Formula) (v:Value):Prop:=∃ va vp ve vk,v=.agg #[Zy f.op,Zy f.name,va,vp,ve,vk]/\FormulaR fz f va vp ve vk
theorem FormulaV.mono (h:FormulaV fz f v) (hle:Le fz fz'):FormulaV fz' f v:=by
 obtain ⟨va,vp,ve,vk,h1,h2⟩:=h;exact ⟨va,vp,ve,vk,h1,h2.mono hle⟩
theorem inner_f {op name:Bs} {B1 B2 B3 B4:Option Addr} {m1 d1 m2 d2 m3 d3 m4 d4:Nat} {ps:List Param} {bs:List Bs} (ip:Sl paramL fz B2 m2 d2 ps) (hb:Sl strL fz A n c bs) (hn:n+ps.length<=1000000000):
 GFn prog 237 [.agg #[Zy op,Zy name,Zc B1 m1 d1,Zc B2 m2 d2,Zc B3 m3 d3,Zc B4 m4 d4],Zc A n c] fz [] (fun v fz' H'=>H'=[]/\∃ B m d,v=Zc B m d/\Sl strL fz' B m d (bs++ps.map (·.name))):=by
 have l2:=ip.len;have lb:=hb.len;refine zF Tryz.func237 Tryz.ntmps237 (fun w0=>?_);refine pX (fun g2=>?_);refine zW ?_;refine Yd (Yk [] [_] Zz (YbI hb Zi) (fun v6 fz6 H6 hle6 hR6=>?_));obtain ⟨A6,c6,rfl,_,_⟩:=hR6.form;refine Seq.perm Zq ?_;refine zW ?_;refine Yn (fun q σ fz' H'=>∃ (k:Nat) (u:Value) (Hs:HP),k<=m2/\q=m2 - k/\σ=[(13,Zk k),(12,Zk m2),(11,Zc B2 m2 d2),(5,u)]/\fz6=fz'/\H'=Hs/\Grow strL 9 fz6 u (n+k) Hs (bs++(ps.take k).map (·.name))) ⟨0,_,H6,Z0 _,rfl,rfl,rfl,rfl,hR6.of (by simp) Zi⟩ Zw (List.sublist_append_right [_] _) ?_;rintro q σ fz' H' ⟨k,u,Hs,hk,rfl,rfl,rfl,rfl,hG⟩;obtain ⟨Au,cu,rfl,_,_⟩:=hG.form;refine wC ?_ ?_<;>intro c1
 ·obtain ⟨x,hx⟩:=Yf (l:=ps) (k:=k) Zi;refine wI (ip.mono hle6) hx (fun p1 hp1=>?_);refine zL hp1 ?_;intro cs hcs;obtain ⟨rfl,hRx⟩:=YM hcs;refine zW ?_;intros;refine Yd (Yc (cs:=[Zy x.name]) (fun gb=>?_));refine Yd (YG (Hr:=[_,_]) (d:=x.name) (Zr _) hG WY (.head _) ⟨rfl,hRx.name⟩ (fun v' Hs' hO'=>?_));obtain ⟨Av',cv',rfl,_,_⟩:=hO'.form;exact wP (h:=by exact ⟨k+1,_,Hs',by omega,rfl,rfl,rfl,rfl,hO'.of (by rw [List.take_add_one,hx];simp) Zi⟩)
 have hk2:k=m2:=by omega
 subst hk2;rw [Zl Zi] at hG;refine zW ?_;refine Yb1 rfl rfl (fun fz3 hle3 hf3=>?_);obtain ⟨A9,c9,e9,h9⟩:=hG.sl hle3 hf3 Zi;exact ⟨rfl,A9,_,c9,e9,h9⟩
theorem perm3 {H6 H7 H8:HP} {a b:Nat × Obj}:(a::b::((H7++H8)++H6)).Perm (H8++(H7++(H6++ [a,b]))):=by
 rw [show H8++(H7++(H6++ [a,b]))=((H8++H7)++H6)++ [a,b] from by simp [List.append_assoc]];exact (Zq (l₁:=[a,b])).trans ((List.perm_append_comm.append_right H6).append_right [a,b])
theorem bind_f:∀ (s:Nat) {fz:FZ} {f:Formula} {va vp ve vk vt:Value} {A:Option Addr} {n c:Nat} {bs:List Bs},SizeOf.sizeOf f<=s->FormulaR fz f va vp ve vk->ToE fz vt->Sl strL fz A n c bs->n+fW f<=1000000000->
 GFn prog 190 [.agg #[Zy f.op,Zy f.name,va,vp,ve,vk],vt,Zc A n c] fz [] (fun v fz' H'=>H'=[]/\FormulaV fz' f v)
 | 0,_,f,_,_,_,_,_,_,_,_,_,hse,_,_,_,_=>by cases f;simp at hse
 | s+1,fz,f,va,vp,ve,vk,vt,A,n,c,bs,hse,hR,ht,hb,hW=>by
  have hweq:=Ybu f;have hkl:=XR YpV f.kids;have hel:=XR YmU f.exprs;obtain ⟨⟨B1,m1,d1,rfl,ia⟩,⟨B2,m2,d2,rfl,ip⟩,⟨B3,m3,d3,rfl,ie⟩,⟨B4,m4,d4,rfl,ik⟩⟩:=hR.sls;have l1:=ia.len;have l2:=ip.len;have l3:=ie.len;have l4:=ik.len;have lb:=hb.len;refine zF Tryz.func190 Tryz.ntmps190 (fun w0=>?_);refine zW ?_;intros;rename_i g3 g6;refine Yd (Yk [] [_,_] Zz (YhH ia Zi ht) (fun v1 fz1 H1 hle1 hR1=>?_));obtain ⟨rfl,B5,m5,d5,rfl,ia1⟩:=hR1;refine zWN ?_;refine Y6 [_,_] ?_;refine zW ?_;refine Yl ?_;refine zW ?_;refine Yl ?_;refine zW ?_;refine Yl ?_;refine zW ?_;refine pU ?_;refine Yg (Yk [] [_,_] Zz (Ybg (ip.mono hle1) Zi) (fun v6 fz6 H6 hle6 hR6=>⟨⟨hle6,Zx⟩,?_⟩));obtain ⟨A6,c6,rfl,_,_⟩:=hR6.form;refine Yg (Yk [] (H6++ [_,_]) Zz (YmZ (ie.mono (hle1.trans hle6)) Zi) (fun v7 fz7 H7 hle7 hR7=>⟨⟨hle6.trans hle7,Zx⟩,?_⟩));obtain ⟨A7,c7,rfl,_,_⟩:=hR7.form;refine Yg (Yk [] (H7++(H6++ [_,_])) Zz (cloneF_q (ik.mono (hle1.trans (hle6.trans hle7))) Zi) (fun v8 fz8 H8 hle8 hR8=>⟨⟨hle6.trans (hle7.trans hle8),Zx⟩,?_⟩));obtain ⟨A8,c8,rfl,_,_⟩:=hR8.form;refine Ch.hard0 (Does.perm perm3 (YX ?_));refine Ch.hard Zj (DoesQ.does (Xw ?_));refine Ch.hard0 (YX ?_);refine Ch.hard Zj (DoesQ.does (Xw ?_));refine Ch.hard0 (YX ?_);refine Ch.done ?_;refine Ydt ?_;refine Wp.freezeAll (H1:=_::_::(H7++H8)) (H2:=H6) (Zr _) (fun fz9 hle9 hf9=>?_);obtain ⟨A9,c9,e9,ip9⟩:=hR6.sl (hle7.trans (hle8.trans hle9)) hf9 Zi;injection e9 with e91 e92 e93
  subst e91;subst e93;have hx0:=hle1.trans (hle6.trans (hle7.trans (hle8.trans hle9)));refine zW ?_;refine Yn (fun q σ fz' H'=>∃ (k:Nat) (Hk:HP),k<=m3/\q=m3 - k/\σ=[(32,Zk k),(31,Zk m3),(30,Zc A7 m3 c7),(6,Zp g6),(3,Zp g3),(1,vt),(2,Zc A n c)]/\Le fz9 fz'/\
   H'=(g6,Zu #[Ze,Ze,Zn,Zn,Zn,Zn] 35)::(g3,Zu #[Zy f.op,Zy f.name,Zc B5 m5 d5,Zc A6 m2 c6,Zc A7 m3 c7,Zc A8 m4 c8] 35)::(Hk++H8)/\
   Grow exprL 69 fz' (Zc A7 m3 c7) m3 Hk f.exprs) ⟨0,H7,Z0 _,rfl,rfl,Zd,rfl,hR7.mono (hle8.trans hle9)⟩ Zw Zb ?_
  rintro q σ fz' H' ⟨k,Hk,hk,rfl,rfl,hle,rfl,hG⟩;refine wC ?_ ?_<;>intro c1
  ·obtain ⟨x,hx⟩:=Yf (l:=f.exprs) (k:=k) Zi;have hxm:=Zm hx;have hxw:=Xg (w:=eW) hxm;obtain ⟨gk,cap,cur,e8,rfl,hB⟩:=hG.b Zi;injection e8 with e81 e82 e83
   subst e81;subst e83;obtain ⟨cs,hrx,hcx⟩:=YbH hB hx;obtain ⟨wa,wk,rfl,hRx⟩:=YF hrx;obtain ⟨⟨E1,r1,q1,rfl,_⟩,⟨E2,r2,q2,rfl,_⟩⟩:=hRx.sls;refine wG ?_;refine Yo rfl ?_;refine zG ?_;refine Yh (vs:=[Zy x.op,Zy x.name,Zk x.n,Zc E1 r1 q1,Zc E2 r2 q2]) 2 ?_ (hv:=hcx);refine zWN ?_;intros;refine Y6 [_,_,_,_] ?_;refine zW ?_;refine pU ?_;refine Yg (Yk [] (_::_::_::_::H8) Zz (Yjm _ (Zs _) hRx (ht.mono (hx0.trans hle)) Zi) (fun v5 fz5 H5 hle5 hR5=>⟨⟨hle5,Zx⟩,?_⟩));obtain ⟨rfl,wa5,wk5,rfl,hR5⟩:=hR5;refine Ch.qk ⟨hle5,Zx⟩ (Yo rfl ?_);refine Ch.hard0 (YE (pre:=[_,_,_]) (L:=exprL) (j:=k) rfl rfl Yes (WL hR5) (hB.mono hle5) (fun cur1 hB1=>?_));refine Ch.done ?_;exact wP (h:=by exact ⟨k+1,[_],by omega,rfl,rfl,hle.trans hle5,rfl,hB1.grow.of (Wt hx) rfl⟩)
  first
  | refine Wp.freezeAll (H1:=_::_::H8) (H2:=Hk) (List.Perm.cons _ (List.Perm.cons _ Zq)) (fun fz10 hle10 hf10=>?_)
  | refine Seq.freezeAll (H1:=_::_::H8) (H2:=Hk) (List.Perm.cons _ (List.Perm.cons _ Zq)) (fun fz10 hle10 hf10=>?_)
  obtain ⟨A10,c10,e10,ie10⟩:=hG.sl hle10 hf10 Zi;injection e10 with e101 e102 e103
  subst e101;subst e103;have hx1:=hx0.trans (hle.trans hle10);have hRn:FormulaR fz10 f (Zc B5 m5 d5) (Zc A6 m2 c6) (Zc A7 m3 c7) (Zc B4 m4 d4):={hR with args:=(ia1.mono (hle6.trans (hle7.trans (hle8.trans (hle9.trans (hle.trans hle10)))))).is,params:=(ip9.mono (hle.trans hle10)).is,exprs:=ie10.is,kids:=(ik.mono hx1).is};refine zW ?_;refine Yd (Yk [] (_::_::H8) Zz (inner_f (ip9.mono (hle.trans hle10)) (hb.mono hx1) Zi) (fun v11 fz11 H11 hle11 hR11=>?_));obtain ⟨rfl,A11,n11,c11,rfl,hb11⟩:=hR11;have l11:=hb11.len;rw [List.length_append,List.length_map,lb] at l11;refine zW ?_;refine Yn (fun q σ fz' H'=>∃ (k:Nat) (Hk:HP),k<=m4/\q=m4 - k/\σ=[(52,Zk k),(51,Zk m4),(50,Zc A8 m4 c8),(6,Zp g6),(3,Zp g3),(1,vt),(2,Zc A11 n11 c11)]/\Le fz11 fz'/\
   H'=(g6,Zu #[Ze,Ze,Zn,Zn,Zn,Zn] 35)::(g3,Zu #[Zy f.op,Zy f.name,Zc B5 m5 d5,Zc A6 m2 c6,Zc A7 m3 c7,Zc A8 m4 c8] 35)::Hk/\
   Grow formulaL 35 fz' (Zc A8 m4 c8) m4 Hk f.kids) ⟨0,H8,Z0 _,rfl,rfl,Zd,rfl,hR8.mono (hle9.trans (hle.trans (hle10.trans hle11)))⟩ Zw Zb ?_
  rintro q σ fz' H' ⟨k,Hk,hk,rfl,rfl,hle12,rfl,hG12⟩;refine wC ?_ ?_<;>intro c2
  ·obtain ⟨x,hx⟩:=Yf (l:=f.kids) (k:=k) Zi;have hxm:=Zm hx;have hlt:=Formula.kids_lt hxm;have hxw:=Xg (w:=fW) hxm;obtain ⟨gk,cap,cur,e8,rfl,hB⟩:=hG12.b Zi;injection e8 with e81 e82 e83
   subst e81;subst e83;obtain ⟨cs,hrx,hcx⟩:=YbH hB hx;obtain ⟨wa,wp,we,wk,rfl,hRx⟩:=Yu hrx;obtain ⟨⟨E1,r1,q1,rfl,_⟩,⟨E2,r2,q2,rfl,_⟩,⟨E3,r3,q3,rfl,_⟩,⟨E4,r4,q4,rfl,_⟩⟩:=hRx.sls;refine wG ?_;refine Yo rfl ?_;refine zG ?_;refine Yh (vs:=[Zy x.op,Zy x.name,Zc E1 r1 q1,Zc E2 r2 q2,Zc E3 r3 q3,Zc E4 r4 q4]) 2 ?_ (hv:=hcx);refine zWN ?_;intros;refine Y6 [_,_,_,_] ?_;refine zW ?_;refine pU ?_;refine Yg (Yk [] [_,_,_,_] Zz (bind_f s Zi hRx (ht.mono (hx1.trans (hle11.trans hle12))) (hb11.mono hle12) Zi) (fun v5 fz5 H5 hle5 hR5=>⟨⟨hle5,Zx⟩,?_⟩));obtain ⟨rfl,wa5,wp5,we5,wk5,rfl,hR5⟩:=hR5;refine Ch.qk ⟨hle5,Zx⟩ (Yo rfl ?_);refine Ch.hard0 (YE (pre:=[_,_,_]) (L:=formulaL) (j:=k) rfl rfl YfX (YV hR5) (hB.mono hle5) (fun cur1 hB1=>?_));refine Ch.done ?_;exact wP (h:=by exact ⟨k+1,_,by omega,rfl,rfl,hle12.trans hle5,rfl,hB1.grow.of (Wt hx) rfl⟩)
  refine zW ?_;refine YW (i:=0) rfl (fun fz3 hle3 hf3=>?_);obtain ⟨A13,c13,e13,h13⟩:=hG12.sl hle3 (fun p hp=>hf3 p (by simp [hp])) Zi;injection e13 with e131 e132 e133
  subst e131;subst e133;exact ⟨rfl,_,_,_,_,rfl,{hRn.mono (hle11.trans (hle12.trans hle3)) with kids:=h13.is}⟩
def cmpF (op:Bs) (a b:Lx.Expr):Formula:=.mk op ⟨#[]⟩ [] [] [a,b] []
theorem YgD {op:Bs} {a b:Lx.Expr} {wa wk:Value} (ho:Short op) (hRa:ExprR fz a va vk) (hRb:ExprR fz b wa wk) (ha:eW a<=1000000000) (hb:eW b<=1000000000):
 GFn prog 189 [Zy op,.agg #[Zy a.op,Zy a.name,Zk a.n,va,vk],.agg #[Zy b.op,Zy b.name,Zk b.n,wa,wk]] fz [] (fun v fz' H'=>H'=[]/\FormulaV fz' (cmpF op a b) v):=by
 obtain ⟨⟨A1,n1,c1,rfl,ia⟩,⟨A2,n2,c2,rfl,ik⟩⟩:=hRa.sls;obtain ⟨⟨A3,n3,c3,rfl,ja⟩,⟨A4,n4,c4,rfl,jk⟩⟩:=hRb.sls;refine zF Tryz.func189 Tryz.ntmps189 (fun w0=>?_);refine zW ?_;intros;rename_i g4 g5 g6;refine Yd (Xx (fun gm=>?_));refine Seq.freezeAll (H1:=[_,_,_]) (H2:=[_]) (Zq (l₁:=[_])) (fun fz1 hle1 hf1=>?_);have ht:ToE fz1 (.map (some gm)):=.inr ⟨gm,rfl,hf1 _ (List.mem_singleton.2 rfl)⟩;refine zWN ?_;refine Y6 [_,_,_] ?_;refine zW ?_;refine Yl ?_;refine zW ?_;refine pU ?_;refine Yg (Yk [] [_,_,_] Zz (Yjm _ (Zs _) (hRa.mono hle1) ht ha) (fun v2 fz2 H2 hle2 hR2=>⟨⟨hle2,Zx⟩,?_⟩));obtain ⟨rfl,wa2,wk2,rfl,hR2⟩:=hR2;refine Yg (Yk [] [_,_,_] Zz (Yjm _ (Zs _) (hRb.mono (hle1.trans hle2)) (ht.mono hle2) hb) (fun v3 fz3 H3 hle3 hR3=>⟨⟨hle2.trans hle3,Zx⟩,?_⟩));obtain ⟨rfl,wa3,wk3,rfl,hR3⟩:=hR3;refine Yg (Yc (cs:=[Zy a.op,Zy a.name,Zk a.n,wa2,wk2,Zy b.op,Zy b.name,Zk b.n,wa3,wk3]) (fun gb=>⟨⟨hle2.trans hle3,Zx⟩,?_⟩));refine Ch.qk ⟨hle2.trans hle3,Zx⟩ (XH ?_);refine Ch.hard0 (YX ?_);refine Ch.done ?_;refine zW ?_;refine YW (i:=1) rfl (fun fz4 hle4 hf4=>?_);have hgb:Grow exprL 69 fz3 (Zv gb 2 2) 2 [(gb,Zu #[Zy a.op,Zy a.name,Zk a.n,wa2,wk2,Zy b.op,Zy b.name,Zk b.n,wa3,wk3] 69)] [a,b]:=
  Grow.block (ys:=[(a,_),(b,_)]) rfl rfl (by intro p hp;simp at hp;rcases hp with rfl | rfl;exact WL (hR2.mono hle3);exact WL hR3) rfl
 obtain ⟨B1,d1,e1,hS1⟩:=hgb.sl hle4 (fun p hp=>hf4 p (by simp at hp;subst hp;simp)) Zh;exact ⟨rfl,_,_,_,_,rfl,⟨ho,Z0 _,IsSl.nil,IsSl.nil,⟨B1,_,d1,e1,hS1⟩,IsSl.nil⟩⟩
theorem Yh3 {a b:Bs} {s:Bool}:QFn prog 188 [Zy a,Zy b,Zo s] fz (Zy (if s=true then a else b)):=by
 refine qF Tryz.func188 Tryz.ntmps188 (fun w0=>?_);cases s with
 | true=>
  exact wR (h:=rfl)
 | false=>
  exact wR (h:=rfl)
end Go.Proofs.YtbdpaoikccabhaaGreatDoor
namespace Go.Proofs.YtbdpaoikccabhaaGreatDoor
variable {f:Formula}
mutual
def mW:Formula->Nat
 | .mk op _ _ _ _ kids=>(if op=kImply then 7 else 3)+mWL kids
def mWL:List Formula->Nat
 | []=>0
 | k::r=>mW k+mWL r
end
theorem mWL_sum (l:List Formula):mWL l=(l.map mW).sum:=by
 induction l with
 | nil=>rw [mWL];rfl
 | cons a r ih=>rw [mWL,ih];rfl
theorem YnA (f:Formula):mW f=(if f.op=kImply then 7 else 3)+(f.kids.map mW).sum:=by cases f;rw [mW,mWL_sum];rfl
theorem Ymy (f:Formula):1<=mW f:=by rw [YnA];split<;>omega
def joinL (op:Bs) (ns:List Formula):List Formula:=ns.flatMap fun n=>if n.op=op then n.kids else [n]
def joinF (op:Bs) (ns:List Formula):Formula:=.mk op ⟨#[]⟩ [] [] [] (joinL op ns)
def Yds:Formula:=.mk ⟨#[]⟩ ⟨#[]⟩ [] [] [] []
def Yn0:Lx.Expr:=.mk ⟨#[]⟩ ⟨#[]⟩ 0 [] []
def headN (l:List Formula):Formula:=l.headD Yds
def secN (l:List Formula):Formula:=(l[1]?).getD Yds
def exprAt (l:List Lx.Expr) (i:Nat):Lx.Expr:=(l[i]?).getD Yn0
def QuF (op:Bs):Prop:=op=kForall\/op=kExists
mutual
def normM:Bool->Formula->Formula
 | sg,.mk op name args params exprs kids=>
  if op=kNot then headN (normL (!sg) kids)
  else if op=kImply then joinF (if sg=true then kOr else kAnd) [headN (normL (!sg) kids),secN (normL sg kids)]
  else if op=kAnd then joinF (if sg=true then kAnd else kOr) (normL sg kids)
  else if op=kOr then joinF (if sg=true then kOr else kAnd) (normL sg kids)
  else if QuF op then .mk (if sg=true then op else if op=kForall then kExists else kForall) ⟨#[]⟩ [] params [] [headN (normL sg kids)]
  else if op=kLt then (if sg=true then cmpF kLt (exprAt exprs 0) (exprAt exprs 1) else cmpF kLe (exprAt exprs 1) (exprAt exprs 0))
  else if op=kLe then (if sg=true then cmpF kLe (exprAt exprs 0) (exprAt exprs 1) else cmpF kLt (exprAt exprs 1) (exprAt exprs 0))
  else if op=kEq then (if sg=true then cmpF kEq (exprAt exprs 0) (exprAt exprs 1) else .mk kOr ⟨#[]⟩ [] [] [] [cmpF kLt (exprAt exprs 0) (exprAt exprs 1),cmpF kLt (exprAt exprs 1) (exprAt exprs 0)])
  else if sg=true then .mk op name args params exprs kids
  else .mk kNot ⟨#[]⟩ [] [] [] [.mk op name args params exprs kids]
def normL:Bool->List Formula->List Formula
 | _,[]=>[]
 | sg,k::r=>normM sg k::normL sg r
end
theorem Ygy (sg:Bool):∀ l:List Formula,normL sg l=l.map (normM sg)
 | []=>by rw [normL];rfl
 | k::r=>by rw [normL,Ygy sg r];rfl
theorem WG (sg:Bool) (f:Formula):normM sg f=
 if f.op=kNot then headN (f.kids.map (normM (!sg)))
 else if f.op=kImply then joinF (if sg=true then kOr else kAnd) [headN (f.kids.map (normM (!sg))),secN (f.kids.map (normM sg))]
 else if f.op=kAnd then joinF (if sg=true then kAnd else kOr) (f.kids.map (normM sg))
 else if f.op=kOr then joinF (if sg=true then kOr else kAnd) (f.kids.map (normM sg))
 else if QuF f.op then .mk (if sg=true then f.op else if f.op=kForall then kExists else kForall) ⟨#[]⟩ [] f.params [] [headN (f.kids.map (normM sg))]
 else if f.op=kLt then (if sg=true then cmpF kLt (exprAt f.exprs 0) (exprAt f.exprs 1) else cmpF kLe (exprAt f.exprs 1) (exprAt f.exprs 0))
 else if f.op=kLe then (if sg=true then cmpF kLe (exprAt f.exprs 0) (exprAt f.exprs 1) else cmpF kLt (exprAt f.exprs 1) (exprAt f.exprs 0))
 else if f.op=kEq then (if sg=true then cmpF kEq (exprAt f.exprs 0) (exprAt f.exprs 1) else .mk kOr ⟨#[]⟩ [] [] [] [cmpF kLt (exprAt f.exprs 0) (exprAt f.exprs 1),cmpF kLt (exprAt f.exprs 1) (exprAt f.exprs 0)])
 else if sg=true then f else .mk kNot ⟨#[]⟩ [] [] [] [f]:=by
 cases f;rw [normM,Ygy,Ygy];rfl
inductive NSh:Formula->Prop
 | mk {f:Formula} (h1:f.op=kNot\/f.op=kForall\/f.op=kExists->f.kids≠ []) (h2:f.op=kImply->2<=f.kids.length) (h3:f.op=kLt\/f.op=kLe\/f.op=kEq->2<=f.exprs.length)
  (h4:f.op≠kOr->f.op≠kNot->fW f<=1000000000) (h5:∀ k∈f.kids,NSh k):NSh f
theorem NSh.head (h:NSh f):f.op=kNot\/f.op=kForall\/f.op=kExists->f.kids≠ []:=by cases h with | mk h1 _ _ _ _=>exact h1
theorem NSh.two (h:NSh f):f.op=kImply->2<=f.kids.length:=by cases h with | mk _ h1 _ _ _=>exact h1
theorem NSh.cmp (h:NSh f):f.op=kLt\/f.op=kLe\/f.op=kEq->2<=f.exprs.length:=by cases h with | mk _ _ h1 _ _=>exact h1
theorem NSh.w (h:NSh f):f.op≠kOr->f.op≠kNot->fW f<=1000000000:=by cases h with | mk _ _ _ h1 _=>exact h1
theorem NSh.kid {k:Formula} (h:NSh f) (hk:k∈f.kids):NSh k:=by cases h with | mk _ _ _ _ h1=>exact h1 k hk
theorem Yeh {op:Bs}:∀ {ks:List Formula} {g:Formula->Formula},(∀ k∈ks,(g k).kids.length<=mW k)->(joinL op (ks.map g)).length<=(ks.map mW).sum
 | [],g,_=>by simp [joinL]
 | k::r,g,h=>by
  have h1:=h k (by simp);have h2:=Yeh (op:=op) (ks:=r) (g:=g) (fun x hx=>h x (by simp [hx]));have h3:=Ymy k;unfold joinL at h2 ⊢;simp only [List.map_cons,List.flatMap_cons,List.length_append,List.sum_cons];split
  ·omega
  simp only [List.length_singleton];omega
theorem YgH {op:Bs} {a b:Formula} {ma mb:Nat} (ha:a.kids.length<=ma) (hb:b.kids.length<=mb):(joinL op [a,b]).length<=2+ma+mb:=by
 have hz2:∀ (x:Formula) (m:Nat),x.kids.length<=m->(if x.op=op then x.kids else [x]).length<=1+m:=by
  intro x m hx;split
  ·omega
  simp
 have h1:=hz2 a ma ha;have h2:=hz2 b mb hb;simp only [joinL,List.flatMap_cons,List.flatMap_nil,List.length_append,List.length_nil];omega
theorem YgP {g:Formula->Formula} {l:List Formula} {k:Formula} (h:l[0]?=some k):headN (l.map g)=g k:=by
 cases l with
 | nil=>simp at h
 | cons a r=>simp at h;subst h;rfl
theorem secN_map {g:Formula->Formula} {l:List Formula} {k:Formula} (h:l[1]?=some k):secN (l.map g)=g k:=by
 unfold secN;rw [List.getElem?_map,h];rfl
theorem Ye0:∀ (s:Nat) (sg:Bool) {f:Formula},SizeOf.sizeOf f<=s->(normM sg f).kids.length<=mW f
 | 0,_,f,h=>by cases f;simp at h
 | s+1,sg,f,h=>by
  have ih:∀ sg,∀ k∈f.kids,(normM sg k).kids.length<=mW k:=fun sg k hk=>Ye0 s sg (by have:=Formula.kids_lt hk;omega)
  have hm:=YnA f;have hs:=XR Ymy f.kids;have hh:∀ sg,(headN (f.kids.map (normM sg))).kids.length<=(f.kids.map mW).sum:=by
   intro sg;cases hk:f.kids with
   | nil=>exact Z0 _
   | cons k r=>
    have:=ih sg k (by rw [hk];simp);show (normM sg k).kids.length<=_;simp only [List.map_cons,List.sum_cons];omega
  have hle:(f.kids.map mW).sum<=mW f:=by omega
  rw [WG];split
  ·exact Nat.le_trans (hh _) hle
  split
  ·rename_i hi;rw [if_pos hi] at hm;have hz:Yds.kids.length<=0:=Zs _;cases hk:f.kids with
   | nil=>
    have:=YgH (op:=if sg=true then kOr else kAnd) hz hz;rw [hm];exact Nat.le_trans this Zi
   | cons k0 r=>
    have h0:=ih (!sg) k0 (by rw [hk];simp);cases hr:r with
    | nil=>
     rw [hk,hr] at hm;simp only [List.map_cons,List.map_nil,List.sum_cons,List.sum_nil] at hm;have:=YgH (op:=if sg=true then kOr else kAnd) h0 hz;rw [hm];exact Nat.le_trans this Zi
    | cons k1 r=>
     have h1:=ih sg k1 (by rw [hk,hr];simp);rw [hk,hr] at hm;simp only [List.map_cons,List.sum_cons] at hm;have:=YgH (op:=if sg=true then kOr else kAnd) h0 h1;rw [hm];exact Nat.le_trans this Zi
  split
  ·exact Nat.le_trans (Yeh (fun k hk=>ih sg k hk)) hle
  split
  ·exact Nat.le_trans (Yeh (fun k hk=>ih sg k hk)) hle
  have h3:3<=mW f:=by rw [hm];split<;>omega
  split
  ·show 1<=_;omega
  split
  ·split<;>exact Z0 _
  split
  ·split<;>exact Z0 _
  split
  ·split
   ·exact Z0 _
   show 2<=_;omega
  split
  ·omega
  show 1<=_;omega
end Go.Proofs.YtbdpaoikccabhaaGreatDoor
