/- The texts QF, QG, QH, QI, laid together. Conditions: none. -/
import Derived.Test.YtbnpeechpebmeaaGreatDoorRBP
set_option linter.all false
noncomputable section
set_option maxRecDepth 20000
namespace Go.Proofs.YtbnpeechpebmeaaGreatDoor
open Go.Lx Go.RowKit
attribute [local instance 10] Classical.propDecidable
open Go.Proofs.Tryz (prog)
inductive ShN:Formula→Prop
 | mk {f:Formula} (h1:f.op=kSame→2≤f.args.length) (h2:f.op=kNot∨f.op=kForall∨f.op=kExists→f.kids≠ []) (h3:∀ k∈f.kids,ShN k):ShN f
variable {f:Formula}
theorem ShN.same (h:ShN f):f.op=kSame→2≤f.args.length:=by cases h with | mk h1 _ _=>exact h1
theorem ShN.head (h:ShN f):f.op=kNot∨f.op=kForall∨f.op=kExists→f.kids≠ []:=by cases h with | mk _ h2 _=>exact h2
theorem ShN.kid {k:Formula} (h:ShN f) (hk:k∈f.kids):ShN k:=by cases h with | mk _ _ h3=>exact h3 k hk
def powT (n:Nat):Nat→Nat→Nat
 | 0,out=>out
 | k+1,out=>if 64<out*n∨out*n=0 then min (out*n) 65 else powT n k (out*n)
def YcJ (K:Kn) (ps:List Param):Nat:=ps.foldl (fun m p=>min (m*(ofK K p.typ).length) 1048576) 1
def quantT (K:Kn) (op:Bs) (ps:List Param) (n:Nat):Nat:=
 if 64<n then 65 else if op=kExists then min (n*YcJ K ps) 65 else if YcJ K ps=0∨n=1 then 1 else powT n (YcJ K ps) 1
mutual
def termsM (K:Kn):Formula→Nat
 | .mk op _ _ params _ kids=>
  if op=kAnd then andT K 1 kids
  else if op=kOr then orT K 0 kids
  else if op=kForall∨op=kExists then quantT K op params (headT K kids)
  else 1
def headT (K:Kn):List Formula→Nat
 | []=>0
 | g::_=>termsM K g
def andT (K:Kn):Nat→List Formula→Nat
 | n,[]=>n
 | n,g::r=>if 64<n*termsM K g∨64<termsM K g then 65 else andT K (n*termsM K g) r
def orT (K:Kn):Nat→List Formula→Nat
 | n,[]=>n
 | n,g::r=>if 64<n+termsM K g then 65 else orT K (n+termsM K g) r
end
variable {K:Kn}
theorem WH (f:Formula):termsM K f=if f.op=kAnd then andT K 1 f.kids else if f.op=kOr then orT K 0 f.kids else if f.op=kForall∨f.op=kExists then quantT K f.op f.params (headT K f.kids) else 1:=by
 cases f;rw [termsM];rfl
theorem Ylq (n:Nat):∀ (k out:Nat),out≤64→powT n k out≤65
 | 0,out,h=>by unfold powT;omega
 | k+1,out,h=>by
  unfold powT
  split
  ·omega
  ·exact Ylq n k _ Zi
variable {n:Nat}
theorem Yli {op:Bs} {ps:List Param}:quantT K op ps n≤65:=by
 unfold quantT
 split
 ·omega
 ·split
  ·omega
  ·split
   ·omega
   ·exact Ylq _ _ _ Zi
theorem Ymz {K:Kn}:∀ (l:List Formula) (n:Nat),n≤64→andT K n l≤65
 | [],n,h=>by unfold andT;omega
 | g::r,n,h=>by
  unfold andT
  split
  ·omega
  ·exact Ymz r _ Zi
theorem orT_le {K:Kn}:∀ (l:List Formula) (n:Nat),n≤64→orT K n l≤65
 | [],n,h=>by unfold orT;omega
 | g::r,n,h=>by
  unfold orT
  split
  ·omega
  ·exact orT_le r _ Zi
theorem Yeg (f:Formula):termsM K f≤65:=by
 rw [WH]
 split
 ·exact Ymz _ _ Zi
 ·split
  ·exact orT_le _ _ Zi
  ·split
   ·exact Yli
   ·omega
theorem Ygf (K:Kn):∀ (ps:List Param) (m:Nat),m≤1048576→ps.foldl (fun m p=>min (m*(ofK K p.typ).length) 1048576) m≤1048576
 | [],_,h=>h
 | p::ps,m,_=>Ygf K ps _ (Nat.min_le_right _ _)
theorem Yh0 {a b:Nat}:min ((a:Int)*(b:Int)) 1048576=((min (a*b) 1048576:Nat):Int):=by
 rw [← Int.natCast_mul];omega
variable {fz:FZ} {v va ve vk vp:Value}
set_option maxHeartbeats 4000000 in
theorem quant_of {g:Formula} {rest:List Formula} (hK:KnR fz v K) (hR:FormulaR fz f va vp ve vk) (hk:f.kids=g::rest)
 (ih:∀ {fz':FZ} {wa wp we wk:Value},Le fz fz'→FormulaR fz' g wa wp we wk→QFn prog 119 [v,.agg #[.string g.op,.string g.name,wa,wp,we,wk]] fz' (.int .i64 (termsM K g))):
 QFn prog 160 [v,.agg #[.string f.op,.string f.name,va,vp,ve,vk]] fz (.int .i64 (quantT K f.op f.params (termsM K g))):=by
 obtain ⟨B1,m1,d1,rfl,ia⟩:=hR.args
 obtain ⟨B2,m2,d2,rfl,ip⟩:=hR.params
 obtain ⟨B3,m3,d3,rfl,ie⟩:=hR.exprs
 obtain ⟨B4,m4,d4,rfl,ik⟩:=hR.kids
 have l2:=ip.len
 have l4:=ik.len
 have s2:=ip.short
 have hg0:f.kids[0]?=some g:=by rw [hk];rfl
 have hm4:0<m4:=by rw [← l4,hk];simp
 have hT:=Yeg (K:=K) g
 have hmany:=hK.many
 have hK0:=hK
 obtain ⟨⟨gk,a0,a1,a2,a3,a4,a5,a6,a7,a8,a9,a10,a11,a12,a13,a14,a15,a16,a17,vf,Ao,no,co,gc,gi,mc,mi,rfl,hg,hF,hO,h5,h6,h7,h8⟩,hw,_⟩:=hK
 refine GFn.quiet ?_
 refine zF Tryz.func160 Tryz.ntmps160 (fun w0=>?_)
 refine Yp (Yq (Yb Zz (Y3 _ Zz Zz (fun g0=>?_))))
 refine zW ?_;intros
 refine zI ik hg0 (fun p1 hp1=>?_)
 refine zL hp1 ?_
 intro cs hcs
 obtain ⟨wa,wp,we,wk,rfl,hRg⟩:=YM hcs
 obtain ⟨E1,r1,q1,rfl,_⟩:=hRg.args
 obtain ⟨E2,r2,q2,rfl,_⟩:=hRg.params
 obtain ⟨E3,r3,q3,rfl,_⟩:=hRg.exprs
 obtain ⟨E4,r4,q4,rfl,_⟩:=hRg.kids
 refine zW ?_;intros
 ((refine zG ?_);refine YB Zz Zz (ih (Le.refl _) hRg) ?_)
 generalize hn0:termsM K g=n0 at hT ih
 refine zW ?_;intros
 refine zC (fun c1=>?_) (fun c1=>?_)
 ·refine zW ?_;intros
  exact zR (h:=by rw [quantT,if_pos Zi];rfl)
 ·refine zW ?_;intros
  refine Yk (fun q σ fz' H'=>∃ k:Nat,k≤m2∧q=m2 - k∧σ=[(21,.int .i64 k),(20,.int .i64 m2),(19,.slice B2 m2 d2),(6,.int .i64 ((YcJ K (f.params.take k):Nat):Int)),(5,.int .i64 n0),(3,.pointer (some ⟨g0,0,none⟩)),(0,.pointer (some ⟨gk,0,none⟩))]∧Le fz fz'∧H'=[(g0,.cells #[.string f.op,.string f.name,.slice B1 m1 d1,.slice B2 m2 d2,.slice B3 m3 d3,.slice B4 m4 d4] 29 (0,0))]) ⟨0,Z0 _,rfl,rfl,Le.refl _,rfl⟩ Zw Zb ?_
  rintro q σ fz' H' ⟨k,hk2,rfl,rfl,hle,rfl⟩
  refine zW ?_;intros
  refine zC (fun c2=>?_) (fun c2=>?_)
  ·obtain ⟨x,hx⟩:=Yg (l:=f.params) (k:=k) Zi
   refine zW ?_;intros
   refine zI (ip.mono hle) hx (fun p2 hp2=>?_)
   refine zL hp2 ?_
   intro cs hcs
   obtain ⟨rfl,hRx⟩:=YT hcs
   refine zW ?_;intros
   refine Yb Zz (Yl [] [_,_] Zz Zz Zz (kof_f (t:=x.typ) (hK0.mono hle)) (fun v4 fz4 H4 hle4 hR4=>?_))
   obtain ⟨rfl,Bo,mo,do_,rfl,hSo⟩:=hR4
   have lo:=hSo.len
   have hmo:mo≤2000000:=by rw [← lo];exact Nat.le_trans (Ylt K x.typ) hmany
   have hml:=Ygf K (f.params.take k) 1 Zh
   have hm1:YcJ K (f.params.take k)≤1048576:=hml
   have hmm:YcJ K (f.params.take k)*mo≤1048576*2000000:=Nat.mul_le_mul hm1 hmo
   have hmz:((YcJ K (f.params.take k):Nat):Int)*(mo:Int)=((YcJ K (f.params.take k)*mo:Nat):Int):=(Int.natCast_mul _ _).symm
   refine zW ?_;intros
   refine zG ?_;refine Yj9 Zz Zz (Xx (by rw [hmz];omega)) ?_
   refine zW ?_;intros
   refine zG ?_;refine q_min Zz Zz ?_
   rw [show min (((YcJ K (f.params.take k):Nat):Int)*(mo:Int)) 1048576=((YcJ K (f.params.take (k+1)):Nat):Int) from by
    rw [Yh0,YcJ,YcJ,List.take_add_one,hx,List.foldl_append,← lo];rfl]
   refine zW ?_;intros
   exact YA ⟨k+1,by omega,rfl,rfl,hle.trans hle4,rfl⟩ Zi Zw Zb
  ·have hk3:k=m2:=by omega
   subst hk3
   rw [Zl (show f.params.length≤k by omega)]
   have hml:=Ygf K f.params 1 Zh
   have hm1:YcJ K f.params≤1048576:=hml
   generalize hmn:YcJ K f.params=mn at hm1
   have hmm:n0*mn≤64*1048576:=Nat.mul_le_mul Zi hm1
   have hmz:(n0:Int)*(mn:Int)=((n0*mn:Nat):Int):=(Int.natCast_mul _ _).symm
   by_cases w1:f.op=kExists
   ·refine zW ?_;intros
    refine zG ?_;refine Yj9 Zz Zz (Xx (by rw [hmz];omega)) ?_
    refine zW ?_;intros
    refine zG ?_;refine q_min Zz Zz ?_
    refine zW ?_;intros
    (exact ret1 rfl rfl Zb (by
     rw [quantT,if_neg Zi,if_pos w1,hmn,hmz]
     congr 1
     omega))
   ·refine zW ?_;intros
    refine zC (fun c3=>?_) (fun c3=>?_)
    ·refine zW ?_;intros
     exact zR (h:=by rw [quantT,if_neg Zi,if_neg w1,hmn,if_pos (.inl Zi)];rfl)
    ·refine zW ?_;intros
     refine zC (fun c4=>?_) (fun c4=>?_)
     ·refine zW ?_;intros
      exact zR (h:=by rw [quantT,if_neg Zi,if_neg w1,hmn,if_pos (.inr Zi)];rfl)
     ·refine zW ?_;intros
      refine Yk (fun q σ fz2 H'=>∃ k out:Nat,k≤mn∧q=mn - k∧σ=[(48,.int .i64 k),(47,.int .i64 mn),(9,.int .i64 out),(5,.int .i64 n0)]∧fz'=fz2∧H'=[]∧out≤64∧powT n0 (mn - k) out=powT n0 mn 1) ⟨0,1,Z0 _,rfl,rfl,rfl,rfl,by omega,rfl⟩ Zw Zb ?_
      rintro q σ fz2 H' ⟨j,out,hj,rfl,rfl,rfl,rfl,ho,hpw⟩
      have hoz:(out:Int)*(n0:Int)=((out*n0:Nat):Int):=(Int.natCast_mul _ _).symm
      have hon:out*n0≤64*65:=Nat.mul_le_mul ho Zi
      have hq:quantT K f.op f.params n0=powT n0 mn 1:=by rw [quantT,if_neg Zi,if_neg w1,hmn,if_neg Zi]
      refine zW ?_;intros
      refine zC (fun c5=>?_) (fun c5=>?_)
      ·have e1:mn - j=(mn - (j+1))+1:=by omega
       rw [e1,powT] at hpw
       refine zW ?_;intros
       refine zG ?_;refine Yj9 Zz Zz (Xx (by rw [hoz];omega)) ?_
       rw [hoz]
       refine zW ?_;intros
       refine zC (fun c6=>?_) (fun c6=>?_)
       ·rw [if_pos (.inl Zi)] at hpw
        refine zW ?_;intros
        refine zG ?_;refine q_min Zz Zz ?_
        refine zW ?_;intros
        exact zR (h:=by rw [hq,← hpw];congr 1;omega)
       ·refine zW ?_;intros
        refine zC (fun c7=>?_) (fun c7=>?_)
        ·rw [if_pos (.inr Zi)] at hpw
         refine zW ?_;intros
         refine zG ?_;refine q_min Zz Zz ?_
         refine zW ?_;intros
         exact zR (h:=by rw [hq,← hpw];congr 1;omega)
        ·rw [if_neg Zi] at hpw
         refine zW ?_;intros
         exact YA ⟨j+1,out*n0,by omega,rfl,rfl,rfl,rfl,by omega,hpw⟩ Zi Zw Zb
      ·rw [show mn - j=0 from by omega,powT] at hpw
       refine zW ?_;intros
       exact zR (h:=by rw [hq,← hpw])
variable {k:Nat}
theorem andT_at {l:List Formula} {x:Formula} (hx:l[k]?=some x) (h:andT K n (l.drop k)=andT K 1 l):(if 64<n*termsM K x∨64<termsM K x then 65 else andT K (n*termsM K x) (l.drop (k+1)))=andT K 1 l:=by
 obtain ⟨h1,h2⟩:=Zg hx
 rw [← h,List.drop_eq_getElem_cons h1,h2,andT]
theorem orT_at {l:List Formula} {x:Formula} (hx:l[k]?=some x) (h:orT K n (l.drop k)=orT K 0 l):(if 64<n+termsM K x then 65 else orT K (n+termsM K x) (l.drop (k+1)))=orT K 0 l:=by
 obtain ⟨h1,h2⟩:=Zg hx
 rw [← h,List.drop_eq_getElem_cons h1,h2,orT]
set_option maxHeartbeats 4000000 in
theorem Yef:∀ (s:Nat) {fz:FZ} {v:Value} {K:Kn} {f:Formula} {va vp ve vk:Value},SizeOf.sizeOf f≤s→KnR fz v K→FormulaR fz f va vp ve vk→ShN f→
 QFn prog 119 [v,.agg #[.string f.op,.string f.name,va,vp,ve,vk]] fz (.int .i64 (termsM K f))
 | 0,_,_,_,f,_,_,_,_,hse,_,_,_=>by cases f;simp at hse
 | s+1,fz,v,K,f,va,vp,ve,vk,hse,hK,hR,hS=>by
  have hR0:=hR
  obtain ⟨B1,m1,d1,rfl,ia⟩:=hR.args
  obtain ⟨B2,m2,d2,rfl,ip⟩:=hR.params
  obtain ⟨B3,m3,d3,rfl,ie⟩:=hR.exprs
  obtain ⟨B4,m4,d4,rfl,ik⟩:=hR.kids
  have l4:=ik.len
  have s4:=ik.short
  have hK0:=hK
  obtain ⟨⟨gk,a0,a1,a2,a3,a4,a5,a6,a7,a8,a9,a10,a11,a12,a13,a14,a15,a16,a17,vf,Ao,no,co,gc,gi,mc,mi,rfl,hg,hF,hO,h5,h6,h7,h8⟩,hw,_⟩:=hK
  refine GFn.quiet ?_
  refine zF Tryz.func119 Tryz.ntmps119 (fun w0=>?_)
  refine Yp (Yq (Yb Zz (Y3 _ Zz Zz (fun g0=>?_))))
  by_cases w1:f.op=kAnd
  ·have e1:termsM K f=andT K 1 f.kids:=by rw [WH,if_pos w1]
   refine zW ?_;intros
   refine Yk (fun q σ fz' H'=>∃ k n:Nat,k≤m4∧q=m4 - k∧σ=[(18,.int .i64 k),(17,.int .i64 m4),(16,.slice B4 m4 d4),(5,.int .i64 n),(0,.pointer (some ⟨gk,0,none⟩))]∧fz=fz'∧H'=[]∧n≤64∧andT K n (f.kids.drop k)=andT K 1 f.kids) ⟨0,1,Z0 _,rfl,rfl,rfl,rfl,by omega,rfl⟩ Zw Zb ?_
   rintro q σ fz' H' ⟨k,n,hk,rfl,rfl,rfl,rfl,hn,ha⟩
   refine zW ?_;intros
   refine zC (fun c1=>?_) (fun c1=>?_)
   ·obtain ⟨x,hx⟩:=Yg (l:=f.kids) (k:=k) Zi
    have hxm:=Zm hx
    have hlt:=Formula.kids_lt hxm
    have ha2:=andT_at hx ha
    have hT:=Yeg (K:=K) x
    have hz:(n:Int)*((termsM K x:Nat):Int)=((n*termsM K x:Nat):Int):=(Int.natCast_mul _ _).symm
    have hb:n*termsM K x≤64*65:=Nat.mul_le_mul hn hT
    refine zW ?_;intros
    refine zI ik hx (fun p1 hp1=>?_)
    refine zL hp1 ?_
    intro cs hcs
    obtain ⟨wa,wp,we,wk,rfl,hRg⟩:=YM hcs
    obtain ⟨E1,r1,q1,rfl,_⟩:=hRg.args
    obtain ⟨E2,r2,q2,rfl,_⟩:=hRg.params
    obtain ⟨E3,r3,q3,rfl,_⟩:=hRg.exprs
    obtain ⟨E4,r4,q4,rfl,_⟩:=hRg.kids
    refine zW ?_;intros
    ((refine zG ?_);refine YB Zz Zz (Yef s Zi hK0 hRg (hS.kid hxm)) ?_)
    refine zW ?_;intros
    refine zG ?_;refine Yj9 Zz Zz (Xx (by rw [hz];omega)) ?_
    rw [hz]
    refine zW ?_;intros
    refine zC (fun c2=>?_) (fun c2=>?_)
    ·rw [if_pos (.inl Zi)] at ha2
     refine zW ?_;intros
     exact zR (h:=by rw [e1,← ha2];rfl)
    ·refine zW ?_;intros
     ((refine zG ?_);refine YB Zz Zz (Yef s Zi hK0 hRg (hS.kid hxm)) ?_)
     refine zW ?_;intros
     refine zC (fun c3=>?_) (fun c3=>?_)
     ·rw [if_pos (.inr Zi)] at ha2
      refine zW ?_;intros
      exact zR (h:=by rw [e1,← ha2];rfl)
     ·rw [if_neg Zi] at ha2
      refine zW ?_;intros
      exact YA ⟨k+1,n*termsM K x,by omega,rfl,rfl,rfl,rfl,by omega,ha2⟩ Zi Zw Zb
   ·rw [List.drop_eq_nil_of_le Zi,andT] at ha
    refine zW ?_;intros
    exact zR (h:=by rw [e1,← ha])
  ·by_cases w2:f.op=kOr
   ·have e1:termsM K f=orT K 0 f.kids:=by rw [WH,if_neg w1,if_pos w2]
    refine zW ?_;intros
    refine Yk (fun q σ fz' H'=>∃ k n:Nat,k≤m4∧q=m4 - k∧σ=[(42,.int .i64 k),(41,.int .i64 m4),(40,.slice B4 m4 d4),(8,.int .i64 n),(0,.pointer (some ⟨gk,0,none⟩))]∧fz=fz'∧H'=[]∧n≤64∧orT K n (f.kids.drop k)=orT K 0 f.kids) ⟨0,0,Z0 _,rfl,rfl,rfl,rfl,by omega,rfl⟩ Zw Zb ?_
    rintro q σ fz' H' ⟨k,n,hk,rfl,rfl,rfl,rfl,hn,ha⟩
    refine zW ?_;intros
    refine zC (fun c1=>?_) (fun c1=>?_)
    ·obtain ⟨x,hx⟩:=Yg (l:=f.kids) (k:=k) Zi
     have hxm:=Zm hx
     have hlt:=Formula.kids_lt hxm
     have ha2:=orT_at hx ha
     have hT:=Yeg (K:=K) x
     refine zW ?_;intros
     refine zI ik hx (fun p1 hp1=>?_)
     refine zL hp1 ?_
     intro cs hcs
     obtain ⟨wa,wp,we,wk,rfl,hRg⟩:=YM hcs
     obtain ⟨E1,r1,q1,rfl,_⟩:=hRg.args
     obtain ⟨E2,r2,q2,rfl,_⟩:=hRg.params
     obtain ⟨E3,r3,q3,rfl,_⟩:=hRg.exprs
     obtain ⟨E4,r4,q4,rfl,_⟩:=hRg.kids
     refine zW ?_;intros
     ((refine zG ?_);refine YB Zz Zz (Yef s Zi hK0 hRg (hS.kid hxm)) ?_)
     refine zW ?_;intros
     refine zC (fun c2=>?_) (fun c2=>?_)
     ·rw [if_pos Zi] at ha2
      refine zW ?_;intros
      exact zR (h:=by rw [e1,← ha2];rfl)
     ·rw [if_neg Zi] at ha2
      refine zW ?_;intros
      exact YA ⟨k+1,n+termsM K x,by omega,rfl,rfl,rfl,rfl,by omega,ha2⟩ Zi Zw Zb
    ·rw [List.drop_eq_nil_of_le Zi,orT] at ha
     refine zW ?_;intros
     exact zR (h:=by rw [e1,← ha])
   ·by_cases hq:f.op=kForall∨f.op=kExists
    ·have e1:termsM K f=quantT K f.op f.params (headT K f.kids):=by rw [WH,if_neg w1,if_neg w2,if_pos hq]
     obtain ⟨x,rest,hkd⟩:∃ x rest,f.kids=x::rest:=by
      cases hf:f.kids with
      | nil=>exact absurd hf (hS.head (.inr hq))
      | cons x rest=>exact ⟨x,rest,rfl⟩
     have hxm:x∈f.kids:=by rw [hkd];simp
     have hlt:=Formula.kids_lt hxm
     have hh:headT K f.kids=termsM K x:=by rw [hkd,headT]
     have hqq:=quant_of hK0 hR0 hkd (fun hle hRg=>Yef s Zi (hK0.mono hle) hRg (hS.kid hxm))
     rcases hq with w3 | w3
     ·refine zW ?_;intros
      refine zc hqq ?_
      refine zW ?_;intros
      exact zR (h:=by rw [e1,hh])
     ·have w4:¬f.op=kForall:=by rw [w3];decide
      refine zW ?_;intros
      refine zc hqq ?_
      refine zW ?_;intros
      exact zR (h:=by rw [e1,hh])
    ·have w3:¬f.op=kForall:=fun h=>hq (.inl h)
     have w4:¬f.op=kExists:=fun h=>hq (.inr h)
     refine zW ?_;intros
     exact zR (h:=by rw [WH,if_neg w1,if_neg w2,if_neg hq];rfl)
theorem YkX (hK:KnR fz v K) (hR:FormulaR fz f va vp ve vk) (hS:ShN f):
 QFn prog 119 [v,.agg #[.string f.op,.string f.name,va,vp,ve,vk]] fz (.int .i64 (termsM K f)):=Yef _ (Zs _) hK hR hS
theorem Ygx:OneC exprL:=by
 intro fz d cs h u hu
 obtain ⟨va,vk,rfl,hR⟩:=YP h
 obtain ⟨A,n,c,rfl,_⟩:=hR.args
 obtain ⟨B,m,d,rfl,_⟩:=hR.kids
 simp at hu
 rcases hu with rfl | rfl | rfl | rfl | rfl<;>rfl
theorem Yb3:OneC formulaL:=by
 intro fz d cs h u hu
 obtain ⟨va,vp,ve,vk,rfl,hR⟩:=YM h
 obtain ⟨A,n,c,rfl,_⟩:=hR.args
 obtain ⟨B,m,d,rfl,_⟩:=hR.params
 obtain ⟨C,q,e,rfl,_⟩:=hR.exprs
 obtain ⟨D,o,f,rfl,_⟩:=hR.kids
 simp at hu
 rcases hu with rfl | rfl | rfl | rfl | rfl | rfl<;>rfl
theorem YjC {α:Type} {z:Nat}:∀ {xs:List (α × List Value)} {j:Nat} {p:α × List Value},(∀ p∈xs,p.2.length=z)→xs[j]?=some p→((xs.flatMap Prod.snd).drop (j*z)).take z=p.2
 | [],j,p,_,h=>by simp at h
 | x::r,0,p,h,hj=>by
  simp at hj;subst hj
  have hx:=h x (by simp)
  rw [List.flatMap_cons,Nat.zero_mul,List.drop_zero,← hx,List.take_left]
 | x::r,j+1,p,h,hj=>by
  have hx:=h x (by simp)
  have ih:=YjC (xs:=r) (j:=j) (fun p hp=>h p (by simp [hp])) (by simpa using hj)
  have e:(j+1)*z=x.2.length+j*z:=by rw [Nat.succ_mul];omega
  rw [List.flatMap_cons,e,List.drop_append,List.drop_eq_nil_of_le Zi,List.nil_append,Nat.add_sub_cancel_left]
  exact ih
variable {g j:Nat}
theorem YcP {α:Type} {L:Lay α} {e:Nat} {cap:Nat} {cur:List Value} {l:List α} (h:GrowB L e fz g n cap cur l) {d:α} (hj:l[j]?=some d):∃ cs,L.rep fz d cs∧(cur.drop (j*L.size)).take L.size=cs:=by
 obtain ⟨xs,h1,h2,h3⟩:=h.pairs
 have hl:=h.len
 have hjl:j<n:=by have:=(Zg hj).1;omega
 rw [← h1,List.getElem?_map] at hj
 cases hx:xs[j]? with
 | none=>rw [hx] at hj;cases hj
 | some p=>
  rw [hx] at hj
  simp at hj
  subst hj
  refine ⟨p.2,h2 p (Zm hx),?_⟩
  rw [← YjC (fun p hp=>L.len (h2 p hp)) hx,← h3,List.drop_take,List.take_take]
  have:j*L.size+L.size≤n*L.size:=by rw [← Nat.succ_mul];exact Nat.mul_le_mul_right _ hjl
  rw [Nat.min_eq_left Zi]
section
variable {P:Program} {cx:Cx} {r:Operand→Option Value} {fz:FZ} {H:HP} {dst:Option Nat} {ty:TypeId} {pos:String} {af:Array Edge} {gd:Option (Nat × Bool)} {V:Value→Prop}
theorem Does.perm {o:Oper} {H':HP} {K:Value→FZ→HP→Prop} (hp:H'.Perm H) (h:Does P cx o r fz H' K):Does P cx o r fz H K:=Does.of fun ρ w hr hw=>h.run ρ w hr (hw.perm hp)
variable {X:Ty} {t:TypeId}
theorem Yf3 (T:Tab P) {k e:TypeId} {K E:Ty} {x:Bs} {w:World} (hT:T.inf t=some X) (hd:X.desc=.map k e) (hK:T.inf k=some K) (hkd:K.desc=.string) (hE:T.inf e=some E):
 (Instr.lookup t (.map none) (.string x) true).run P w=.ok (.tuple #[E.zero,.bool false]) w:=by
 have hu:=run_underlying (und_plain T hT hd rfl) w
 have hz:=Ybv T hE w
 have hf:=WI T hK hkd x [] w
 simp only [Xm] at hf
 simp only [Instr.lookup,Sem.run_bind,hu,Result.andThen_ok,Sem.run_pure,Wq T hK hkd,hf]
 simp [fndS,hz]
variable {y:Operand}
theorem Yin (T:Tab P) {k e:TypeId} {z:Operand} {K E:Ty} {x:Bs} (hT:T.inf t=some X) (hd:X.desc=.map k e) (hK:T.inf k=some K) (hkd:K.desc=.string) (hE:T.inf e=some E)
 (hy:r y=some (.map none)) (hz:r z=some (.string x)) (hv:E.zero=v) (h:V (.tuple #[v,.bool false])):DoesQ P cx ⟨dst,.lookup t y z true,ty,pos,af,gd⟩ r fz H V:=
 DoesQ.of (by rw [← hv] at h;exact h) fun ρ w hr _=>by
  simp only [execOp,hr _ _ hy,hr _ _ hz,Sem.run_bind,Yf3 T hT hd hK hkd hE,Result.andThen_ok,Sem.run_pure]
  exact ⟨rfl,Fr.refl _ _⟩
end
def ToE (fz:FZ) (v:Value):Prop:=v=.map none∨∃ g,v=.map (some g)∧fz g=some (mapS [])
variable {fz':FZ}
theorem ToE.mono (h:ToE fz v) (hle:Le fz fz'):ToE fz' v:=h.imp id fun ⟨g,h1,h2⟩=>⟨g,h1,hle _ _ h2⟩
variable {A:Option Addr} {c:Nat}
theorem YjJ {l:List Lx.Expr} (h:Sl exprL fz A n c l) (hn:n≤1000000000):
 GFn prog 221 [.slice A n c] fz [] (fun v fz' H'=>Grow exprL 36 fz' v n H' l):=by
 have l1:=h.len
 refine zF Tryz.func221 Tryz.ntmps221 (fun w0=>?_)
 refine zV ?_;intros
 refine zG ?_;refine Wm T Zz Zz Zz Zz (fun eA=>?_) (fun eA=>?_)
 ·subst eA
  have hl:l=[]:=by
   rcases h.elem with h0 | ⟨_,h0,_⟩
   ·exact List.eq_nil_of_length_eq_zero Zi
   ·cases h0
  subst hl
  simp at l1
  subst l1
  refine zV ?_;intros
  refine YcD (H':=[]) (H2:=[]) rfl rfl (Zr _) (fun fz3 hle3 _=>Grow.nil _ _ _)
 ·refine zV ?_;intros
  refine Yb Zz (WO T Zz Zz Zz (fun gb=>?_))
  refine zV ?_;intros
  refine Yb Zz (X8 T (Hr:=[]) (n:=0) (l:=[]) Zz Zz Zz Zz Zz Zz Zz Zz (Zr _) (Grow.block (ys:=[]) rfl rfl (by intro p hp;cases hp) rfl Zh) Ygx h (by show _*88≤_;omega) Zi (fun v' Hs' hO'=>?_))
  obtain ⟨Av',cv',rfl,_,_⟩:=hO'.form
  refine zV ?_;intros
  refine YcD (H':=Hs') (H2:=[]) rfl rfl (by simp) (fun fz3 hle3 _=>(hO'.mono hle3).of (by simp) Zi)
theorem cloneF_q {l:List Formula} (h:Sl formulaL fz A n c l) (hn:n≤1000000000):
 GFn prog 222 [.slice A n c] fz [] (fun v fz' H'=>Grow formulaL 29 fz' v n H' l):=by
 have l1:=h.len
 refine zF Tryz.func222 Tryz.ntmps222 (fun w0=>?_)
 refine zV ?_;intros
 refine zG ?_;refine Wm T Zz Zz Zz Zz (fun eA=>?_) (fun eA=>?_)
 ·subst eA
  have hl:l=[]:=by
   rcases h.elem with h0 | ⟨_,h0,_⟩
   ·exact List.eq_nil_of_length_eq_zero Zi
   ·cases h0
  subst hl
  simp at l1
  subst l1
  refine zV ?_;intros
  refine YcD (H':=[]) (H2:=[]) rfl rfl (Zr _) (fun fz3 hle3 _=>Grow.nil _ _ _)
 ·refine zV ?_;intros
  refine Yb Zz (WO T Zz Zz Zz (fun gb=>?_))
  refine zV ?_;intros
  refine Yb Zz (X8 T (Hr:=[]) (n:=0) (l:=[]) Zz Zz Zz Zz Zz Zz Zz Zz (Zr _) (Grow.block (ys:=[]) rfl rfl (by intro p hp;cases hp) rfl Zh) Yb3 h (by show _*128≤_;omega) Zi (fun v' Hs' hO'=>?_))
  obtain ⟨Av',cv',rfl,_,_⟩:=hO'.form
  refine zV ?_;intros
  refine YcD (H':=Hs') (H2:=[]) rfl rfl (by simp) (fun fz3 hle3 _=>(hO'.mono hle3).of (by simp) Zi)
variable {vb:Value}
theorem Yft {vt:Value} {l:List Bs} (h:Sl strL fz A n c l) (hn:n≤1000000000) (ht:ToE fz vt):
 GFn prog 220 [.slice A n c,vt,vb] fz [] (fun v fz' H'=>H'=[]∧IsSl strL fz' v l):=by
 have ln:=h.len
 refine zF Tryz.func220 Tryz.ntmps220 (fun w0=>?_)
 refine zW ?_;intros
 refine Yb Zz (Yl [] [] Zz Zz Zz (Yd6 h hn) (fun v6 fz6 H6 hle6 hR6=>?_))
 obtain ⟨A6,c6,rfl,_,_⟩:=hR6.form
 refine Seq.freezeAll (H1:=[]) (H2:=H6) (by simp) (fun fz7 hle7 hf7=>?_)
 obtain ⟨A7,c7,e7,h7⟩:=hR6.sl hle7 hf7 Zi
 injection e7 with e71 e72 e73
 subst e71;subst e73
 have ht7:=ht.mono (hle6.trans hle7)
 refine zW ?_;intros
 refine Yk (fun q σ fz' H'=>∃ k:Nat,k≤n∧q=n - k∧σ=[(16,.int .i64 k),(15,.int .i64 n),(14,.slice A6 n c6),(7,.slice A6 n c6),(1,vt),(2,vb)]∧fz7=fz'∧H'=[]) ⟨0,Z0 _,rfl,rfl,rfl,rfl⟩ Zw Zb ?_
 rintro q σ fz' H' ⟨k,hk,rfl,rfl,rfl,rfl⟩
 refine zW ?_;intros
 refine zC (fun c1=>?_) (fun c1=>?_)
 ·obtain ⟨x,hx⟩:=Yg (l:=l) (k:=k) Zi
  refine zW ?_;intros
  refine zI h7 hx (fun p1 hp1=>?_)
  refine zH hp1 (fun hs1=>?_)
  refine zW ?_;intros
  rcases ht7 with rfl | ⟨g,rfl,hg⟩
  ·refine zG ?_;refine Yin (v:=.string ⟨#[]⟩) T Zz Zz Zz Zz Zz Zz Zz rfl ?_
   refine zW ?_;intros
   exact YA ⟨k+1,by omega,rfl,rfl,rfl,rfl⟩ Zi Zw Zb
  ·refine zG ?_;refine YY (v:=.string ⟨#[]⟩) (b:=false) T Zz Zz Zz Zz Zz Zz Zz hg rfl rfl ?_
   refine zW ?_;intros
   exact YA ⟨k+1,by omega,rfl,rfl,rfl,rfl⟩ Zi Zw Zb
 ·refine zW ?_;intros
  exact YdP rfl rfl (fun fz3 hle3 _=>⟨rfl,(h7.mono hle3).is⟩)
theorem X2 {α:Type}:∀ {l:List α} {k:Nat} {x:α},l[k]?=some x→l.set k x=l
 | [],k,x,h=>by simp at h
 | a::r,0,x,h=>by simp at h;subst h;rfl
 | a::r,k+1,x,h=>by rw [List.set_cons_succ,X2 (by simpa using h)]
def ExprV (fz:FZ) (e:Lx.Expr) (v:Value):Prop:=∃ wa wk,v=.agg #[.string e.op,.string e.name,.int .i64 e.n,wa,wk]∧ExprR fz e wa wk
set_option maxHeartbeats 4000000 in
theorem YgG:∀ (s:Nat) {fz:FZ} {e:Lx.Expr} {va vk vt vb:Value},SizeOf.sizeOf e≤s→ExprR fz e va vk→ToE fz vt→eW e≤1000000000→
 GFn prog 219 [.agg #[.string e.op,.string e.name,.int .i64 e.n,va,vk],vt,vb] fz [] (fun v fz' H'=>H'=[]∧ExprV fz' e v)
 | 0,_,e,_,_,_,_,hse,_,_,_=>by cases e;simp at hse
 | s+1,fz,e,va,vk,vt,vb,hse,hR,ht,hW=>by
  have hweq:=eW_eq e
  have hkl:=Wx eW_pos e.kids
  obtain ⟨B1,m1,d1,rfl,ia⟩:=hR.args
  obtain ⟨B2,m2,d2,rfl,ik⟩:=hR.kids
  have l1:=ia.len
  have l2:=ik.len
  refine zF Tryz.func219 Tryz.ntmps219 (fun w0=>?_)
  refine zW ?_;intros
  rename_i g3 g6
  refine Yb Zz (Yl [] [_,_] Zz Zz Zz (Yft ia Zi ht) (fun v1 fz1 H1 hle1 hR1=>?_))
  obtain ⟨rfl,B3,m3,d3,rfl,ia1⟩:=hR1
  refine zW ?_;intros
  refine Yb Zz (Yl [] [_,_] Zz Zz Zz (YjJ (ik.mono hle1) Zi) (fun v2 fz2 H2 hle2 hR2=>?_))
  obtain ⟨B4,d4,rfl,_,_⟩:=hR2.form
  refine Seq.perm Zq ?_
  refine zW ?_;intros
  refine Yk (fun q σ fz' H'=>∃ (k:Nat) (Hk:HP),k≤m2∧q=m2 - k∧σ=[(22,.int .i64 k),(21,.int .i64 m2),(20,.slice B4 m2 d4),(6,.pointer (some ⟨g6,0,none⟩)),(3,.pointer (some ⟨g3,0,none⟩)),(1,vt),(2,vb)]∧Le fz2 fz'∧
   H'=(g6,.cells #[.string ⟨#[]⟩,.string ⟨#[]⟩,.int .i64 0,.slice none 0 0,.slice none 0 0] 36 (0,0))::(g3,.cells #[.string e.op,.string e.name,.int .i64 e.n,.slice B3 m3 d3,.slice B4 m2 d4] 36 (0,0))::Hk∧
   Grow exprL 36 fz' (.slice B4 m2 d4) m2 Hk e.kids) ⟨0,H2,Z0 _,rfl,rfl,Le.refl _,rfl,hR2⟩ Zw Zb ?_
  rintro q σ fz' H' ⟨k,Hk,hk,rfl,rfl,hle,rfl,hG⟩
  refine zW ?_;intros
  refine zC (fun c1=>?_) (fun c1=>?_)
  ·obtain ⟨x,hx⟩:=Yg (l:=e.kids) (k:=k) Zi
   have hxm:=Zm hx
   have hlt:=Expr.kids_lt hxm
   have hxw:=Xz (w:=eW) hxm
   obtain ⟨gk,cap,cur,e8,rfl,hB⟩:=hG.b Zi
   injection e8 with e81 e82 e83
   subst e81;subst e83
   obtain ⟨cs,hrx,hcx⟩:=YcP hB hx
   obtain ⟨wa,wk,rfl,hRx⟩:=YP hrx
   obtain ⟨E1,r1,q1,rfl,_⟩:=hRx.args
   obtain ⟨E2,r2,q2,rfl,_⟩:=hRx.kids
   refine zW ?_;intros
   refine zG ?_;refine Yo T Zz Zz Zz Zz Zz rfl Zi Zi ?_
   refine zG ?_;refine Yn (vs:=[.string x.op,.string x.name,.int .i64 x.n,.slice E1 r1 q1,.slice E2 r2 q2]) T 2 Zz Zz Zz Zz hcx Zz ?_
   refine zWN ?_;intros
   refine Wp.drawK (Hq:=[_,_,_,_]) T.mixed Zj Zj Zb ?_
   refine zW ?_;intros
   refine Ye ?_
   refine Ye ?_
   refine Ye ?_
   refine YD ⟨by kernel_rfl,?_⟩
   refine Yj (Yl [] [_,_,_,_] Zz Zz Zz (YgG s Zi hRx (ht.mono (hle1.trans (hle2.trans hle))) Zi) (fun v5 fz5 H5 hle5 hR5=>⟨(⟨hle5,Zx⟩),?_⟩))
   obtain ⟨rfl,wa5,wk5,rfl,hR5⟩:=hR5
   refine Ch.qk (⟨hle5,Zx⟩) (Yo T Zz Zz Zz Zz Zz rfl Zi Zi ?_)
   refine Ch.hard0 Zj (YE T (pre:=[_,_,_]) (L:=exprL) (j:=k) Zz Zz Zz rfl rfl Zz Ygx (YaC hR5) (hB.mono hle5) Zi (fun cur1 hB1=>?_))
   refine Ch.done ?_
   refine zW ?_;intros
   exact YA ⟨k+1,_,by omega,rfl,rfl,hle.trans hle5,rfl,hB1.grow.of (X2 hx) rfl⟩ Zi Zw Zb
  ·refine zW ?_;intros
   refine Y1 T (i:=0) rfl Zz Zz Zz Zz Zz (fun fz3 hle3 hf3=>?_)
   obtain ⟨A9,c9,e9,h9⟩:=hG.sl hle3 (fun p hp=>hf3 p (by simp [hp])) Zi
   injection e9 with e91 e92 e93
   subst e91;subst e93
   exact ⟨rfl,_,_,rfl,{hR with args:=(ia1.mono (hle2.trans (hle.trans hle3))).is,kids:=h9.is}⟩
def FormulaV (fz:FZ) (f:Formula) (v:Value):Prop:=∃ va vp ve vk,v=.agg #[.string f.op,.string f.name,va,vp,ve,vk]∧FormulaR fz f va vp ve vk
theorem FormulaV.mono (h:FormulaV fz f v) (hle:Le fz fz'):FormulaV fz' f v:=by
 obtain ⟨va,vp,ve,vk,h1,h2⟩:=h
 exact ⟨va,vp,ve,vk,h1,h2.mono hle⟩
theorem inner_f {op name:Bs} {B1 B2 B3 B4:Option Addr} {m1 d1 m2 d2 m3 d3 m4 d4:Nat} {ps:List Param} {bs:List Bs} (ip:Sl paramL fz B2 m2 d2 ps) (hb:Sl strL fz A n c bs) (hn:n+ps.length≤1000000000):
 GFn prog 223 [.agg #[.string op,.string name,.slice B1 m1 d1,.slice B2 m2 d2,.slice B3 m3 d3,.slice B4 m4 d4],.slice A n c] fz [] (fun v fz' H'=>H'=[]∧∃ B m d,v=.slice B m d∧Sl strL fz' B m d (bs++ps.map (·.name))):=by
 have l2:=ip.len
 have lb:=hb.len
 refine zF Tryz.func223 Tryz.ntmps223 (fun w0=>?_)
 refine Yp (Yq (Yb Zz (Y3 _ Zz Zz (fun g2=>?_))))
 refine zW ?_;intros
 refine Yb Zz (Yl [] [_] Zz Zz Zz (Yd6 hb Zi) (fun v6 fz6 H6 hle6 hR6=>?_))
 obtain ⟨A6,c6,rfl,_,_⟩:=hR6.form
 refine Seq.perm Zq ?_
 refine zW ?_;intros
 refine Yk (fun q σ fz' H'=>∃ (k:Nat) (u:Value) (Hs:HP),k≤m2∧q=m2 - k∧σ=[(13,.int .i64 k),(12,.int .i64 m2),(11,.slice B2 m2 d2),(5,u)]∧fz6=fz'∧H'=Hs∧Grow strL 9 fz6 u (n+k) Hs (bs++(ps.take k).map (·.name))) ⟨0,_,H6,Z0 _,rfl,rfl,rfl,rfl,hR6.of (by simp) Zi⟩ Zw (List.sublist_append_right [_] _) ?_
 rintro q σ fz' H' ⟨k,u,Hs,hk,rfl,rfl,rfl,rfl,hG⟩
 obtain ⟨Au,cu,rfl,_,_⟩:=hG.form
 refine zW ?_;intros
 refine zC (fun c1=>?_) (fun c1=>?_)
 ·obtain ⟨x,hx⟩:=Yg (l:=ps) (k:=k) Zi
  refine zW ?_;intros
  refine zI (ip.mono hle6) hx (fun p1 hp1=>?_)
  refine zL hp1 ?_
  intro cs hcs
  obtain ⟨rfl,hRx⟩:=YT hcs
  refine zW ?_;intros
  refine Yb Zz (Yc T (cs:=[.string x.name]) Zz Zz Zz Zz Zz Zz Zz Zz (fun gb=>?_))
  refine Yb Zz (YK T (Hr:=[_,_]) (d:=x.name) Zz Zz Zz Zz Zz Zz Zz Zz (Zr _) hG YbM (.head _) ⟨rfl,hRx.name⟩ (by show _*16≤_;omega) Zi (fun v' Hs' hO'=>?_))
  obtain ⟨Av',cv',rfl,_,_⟩:=hO'.form
  refine zW ?_;intros
  exact YA ⟨k+1,_,Hs',by omega,rfl,rfl,rfl,rfl,hO'.of (by rw [List.take_add_one,hx];simp) Zi⟩ Zi Zw Zb
 ·have hk2:k=m2:=by omega
  subst hk2
  rw [Zl Zi] at hG
  refine zW ?_;intros
  refine YdP rfl rfl (fun fz3 hle3 hf3=>?_)
  obtain ⟨A9,c9,e9,h9⟩:=hG.sl hle3 hf3 Zi
  exact ⟨rfl,A9,_,c9,e9,h9⟩
theorem perm3 {H6 H7 H8:HP} {a b:Nat × Obj}:(a::b::((H7++H8)++H6)).Perm (H8++(H7++(H6++ [a,b]))):=by
 rw [show H8++(H7++(H6++ [a,b]))=((H8++H7)++H6)++ [a,b] from by simp [List.append_assoc]]
 exact (Zq (l₁:=[a,b])).trans ((List.perm_append_comm.append_right H6).append_right [a,b])
set_option maxHeartbeats 8000000 in
theorem bind_f:∀ (s:Nat) {fz:FZ} {f:Formula} {va vp ve vk vt:Value} {A:Option Addr} {n c:Nat} {bs:List Bs},SizeOf.sizeOf f≤s→FormulaR fz f va vp ve vk→ToE fz vt→Sl strL fz A n c bs→n+fW f≤1000000000→
 GFn prog 202 [.agg #[.string f.op,.string f.name,va,vp,ve,vk],vt,.slice A n c] fz [] (fun v fz' H'=>H'=[]∧FormulaV fz' f v)
 | 0,_,f,_,_,_,_,_,_,_,_,_,hse,_,_,_,_=>by cases f;simp at hse
 | s+1,fz,f,va,vp,ve,vk,vt,A,n,c,bs,hse,hR,ht,hb,hW=>by
  have hweq:=Yca f
  have hkl:=Wx fW_pos f.kids
  have hel:=Wx eW_pos f.exprs
  obtain ⟨B1,m1,d1,rfl,ia⟩:=hR.args
  obtain ⟨B2,m2,d2,rfl,ip⟩:=hR.params
  obtain ⟨B3,m3,d3,rfl,ie⟩:=hR.exprs
  obtain ⟨B4,m4,d4,rfl,ik⟩:=hR.kids
  have l1:=ia.len
  have l2:=ip.len
  have l3:=ie.len
  have l4:=ik.len
  have lb:=hb.len
  refine zF Tryz.func202 Tryz.ntmps202 (fun w0=>?_)
  refine zW ?_;intros
  rename_i g3 g6
  refine Yb Zz (Yl [] [_,_] Zz Zz Zz (Yft ia Zi ht) (fun v1 fz1 H1 hle1 hR1=>?_))
  obtain ⟨rfl,B5,m5,d5,rfl,ia1⟩:=hR1
  refine zWN ?_;intros
  refine Wp.drawK (Hq:=[_,_]) T.mixed Zj Zj Zb ?_
  refine zW ?_;intros
  refine Ye ?_
  refine zW ?_;intros
  refine Ye ?_
  refine zW ?_;intros
  refine Ye ?_
  refine zW ?_;intros
  refine Ye ?_
  refine Ye ?_
  refine Ye ?_
  refine Ye ?_
  refine Ye ?_
  refine YD ⟨by kernel_rfl,?_⟩
  refine Yj (Yl [] [_,_] Zz Zz Zz (YaD (ip.mono hle1) Zi) (fun v6 fz6 H6 hle6 hR6=>⟨(⟨hle6,Zx⟩),?_⟩))
  obtain ⟨A6,c6,rfl,_,_⟩:=hR6.form
  refine Yj (Yl [] (H6++ [_,_]) Zz Zz Zz (YjJ (ie.mono (hle1.trans hle6)) Zi) (fun v7 fz7 H7 hle7 hR7=>⟨(⟨(hle6.trans hle7),Zx⟩),?_⟩))
  obtain ⟨A7,c7,rfl,_,_⟩:=hR7.form
  refine Yj (Yl [] (H7++(H6++ [_,_])) Zz Zz Zz (cloneF_q (ik.mono (hle1.trans (hle6.trans hle7))) Zi) (fun v8 fz8 H8 hle8 hR8=>⟨(⟨(hle6.trans (hle7.trans hle8)),Zx⟩),?_⟩))
  obtain ⟨A8,c8,rfl,_,_⟩:=hR8.form
  refine Ch.hard0 Zj (Does.perm perm3 (YZ T Zz Zz Zz Zz Zz Zz ?_))
  refine Ch.hard Zj (DoesQ.does (Y2 T Zz Zz Zz Zz Zz Zz ?_))
  refine Ch.hard0 Zj (YZ T Zz Zz Zz Zz Zz Zz ?_)
  refine Ch.hard Zj (DoesQ.does (Y2 T Zz Zz Zz Zz Zz Zz ?_))
  refine Ch.hard0 Zj (YZ T Zz Zz Zz Zz Zz Zz ?_)
  refine Ch.done ?_
  refine Yck ?_
  refine Wp.freezeAll (H1:=_::_::(H7++H8)) (H2:=H6) (Zr _) (fun fz9 hle9 hf9=>?_)
  obtain ⟨A9,c9,e9,ip9⟩:=hR6.sl (hle7.trans (hle8.trans hle9)) hf9 Zi
  injection e9 with e91 e92 e93
  subst e91;subst e93
  have hx0:=hle1.trans (hle6.trans (hle7.trans (hle8.trans hle9)))
  refine zW ?_;intros
  refine Yk (fun q σ fz' H'=>∃ (k:Nat) (Hk:HP),k≤m3∧q=m3 - k∧σ=[(32,.int .i64 k),(31,.int .i64 m3),(30,.slice A7 m3 c7),(6,.pointer (some ⟨g6,0,none⟩)),(3,.pointer (some ⟨g3,0,none⟩)),(1,vt),(2,.slice A n c)]∧Le fz9 fz'∧
   H'=(g6,.cells #[.string ⟨#[]⟩,.string ⟨#[]⟩,.slice none 0 0,.slice none 0 0,.slice none 0 0,.slice none 0 0] 29 (0,0))::(g3,.cells #[.string f.op,.string f.name,.slice B5 m5 d5,.slice A6 m2 c6,.slice A7 m3 c7,.slice A8 m4 c8] 29 (0,0))::(Hk++H8)∧
   Grow exprL 36 fz' (.slice A7 m3 c7) m3 Hk f.exprs) ⟨0,H7,Z0 _,rfl,rfl,Le.refl _,rfl,hR7.mono (hle8.trans hle9)⟩ Zw Zb ?_
  rintro q σ fz' H' ⟨k,Hk,hk,rfl,rfl,hle,rfl,hG⟩
  refine zW ?_;intros
  refine zC (fun c1=>?_) (fun c1=>?_)
  ·obtain ⟨x,hx⟩:=Yg (l:=f.exprs) (k:=k) Zi
   have hxm:=Zm hx
   have hxw:=Xz (w:=eW) hxm
   obtain ⟨gk,cap,cur,e8,rfl,hB⟩:=hG.b Zi
   injection e8 with e81 e82 e83
   subst e81;subst e83
   obtain ⟨cs,hrx,hcx⟩:=YcP hB hx
   obtain ⟨wa,wk,rfl,hRx⟩:=YP hrx
   obtain ⟨E1,r1,q1,rfl,_⟩:=hRx.args
   obtain ⟨E2,r2,q2,rfl,_⟩:=hRx.kids
   refine zW ?_;intros
   refine zG ?_;refine Yo T Zz Zz Zz Zz Zz rfl Zi Zi ?_
   refine zG ?_;refine Yn (vs:=[.string x.op,.string x.name,.int .i64 x.n,.slice E1 r1 q1,.slice E2 r2 q2]) T 2 Zz Zz Zz Zz hcx Zz ?_
   refine zWN ?_;intros
   refine Wp.drawK (Hq:=[_,_,_,_]) T.mixed Zj Zj Zb ?_
   refine zW ?_;intros
   refine Ye ?_
   refine Ye ?_
   refine Ye ?_
   refine YD ⟨by kernel_rfl,?_⟩
   refine Yj (Yl [] (_::_::_::_::H8) Zz Zz Zz (YgG _ (Zs _) hRx (ht.mono (hx0.trans hle)) Zi) (fun v5 fz5 H5 hle5 hR5=>⟨(⟨hle5,Zx⟩),?_⟩))
   obtain ⟨rfl,wa5,wk5,rfl,hR5⟩:=hR5
   refine Ch.qk (⟨hle5,Zx⟩) (Yo T Zz Zz Zz Zz Zz rfl Zi Zi ?_)
   refine Ch.hard0 Zj (YE T (pre:=[_,_,_]) (L:=exprL) (j:=k) Zz Zz Zz rfl rfl Zz Ygx (YaC hR5) (hB.mono hle5) Zi (fun cur1 hB1=>?_))
   refine Ch.done ?_
   refine zW ?_;intros
   exact YA ⟨k+1,[_],by omega,rfl,rfl,hle.trans hle5,rfl,hB1.grow.of (X2 hx) rfl⟩ Zi Zw Zb
  ·first
   | refine Wp.freezeAll (H1:=_::_::H8) (H2:=Hk) (List.Perm.cons _ (List.Perm.cons _ Zq)) (fun fz10 hle10 hf10=>?_)
   | refine Seq.freezeAll (H1:=_::_::H8) (H2:=Hk) (List.Perm.cons _ (List.Perm.cons _ Zq)) (fun fz10 hle10 hf10=>?_)
   obtain ⟨A10,c10,e10,ie10⟩:=hG.sl hle10 hf10 Zi
   injection e10 with e101 e102 e103
   subst e101;subst e103
   have hx1:=hx0.trans (hle.trans hle10)
   have hRn:FormulaR fz10 f (.slice B5 m5 d5) (.slice A6 m2 c6) (.slice A7 m3 c7) (.slice B4 m4 d4):={hR with args:=(ia1.mono (hle6.trans (hle7.trans (hle8.trans (hle9.trans (hle.trans hle10)))))).is,params:=(ip9.mono (hle.trans hle10)).is,exprs:=ie10.is,kids:=(ik.mono hx1).is}
   refine zW ?_;intros
   refine Yb Zz (Yl [] (_::_::H8) Zz Zz Zz (inner_f (ip9.mono (hle.trans hle10)) (hb.mono hx1) Zi) (fun v11 fz11 H11 hle11 hR11=>?_))
   obtain ⟨rfl,A11,n11,c11,rfl,hb11⟩:=hR11
   have l11:=hb11.len
   rw [List.length_append,List.length_map,lb] at l11
   refine zW ?_;intros
   refine Yk (fun q σ fz' H'=>∃ (k:Nat) (Hk:HP),k≤m4∧q=m4 - k∧σ=[(52,.int .i64 k),(51,.int .i64 m4),(50,.slice A8 m4 c8),(6,.pointer (some ⟨g6,0,none⟩)),(3,.pointer (some ⟨g3,0,none⟩)),(1,vt),(2,.slice A11 n11 c11)]∧Le fz11 fz'∧
    H'=(g6,.cells #[.string ⟨#[]⟩,.string ⟨#[]⟩,.slice none 0 0,.slice none 0 0,.slice none 0 0,.slice none 0 0] 29 (0,0))::(g3,.cells #[.string f.op,.string f.name,.slice B5 m5 d5,.slice A6 m2 c6,.slice A7 m3 c7,.slice A8 m4 c8] 29 (0,0))::Hk∧
    Grow formulaL 29 fz' (.slice A8 m4 c8) m4 Hk f.kids) ⟨0,H8,Z0 _,rfl,rfl,Le.refl _,rfl,hR8.mono (hle9.trans (hle.trans (hle10.trans hle11)))⟩ Zw Zb ?_
   rintro q σ fz' H' ⟨k,Hk,hk,rfl,rfl,hle12,rfl,hG12⟩
   refine zW ?_;intros
   refine zC (fun c2=>?_) (fun c2=>?_)
   ·obtain ⟨x,hx⟩:=Yg (l:=f.kids) (k:=k) Zi
    have hxm:=Zm hx
    have hlt:=Formula.kids_lt hxm
    have hxw:=Xz (w:=fW) hxm
    obtain ⟨gk,cap,cur,e8,rfl,hB⟩:=hG12.b Zi
    injection e8 with e81 e82 e83
    subst e81;subst e83
    obtain ⟨cs,hrx,hcx⟩:=YcP hB hx
    obtain ⟨wa,wp,we,wk,rfl,hRx⟩:=YM hrx
    obtain ⟨E1,r1,q1,rfl,_⟩:=hRx.args
    obtain ⟨E2,r2,q2,rfl,_⟩:=hRx.params
    obtain ⟨E3,r3,q3,rfl,_⟩:=hRx.exprs
    obtain ⟨E4,r4,q4,rfl,_⟩:=hRx.kids
    refine zW ?_;intros
    refine zG ?_;refine Yo T Zz Zz Zz Zz Zz rfl Zi Zi ?_
    refine zG ?_;refine Yn (vs:=[.string x.op,.string x.name,.slice E1 r1 q1,.slice E2 r2 q2,.slice E3 r3 q3,.slice E4 r4 q4]) T 2 Zz Zz Zz Zz hcx Zz ?_
    refine zWN ?_;intros
    refine Wp.drawK (Hq:=[_,_,_,_]) T.mixed Zj Zj Zb ?_
    refine zW ?_;intros
    refine Ye ?_
    refine Ye ?_
    refine Ye ?_
    refine YD ⟨by kernel_rfl,?_⟩
    refine Yj (Yl [] [_,_,_,_] Zz Zz Zz (bind_f s Zi hRx (ht.mono (hx1.trans (hle11.trans hle12))) (hb11.mono hle12) Zi) (fun v5 fz5 H5 hle5 hR5=>⟨(⟨hle5,Zx⟩),?_⟩))
    obtain ⟨rfl,wa5,wp5,we5,wk5,rfl,hR5⟩:=hR5
    refine Ch.qk (⟨hle5,Zx⟩) (Yo T Zz Zz Zz Zz Zz rfl Zi Zi ?_)
    refine Ch.hard0 Zj (YE T (pre:=[_,_,_]) (L:=formulaL) (j:=k) Zz Zz Zz rfl rfl Zz Yb3 (YX hR5) (hB.mono hle5) Zi (fun cur1 hB1=>?_))
    refine Ch.done ?_
    refine zW ?_;intros
    exact YA ⟨k+1,_,by omega,rfl,rfl,hle12.trans hle5,rfl,hB1.grow.of (X2 hx) rfl⟩ Zi Zw Zb
   ·refine zW ?_;intros
    refine Y1 T (i:=0) rfl Zz Zz Zz Zz Zz (fun fz3 hle3 hf3=>?_)
    obtain ⟨A13,c13,e13,h13⟩:=hG12.sl hle3 (fun p hp=>hf3 p (by simp [hp])) Zi
    injection e13 with e131 e132 e133
    subst e131;subst e133
    exact ⟨rfl,_,_,_,_,rfl,{hRn.mono (hle11.trans (hle12.trans hle3)) with kids:=h13.is}⟩
def cmpF (op:Bs) (a b:Lx.Expr):Formula:=.mk op ⟨#[]⟩ [] [] [a,b] []
set_option maxHeartbeats 4000000 in
theorem YeA {op:Bs} {a b:Lx.Expr} {wa wk:Value} (ho:Short op) (hRa:ExprR fz a va vk) (hRb:ExprR fz b wa wk) (ha:eW a≤1000000000) (hb:eW b≤1000000000):
 GFn prog 201 [.string op,.agg #[.string a.op,.string a.name,.int .i64 a.n,va,vk],.agg #[.string b.op,.string b.name,.int .i64 b.n,wa,wk]] fz [] (fun v fz' H'=>H'=[]∧FormulaV fz' (cmpF op a b) v):=by
 obtain ⟨A1,n1,c1,rfl,ia⟩:=hRa.args
 obtain ⟨A2,n2,c2,rfl,ik⟩:=hRa.kids
 obtain ⟨A3,n3,c3,rfl,ja⟩:=hRb.args
 obtain ⟨A4,n4,c4,rfl,jk⟩:=hRb.kids
 refine zF Tryz.func201 Tryz.ntmps201 (fun w0=>?_)
 refine zW ?_;intros
 rename_i g4 g5 g6
 refine Yb Zz (Xo (fun gm=>?_))
 refine Seq.freezeAll (H1:=[_,_,_]) (H2:=[_]) (Zq (l₁:=[_])) (fun fz1 hle1 hf1=>?_)
 have ht:ToE fz1 (.map (some gm)):=.inr ⟨gm,rfl,hf1 _ (List.mem_singleton.2 rfl)⟩
 refine zWN ?_;intros
 refine Wp.drawK (Hq:=[_,_,_]) T.mixed Zj Zj Zb ?_
 refine zW ?_;intros
 refine Ye ?_
 refine zW ?_;intros
 refine Ye ?_
 refine Ye ?_
 refine Ye ?_
 refine Ye ?_
 refine YD ⟨by kernel_rfl,?_⟩
 refine Yj (Yl [] [_,_,_] Zz Zz Zz (YgG _ (Zs _) (hRa.mono hle1) ht ha) (fun v2 fz2 H2 hle2 hR2=>⟨(⟨hle2,Zx⟩),?_⟩))
 obtain ⟨rfl,wa2,wk2,rfl,hR2⟩:=hR2
 refine Yj (Yl [] [_,_,_] Zz Zz Zz (YgG _ (Zs _) (hRb.mono (hle1.trans hle2)) (ht.mono hle2) hb) (fun v3 fz3 H3 hle3 hR3=>⟨(⟨(hle2.trans hle3),Zx⟩),?_⟩))
 obtain ⟨rfl,wa3,wk3,rfl,hR3⟩:=hR3
 refine Yj (Yc T (cs:=[.string a.op,.string a.name,.int .i64 a.n,wa2,wk2,.string b.op,.string b.name,.int .i64 b.n,wa3,wk3]) Zz Zz Zz Zz Zz Zz Zz Zz (fun gb=>⟨(⟨(hle2.trans hle3),Zx⟩),?_⟩))
 refine Ch.qk (⟨(hle2.trans hle3),Zx⟩) (YS T Zz Zz Zz Zz Zz ?_)
 refine Ch.hard0 Zj (YZ T Zz Zz Zz Zz Zz Zz ?_)
 refine Ch.done ?_
 refine zW ?_;intros
 refine Y1 T (i:=1) rfl Zz Zz Zz Zz Zz (fun fz4 hle4 hf4=>?_)
 have hgb:Grow exprL 36 fz3 (.slice (some ⟨gb,0,none⟩) 2 2) 2 [(gb,.cells #[.string a.op,.string a.name,.int .i64 a.n,wa2,wk2,.string b.op,.string b.name,.int .i64 b.n,wa3,wk3] 36 (0,0))] [a,b]:=
  Grow.block (ys:=[(a,_),(b,_)]) rfl rfl (by intro p hp;simp at hp;rcases hp with rfl | rfl;exact YaC (hR2.mono hle3);exact YaC hR3) rfl Zh
 obtain ⟨B1,d1,e1,hS1⟩:=hgb.sl hle4 (fun p hp=>hf4 p (by simp at hp;subst hp;simp)) Zh
 exact ⟨rfl,_,_,_,_,rfl,⟨ho,(Z0 _),IsSl.nil,IsSl.nil,⟨B1,_,d1,e1,hS1⟩,IsSl.nil⟩⟩
theorem YfK {a b:Bs} {s:Bool}:QFn prog 200 [.string a,.string b,.bool s] fz (.string (if s=true then a else b)):=by
 refine GFn.quiet ?_
 refine zF Tryz.func200 Tryz.ntmps200 (fun w0=>?_)
 cases s with
 | true=>
  refine zW ?_;intros
  exact zR (h:=rfl)
 | false=>
  refine zW ?_;intros
  exact zR (h:=rfl)
end Go.Proofs.YtbnpeechpebmeaaGreatDoor
namespace Go.Proofs.YtbnpeechpebmeaaGreatDoor
open Go.Lx Go.RowKit
attribute [local instance 10] Classical.propDecidable
mutual
def mW:Formula→Nat
 | .mk op _ _ _ _ kids=>(if op=kImply then 7 else 3)+mWL kids
def mWL:List Formula→Nat
 | []=>0
 | k::r=>mW k+mWL r
end
theorem mWL_sum (l:List Formula):mWL l=(l.map mW).sum:=by
 induction l with
 | nil=>rw [mWL];rfl
 | cons a r ih=>rw [mWL,ih];rfl
theorem Ykj (f:Formula):mW f=(if f.op=kImply then 7 else 3)+(f.kids.map mW).sum:=by cases f;rw [mW,mWL_sum];rfl
theorem Yjl (f:Formula):1≤mW f:=by rw [Ykj];split<;>omega
def joinL (op:Bs) (ns:List Formula):List Formula:=ns.flatMap fun n=>if n.op=op then n.kids else [n]
def joinF (op:Bs) (ns:List Formula):Formula:=.mk op ⟨#[]⟩ [] [] [] (joinL op ns)
def Ycx:Formula:=.mk ⟨#[]⟩ ⟨#[]⟩ [] [] [] []
def zeroE:Lx.Expr:=.mk ⟨#[]⟩ ⟨#[]⟩ 0 [] []
def headN (l:List Formula):Formula:=l.headD Ycx
def secN (l:List Formula):Formula:=(l[1]?).getD Ycx
def exprAt (l:List Lx.Expr) (i:Nat):Lx.Expr:=(l[i]?).getD zeroE
def QuF (op:Bs):Prop:=op=kForall∨op=kExists
mutual
def normM:Bool→Formula→Formula
 | sg,.mk op name args params exprs kids=>
  if op=kNot then headN (normL (!sg) kids)
  else if op=kImply then joinF (if sg=true then kOr else kAnd) [headN (normL (!sg) kids),secN (normL sg kids)]
  else if op=kAnd then joinF (if sg=true then kAnd else kOr) (normL sg kids)
  else if op=kOr then joinF (if sg=true then kOr else kAnd) (normL sg kids)
  else if QuF op then .mk (if sg=true then op else if op=kForall then kExists else kForall) ⟨#[]⟩ [] params [] [headN (normL sg kids)]
  else if op=kLt then (if sg=true then cmpF kLt (exprAt exprs 0) (exprAt exprs 1) else cmpF kLe (exprAt exprs 1) (exprAt exprs 0))
  else if op=kLe then (if sg=true then cmpF kLe (exprAt exprs 0) (exprAt exprs 1) else cmpF kLt (exprAt exprs 1) (exprAt exprs 0))
  else if op=kEq then (if sg=true then cmpF kEq (exprAt exprs 0) (exprAt exprs 1) else .mk kOr ⟨#[]⟩ [] [] [] [cmpF kLt (exprAt exprs 0) (exprAt exprs 1),cmpF kLt (exprAt exprs 1) (exprAt exprs 0)])
  else if sg=true then .mk op name args params exprs kids
  else .mk kNot ⟨#[]⟩ [] [] [] [.mk op name args params exprs kids]
def normL:Bool→List Formula→List Formula
 | _,[]=>[]
 | sg,k::r=>normM sg k::normL sg r
end
theorem Yev (sg:Bool):∀ l:List Formula,normL sg l=l.map (normM sg)
 | []=>by rw [normL];rfl
 | k::r=>by rw [normL,Yev sg r];rfl
theorem Wk (sg:Bool) (f:Formula):normM sg f=
 if f.op=kNot then headN (f.kids.map (normM (!sg)))
 else if f.op=kImply then joinF (if sg=true then kOr else kAnd) [headN (f.kids.map (normM (!sg))),secN (f.kids.map (normM sg))]
 else if f.op=kAnd then joinF (if sg=true then kAnd else kOr) (f.kids.map (normM sg))
 else if f.op=kOr then joinF (if sg=true then kOr else kAnd) (f.kids.map (normM sg))
 else if QuF f.op then .mk (if sg=true then f.op else if f.op=kForall then kExists else kForall) ⟨#[]⟩ [] f.params [] [headN (f.kids.map (normM sg))]
 else if f.op=kLt then (if sg=true then cmpF kLt (exprAt f.exprs 0) (exprAt f.exprs 1) else cmpF kLe (exprAt f.exprs 1) (exprAt f.exprs 0))
 else if f.op=kLe then (if sg=true then cmpF kLe (exprAt f.exprs 0) (exprAt f.exprs 1) else cmpF kLt (exprAt f.exprs 1) (exprAt f.exprs 0))
 else if f.op=kEq then (if sg=true then cmpF kEq (exprAt f.exprs 0) (exprAt f.exprs 1) else .mk kOr ⟨#[]⟩ [] [] [] [cmpF kLt (exprAt f.exprs 0) (exprAt f.exprs 1),cmpF kLt (exprAt f.exprs 1) (exprAt f.exprs 0)])
 else if sg=true then f else .mk kNot ⟨#[]⟩ [] [] [] [f]:=by
 cases f
 rw [normM,Yev,Yev]
 rfl
inductive NSh:Formula→Prop
 | mk {f:Formula} (h1:f.op=kNot∨f.op=kForall∨f.op=kExists→f.kids≠ []) (h2:f.op=kImply→2≤f.kids.length) (h3:f.op=kLt∨f.op=kLe∨f.op=kEq→2≤f.exprs.length)
  (h4:f.op≠kOr→f.op≠kNot→fW f≤1000000000) (h5:∀ k∈f.kids,NSh k):NSh f
variable {f:Formula}
theorem NSh.head (h:NSh f):f.op=kNot∨f.op=kForall∨f.op=kExists→f.kids≠ []:=by cases h with | mk h1 _ _ _ _=>exact h1
theorem NSh.two (h:NSh f):f.op=kImply→2≤f.kids.length:=by cases h with | mk _ h1 _ _ _=>exact h1
theorem NSh.cmp (h:NSh f):f.op=kLt∨f.op=kLe∨f.op=kEq→2≤f.exprs.length:=by cases h with | mk _ _ h1 _ _=>exact h1
theorem NSh.w (h:NSh f):f.op≠kOr→f.op≠kNot→fW f≤1000000000:=by cases h with | mk _ _ _ h1 _=>exact h1
theorem NSh.kid {k:Formula} (h:NSh f) (hk:k∈f.kids):NSh k:=by cases h with | mk _ _ _ _ h1=>exact h1 k hk
theorem YcO {op:Bs}:∀ {ks:List Formula} {g:Formula→Formula},(∀ k∈ks,(g k).kids.length≤mW k)→(joinL op (ks.map g)).length≤(ks.map mW).sum
 | [],g,_=>by simp [joinL]
 | k::r,g,h=>by
  have h1:=h k (by simp)
  have h2:=YcO (op:=op) (ks:=r) (g:=g) (fun x hx=>h x (by simp [hx]))
  have h3:=Yjl k
  unfold joinL at h2 ⊢
  simp only [List.map_cons,List.flatMap_cons,List.length_append,List.sum_cons]
  split
  ·omega
  ·simp only [List.length_singleton];omega
theorem YeE {op:Bs} {a b:Formula} {ma mb:Nat} (ha:a.kids.length≤ma) (hb:b.kids.length≤mb):(joinL op [a,b]).length≤2+ma+mb:=by
 have hz2:∀ (x:Formula) (m:Nat),x.kids.length≤m→(if x.op=op then x.kids else [x]).length≤1+m:=by
  intro x m hx;split
  ·omega
  ·simp
 have h1:=hz2 a ma ha
 have h2:=hz2 b mb hb
 simp only [joinL,List.flatMap_cons,List.flatMap_nil,List.length_append,List.length_nil]
 omega
theorem YeJ {g:Formula→Formula} {l:List Formula} {k:Formula} (h:l[0]?=some k):headN (l.map g)=g k:=by
 cases l with
 | nil=>simp at h
 | cons a r=>simp at h;subst h;rfl
theorem secN_map {g:Formula→Formula} {l:List Formula} {k:Formula} (h:l[1]?=some k):secN (l.map g)=g k:=by
 unfold secN
 rw [List.getElem?_map,h];rfl
theorem Ydi:∀ (s:Nat) (sg:Bool) {f:Formula},SizeOf.sizeOf f≤s→(normM sg f).kids.length≤mW f
 | 0,_,f,h=>by cases f;simp at h
 | s+1,sg,f,h=>by
  have ih:∀ sg,∀ k∈f.kids,(normM sg k).kids.length≤mW k:=fun sg k hk=>Ydi s sg (by have:=Formula.kids_lt hk;omega)
  have hm:=Ykj f
  have hs:=Wx Yjl f.kids
  have hh:∀ sg,(headN (f.kids.map (normM sg))).kids.length≤(f.kids.map mW).sum:=by
   intro sg
   cases hk:f.kids with
   | nil=>exact Z0 _
   | cons k r=>
    have:=ih sg k (by rw [hk];simp)
    show (normM sg k).kids.length≤_
    simp only [List.map_cons,List.sum_cons];omega
  have hle:(f.kids.map mW).sum≤mW f:=by omega
  rw [Wk]
  split
  ·exact Nat.le_trans (hh _) hle
  ·split
   ·rename_i hi
    rw [if_pos hi] at hm
    have hz:Ycx.kids.length≤0:=Zs _
    cases hk:f.kids with
    | nil=>
     have:=YeE (op:=if sg=true then kOr else kAnd) hz hz
     rw [hm]
     exact Nat.le_trans this Zi
    | cons k0 r=>
     have h0:=ih (!sg) k0 (by rw [hk];simp)
     cases hr:r with
     | nil=>
      rw [hk,hr] at hm
      simp only [List.map_cons,List.map_nil,List.sum_cons,List.sum_nil] at hm
      have:=YeE (op:=if sg=true then kOr else kAnd) h0 hz
      rw [hm]
      exact Nat.le_trans this Zi
     | cons k1 r=>
      have h1:=ih sg k1 (by rw [hk,hr];simp)
      rw [hk,hr] at hm
      simp only [List.map_cons,List.sum_cons] at hm
      have:=YeE (op:=if sg=true then kOr else kAnd) h0 h1
      rw [hm]
      exact Nat.le_trans this Zi
   ·split
    ·exact Nat.le_trans (YcO (fun k hk=>ih sg k hk)) hle
    ·split
     ·exact Nat.le_trans (YcO (fun k hk=>ih sg k hk)) hle
     ·have h3:3≤mW f:=by rw [hm];split<;>omega
      split
      ·show 1≤_;omega
      ·split
       ·split<;>exact Z0 _
       ·split
        ·split<;>exact Z0 _
        ·split
         ·split
          ·exact Z0 _
          ·show 2≤_;omega
         ·split
          ·omega
          ·show 1≤_;omega
end Go.Proofs.YtbnpeechpebmeaaGreatDoor
