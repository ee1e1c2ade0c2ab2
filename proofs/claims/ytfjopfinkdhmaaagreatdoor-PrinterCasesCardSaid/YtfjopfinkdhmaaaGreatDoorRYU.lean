/- The texts Rcm, PNum, YT, YU, PDag, PEag, YG, laid together. Conditions: none. -/
import Derived.Test.YtfjopfinkdhmaaaGreatDoorRYT
set_option linter.all false
noncomputable section
set_option maxRecDepth 20000
namespace Go.Proofs.YtfjopfinkdhmaaaGreatDoor
open Go.Lx Go.RowKit
attribute [local instance 10] Classical.propDecidable
open Go.Proofs.Tryz (prog)
def cmpT:List Bs→List Bs→Int
 | [],l=> -(l.length:Int)
 | x::xs,[]=>((x::xs).length:Int)
 | x::xs,y::ys=>if ltB x y=true then -1 else if x=y then cmpT xs ys else 1
def cmpR (a b:Atom):Int:=if a.name=b.name then cmpT a.args b.args else if ltB a.name b.name=true then -1 else 1
theorem ltB_irr (a:Bs):ltB a a=false:=by
 cases h:ltB a a with
 | false=>rfl
 | true=>
  have:∀ l:List UInt8,Op.bytesLess l l=false:=fun l=>by
   induction l with
   | nil=>rfl
   | cons x r ih=>simp [Op.bytesLess,ih]
  unfold ltB at h
  rw [this] at h;cases h
theorem Yh5:∀ (l l':List Bs),cmpT l l'=0↔l=l'
 | [],[]=>by simp [cmpT]
 | [],_::_=>by simp [cmpT];omega
 | _::_,[]=>by simp [cmpT];omega
 | x::xs,y::ys=>by
  rw [cmpT]
  by_cases h:x=y
  ·subst h
   rw [if_neg (by rw [ltB_irr];decide),if_pos rfl,Yh5 xs ys]
   simp
  ·rw [if_neg h]
   constructor
   ·intro h1;split at h1<;>simp at h1
   ·intro h1;exact absurd (List.cons.inj h1).1 h
theorem Ymt (a b:Atom):cmpR a b=0↔a=b:=by
 unfold cmpR
 by_cases h:a.name=b.name
 ·rw [if_pos h,Yh5]
  cases a;cases b
  simp at h ⊢
  simp [h]
 ·rw [if_neg h]
  constructor
  ·intro h1;split at h1<;>simp at h1
  ·intro h1;exact absurd (by rw [h1]) h
variable {fz:FZ} {va vb:Value}
theorem rcmp_q {a b:Atom} (ha:AtomR fz a va) (hb:AtomR fz b vb):QFn prog 42 [.agg #[.string a.name,va],.agg #[.string b.name,vb]] fz (.int .i64 (cmpR a b)):=by
 obtain ⟨A,n,c,rfl,ia⟩:=ha.args
 obtain ⟨B,m,d,rfl,ib⟩:=hb.args
 have la:=ia.len
 have lb:=ib.len
 have sa:=ia.short
 have sb:=ib.short
 refine GFn.quiet ?_
 refine zF Tryz.func42 Tryz.ntmps42 (fun w0=>?_)
 refine Yk (Yr (Ya Zz (Xc _ Zz Zz (fun g0=>?_))))
 refine Ya Zz (Xc _ Zz Zz (fun g1=>?_))
 refine zW ?_;intros
 refine zC (fun c1=>?_) (fun c1=>?_)
 ·refine zW ?_;intros
  refine zG ?_;refine YfI Zz Zz (fun h1=>?_) (fun h1=>?_)
  ·refine zW ?_;intros
   exact zR (h:=by rw [cmpR,if_neg c1,if_pos h1])
  ·refine zW ?_;intros
   exact zR (h:=by rw [cmpR,if_neg c1,if_neg (by rw [h1];decide)])
 ·have hv:cmpR a b=cmpT a.args b.args:=by rw [cmpR,if_pos c1]
  refine zW ?_;intros
  refine Yl (fun q σ fz' H'=>∃ k:Nat,k≤n∧q=n - k∧σ=[(5,.int .i64 k),(3,.pointer (some ⟨g1,0,none⟩)),(2,.pointer (some ⟨g0,0,none⟩))]∧fz=fz'∧H'=[(g1,.cells #[.string b.name,.slice B m d] 114 (0,0)),(g0,.cells #[.string a.name,.slice A n c] 114 (0,0))]∧k≤m∧cmpT (a.args.drop k) (b.args.drop k)=cmpT a.args b.args) ⟨0,Z0 _,rfl,rfl,rfl,rfl,⟨Z0 _,rfl⟩⟩ Zw Zb ?_;rintro q σ fz' H' ⟨k,hk,rfl,rfl,rfl,rfl,hh⟩
  obtain ⟨hkm,hcm⟩:=hh
  refine zW ?_;intros
  refine zC (fun c2=>?_) (fun c2=>?_)
  ·obtain ⟨x,hx⟩:=Yn (l:=a.args) (k:=k) Zi
   have ex:a.args.drop k=x::a.args.drop (k+1):=by
    obtain ⟨h1,h2⟩:=Zg hx
    rw [← h2];exact List.drop_eq_getElem_cons h1
   refine zW ?_;intros
   refine zC (fun c3=>?_) (fun c3=>?_)
   ·obtain ⟨y,hy⟩:=Yn (l:=b.args) (k:=k) Zi
    have ey:b.args.drop k=y::b.args.drop (k+1):=by
     obtain ⟨h1,h2⟩:=Zg hy
     rw [← h2];exact List.drop_eq_getElem_cons h1
    rw [ex,ey] at hcm
    refine zW ?_;intros
    refine zI ia hx (fun p1 hp1=>?_)
    refine zH hp1 (fun hs1=>?_)
    refine zW ?_;intros
    refine zI ib hy (fun p2 hp2=>?_)
    refine zH hp2 (fun hs2=>?_)
    refine zW ?_;intros
    refine zG ?_;refine YfI Zz Zz (fun h1=>?_) (fun h1=>?_)
    ·refine zW ?_;intros
     exact zR (h:=by rw [hv,← hcm,cmpT,if_pos h1])
    ·refine zW ?_;intros
     refine zI ia hx (fun p3 hp3=>?_)
     refine zH hp3 (fun hs3=>?_)
     refine zW ?_;intros
     refine zI ib hy (fun p4 hp4=>?_)
     refine zH hp4 (fun hs4=>?_)
     refine zW ?_;intros
     refine zG ?_;refine Ykf Zz Zz (fun h2 h3=>?_) (fun h2=>?_)
     ·refine zW ?_;intros
      exact zR (h:=by rw [hv,← hcm,cmpT,if_neg (by rw [h1];decide),if_neg h3])
     ·have h3:x=y:=h2.resolve_left (by rw [h1];decide)
      refine zW ?_;intros
      refine Yz ⟨k+1,by omega,rfl,rfl,rfl,rfl,by omega,?_⟩ Zi Zw Zb
      rw [← hcm,cmpT,if_neg (by rw [h1];decide),if_pos h3]
   ·have ey:b.args.drop k=[]:=List.drop_eq_nil_of_le Zi
    have hkm2:k=m:=by omega
    rw [ex,ey,cmpT,← ex,List.length_drop] at hcm
    refine zW ?_;intros
    exact zR (h:=by rw [hv,← hcm];exact congrArg (Value.int .i64) Zi)
  ·have hk2:k=n:=by omega
   subst hk2
   rw [List.drop_eq_nil_of_le Zi,cmpT,List.length_drop] at hcm
   refine zW ?_;intros
   exact zR (h:=by rw [hv,← hcm];exact congrArg (Value.int .i64) Zi)
theorem num_q {n:Int}:QFn prog 8 [errV n] fz (.int .i64 n):=by
 by_cases h:n=0
 ·subst h
  refine GFn.quiet ?_
  rw [show errV 0=.nilIface from rfl]
  refine zF Tryz.func8 Tryz.ntmps8 (fun w0=>?_)
  refine zW ?_;intros
  exact zR (h:=rfl)
 ·refine GFn.quiet ?_
  rw [Yj h]
  refine zF Tryz.func8 Tryz.ntmps8 (fun w0=>?_)
  refine zW ?_;intros
  exact zR (h:=rfl)
variable {A B:Option Addr} {c n:Nat}
set_option maxHeartbeats 8000000 in
theorem YgL {m d:Nat} {l:List Change} (h1:Sl changeL fz A n c l) (h2:Sl changeL fz B m d l):QFn prog 41 [.slice A n c,.slice B m d] fz (.bool true):=by
 have k1:=h1.len
 have k2:=h2.len
 have k3:=h1.short
 subst k1 k2
 refine GFn.quiet ?_
 refine zF Tryz.func41 Tryz.ntmps41 (fun w0=>?_)
 refine zW ?_;intros
 (((refine zC (fun c1=>?_) (fun c1=>?_));(exact absurd rfl c1);(refine zW ?_;intros)))
 refine Yl (fun q σ fz' H'=>∃ k:Nat,k≤l.length∧q=l.length - k∧σ=[(5,.int .i64 k),(0,.slice A l.length c),(1,.slice B l.length d)]∧fz=fz'∧H'=[]) ⟨0,Z0 _,rfl,rfl,rfl,rfl⟩ Zw Zb ?_;rintro q σ fz' H' ⟨k,hk,rfl,rfl,rfl,rfl⟩
 refine zW ?_;intros
 refine zC (fun c2=>?_) (fun c2=>?_)
 ·obtain ⟨x,hx⟩:=Yn (l:=l) (k:=k) Zi
  have hx':=hx
  refine zWN ?_;intros
  refine Wp.mid (fun σ fz' H'=>∃ g6 g7 ca cb,σ=[(5,.int .i64 k),(7,.pointer (some ⟨g7,0,none⟩)),(6,.pointer (some ⟨g6,0,none⟩)),(0,.slice A l.length c),(1,.slice B l.length d)]∧fz=fz'∧H'=[(g7,.cells (List.toArray cb) 123 (0,0)),(g6,.cells (List.toArray ca) 123 (0,0))]∧changeL.rep fz x ca∧changeL.rep fz x cb) ?_ ?_
  ·refine Wp.drawP [] (Hq:=[]) T.mixed Zj Zj Zb ?_
   refine zW ?_;intros
   refine zI h1 hx (fun p1 hp1=>?_)
   refine zL hp1 ?_
   intro cs1 hr1
   have hr1':=hr1
   obtain ⟨au1,au2,au3,au4,au5,au6,au7,au8,rfl,ahC⟩:=XH hr1
   have ahW:=ahC.when_
   have ahV:=ahC.value
   obtain ⟨aC1,ao1,aq1,rfl,ai1⟩:=ahC.params
   obtain ⟨aC2,ao2,aq2,rfl,ai2⟩:=ahC.when_.args
   obtain ⟨aC3,ao3,aq3,rfl,ai3⟩:=ahC.when_.params
   obtain ⟨aC4,ao4,aq4,rfl,ai4⟩:=ahC.when_.exprs
   obtain ⟨aC5,ao5,aq5,rfl,ai5⟩:=ahC.when_.kids
   obtain ⟨aC6,ao6,aq6,rfl,ai6⟩:=ahC.args
   obtain ⟨aC7,ao7,aq7,rfl,ai7⟩:=ahC.value.args
   obtain ⟨aC8,ao8,aq8,rfl,ai8⟩:=ahC.value.kids
   refine zW ?_;intros
   refine zI h2 hx (fun p2 hp2=>?_)
   refine zL hp2 ?_
   intro cs2 hr2
   have hr2':=hr2
   obtain ⟨bu1,bu2,bu3,bu4,bu5,bu6,bu7,bu8,rfl,bhC⟩:=XH hr2
   have bhW:=bhC.when_
   have bhV:=bhC.value
   obtain ⟨bC1,bo1,bq1,rfl,bi1⟩:=bhC.params
   obtain ⟨bC2,bo2,bq2,rfl,bi2⟩:=bhC.when_.args
   obtain ⟨bC3,bo3,bq3,rfl,bi3⟩:=bhC.when_.params
   obtain ⟨bC4,bo4,bq4,rfl,bi4⟩:=bhC.when_.exprs
   obtain ⟨bC5,bo5,bq5,rfl,bi5⟩:=bhC.when_.kids
   obtain ⟨bC6,bo6,bq6,rfl,bi6⟩:=bhC.args
   obtain ⟨bC7,bo7,bq7,rfl,bi7⟩:=bhC.value.args
   obtain ⟨bC8,bo8,bq8,rfl,bi8⟩:=bhC.value.kids
   refine zW ?_;intros
   refine Ye ?_
   refine Ye ?_
   refine Ye ?_
   refine Ye ?_
   refine PK.done ⟨by kernel_rfl,?_⟩
   refine YG Zz Zz Zz ?_ ?_
   ·refine Yd (YX T Zz Zz (fun g6=>⟨(⟨(Le.refl _),by intro p hp;cases hp⟩),?_⟩))
    refine Yb Zz Zz ?_
    refine Yd (YX T Zz Zz (fun g7=>⟨(⟨(Le.refl _),by intro p hp;cases hp⟩),?_⟩))
    refine Yb Zz Zz ?_
    refine PoS.soft0 (YN T Zz Zz Zz Zz Zz Zz ⟨(⟨(Le.refl _),by intro p hp;cases hp⟩),?_⟩)
    refine Yb Zz Zz ?_
    refine PoS.soft0 (YP T Zz Zz Zz Zz Zz Zz ⟨(⟨(Le.refl _),by intro p hp;cases hp⟩),?_⟩)
    refine Po.done ?_
    refine zW ?_;intros
    exact midN ⟨g6,g7,_,_,rfl,rfl,rfl,hr1',hr2'⟩ Zw Zb
   ·refine Yd (YX T Zz Zz (fun g7=>⟨(⟨(Le.refl _),by intro p hp;cases hp⟩),?_⟩))
    refine Yb Zz Zz ?_
    refine Yd (YX T Zz Zz (fun g6=>⟨(⟨(Le.refl _),by intro p hp;cases hp⟩),?_⟩))
    refine Yb Zz Zz ?_
    refine PoS.soft0 (YP T Zz Zz Zz Zz Zz Zz ⟨(⟨(Le.refl _),by intro p hp;cases hp⟩),?_⟩)
    refine Yb Zz Zz ?_
    refine PoS.soft0 (YN T Zz Zz Zz Zz Zz Zz ⟨(⟨(Le.refl _),by intro p hp;cases hp⟩),?_⟩)
    refine Po.done ?_
    refine zW ?_;intros
    exact midP (H1:=[(g7,_),(g6,_)]) (List.Perm.swap _ _ _) ⟨g6,g7,_,_,rfl,rfl,rfl,hr1',hr2'⟩ Zw Zb
  rintro σ fz' H' ⟨g6,g7,ca,cb,rfl,rfl,rfl,hr1,hr2⟩
  obtain ⟨au1,au2,au3,au4,au5,au6,au7,au8,rfl,ahC⟩:=XH hr1
  have ahW:=ahC.when_
  have ahV:=ahC.value
  obtain ⟨aC1,ao1,aq1,rfl,ai1⟩:=ahC.params
  obtain ⟨aC2,ao2,aq2,rfl,ai2⟩:=ahC.when_.args
  obtain ⟨aC3,ao3,aq3,rfl,ai3⟩:=ahC.when_.params
  obtain ⟨aC4,ao4,aq4,rfl,ai4⟩:=ahC.when_.exprs
  obtain ⟨aC5,ao5,aq5,rfl,ai5⟩:=ahC.when_.kids
  obtain ⟨aC6,ao6,aq6,rfl,ai6⟩:=ahC.args
  obtain ⟨aC7,ao7,aq7,rfl,ai7⟩:=ahC.value.args
  obtain ⟨aC8,ao8,aq8,rfl,ai8⟩:=ahC.value.kids
  obtain ⟨bu1,bu2,bu3,bu4,bu5,bu6,bu7,bu8,rfl,bhC⟩:=XH hr2
  have bhW:=bhC.when_
  have bhV:=bhC.value
  obtain ⟨bC1,bo1,bq1,rfl,bi1⟩:=bhC.params
  obtain ⟨bC2,bo2,bq2,rfl,bi2⟩:=bhC.when_.args
  obtain ⟨bC3,bo3,bq3,rfl,bi3⟩:=bhC.when_.params
  obtain ⟨bC4,bo4,bq4,rfl,bi4⟩:=bhC.when_.exprs
  obtain ⟨bC5,bo5,bq5,rfl,bi5⟩:=bhC.when_.kids
  obtain ⟨bC6,bo6,bq6,rfl,bi6⟩:=bhC.args
  obtain ⟨bC7,bo7,bq7,rfl,bi7⟩:=bhC.value.args
  obtain ⟨bC8,bo8,bq8,rfl,bi8⟩:=bhC.value.kids
  refine zW ?_;intros
  (((refine zC (fun e1=>?_) (fun e1=>?_));(exact absurd rfl e1);(refine zW ?_;intros)))
  (((refine zC (fun e2=>?_) (fun e2=>?_));(exact absurd rfl e2);(refine zW ?_;intros)))
  refine zc (etexts9 ai6 bi6) ?_
  refine zW ?_;intros
  refine zc (YgK ai1 bi1) ?_
  refine zW ?_;intros
  ((refine zG ?_);refine Yp (vs:=[.string x.when_.op,.string x.when_.name,.slice aC2 ao2 aq2,.slice aC3 ao3 aq3,.slice aC4 ao4 aq4,.slice aC5 ao5 aq5]) T 1 Zz Zz Zz Zz Zz Zz ?_)
  refine zW ?_;intros
  ((refine zG ?_);refine Yp (vs:=[.string x.when_.op,.string x.when_.name,.slice bC2 bo2 bq2,.slice bC3 bo3 bq3,.slice bC4 bo4 bq4,.slice bC5 bo5 bq5]) T 0 Zz Zz Zz Zz Zz Zz ?_)
  refine zc (Yks ahW bhW) ?_
  refine zW ?_;intros
  ((refine zG ?_);refine Yp (vs:=[.string x.value.op,.string x.value.name,.int .i64 x.value.n,.slice aC7 ao7 aq7,.slice aC8 ao8 aq8]) T 1 Zz Zz Zz Zz Zz Zz ?_)
  refine zW ?_;intros
  ((refine zG ?_);refine Yp (vs:=[.string x.value.op,.string x.value.name,.int .i64 x.value.n,.slice bC7 bo7 bq7,.slice bC8 bo8 bq8]) T 0 Zz Zz Zz Zz Zz Zz ?_)
  refine zc (eexpr ahV bhV) ?_
  refine zW ?_;intros
  exact Yz ⟨k+1,by omega,rfl,rfl,rfl,rfl⟩ Zi Zw Zb
 ·refine zW ?_;intros
  exact zR (h:=rfl)
variable {v1 v2 v3 v4 v5 v6 w1 w2 w3:Value}
set_option maxHeartbeats 2000000 in
theorem eaction {x:Action} {w4 w5 w6:Value} (h1:ActionR fz x v1 v2 v3 v4 v5 v6) (h2:ActionR fz x w1 w2 w3 w4 w5 w6):
 QFn prog 19 [.agg #[.string x.name,v1,.int .i64 x.cost,.string x.pre.op,.string x.pre.name,v2,v3,v4,v5,v6],.agg #[.string x.name,w1,.int .i64 x.cost,.string x.pre.op,.string x.pre.name,w2,w3,w4,w5,w6]] fz (.bool true):=by
 have p1:=h1.pre
 have p2:=h2.pre
 refine GFn.quiet ?_
 obtain ⟨aC0,ao0,aq0,rfl,ai0⟩:=h1.params
 obtain ⟨aC1,ao1,aq1,rfl,ai1⟩:=h1.pre.args
 obtain ⟨aC2,ao2,aq2,rfl,ai2⟩:=h1.pre.params
 obtain ⟨aC3,ao3,aq3,rfl,ai3⟩:=h1.pre.exprs
 obtain ⟨aC4,ao4,aq4,rfl,ai4⟩:=h1.pre.kids
 obtain ⟨aC5,ao5,aq5,rfl,ai5⟩:=h1.changes
 obtain ⟨bC0,bo0,bq0,rfl,bi0⟩:=h2.params
 obtain ⟨bC1,bo1,bq1,rfl,bi1⟩:=h2.pre.args
 obtain ⟨bC2,bo2,bq2,rfl,bi2⟩:=h2.pre.params
 obtain ⟨bC3,bo3,bq3,rfl,bi3⟩:=h2.pre.exprs
 obtain ⟨bC4,bo4,bq4,rfl,bi4⟩:=h2.pre.kids
 obtain ⟨bC5,bo5,bq5,rfl,bi5⟩:=h2.changes
 refine zF Tryz.func19 Tryz.ntmps19 (fun w0=>?_)
 refine Yk (Yr (Ya Zz (Xc _ Zz Zz (fun g0=>?_))))
 refine Ya Zz (Xc _ Zz Zz (fun g1=>?_))
 refine zW ?_;intros
 (((refine zC (fun e1=>?_) (fun e1=>?_));rotate_left 1;(exact absurd rfl e1);(refine zW ?_;intros)))
 (((refine zC (fun e2=>?_) (fun e2=>?_));rotate_left 1;(exact absurd rfl e2);(refine zW ?_;intros)))
 refine zc (YgK ai0 bi0) ?_
 refine zW ?_;intros
 ((refine zG ?_);refine Yp (vs:=[.string x.pre.op,.string x.pre.name,.slice aC1 ao1 aq1,.slice aC2 ao2 aq2,.slice aC3 ao3 aq3,.slice aC4 ao4 aq4]) T 1 Zz Zz Zz Zz Zz Zz ?_)
 refine zW ?_;intros
 ((refine zG ?_);refine Yp (vs:=[.string x.pre.op,.string x.pre.name,.slice bC1 bo1 bq1,.slice bC2 bo2 bq2,.slice bC3 bo3 bq3,.slice bC4 bo4 bq4]) T 0 Zz Zz Zz Zz Zz Zz ?_)
 refine zc (Yks p1 p2) ?_
 refine zW ?_;intros
 refine zc (YgL ai5 bi5) ?_
 refine zW ?_;intros
 exact zR (h:=rfl)
variable {v7:Value}
set_option maxHeartbeats 4000000 in
theorem Yml {x:Durative} {v8 v9 v10 v11 v12 v13 v14 v15 w4 w5 w6 w7 w8 w9 w10 w11 w12 w13 w14 w15:Value} (h1:DurativeR fz x v1 v2 v3 v4 v5 v6 v7 v8 v9 v10 v11 v12 v13 v14 v15) (h2:DurativeR fz x w1 w2 w3 w4 w5 w6 w7 w8 w9 w10 w11 w12 w13 w14 w15):
 QFn prog 20 [.agg #[.string x.name,v1,.int .i64 x.duration,.string x.start.op,.string x.start.name,v2,v3,v4,v5,.string x.over.op,.string x.over.name,v6,v7,v8,v9,.string x.fin.op,.string x.fin.name,v10,v11,v12,v13,v14,v15],.agg #[.string x.name,w1,.int .i64 x.duration,.string x.start.op,.string x.start.name,w2,w3,w4,w5,.string x.over.op,.string x.over.name,w6,w7,w8,w9,.string x.fin.op,.string x.fin.name,w10,w11,w12,w13,w14,w15]] fz (.bool true):=by
 have p1:=h1.start
 have p2:=h2.start
 have p3:=h1.over
 have p4:=h2.over
 have p5:=h1.fin
 have p6:=h2.fin
 refine GFn.quiet ?_
 obtain ⟨aC0,ao0,aq0,rfl,ai0⟩:=h1.params
 obtain ⟨aC1,ao1,aq1,rfl,ai1⟩:=h1.start.args
 obtain ⟨aC2,ao2,aq2,rfl,ai2⟩:=h1.start.params
 obtain ⟨aC3,ao3,aq3,rfl,ai3⟩:=h1.start.exprs
 obtain ⟨aC4,ao4,aq4,rfl,ai4⟩:=h1.start.kids
 obtain ⟨aC5,ao5,aq5,rfl,ai5⟩:=h1.over.args
 obtain ⟨aC6,ao6,aq6,rfl,ai6⟩:=h1.over.params
 obtain ⟨aC7,ao7,aq7,rfl,ai7⟩:=h1.over.exprs
 obtain ⟨aC8,ao8,aq8,rfl,ai8⟩:=h1.over.kids
 obtain ⟨aC9,ao9,aq9,rfl,ai9⟩:=h1.fin.args
 obtain ⟨aC10,ao10,aq10,rfl,ai10⟩:=h1.fin.params
 obtain ⟨aC11,ao11,aq11,rfl,ai11⟩:=h1.fin.exprs
 obtain ⟨aC12,ao12,aq12,rfl,ai12⟩:=h1.fin.kids
 obtain ⟨aC13,ao13,aq13,rfl,ai13⟩:=h1.atStart
 obtain ⟨aC14,ao14,aq14,rfl,ai14⟩:=h1.atEnd
 obtain ⟨bC0,bo0,bq0,rfl,bi0⟩:=h2.params
 obtain ⟨bC1,bo1,bq1,rfl,bi1⟩:=h2.start.args
 obtain ⟨bC2,bo2,bq2,rfl,bi2⟩:=h2.start.params
 obtain ⟨bC3,bo3,bq3,rfl,bi3⟩:=h2.start.exprs
 obtain ⟨bC4,bo4,bq4,rfl,bi4⟩:=h2.start.kids
 obtain ⟨bC5,bo5,bq5,rfl,bi5⟩:=h2.over.args
 obtain ⟨bC6,bo6,bq6,rfl,bi6⟩:=h2.over.params
 obtain ⟨bC7,bo7,bq7,rfl,bi7⟩:=h2.over.exprs
 obtain ⟨bC8,bo8,bq8,rfl,bi8⟩:=h2.over.kids
 obtain ⟨bC9,bo9,bq9,rfl,bi9⟩:=h2.fin.args
 obtain ⟨bC10,bo10,bq10,rfl,bi10⟩:=h2.fin.params
 obtain ⟨bC11,bo11,bq11,rfl,bi11⟩:=h2.fin.exprs
 obtain ⟨bC12,bo12,bq12,rfl,bi12⟩:=h2.fin.kids
 obtain ⟨bC13,bo13,bq13,rfl,bi13⟩:=h2.atStart
 obtain ⟨bC14,bo14,bq14,rfl,bi14⟩:=h2.atEnd
 refine zF Tryz.func20 Tryz.ntmps20 (fun w0=>?_)
 refine Yk (Yr (Ya Zz (Xc _ Zz Zz (fun g0=>?_))))
 refine Ya Zz (Xc _ Zz Zz (fun g1=>?_))
 refine zW ?_;intros
 (((refine zC (fun e1=>?_) (fun e1=>?_));(exact absurd rfl e1);(refine zW ?_;intros)))
 (((refine zC (fun e2=>?_) (fun e2=>?_));(exact absurd rfl e2);(refine zW ?_;intros)))
 refine zc (YgK ai0 bi0) ?_
 refine zW ?_;intros
 refine zc (YgL ai13 bi13) ?_
 refine zW ?_;intros
 refine zc (YgL ai14 bi14) ?_
 refine zW ?_;intros
 ((refine zG ?_);refine Yp (vs:=[.string x.start.op,.string x.start.name,.slice aC1 ao1 aq1,.slice aC2 ao2 aq2,.slice aC3 ao3 aq3,.slice aC4 ao4 aq4]) T 1 Zz Zz Zz Zz Zz Zz ?_)
 refine zW ?_;intros
 ((refine zG ?_);refine Yp (vs:=[.string x.start.op,.string x.start.name,.slice bC1 bo1 bq1,.slice bC2 bo2 bq2,.slice bC3 bo3 bq3,.slice bC4 bo4 bq4]) T 0 Zz Zz Zz Zz Zz Zz ?_)
 refine zc (Yks p1 p2) ?_
 refine zW ?_;intros
 ((refine zG ?_);refine Yp (vs:=[.string x.over.op,.string x.over.name,.slice aC5 ao5 aq5,.slice aC6 ao6 aq6,.slice aC7 ao7 aq7,.slice aC8 ao8 aq8]) T 1 Zz Zz Zz Zz Zz Zz ?_)
 refine zW ?_;intros
 ((refine zG ?_);refine Yp (vs:=[.string x.over.op,.string x.over.name,.slice bC5 bo5 bq5,.slice bC6 bo6 bq6,.slice bC7 bo7 bq7,.slice bC8 bo8 bq8]) T 0 Zz Zz Zz Zz Zz Zz ?_)
 refine zc (Yks p3 p4) ?_
 refine zW ?_;intros
 ((refine zG ?_);refine Yp (vs:=[.string x.fin.op,.string x.fin.name,.slice aC9 ao9 aq9,.slice aC10 ao10 aq10,.slice aC11 ao11 aq11,.slice aC12 ao12 aq12]) T 1 Zz Zz Zz Zz Zz Zz ?_)
 refine zW ?_;intros
 ((refine zG ?_);refine Yp (vs:=[.string x.fin.op,.string x.fin.name,.slice bC9 bo9 bq9,.slice bC10 bo10 bq10,.slice bC11 bo11 bq11,.slice bC12 bo12 bq12]) T 0 Zz Zz Zz Zz Zz Zz ?_)
 refine zc (Yks p5 p6) ?_
 refine zW ?_;intros
 exact zR (h:=rfl)
set_option maxHeartbeats 8000000 in
theorem edomain {x:Domain} {w4 w5 w6:Value} (h1:DomainR fz x v1 v2 v3 v4 v5 v6) (h2:DomainR fz x w1 w2 w3 w4 w5 w6):
 QFn prog 9 [.agg #[.string x.name,v1,v2,v3,v4,v5,v6],.agg #[.string x.name,w1,w2,w3,w4,w5,w6]] fz (.bool true):=by
 refine GFn.quiet ?_
 obtain ⟨aC0,ao0,aq0,rfl,ai0⟩:=h1.types
 obtain ⟨aC1,ao1,aq1,rfl,ai1⟩:=h1.constants
 obtain ⟨aC2,ao2,aq2,rfl,ai2⟩:=h1.predicates
 obtain ⟨aC3,ao3,aq3,rfl,ai3⟩:=h1.functions
 obtain ⟨aC4,ao4,aq4,rfl,ai4⟩:=h1.actions
 obtain ⟨aC5,ao5,aq5,rfl,ai5⟩:=h1.duratives
 obtain ⟨bC0,bo0,bq0,rfl,bi0⟩:=h2.types
 obtain ⟨bC1,bo1,bq1,rfl,bi1⟩:=h2.constants
 obtain ⟨bC2,bo2,bq2,rfl,bi2⟩:=h2.predicates
 obtain ⟨bC3,bo3,bq3,rfl,bi3⟩:=h2.functions
 obtain ⟨bC4,bo4,bq4,rfl,bi4⟩:=h2.actions
 obtain ⟨bC5,bo5,bq5,rfl,bi5⟩:=h2.duratives
 have ka2:=ai2.len
 have kb2:=bi2.len
 have ks2:=ai2.short
 subst ka2 kb2
 have ka3:=ai3.len
 have kb3:=bi3.len
 have ks3:=ai3.short
 subst ka3 kb3
 have ka4:=ai4.len
 have kb4:=bi4.len
 have ks4:=ai4.short
 subst ka4 kb4
 have ka5:=ai5.len
 have kb5:=bi5.len
 have ks5:=ai5.short
 subst ka5 kb5
 refine zF Tryz.func9 Tryz.ntmps9 (fun w0=>?_)
 refine Yk (Yr (Ya Zz (Xc _ Zz Zz (fun g0=>?_))))
 refine Ya Zz (Xc _ Zz Zz (fun g1=>?_))
 refine zW ?_;intros
 (((refine zC (fun e1=>?_) (fun e1=>?_));(exact absurd rfl e1);(refine zW ?_;intros)))
 refine zc (YgK ai0 bi0) ?_
 refine zW ?_;intros
 refine zc (YgK ai1 bi1) ?_
 refine zW ?_;intros
 (((refine zC (fun e2=>?_) (fun e2=>?_));(exact absurd rfl e2);(refine zW ?_;intros)))
 (((refine zC (fun e3=>?_) (fun e3=>?_));(exact absurd rfl e3);(refine zW ?_;intros)))
 (((refine zC (fun e4=>?_) (fun e4=>?_));(exact absurd rfl e4);(refine zW ?_;intros)))
 (((refine zC (fun e5=>?_) (fun e5=>?_));(exact absurd rfl e5);(refine zW ?_;intros)))
 refine Yl (fun q σ fz' H'=>∃ k:Nat,k≤x.predicates.length∧q=x.predicates.length - k∧σ=[(5,.int .i64 k),(3,.pointer (some ⟨g1,0,none⟩)),(2,.pointer (some ⟨g0,0,none⟩))]∧fz=fz'∧H'=[(g1,.cells #[.string x.name,.slice bC0 bo0 bq0,.slice bC1 bo1 bq1,.slice bC2 x.predicates.length bq2,.slice bC3 x.functions.length bq3,.slice bC4 x.actions.length bq4,.slice bC5 x.duratives.length bq5] 31 (0,0)),(g0,.cells #[.string x.name,.slice aC0 ao0 aq0,.slice aC1 ao1 aq1,.slice aC2 x.predicates.length aq2,.slice aC3 x.functions.length aq3,.slice aC4 x.actions.length aq4,.slice aC5 x.duratives.length aq5] 31 (0,0))]) ⟨0,Z0 _,rfl,rfl,rfl,rfl⟩ Zw Zb ?_;rintro q σ fz' H' ⟨k,hk,rfl,rfl,rfl,rfl⟩
 refine zW ?_;intros
 refine zC (fun c2=>?_) (fun c2=>?_)
 ·obtain ⟨y,hy⟩:=Yn (l:=x.predicates) (k:=k) Zi
  refine zW ?_;intros
  refine zI ai2 hy (fun p1 hp1=>?_)
  refine zW ?_;intros
  refine zH hp1.Predicate_name (fun s1=>?_)
  refine zW ?_;intros
  refine zI bi2 hy (fun p2 hp2=>?_)
  refine zW ?_;intros
  refine zH hp2.Predicate_name (fun s2=>?_)
  refine zW ?_;intros
  (((refine zC (fun n1=>?_) (fun n1=>?_));(exact absurd rfl n1);(refine zW ?_;intros)))
  refine zI ai2 hy (fun p3 hp3=>?_)
  refine zW ?_;intros
  ((refine zG ?_);refine Yc4 T Zz Zz Zz hp3.Predicate_params (fun P1 m1 z1 j1=>?_))
  refine zW ?_;intros
  refine zI bi2 hy (fun p4 hp4=>?_)
  refine zW ?_;intros
  ((refine zG ?_);refine Yc4 T Zz Zz Zz hp4.Predicate_params (fun P2 m2 z2 j2=>?_))
  refine zc (YgK j1 j2) ?_
  refine zW ?_;intros
  exact Yz ⟨k+1,by omega,rfl,rfl,rfl,rfl⟩ Zi Zw Zb
 refine zW ?_;intros
 refine Yl (fun q σ fz' H'=>∃ k:Nat,k≤x.functions.length∧q=x.functions.length - k∧σ=[(6,.int .i64 k),(3,.pointer (some ⟨g1,0,none⟩)),(2,.pointer (some ⟨g0,0,none⟩))]∧fz=fz'∧H'=[(g1,.cells #[.string x.name,.slice bC0 bo0 bq0,.slice bC1 bo1 bq1,.slice bC2 x.predicates.length bq2,.slice bC3 x.functions.length bq3,.slice bC4 x.actions.length bq4,.slice bC5 x.duratives.length bq5] 31 (0,0)),(g0,.cells #[.string x.name,.slice aC0 ao0 aq0,.slice aC1 ao1 aq1,.slice aC2 x.predicates.length aq2,.slice aC3 x.functions.length aq3,.slice aC4 x.actions.length aq4,.slice aC5 x.duratives.length aq5] 31 (0,0))]) ⟨0,Z0 _,rfl,rfl,rfl,rfl⟩ Zw Zb ?_;rintro q σ fz' H' ⟨k,hk,rfl,rfl,rfl,rfl⟩
 refine zW ?_;intros
 refine zC (fun c2=>?_) (fun c2=>?_)
 ·obtain ⟨y,hy⟩:=Yn (l:=x.functions) (k:=k) Zi
  refine zWN ?_;intros
  refine Wp.mid (fun σ fz' H'=>∃ g6 g7 ca cb,σ=[(6,.int .i64 k),(8,.pointer (some ⟨g7,0,none⟩)),(7,.pointer (some ⟨g6,0,none⟩)),(3,.pointer (some ⟨g1,0,none⟩)),(2,.pointer (some ⟨g0,0,none⟩))]∧fz=fz'∧H'=(g7,.cells (List.toArray cb) 71 (0,0))::(g6,.cells (List.toArray ca) 71 (0,0)):: [(g1,.cells #[.string x.name,.slice bC0 bo0 bq0,.slice bC1 bo1 bq1,.slice bC2 x.predicates.length bq2,.slice bC3 x.functions.length bq3,.slice bC4 x.actions.length bq4,.slice bC5 x.duratives.length bq5] 31 (0,0)),(g0,.cells #[.string x.name,.slice aC0 ao0 aq0,.slice aC1 ao1 aq1,.slice aC2 x.predicates.length aq2,.slice aC3 x.functions.length aq3,.slice aC4 x.actions.length aq4,.slice aC5 x.duratives.length aq5] 31 (0,0))]∧functionL.rep fz y ca∧functionL.rep fz y cb) ?_ ?_
  ·refine Wp.drawP [] (Hq:=[_,_]) T.mixed Zj Zj Zb ?_
   refine zW ?_;intros
   refine zI ai3 hy (fun p1 hp1=>?_)
   refine zL hp1 ?_
   intro cs1 hr1
   have hr1':=hr1
   obtain ⟨x1,rfl,hY1⟩:=Y6 hr1
   obtain ⟨F1,f1,y1,rfl,_⟩:=hY1.params
   refine zW ?_;intros
   refine zI bi3 hy (fun p2 hp2=>?_)
   refine zL hp2 ?_
   intro cs2 hr2
   have hr2':=hr2
   obtain ⟨x2,rfl,hY2⟩:=Y6 hr2
   obtain ⟨F2,f2,y2,rfl,_⟩:=hY2.params
   refine zW ?_;intros
   refine Ye ?_
   refine Ye ?_
   refine Ye ?_
   refine Ye ?_
   refine PK.done ⟨by kernel_rfl,?_⟩
   refine YG Zz Zz Zz ?_ ?_
   ·refine Yd (YX T Zz Zz (fun g6=>⟨(⟨(Le.refl _),Zx⟩),?_⟩))
    refine Yb Zz Zz ?_
    refine Yd (YX T Zz Zz (fun g7=>⟨(⟨(Le.refl _),Zx⟩),?_⟩))
    refine Yb Zz Zz ?_
    refine PoS.soft0 (YN T Zz Zz Zz Zz Zz Zz ⟨(⟨(Le.refl _),Zx⟩),?_⟩)
    refine Yb Zz Zz ?_
    refine PoS.soft0 (YP T Zz Zz Zz Zz Zz Zz ⟨(⟨(Le.refl _),Zx⟩),?_⟩)
    refine Po.done ?_
    refine zW ?_;intros
    exact midN ⟨g6,g7,_,_,rfl,rfl,rfl,hr1',hr2'⟩ Zw Zb
   ·refine Yd (YX T Zz Zz (fun g7=>⟨(⟨(Le.refl _),Zx⟩),?_⟩))
    refine Yb Zz Zz ?_
    refine Yd (YX T Zz Zz (fun g6=>⟨(⟨(Le.refl _),Zx⟩),?_⟩))
    refine Yb Zz Zz ?_
    refine PoS.soft0 (YP T Zz Zz Zz Zz Zz Zz ⟨(⟨(Le.refl _),Zx⟩),?_⟩)
    refine Yb Zz Zz ?_
    refine PoS.soft0 (YN T Zz Zz Zz Zz Zz Zz ⟨(⟨(Le.refl _),Zx⟩),?_⟩)
    refine Po.done ?_
    refine zW ?_;intros
    exact midP (H1:=(g7,_)::(g6,_):: [_,_]) (List.Perm.swap _ _ _) ⟨g6,g7,_,_,rfl,rfl,rfl,hr1',hr2'⟩ Zw Zb
  rintro σ fz' H' ⟨g6,g7,ca,cb,rfl,rfl,rfl,hr1,hr2⟩
  obtain ⟨x1,rfl,hY1⟩:=Y6 hr1
  obtain ⟨F1,f1,y1,rfl,j1⟩:=hY1.params
  obtain ⟨x2,rfl,hY2⟩:=Y6 hr2
  obtain ⟨F2,f2,y2,rfl,j2⟩:=hY2.params
  refine zW ?_;intros
  (((refine zC (fun n1=>?_) (fun n1=>?_));(exact absurd rfl n1);(refine zW ?_;intros)))
  (((refine zC (fun n2=>?_) (fun n2=>?_));(exact absurd rfl n2);(refine zW ?_;intros)))
  (((refine zC (fun n3=>?_) (fun n3=>?_));(exact absurd rfl n3);(refine zW ?_;intros)))
  refine zc (YgK j1 j2) ?_
  refine zW ?_;intros
  exact Yz ⟨k+1,by omega,rfl,rfl,rfl,rfl⟩ Zi Zw Zb
 refine zW ?_;intros
 refine Yl (fun q σ fz' H'=>∃ k:Nat,k≤x.actions.length∧q=x.actions.length - k∧σ=[(9,.int .i64 k),(3,.pointer (some ⟨g1,0,none⟩)),(2,.pointer (some ⟨g0,0,none⟩))]∧fz=fz'∧H'=[(g1,.cells #[.string x.name,.slice bC0 bo0 bq0,.slice bC1 bo1 bq1,.slice bC2 x.predicates.length bq2,.slice bC3 x.functions.length bq3,.slice bC4 x.actions.length bq4,.slice bC5 x.duratives.length bq5] 31 (0,0)),(g0,.cells #[.string x.name,.slice aC0 ao0 aq0,.slice aC1 ao1 aq1,.slice aC2 x.predicates.length aq2,.slice aC3 x.functions.length aq3,.slice aC4 x.actions.length aq4,.slice aC5 x.duratives.length aq5] 31 (0,0))]) ⟨0,Z0 _,rfl,rfl,rfl,rfl⟩ Zw Zb ?_;rintro q σ fz' H' ⟨k,hk,rfl,rfl,rfl,rfl⟩
 refine zW ?_;intros
 refine zC (fun c2=>?_) (fun c2=>?_)
 ·obtain ⟨y,hy⟩:=Yn (l:=x.actions) (k:=k) Zi
  refine zW ?_;intros
  refine zI ai4 hy (fun p1 hp1=>?_)
  refine zL hp1 ?_
  intro cs1 hr1
  obtain ⟨y1,y2,y3,y4,y5,y6,rfl,hY1⟩:=Xz hr1
  refine zW ?_;intros
  refine zI bi4 hy (fun p2 hp2=>?_)
  refine zL hp2 ?_
  intro cs2 hr2
  obtain ⟨z1,z2,z3,z4,z5,z6,rfl,hY2⟩:=Xz hr2
  refine zW ?_;intros
  refine zc (eaction hY1 hY2) ?_
  refine zW ?_;intros
  exact Yz ⟨k+1,by omega,rfl,rfl,rfl,rfl⟩ Zi Zw Zb
 refine zW ?_;intros
 refine Yl (fun q σ fz' H'=>∃ k:Nat,k≤x.duratives.length∧q=x.duratives.length - k∧σ=[(10,.int .i64 k),(3,.pointer (some ⟨g1,0,none⟩)),(2,.pointer (some ⟨g0,0,none⟩))]∧fz=fz'∧H'=[(g1,.cells #[.string x.name,.slice bC0 bo0 bq0,.slice bC1 bo1 bq1,.slice bC2 x.predicates.length bq2,.slice bC3 x.functions.length bq3,.slice bC4 x.actions.length bq4,.slice bC5 x.duratives.length bq5] 31 (0,0)),(g0,.cells #[.string x.name,.slice aC0 ao0 aq0,.slice aC1 ao1 aq1,.slice aC2 x.predicates.length aq2,.slice aC3 x.functions.length aq3,.slice aC4 x.actions.length aq4,.slice aC5 x.duratives.length aq5] 31 (0,0))]) ⟨0,Z0 _,rfl,rfl,rfl,rfl⟩ Zw Zb ?_;rintro q σ fz' H' ⟨k,hk,rfl,rfl,rfl,rfl⟩
 refine zW ?_;intros
 refine zC (fun c2=>?_) (fun c2=>?_)
 ·obtain ⟨y,hy⟩:=Yn (l:=x.duratives) (k:=k) Zi
  refine zW ?_;intros
  refine zI ai5 hy (fun p1 hp1=>?_)
  refine zL hp1 ?_
  intro cs1 hr1
  obtain ⟨y1,y2,y3,y4,y5,y6,y7,y8,y9,y10,y11,y12,y13,y14,y15,rfl,hY1⟩:=Xm hr1
  refine zW ?_;intros
  refine zI bi5 hy (fun p2 hp2=>?_)
  refine zL hp2 ?_
  intro cs2 hr2
  obtain ⟨z1,z2,z3,z4,z5,z6,z7,z8,z9,z10,z11,z12,z13,z14,z15,rfl,hY2⟩:=Xm hr2
  refine zW ?_;intros
  refine zc (Yml hY1 hY2) ?_
  refine zW ?_;intros
  exact Yz ⟨k+1,by omega,rfl,rfl,rfl,rfl⟩ Zi Zw Zb
 refine zW ?_;intros
 exact zR (h:=rfl)
theorem ecmp {a:Atom} (ha:AtomR fz a va) (hb:AtomR fz a vb):QFn prog 42 [.agg #[.string a.name,va],.agg #[.string a.name,vb]] fz (.int .i64 0):=by
 have:=rcmp_q ha hb
 rw [(Ymt a a).2 rfl] at this
 exact this
theorem eatoms {m d:Nat} {l:List Atom} (h1:Sl atomL fz A n c l) (h2:Sl atomL fz B m d l):QFn prog 21 [.slice A n c,.slice B m d] fz (.bool true):=by
 have k1:=h1.len
 have k2:=h2.len
 have k3:=h1.short
 subst k1 k2
 refine GFn.quiet ?_
 refine zF Tryz.func21 Tryz.ntmps21 (fun w0=>?_)
 refine zW ?_;intros
 (((refine zC (fun c1=>?_) (fun c1=>?_));(exact absurd rfl c1);(refine zW ?_;intros)))
 refine Yl (fun q σ fz' H'=>∃ k:Nat,k≤l.length∧q=l.length - k∧σ=[(5,.int .i64 k),(0,.slice A l.length c),(1,.slice B l.length d)]∧fz=fz'∧H'=[]) ⟨0,Z0 _,rfl,rfl,rfl,rfl⟩ Zw Zb ?_;rintro q σ fz' H' ⟨k,hk,rfl,rfl,rfl,rfl⟩
 refine zW ?_;intros
 refine zC (fun c2=>?_) (fun c2=>?_)
 ·obtain ⟨x,hx⟩:=Yn (l:=l) (k:=k) Zi
  refine zW ?_;intros
  refine zI h1 hx (fun p1 hp1=>?_)
  refine zL hp1 ?_
  intro cs1 hr1
  obtain ⟨v1,rfl,hY1⟩:=Ww hr1
  refine zW ?_;intros
  refine zI h2 hx (fun p2 hp2=>?_)
  refine zL hp2 ?_
  intro cs2 hr2
  obtain ⟨v2,rfl,hY2⟩:=Ww hr2
  refine zW ?_;intros
  refine zc (ecmp hY1 hY2) ?_
  refine zW ?_;intros
  (((refine zC (fun n1=>?_) (fun n1=>?_));(exact absurd rfl n1);(refine zW ?_;intros)))
  exact Yz ⟨k+1,by omega,rfl,rfl,rfl,rfl⟩ Zi Zw Zb
 ·refine zW ?_;intros
  exact zR (h:=rfl)
theorem evalues {m d:Nat} {l:List Value_} (h1:Sl valueL fz A n c l) (h2:Sl valueL fz B m d l):QFn prog 22 [.slice A n c,.slice B m d] fz (.bool true):=by
 have k1:=h1.len
 have k2:=h2.len
 have k3:=h1.short
 subst k1 k2
 refine GFn.quiet ?_
 refine zF Tryz.func22 Tryz.ntmps22 (fun w0=>?_)
 refine zW ?_;intros
 (((refine zC (fun c1=>?_) (fun c1=>?_));(exact absurd rfl c1);(refine zW ?_;intros)))
 refine Yl (fun q σ fz' H'=>∃ k:Nat,k≤l.length∧q=l.length - k∧σ=[(5,.int .i64 k),(0,.slice A l.length c),(1,.slice B l.length d)]∧fz=fz'∧H'=[]) ⟨0,Z0 _,rfl,rfl,rfl,rfl⟩ Zw Zb ?_;rintro q σ fz' H' ⟨k,hk,rfl,rfl,rfl,rfl⟩
 refine zW ?_;intros
 refine zC (fun c2=>?_) (fun c2=>?_)
 ·obtain ⟨x,hx⟩:=Yn (l:=l) (k:=k) Zi
  refine zW ?_;intros
  refine zI h1 hx (fun p1 hp1=>?_)
  refine zW ?_;intros
  ((refine zG ?_);refine Xy T Zz Zz Zz hp1.Value__n (fun i1=>?_))
  refine zW ?_;intros
  refine zI h2 hx (fun p2 hp2=>?_)
  refine zW ?_;intros
  ((refine zG ?_);refine Xy T Zz Zz Zz hp2.Value__n (fun i2=>?_))
  refine zW ?_;intros
  (((refine zC (fun n1=>?_) (fun n1=>?_));(exact absurd rfl n1);(refine zW ?_;intros)))
  refine zI h1 hx (fun p3 hp3=>?_)
  refine zW ?_;intros
  refine zL hp3.Value__fluent ?_
  intro cs1 hr1
  obtain ⟨v1,rfl,hY1⟩:=Ww hr1
  refine zW ?_;intros
  refine zI h2 hx (fun p4 hp4=>?_)
  refine zW ?_;intros
  refine zL hp4.Value__fluent ?_
  intro cs2 hr2
  obtain ⟨v2,rfl,hY2⟩:=Ww hr2
  refine zW ?_;intros
  refine zc (ecmp hY1 hY2) ?_
  refine zW ?_;intros
  (((refine zC (fun n2=>?_) (fun n2=>?_));(exact absurd rfl n2);(refine zW ?_;intros)))
  exact Yz ⟨k+1,by omega,rfl,rfl,rfl,rfl⟩ Zi Zw Zb
 ·refine zW ?_;intros
  exact zR (h:=rfl)
set_option maxHeartbeats 4000000 in
theorem eproblem {x:Problem} {w4 w5 w6 w7:Value} (h1:ProblemR fz x v1 v2 v3 v4 v5 v6 v7) (h2:ProblemR fz x w1 w2 w3 w4 w5 w6 w7):
 QFn prog 10 [.agg #[.string x.name,.string x.domain,v1,v2,v3,.string x.goal.op,.string x.goal.name,v4,v5,v6,v7],.agg #[.string x.name,.string x.domain,w1,w2,w3,.string x.goal.op,.string x.goal.name,w4,w5,w6,w7]] fz (.bool true):=by
 have p1:=h1.goal
 have p2:=h2.goal
 refine GFn.quiet ?_
 obtain ⟨aC0,ao0,aq0,rfl,ai0⟩:=h1.objects
 obtain ⟨aC1,ao1,aq1,rfl,ai1⟩:=h1.init
 obtain ⟨aC2,ao2,aq2,rfl,ai2⟩:=h1.values
 obtain ⟨aC3,ao3,aq3,rfl,ai3⟩:=h1.goal.args
 obtain ⟨aC4,ao4,aq4,rfl,ai4⟩:=h1.goal.params
 obtain ⟨aC5,ao5,aq5,rfl,ai5⟩:=h1.goal.exprs
 obtain ⟨aC6,ao6,aq6,rfl,ai6⟩:=h1.goal.kids
 obtain ⟨bC0,bo0,bq0,rfl,bi0⟩:=h2.objects
 obtain ⟨bC1,bo1,bq1,rfl,bi1⟩:=h2.init
 obtain ⟨bC2,bo2,bq2,rfl,bi2⟩:=h2.values
 obtain ⟨bC3,bo3,bq3,rfl,bi3⟩:=h2.goal.args
 obtain ⟨bC4,bo4,bq4,rfl,bi4⟩:=h2.goal.params
 obtain ⟨bC5,bo5,bq5,rfl,bi5⟩:=h2.goal.exprs
 obtain ⟨bC6,bo6,bq6,rfl,bi6⟩:=h2.goal.kids
 refine zF Tryz.func10 Tryz.ntmps10 (fun w0=>?_)
 refine Yk (Yr (Ya Zz (Xc _ Zz Zz (fun g0=>?_))))
 refine Ya Zz (Xc _ Zz Zz (fun g1=>?_))
 refine zW ?_;intros
 (((refine zC (fun e1=>?_) (fun e1=>?_));rotate_left 1;(exact absurd rfl e1);(refine zW ?_;intros)))
 (((refine zC (fun e2=>?_) (fun e2=>?_));rotate_left 1;(exact absurd rfl e2);(refine zW ?_;intros)))
 refine zc (YgK ai0 bi0) ?_
 refine zW ?_;intros
 refine zc (eatoms ai1 bi1) ?_
 refine zW ?_;intros
 refine zc (evalues ai2 bi2) ?_
 refine zW ?_;intros
 ((refine zG ?_);refine Yp (vs:=[.string x.goal.op,.string x.goal.name,.slice aC3 ao3 aq3,.slice aC4 ao4 aq4,.slice aC5 ao5 aq5,.slice aC6 ao6 aq6]) T 1 Zz Zz Zz Zz Zz Zz ?_)
 refine zW ?_;intros
 ((refine zG ?_);refine Yp (vs:=[.string x.goal.op,.string x.goal.name,.slice bC3 bo3 bq3,.slice bC4 bo4 bq4,.slice bC5 bo5 bq5,.slice bC6 bo6 bq6]) T 0 Zz Zz Zz Zz Zz Zz ?_)
 refine zc (Yks p1 p2) ?_
 refine zW ?_;intros
 exact zR (h:=rfl)
def upB2 (b:UInt8):UInt8:=if LetP b.toNat then b - 32 else b
def upS (s:Bs):Bs:=⟨(s.data.toList.map upB2).toArray⟩
def sfxU:Bs:=⟨#[9,59,32,40,32,99,32,41,10,13,32]⟩
theorem byteV_dn {b:UInt8} (h:LetP b.toNat):Value.int .u8 ((b.toNat:Int) - 32)=Ybn (upB2 b):=by
 have h2:(b - 32).toNat=b.toNat - 32:=by
  unfold LetP at h
  rw [UInt8.toNat_sub_of_le]
  ·rfl
  ·rw [UInt8.le_iff_toNat_le];show 32≤b.toNat;omega
 unfold Ybn upB2
 rw [if_pos h,h2]
 unfold LetP at h
 congr 1
 omega
theorem Yeq {b:UInt8} (h:¬LetP b.toNat):upB2 b=b:=if_neg h
set_option maxHeartbeats 1000000 in
theorem YkO {s:Bs} (hs:s.size≤1000000):QFn prog 7 [.string s] fz (.string (upS s++sfxU)):=by
 refine GFn.quiet ?_
 refine zF Tryz.func7 Tryz.ntmps7 (fun w0=>?_)
 refine zW ?_;intros
 refine Ya Zz (YlT T Zz Zz Zz Zz Zz Zz Zz (fun g k0=>?_))
 refine zW ?_;intros
 refine Yl (fun q σ fz' H'=>∃ k:Nat,k≤s.size∧q=s.size - k∧σ=[(4,.int .i64 k),(3,.slice (some ⟨g,0,none⟩) s.size (s.size+k0))]∧fz=fz'∧
  H'=[(g,Ybe 5 ((s.data.toList.take k).map upB2++s.data.toList.drop k) k0)]) ⟨0,Z0 _,rfl,rfl,rfl,rfl⟩ Zw Zb ?_
 rintro q σ fz' H' ⟨k,hk,rfl,rfl,rfl,rfl⟩
 have hlen:((s.data.toList.take k).map upB2++s.data.toList.drop k).length=s.size:=by
  have:=XA (s:=s)
  simp only [List.length_append,List.length_map,List.length_take,List.length_drop];omega
 refine zW ?_;intros
 refine zC (fun c3=>?_) (fun c3=>?_)
 ·obtain ⟨b,hb⟩:∃ b,s.data.toList[k]?=some b:=⟨_,Ydd Zi⟩
  have hlt:=b.toNat_lt
  refine zW ?_;intros
  refine zG ?_;refine Y9 T Zz Zz Zz Zz Zz Zz Zi Zi ?_
  refine zG ?_;refine YbK T 0 Zz Zz Zz Zz (Ygx hb) ?_
  refine zW ?_;intros
  refine zC (fun d1=>?_) (fun d1=>?_)
  ·refine zW ?_;intros
   refine zG ?_;refine Y9 T Zz Zz Zz Zz Zz Zz Zi Zi ?_
   refine zG ?_;refine YbK T 0 Zz Zz Zz Zz (Ygx hb) ?_
   refine zW ?_;intros
   refine zC (fun d2=>?_) (fun d2=>?_)
   ·refine zW ?_;intros
    refine zG ?_;refine Y9 T Zz Zz Zz Zz Zz Zz Zi Zi ?_
    refine zG ?_;refine YbK T 0 Zz Zz Zz Zz (Ygx hb) ?_
    refine zG ?_;refine q_sub Zz Zz (Yf7 Zi) ?_
    refine zG ?_;refine Y9 T Zz Zz Zz Zz Zz Zz Zi Zi ?_
    refine YE (YdZ T (pre:=[]) Zz Zz (congrArg some (byteV_dn ⟨d1,d2⟩)) rfl Zz (by rw [hlen];exact (by omega:k<s.size)) ?_)
    refine zW ?_;intros
    exact Yz ⟨k+1,by omega,rfl,rfl,rfl,by rw [← set_mid hb]⟩ Zi Zw Zb
   ·have nl:¬LetP b.toNat:=fun h0=>d2 h0.2
    refine zW ?_;intros
    exact Yz ⟨k+1,by omega,rfl,rfl,rfl,by rw [← YaF hb (Yeq nl)]⟩ Zi Zw Zb
  ·have nl:¬LetP b.toNat:=fun h0=>d1 h0.1
   refine zW ?_;intros
   exact Yz ⟨k+1,by omega,rfl,rfl,rfl,by rw [← YaF hb (Yeq nl)]⟩ Zi Zw Zb
 ·rw [show s.data.toList.take k=s.data.toList from Zl (by rw [XA];omega),show s.data.toList.drop k=[] from List.drop_eq_nil_of_le (by rw [XA];omega),List.append_nil] at*
  refine zW ?_;intros
  refine zG ?_;refine Yey T 0 Zz Zz Zz Zz Zz Zz Zz Zz hlen ?_
  refine zG ?_;refine XK Zz Zz (by show (s.data.toList.map upB2).toArray.size+11≤_;simp;have:=XA (s:=s);simp at this;omega) ?_
  refine zW ?_;intros
  exact zR (h:=rfl)
end Go.Proofs.YtfjopfinkdhmaaaGreatDoor
namespace Go.Lx
open Go.RowKit
section
variable {P:Program} {cx:Cx} {σ:Env} {fz:FZ} {H:HP} {Q:QQ}
def inI (l:List Nat) (i:Nat):Bool:=l.any fun j=>Nat.beq j i
theorem Ylk {ops:List Oper} {o:Oper} {ve cv cv':Env} (hx:Sub cv' cv) (h2:∀ j,lk cv j≠none→lk ve j=none):∀ x v,rdc ops o σ ve cv' x=some v→rdc ops o σ ve cv x=some v:=by
 intro x v h
 cases x with
 | tmp t=>
  unfold rdc at h ⊢
  cases hw:Ya5 ops t 0 with
  | none=>simp only [hw] at h ⊢;exact h
  | some j=>
   simp only [hw] at h ⊢
   cases hq:waits o j with
   | false=>simp only [hq] at h ⊢;exact h
   | true=>
    simp only [hq] at h ⊢
    cases h1:lk cv' j with
    | some u=>
     simp only [h1] at h
     have:=hx.lk_ j u h1
     simp only [this];exact h
    | none=>
     simp only [h1] at h
     cases h3:lk cv j with
     | none=>exact h
     | some u=>have:=h2 j (by rw [h3];simp);rw [this] at h;cases h
 | const c=>exact h
 | func f=>exact h
 | global g=>exact h
theorem Does.cv {ops:List Oper} {o:Oper} {ve cv cv':Env} {K:Value→FZ→HP→Prop} (hx:Sub cv' cv) (h2:∀ j,lk cv j≠none→lk ve j=none) (h:Does P cx o (rdc ops o σ ve cv') fz H K):Does P cx o (rdc ops o σ ve cv) fz H K:=
 Does.of fun ρ w hr hi=>h.run ρ w (fun x v hv=>hr x v (Ylk hx h2 x v hv)) hi
theorem DoesQ.cv {ops:List Oper} {o:Oper} {ve cv cv':Env} {V:Value→Prop} (hx:Sub cv' cv) (h2:∀ j,lk cv j≠none→lk ve j=none) (h:DoesQ P cx o (rdc ops o σ ve cv') fz H V):DoesQ P cx o (rdc ops o σ ve cv) fz H V:=by
 unfold DoesQ at h ⊢
 obtain ⟨v,h1,h3⟩:=h
 exact ⟨v,h1,fun ρ w hr hi=>h3 ρ w (fun x u hu=>hr x u (Ylk hx h2 x u hu)) hi⟩
theorem Does.post {r:Operand→Option Value} {o:Oper} {K:Value→FZ→HP→Prop} (h:Does P cx o r fz H fun v fz' H'=>∃ H1 H2,H'.Perm (H1++H2)∧∀ fz2,Le fz' fz2→(∀ p∈H2,fz2 p.1=some p.2)→K v fz2 H1):Does P cx o r fz H K:=
 Does.of fun ρ w hr hi=>(h.run ρ w hr hi).mono fun v w' hh=>by
  obtain ⟨fz',H',h1,H1,H2,hp,h2⟩:=hh
  obtain ⟨fz2,h3,h4,h5⟩:=Wu H2 fz' H1 (h1.perm hp.symm)
  exact ⟨fz2,H1,h5,h2 fz2 h3 h4⟩
variable {i:Nat} {v:Value}
theorem Ygu {ve cv:Env} (h:lk ve i=none) (h2:∀ j,lk cv j≠none→lk ve j=none):∀ j,lk ((i,v)::cv) j≠none→lk ve j=none:=fun j hj=>by
 by_cases he:i=j
 ·rw [← he];exact h
 ·rw [YA v cv he] at hj;exact h2 j hj
theorem rdc_ext {ops:List Oper} {o:Oper} {ve cv cv':Env} (hx:VExt cv' cv) (h2:∀ j,lk cv j≠none→lk ve j=none):∀ x v,rdc ops o σ ve cv' x=some v→rdc ops o σ ve cv x=some v:=by
 intro x v h
 cases x with
 | tmp t=>
  unfold rdc at h ⊢
  cases hw:Ya5 ops t 0 with
  | none=>simp only [hw] at h ⊢;exact h
  | some j=>
   simp only [hw] at h ⊢
   cases hq:waits o j with
   | false=>simp only [hq] at h ⊢;exact h
   | true=>
    simp only [hq] at h ⊢
    cases h1:lk cv' j with
    | some u=>
     simp only [h1] at h
     have:=hx j u h1
     simp only [this];exact h
    | none=>
     simp only [h1] at h
     cases h3:lk cv j with
     | none=>exact h
     | some u=>have:=h2 j (by rw [h3];simp);rw [this] at h;cases h
 | const c=>exact h
 | func f=>exact h
 | global g=>exact h
theorem Yg3 {o:Oper} {ve cv cv':Env} {b:Bool} (hx:VExt cv' cv) (h2:∀ j,lk cv j≠none→lk ve j=none) (h:YcY o ve cv'=some b):YcY o ve cv=some b:=by
 unfold YcY at h ⊢
 split
 ·rename_i hg;simp only [hg] at h;exact h
 ·rename_i j c hg
  simp only [hg] at h
  cases hw:waits o j with
  | false=>simp only [hw] at h;cases h
  | true=>
   simp only [hw] at h ⊢
   cases h1:lk cv' j with
   | some u=>
    simp only [h1] at h
    have:=hx j u h1
    simp only [this];exact h
   | none=>
    simp only [h1] at h
    cases h3:lk cv j with
    | none=>simp only;exact h
    | some u=>have:=h2 j (by rw [h3];simp);simp only [this] at h;cases h
theorem Po.ext {ops:List Oper} {pu:List Nat} {ve:Env} {fz0:FZ} {Hq:HP} {all:List (Nat × Oper)}:∀ (m:Nat) {rest:List (Nat × Oper)} {dn:Bool} {cv cv' τ:Env} {fz:FZ} {H:HP},VExt cv' cv→(∀ j,lk cv j≠none→lk ve j=none)→(∀ p∈rest,lk ve p.1=none)→
 Po P cx ops pu σ ve fz0 Hq Q all m rest dn cv' τ fz H→Po P cx ops pu σ ve fz0 Hq Q all m rest dn cv τ fz H
 | 0,rest,dn,cv,cv',τ,fz,H,_,_,_,h=>by unfold Po at h ⊢;exact h
 | m+1,rest,dn,cv,cv',τ,fz,H,hx,h2,hr,h=>by
  unfold Po at h ⊢
  intro p hp hf
  have hx2:∀ u,VExt ((p.1,u)::cv') ((p.1,u)::cv):=fun u j w hj=>by
   by_cases he:p.1=j
   ·subst he;rw [YO] at hj ⊢;exact hj
   ·rw [YA u _ he] at hj ⊢;exact hx j w hj
  have hr2:∀ q∈rest.filter fun q=>!Nat.beq q.1 p.1,lk ve q.1=none:=fun q hq=>hr q (List.mem_filter.1 hq).1
  rcases h p hp hf with ⟨hw,hd⟩ | ⟨hw,hn⟩
  ·exact .inl ⟨Yg3 hx h2 hw,Does.of fun ρ w hrd hi=>(hd.run ρ w (fun x v hv=>hrd x v (rdc_ext hx h2 x v hv)) hi).mono fun v w' ⟨fz',H',h3,h4,h5⟩=>⟨fz',H',h3,h4,Po.ext m (hx2 v) (Ygu (hr p hp) h2) hr2 h5⟩⟩
  ·exact .inr ⟨Yg3 hx h2 hw,Po.ext m (hx2 undef) (Ygu (hr p hp) h2) hr2 hn⟩
theorem Po.cv {ops:List Oper} {pu:List Nat} {ve:Env} {fz0:FZ} {Hq:HP} {all:List (Nat × Oper)} {m:Nat} {rest:List (Nat × Oper)} {dn:Bool} {cv τ:Env} (cv':Env) (hx:Sub cv' cv) (h2:∀ j,lk cv j≠none→lk ve j=none) (hr:(rest.all fun p=>(lk ve p.1).isNone)=true)
 (h:Po P cx ops pu σ ve fz0 Hq Q all m rest dn cv' τ fz H):Po P cx ops pu σ ve fz0 Hq Q all m rest dn cv τ fz H:=
 Po.ext m (fun j v hj=>hx.lk_ j v hj) h2 (fun p hp=>by
  have:=List.all_eq_true.1 hr p hp
  cases h0:lk ve p.1 with
  | none=>rfl
  | some u=>rw [h0] at this;cases this) h
def DagOps (P:Program) (cx:Cx) (ops:List Oper) (σ ve:Env) (fz:FZ) (H:HP) (idx:List Nat) (V:Nat→Value→FZ→Prop) (A:List (Nat × Oper)):Prop:=
 ∀ p∈A,∀ cv fz1,Le fz fz1→(∀ j,lk cv j≠none→lk ve j=none)→(∀ j,waits p.2 j=true→inI idx j=true→∃ v,lk cv j=some v∧V j v fz1)→
  YcY p.2 ve cv=some true∧Does P cx p.2 (rdc ops p.2 σ ve cv) fz1 H fun v fz' H'=>H'=H∧Le fz1 fz'∧V p.1 v fz'
theorem DagOps.nil {ops:List Oper} {ve:Env} {idx:List Nat} {V:Nat→Value→FZ→Prop} {A:List (Nat × Oper)} (hA:A=[]):DagOps P cx ops σ ve fz H idx V A:=by
 subst hA;intro p hp;cases hp
theorem DagOps.step {ops:List Oper} {ve:Env} {idx:List Nat} {V:Nat→Value→FZ→Prop} {A r:List (Nat × Oper)} {d:Nat} {op:Op} {ty:TypeId} {pos:String} {af:Array Edge} (hA:A=(i,⟨some d,op,ty,pos,af,none⟩)::r)
 (h:∀ cv fz1,Le fz fz1→(∀ j,lk cv j≠none→lk ve j=none)→(∀ j,waits ⟨some d,op,ty,pos,af,none⟩ j=true→inI idx j=true→∃ v,lk cv j=some v∧V j v fz1)→
  Does P cx ⟨some d,op,ty,pos,af,none⟩ (rdc ops ⟨some d,op,ty,pos,af,none⟩ σ ve cv) fz1 H fun v fz' H'=>H'=H∧Le fz1 fz'∧V i v fz') (hr:DagOps P cx ops σ ve fz H idx V r):DagOps P cx ops σ ve fz H idx V A:=by
 subst hA
 intro p hp cv fz1 hle h2 hd
 rcases List.mem_cons.1 hp with rfl | hp
 ·exact ⟨rfl,h cv fz1 hle h2 hd⟩
 ·exact hr p hp cv fz1 hle h2 hd
theorem YlJ {l:List (Nat × Oper)}:Ya9 l=true→∀ {p q},p∈l→q∈l→p.1=q.1→p=q:=by
 induction l with
 | nil=>intro _ p q hp;cases hp
 | cons x r ih=>
  intro hn p q hp hq he
  simp only [Ya9,Bool.and_eq_true] at hn
  rcases List.mem_cons.1 hp with rfl | hp'
  ·rcases List.mem_cons.1 hq with rfl | hq'
   ·rfl
   ·exact absurd he.symm (YfZ (List.all_eq_true.1 hn.1 q hq'))
  ·rcases List.mem_cons.1 hq with rfl | hq'
   ·exact absurd he (YfZ (List.all_eq_true.1 hn.1 p hp'))
   ·exact ih hn.2 hp' hq' he
end
attribute [irreducible] DagOps
section
variable {P:Program} {cx:Cx} {σ:Env} {Q:QQ}
variable {i:Nat} {v:Value}
theorem rdc_ne {ops:List Oper} {o:Oper} {ve cv:Env} (h:waits o i=false):rdc ops o σ ve ((i,v)::cv)=rdc ops o σ ve cv:=by
 funext x
 cases x with
 | tmp t=>
  unfold rdc
  cases hw:Ya5 ops t 0 with
  | none=>simp only [hw]
  | some j=>
   simp only [hw]
   cases hq:waits o j with
   | false=>simp only [hq]
   | true=>
    have hne:¬i=j:=fun e=>by subst e;rw [h] at hq;cases hq
    simp only [hq,YA v cv hne]
 | _=>rfl
theorem Yje {o:Oper} {ve cv:Env} (h:waits o i=false):YcY o ve ((i,v)::cv)=YcY o ve cv:=by
 unfold YcY
 cases hg:o.guard with
 | none=>simp only [hg]
 | some jb=>
  obtain ⟨j,b⟩:=jb
  simp only [hg]
  cases hq:waits o j with
  | false=>simp only [hq]
  | true=>
   have hne:¬i=j:=fun e=>by subst e;rw [h] at hq;cases hq
   simp only [hq,YA v cv hne]
theorem Yk5 {a b:Env} (h:∀ s,lk a s=lk b s):∀ {ρ:Env},Sub ρ a→Sub ρ b
 | [],_=>trivial
 | (i,v)::_,hs=>⟨(h i) ▸ hs.1,Yk5 h hs.2⟩
theorem Xb {I:Env→FZ→HP→Prop} (τ1 τ2:Env) (fz:FZ) (H:HP) (h:∀ s,lk τ1 s=lk τ2 s) (hm:midQ I Q .normal τ1 fz H):midQ I Q .normal τ2 fz H:=by
 rcases hm with ⟨σ',H1,H',h1,h2⟩ | ⟨σ',H',H2,h1,h2⟩
 ·exact .inl ⟨σ',H1,H',Yk5 h h1,h2⟩
 ·exact .inr ⟨σ',H',H2,Yk5 h h1,h2⟩
variable {ops:List Oper} {pu:List Nat} {ve:Env} {fz0:FZ} {Hq:HP} {all:List (Nat × Oper)}
theorem Po.dnm:∀ (m:Nat) {rest:List (Nat × Oper)} {dn:Bool} {cv τ:Env} {fz:FZ} {H:HP},Po P cx ops pu σ ve fz0 Hq Q all m rest dn cv τ fz H→Po P cx ops pu σ ve fz0 Hq Q all m rest true cv τ fz H
 | 0,_,_,_,_,_,_,h=>by unfold Po at h ⊢;exact h
 | m+1,_,_,_,_,_,_,h=>by
  unfold Po at h ⊢
  intro p hp hf
  rcases h p hp hf with ⟨hw,hd⟩ | ⟨hw,hn⟩
  ·exact .inl ⟨hw,Does.of fun ρ w hrd hi=>(hd.run ρ w hrd hi).mono fun v w' ⟨fz',H',h3,_,h5⟩=>⟨fz',H',h3,.inl rfl,Po.dnm m h5⟩⟩
  ·exact .inr ⟨hw,Po.dnm m hn⟩
theorem Ykm {a b:Env} (h:∀ s,lk a s=lk b s) (d:Nat) (v:Value) (s:Nat):lk ((d,v)::a) s=lk ((d,v)::b) s:=by
 by_cases e:d=s
 ·subst e;rw [YO,YO]
 ·rw [YA v _ e,YA v _ e];exact h s
theorem Po.tau (hQ:∀ τ1 τ2 fz H,(∀ s,lk τ1 s=lk τ2 s)→Q .normal τ1 fz H→Q .normal τ2 fz H):∀ (m:Nat) {rest:List (Nat × Oper)} {dn:Bool} {cv τ τ':Env} {fz:FZ} {H:HP},(∀ s,lk τ s=lk τ' s)→Po P cx ops pu σ ve fz0 Hq Q all m rest dn cv τ fz H→Po P cx ops pu σ ve fz0 Hq Q all m rest dn cv τ' fz H
 | 0,_,_,_,_,_,_,_,ht,h=>by unfold Po at h ⊢;exact hQ _ _ _ _ ht h
 | m+1,_,_,_,_,_,_,_,ht,h=>by
  unfold Po at h ⊢
  intro p hp hf
  have key:∀ (v:Value) (s:Nat),lk (match p.2.dst with | some d=>(d,v)::_ | none=>_) s=lk (match p.2.dst with | some d=>(d,v)::_ | none=>_) s:=fun v s=>by
   cases p.2.dst with
   | none=>exact ht s
   | some d=>exact Ykm ht d v s
  rcases h p hp hf with ⟨hw,hd⟩ | ⟨hw,hn⟩
  ·exact .inl ⟨hw,Does.of fun ρ w hrd hi=>(hd.run ρ w hrd hi).mono fun v w' ⟨fz',H',h3,h4,h5⟩=>⟨fz',H',h3,h4,Po.tau hQ m (key v) h5⟩⟩
  ·exact .inr ⟨hw,Po.tau hQ m (key undef) hn⟩
variable {j:Nat} {u:Value}
theorem YkL {cv:Env} (h:¬i=j):VExt ((j,u)::(i,v)::cv) ((i,v)::(j,u)::cv):=fun k w hk=>by
 by_cases e1:j=k
 ·subst e1
  rw [YO] at hk
  rw [YA v _ h,YO];exact hk
 ·rw [YA u _ e1] at hk
  by_cases e2:i=k
  ·subst e2;rw [YO] at hk ⊢;exact hk
  ·rw [YA v _ e2] at hk
   rw [YA v _ e2,YA u _ e1];exact hk
theorem tau_swap {d e:Nat} {τ:Env} (h:¬d=e) (s:Nat):lk ((e,u)::(d,v)::τ) s=lk ((d,v)::(e,u)::τ) s:=by
 by_cases e1:e=s
 ·subst e1;rw [YO,YA v _ h,YO]
 ·rw [YA u _ e1]
  by_cases e2:d=s
  ·subst e2;rw [YO,YO]
  ·rw [YA v _ e2,YA v _ e2,YA u _ e1]
variable {H:HP} {fz:FZ}
theorem Po.succ {m:Nat} {rest:List (Nat × Oper)} {dn:Bool} {cv τ:Env}:Po P cx ops pu σ ve fz0 Hq Q all (m+1) rest dn cv τ fz H↔∀ p∈rest,(rest.all fun q=>!waits p.2 q.1)=true→PoS P cx ops pu σ ve fz0 Hq Q all m (rest.filter fun q=>!Nat.beq q.1 p.1) dn cv τ fz H p.1 p.2:=by
 unfold Po PoS
 exact Iff.rfl
theorem mem_le1 {α:Type} {a b:α}:∀ {l:List α},l.length≤1→a∈l→b∈l→a=b
 | [],_,h,_=>by cases h
 | [x],_,h1,h2=>(List.mem_singleton.1 h1).trans (List.mem_singleton.1 h2).symm
 | _::_::_,h,_,_=>by simp at h
theorem orB {a b:Bool} (h:a=true):(a || b)=true:=by rw [h];exact Bool.true_or _
theorem Po.now {d:Nat} {op:Op} {ty:TypeId} {pos:String} {af:Array Edge} {m:Nat} {r:List (Nat × Oper)} {dn:Bool} {cv τ:Env} (hk:dn=true∨Keep fz0 Hq fz H) (hq:∀ fz1 H1,DoesQ P cx ⟨some d,op,ty,pos,af,none⟩ (rdc ops ⟨some d,op,ty,pos,af,none⟩ σ ve cv) fz1 H1 fun u=>u=v)
 (h:Po P cx ops pu σ ve fz0 Hq Q all m r dn ((i,v)::cv) ((d,v)::τ) fz H):PoS P cx ops pu σ ve fz0 Hq Q all m r dn cv τ fz H i ⟨some d,op,ty,pos,af,none⟩:=by
 unfold PoS
 refine .inl ⟨by unfold YcY;rfl,DoesQ.does ((hq fz H).mono fun u hu=>?_)⟩
 subst hu
 refine ⟨hk.imp orB id,?_⟩
 generalize allp ops all pu ⟨some d,op,ty,pos,af,none⟩=al
 cases al with
 | true=>rw [Bool.or_true];exact Po.dnm _ h
 | false=>rw [Bool.or_false];exact h
set_option maxHeartbeats 2000000 in
theorem Po.eager (hQ:∀ τ1 τ2 fz H,(∀ s,lk τ1 s=lk τ2 s)→Q .normal τ1 fz H→Q .normal τ2 fz H) {d:Nat} {op:Op} {ty:TypeId} {pos:String} {af:Array Edge}:∀ (m:Nat) {rest:List (Nat × Oper)} {dn:Bool} {cv τ:Env} {fz:FZ} {H:HP},
 rest.length≤m+1→(i,⟨some d,op,ty,pos,af,none⟩)∈rest→(∀ p∈rest,p.1=i→p=(i,⟨some d,op,ty,pos,af,none⟩))→(∀ p∈rest,¬p.1=i→p.2.dst≠some d)→(∀ p∈rest,waits ⟨some d,op,ty,pos,af,none⟩ p.1=false)→(∀ p∈rest,lk cv p.1=none)→(∀ j,lk cv j≠none→lk ve j=none)→(∀ p∈rest,lk ve p.1=none)→
 (dn=true∨Keep fz0 Hq fz H)→(∀ fz1 H1,DoesQ P cx ⟨some d,op,ty,pos,af,none⟩ (rdc ops ⟨some d,op,ty,pos,af,none⟩ σ ve cv) fz1 H1 fun u=>u=v)→
 Po P cx ops pu σ ve fz0 Hq Q all m (rest.filter fun q=>!Nat.beq q.1 i) dn ((i,v)::cv) ((d,v)::τ) fz H→Po P cx ops pu σ ve fz0 Hq Q all (m+1) rest dn cv τ fz H:=by
 intro m
 induction m with
 | zero=>
  intro rest dn cv τ fz H hlen hmem huq hds hrd hcv h2 hr hk hq h
  refine Po.succ.2 fun p hp hf=>?_
  have hpi:p.1=i:=by rw [mem_le1 hlen hp hmem]
  have:=huq p hp hpi
  subst this
  exact Po.now hk hq h
 | succ m ih=>
  intro rest dn cv τ fz H hlen hmem huq hds hrd hcv h2 hr hk hq h
  refine Po.succ.2 fun p hp hf=>?_
  by_cases hpi:p.1=i
  ·have:=huq p hp hpi
   subst this
   exact Po.now hk hq h
  ·have hwp:waits p.2 i=false:=by
    have:=List.all_eq_true.1 hf _ hmem
    simpa using this
   have hp2:p∈rest.filter fun q=>!Nat.beq q.1 i:=List.mem_filter.2 ⟨hp,YjH hpi⟩
   have hf2:((rest.filter fun q=>!Nat.beq q.1 i).all fun q=>!waits p.2 q.1)=true:=List.all_eq_true.2 fun q hq=>List.all_eq_true.1 hf q (List.mem_filter.1 hq).1
   have h:=Po.succ.1 h
   have hcomm:((rest.filter fun q=>!Nat.beq q.1 i).filter fun q=>!Nat.beq q.1 p.1)=((rest.filter fun q=>!Nat.beq q.1 p.1).filter fun q=>!Nat.beq q.1 i):=by
    simp only [List.filter_filter,Bool.and_comm]
   have hsub:∀ q∈rest.filter fun q=>!Nat.beq q.1 p.1,q∈rest∧¬q.1=p.1:=fun q hq=>⟨(List.mem_filter.1 hq).1,YfZ (List.mem_filter.1 hq).2⟩
   have hlen2:(rest.filter fun q=>!Nat.beq q.1 p.1).length≤m+1:=by
    have:(rest.filter fun q=>!Nat.beq q.1 p.1).length<rest.length:=List.length_filter_lt_length_iff_exists.2 ⟨p,hp,by simp⟩
    omega
   have go:∀ (u:Value) (fz':FZ) (H':HP) (dn':Bool) (τp τq:Env),(dn'=true∨Keep fz0 Hq fz' H')→(∀ s,lk τq s=lk ((d,v)::τp) s)→
    Po P cx ops pu σ ve fz0 Hq Q all m ((rest.filter fun q=>!Nat.beq q.1 i).filter fun q=>!Nat.beq q.1 p.1) dn' ((p.1,u)::(i,v)::cv) τq fz' H'→
    Po P cx ops pu σ ve fz0 Hq Q all (m+1) (rest.filter fun q=>!Nat.beq q.1 p.1) dn' ((p.1,u)::cv) τp fz' H':=by
    intro u fz' H' dn' τp τq hk' hτ hP
    rw [hcomm] at hP
    have h2p:∀ j,lk ((p.1,u)::cv) j≠none→lk ve j=none:=Ygu (hr p hp) h2
    refine ih hlen2 (List.mem_filter.2 ⟨hmem,YjH (fun e=>hpi e.symm)⟩) (fun q hq=>huq q (hsub q hq).1) (fun q hq=>hds q (hsub q hq).1) (fun q hq=>hrd q (hsub q hq).1) (fun q hq=>?_) h2p (fun q hq=>hr q (hsub q hq).1) hk' (fun fz1 H1=>?_) ?_
    ·rw [YA u _ (fun e=>(hsub q hq).2 e.symm)];exact hcv q (hsub q hq).1
    ·rw [rdc_ne (hrd p hp)];exact hq fz1 H1
    ·exact Po.tau hQ m hτ (Po.ext m (YkL (fun e=>hpi e.symm)) (Ygu (hr _ hmem) h2p) (fun q hq=>hr q (hsub q (List.mem_filter.1 hq).1).1) hP)
   have tq:∀ (u:Value) (s:Nat),lk (match p.2.dst with | some e=>(e,u)::(d,v)::τ | none=>(d,v)::τ) s=lk ((d,v)::(match p.2.dst with | some e=>(e,u)::τ | none=>τ)) s:=fun u s=>by
    have hd:=hds p hp hpi
    cases he:p.2.dst with
    | none=>rfl
    | some e=>exact tau_swap (fun h=>hd (by rw [he,h])) s
   have h9:=h p hp2 hf2
   unfold PoS at h9 ⊢
   rcases h9 with ⟨hw,hdo⟩ | ⟨hw,hn⟩
   ·rw [Yje hwp] at hw
    rw [rdc_ne hwp] at hdo
    exact .inl ⟨hw,Does.of fun ρ w hrd hi=>(hdo.run ρ w hrd hi).mono fun u w' ⟨fz',H',h3,h4,h5⟩=>⟨fz',H',h3,h4,go u fz' H' _ _ _ h4 (tq u) h5⟩⟩
   ·rw [Yje hwp] at hw
    exact .inr ⟨hw,go undef fz H _ _ _ (hk.imp orB id) (tq undef) hn⟩
def eagB (rest:List (Nat × Oper)) (cv ve:Env) (i d:Nat) (o:Oper):Bool:=
 Ya9 rest && (rest.all fun q=>!waits o q.1 && ((lk cv q.1).isNone && ((lk ve q.1).isNone && (Nat.beq q.1 i || match q.2.dst with | some e=>!Nat.beq e d | none=>true)))) && (cv.all fun q=>(lk ve q.1).isNone)
theorem Po.eag (i:Nat) {m d:Nat} {op:Op} {ty:TypeId} {pos:String} {af:Array Edge} {rest r1:List (Nat × Oper)} {dn:Bool} {cv τ:Env} (hQ:∀ τ1 τ2 fz H,(∀ s,lk τ1 s=lk τ2 s)→Q .normal τ1 fz H→Q .normal τ2 fz H)
 (hf:rest.find? (fun q=>Nat.beq q.1 i)=some (i,⟨some d,op,ty,pos,af,none⟩)) (hr:(rest.filter fun q=>!Nat.beq q.1 i)=r1) (hc:eagB rest cv ve i d ⟨some d,op,ty,pos,af,none⟩=true) (hl:Nat.ble rest.length (m+1)=true) (hk:Keep fz0 Hq fz H)
 (hq:∀ fz1 H1,DoesQ P cx ⟨some d,op,ty,pos,af,none⟩ (rdc ops ⟨some d,op,ty,pos,af,none⟩ σ ve cv) fz1 H1 fun u=>u=v) (h:Po P cx ops pu σ ve fz0 Hq Q all m r1 dn ((i,v)::cv) ((d,v)::τ) fz H):
 Po P cx ops pu σ ve fz0 Hq Q all (m+1) rest dn cv τ fz H:=by
 unfold eagB at hc
 rw [Bool.and_eq_true,Bool.and_eq_true] at hc
 obtain ⟨⟨h1,h2⟩,h3⟩:=hc
 have hall:∀ q∈rest,waits ⟨some d,op,ty,pos,af,none⟩ q.1=false∧lk cv q.1=none∧lk ve q.1=none∧(¬q.1=i→q.2.dst≠some d):=fun q hq=>by
  have:=List.all_eq_true.1 h2 q hq
  simp only [Bool.and_eq_true,Bool.not_eq_true',Option.isNone_iff_eq_none,Bool.or_eq_true] at this
  obtain ⟨a,b,c,e⟩:=this
  refine ⟨a,b,c,fun hne he=>?_⟩
  rcases e with e | e
  ·exact hne (Nat.eq_of_beq_eq_true e)
  ·rw [he] at e;simp at e
 have hmem:(i,⟨some d,op,ty,pos,af,none⟩)∈rest:=List.mem_of_find?_eq_some hf
 refine Po.eager hQ m (Nat.le_of_ble_eq_true hl) hmem (fun p hp e=>YlJ h1 hp hmem e) (fun p hp=>(hall p hp).2.2.2) (fun p hp=>(hall p hp).1) (fun p hp=>(hall p hp).2.1) (fun j hj=>?_) (fun p hp=>(hall p hp).2.2.1) (.inr hk) hq (by rw [hr];exact h)
 have key:∀ (l:Env),(l.all fun q=>(lk ve q.1).isNone)=true→lk l j≠none→lk ve j=none:=by
  intro l
  induction l with
  | nil=>intro _ h;exact absurd rfl h
  | cons x r ih=>
   intro ha hj
   rw [List.all_cons,Bool.and_eq_true] at ha
   by_cases e:x.1=j
   ·rw [← e];exact Option.isNone_iff_eq_none.1 ha.1
   ·obtain ⟨a,b⟩:=x
    rw [YA b _ e] at hj
    exact ih ha.2 hj
 exact key cv h3 hj
end
variable {H:HP} {fz:FZ} {i j k:Nat}
theorem Po.three {P:Program} {cx:Cx} {l:List Oper} {pu:List Nat} {σ' ve cv τ:Env} {fz0:FZ} {Hq:HP} {Q:QQ} {all rest r1 r2 r3:List (Nat × Oper)} {m:Nat} {dn:Bool} {o o2 o3:Oper} (hr:Yjt rest=[(i,o),(j,o2),(k,o3)]) (h1:(rest.filter fun q=>!Nat.beq q.1 i)=r1) (h2:(rest.filter fun q=>!Nat.beq q.1 j)=r2) (h3:(rest.filter fun q=>!Nat.beq q.1 k)=r3)
 (a:PoS P cx l pu σ' ve fz0 Hq Q all m r1 dn cv τ fz H i o) (b:PoS P cx l pu σ' ve fz0 Hq Q all m r2 dn cv τ fz H j o2) (c:PoS P cx l pu σ' ve fz0 Hq Q all m r3 dn cv τ fz H k o3):Po P cx l pu σ' ve fz0 Hq Q all (m+1) rest dn cv τ fz H:=by
 unfold PoS at a b c
 unfold Po
 intro p hp hfree
 have:=Go.Lx.mem_ready hp hfree
 rw [hr,List.mem_cons,List.mem_cons,List.mem_singleton] at this
 rcases this with this | this | this
 ·subst this;rw [h1];exact a
 ·subst this;rw [h2];exact b
 ·subst this;rw [h3];exact c
end Go.Lx
namespace Go.Proofs.YtfjopfinkdhmaaaGreatDoor
open Go.Lx Go.RowKit
attribute [local instance 10] Classical.propDecidable
open Go.Proofs.Tryz (prog)
def codeM (m:Except Int (Domain × Problem)):Int:=match m with | .error c=>c | .ok _=>0
def dataM (m:Except Int (Domain × Problem)):Domain × Problem:=match m with | .error _=>(YkD,YkC) | .ok x=>x
variable {fz:FZ} {v:Value}
theorem LoadR.form {m:Except Int (Domain × Problem)} (h:LoadR fz m v):∃ cd cp pl,YcP.rep fz (dataM m).1 cd∧W7.rep fz (dataM m).2 cp∧v=.tuple #[.agg (List.toArray cd),.agg (List.toArray cp),.string pl,errV (codeM m)]:=by
 obtain ⟨d,p,cd,cp,pl,h1,h2,h3⟩:=h
 cases m with
 | error c=>
  obtain ⟨rfl,hc,rfl,rfl⟩:=h3
  exact ⟨cd,cp,pl,h1,h2,rfl⟩
 | ok x=>
  obtain ⟨d',p'⟩:=x
  obtain ⟨rfl,rfl,rfl⟩:=h3
  exact ⟨cd,cp,⟨#[]⟩,h1,h2,rfl⟩
set_option maxHeartbeats 16000000 in
theorem lcases_q {a b:Bs} (hT:TabF fz) (hX:MaxF fz) (awk:∀ fz',Le fz fz'→QFn prog 5 [] fz' (.bool true)) (law:a.size≤20000→b.size≤20000→Yfr (upS a++sfxU) (upS b++sfxU)=Yfr a b):
 QFn prog 3 [.agg #[.string a,.string b]] fz (.bool true):=by
 refine GFn.quiet ?_
 refine zF Tryz.func3 Tryz.ntmps3 (fun w0=>?_)
 refine zW ?_;intros
 refine zC (fun c1=>?_) (fun c1=>?_)
 ·refine zW ?_;intros
  ((refine zG ?_);refine Yw Zz Zz (awk _ (Le.refl _)) ?_)
  refine zW ?_;intros
  exact zR (h:=rfl)
 refine zW ?_;intros
 refine zC (fun c2=>?_) (fun c2=>?_)
 ·refine zW ?_;intros
  ((refine zG ?_);refine Yw Zz Zz (awk _ (Le.refl _)) ?_)
  refine zW ?_;intros
  exact zR (h:=rfl)
 have hlaw:=law Zi Zi
 refine zW ?_;intros
 ((refine zG ?_);refine Yw Zz Zz (awk _ (Le.refl _)) ?_)
 refine zW ?_;intros
 rename_i g1
 refine Ya Zz (Ym [] _ Zz Zz Zz (YeO (a:=a) (b:=b) hT hX) (fun r1 fz1 H1 hle1 hR1=>?_))
 obtain ⟨rfl,hR1⟩:=hR1
 obtain ⟨cd1,cp1,pl1,hd1,hp1,rfl⟩:=hR1.form
 rw [List.nil_append]
 generalize hm:Yfr a b=m at*
 obtain ⟨v1,v2,v3,v4,v5,v6,rfl,hD1⟩:=Wc hd1
 obtain ⟨w1,w2,w3,w4,w5,w6,w7,rfl,hP1⟩:=XP hp1
 generalize hdm:(dataM m).1=d at*
 generalize hpm:(dataM m).2=p at*
 have hD1':=hD1
 have hP1':=hP1
 obtain ⟨aD0,ad0,az0,rfl,_⟩:=hD1.types
 obtain ⟨aD1,ad1,az1,rfl,_⟩:=hD1.constants
 obtain ⟨aD2,ad2,az2,rfl,_⟩:=hD1.predicates
 obtain ⟨aD3,ad3,az3,rfl,_⟩:=hD1.functions
 obtain ⟨aD4,ad4,az4,rfl,_⟩:=hD1.actions
 obtain ⟨aD5,ad5,az5,rfl,_⟩:=hD1.duratives
 obtain ⟨aP0,ap0,ay0,rfl,_⟩:=hP1.objects
 obtain ⟨aP1,ap1,ay1,rfl,_⟩:=hP1.init
 obtain ⟨aP2,ap2,ay2,rfl,_⟩:=hP1.values
 obtain ⟨aP3,ap3,ay3,rfl,_⟩:=hP1.goal.args
 obtain ⟨aP4,ap4,ay4,rfl,_⟩:=hP1.goal.params
 obtain ⟨aP5,ap5,ay5,rfl,_⟩:=hP1.goal.exprs
 obtain ⟨aP6,ap6,ay6,rfl,_⟩:=hP1.goal.kids
 refine zWN ?_;intros
 rename_i g3 g4
 refine Wp.mid (fun σ fz' H'=>∃ g7 g8 cd2 cp2,σ=[(10,errV (codeM m)),(8,.pointer (some ⟨g8,0,none⟩)),(7,.pointer (some ⟨g7,0,none⟩)),(6,errV (codeM m)),(4,.pointer (some ⟨g4,0,none⟩)),(3,.pointer (some ⟨g3,0,none⟩))]∧Le fz1 fz'∧H'=[(g8,.cells (List.toArray cp2) 40 (0,0)),(g7,.cells (List.toArray cd2) 31 (0,0)),(g4,.cells #[.string p.name,.string p.domain,.slice aP0 ap0 ay0,.slice aP1 ap1 ay1,.slice aP2 ap2 ay2,.string p.goal.op,.string p.goal.name,.slice aP3 ap3 ay3,.slice aP4 ap4 ay4,.slice aP5 ap5 ay5,.slice aP6 ap6 ay6] 40 (0,0)),(g3,.cells #[.string d.name,.slice aD0 ad0 az0,.slice aD1 ad1 az1,.slice aD2 ad2 az2,.slice aD3 ad3 az3,.slice aD4 ad4 az4,.slice aD5 ad5 az5] 31 (0,0))]∧YcP.rep fz' d cd2∧W7.rep fz' p cp2) ?_ ?_
 ·refine Wp.drawP [] (Hq:=[_,_,_]) T.mixed Zj Zj Zb ?_
  refine zW ?_;intros
  ((refine zG ?_);refine Yw Zz Zz (YkO (s:=a) Zi) ?_)
  refine zW ?_;intros
  ((refine zG ?_);refine Yw Zz Zz (YkO (s:=b) Zi) ?_)
  refine zW ?_;intros
  refine Ye ?_
  refine Ye ?_
  refine Ye ?_
  refine Ye ?_
  refine Ye ?_
  refine Ye ?_
  refine Ye ?_
  refine Ye ?_
  refine Ye ?_
  refine Ye ?_
  refine Ye ?_
  refine Ye ?_
  refine PK.done ⟨by kernel_rfl,?_⟩
  refine Po.three Zz Zz Zz Zz ?_ ?_ ?_
  ·refine Yd (Ym [] [(g4,_),(g3,_),(g1,_)] Zz Zz Zz (YeO ((hT.mono hle1)) ((hX.mono hle1))) (fun r2 fz2 H2 hle2 hR2=>?_))
   obtain ⟨rfl,hR2⟩:=hR2
   rw [hlaw] at hR2
   obtain ⟨cd2,cp2,pl2,hd2,hp2,rfl⟩:=hR2.form
   rw [hdm] at hd2
   rw [hpm] at hp2
   obtain ⟨u1,u2,u3,u4,u5,u6,rfl,hD2⟩:=Wc hd2
   obtain ⟨x1,x2,x3,x4,x5,x6,x7,rfl,hP2⟩:=XP hp2
   obtain ⟨bD0,bd0,bz0,rfl,_⟩:=hD2.types
   obtain ⟨bD1,bd1,bz1,rfl,_⟩:=hD2.constants
   obtain ⟨bD2,bd2,bz2,rfl,_⟩:=hD2.predicates
   obtain ⟨bD3,bd3,bz3,rfl,_⟩:=hD2.functions
   obtain ⟨bD4,bd4,bz4,rfl,_⟩:=hD2.actions
   obtain ⟨bD5,bd5,bz5,rfl,_⟩:=hD2.duratives
   obtain ⟨bP0,bp0,by0,rfl,_⟩:=hP2.objects
   obtain ⟨bP1,bp1,by1,rfl,_⟩:=hP2.init
   obtain ⟨bP2,bp2,by2,rfl,_⟩:=hP2.values
   obtain ⟨bP3,bp3,by3,rfl,_⟩:=hP2.goal.args
   obtain ⟨bP4,bp4,by4,rfl,_⟩:=hP2.goal.params
   obtain ⟨bP5,bp5,by5,rfl,_⟩:=hP2.goal.exprs
   obtain ⟨bP6,bp6,by6,rfl,_⟩:=hP2.goal.kids
   refine ⟨(⟨hle2,Zx⟩),?_⟩
   refine Po.eag 7 Xb Zz Zz Zj Zj (⟨hle2,Zx⟩) (fun _ _=>X5 Zz rfl) ?_
   refine Po.eag 8 Xb Zz Zz Zj Zj (⟨hle2,Zx⟩) (fun _ _=>YY Zz Zz rfl) ?_
   refine Po.eag 9 Xb Zz Zz Zj Zj (⟨hle2,Zx⟩) (fun _ _=>YY Zz Zz rfl) ?_
   refine Po.eag 10 Xb Zz Zz Zj Zj (⟨hle2,Zx⟩) (fun _ _=>YY Zz Zz rfl) ?_
   refine Po.eag 11 Xb Zz Zz Zj Zj (⟨hle2,Zx⟩) (fun _ _=>YY Zz Zz rfl) ?_
   refine YG Zz Zz Zz ?_ ?_
   ·refine Yd (YX T Zz Zz (fun g7=>⟨(⟨hle2,Zx⟩),?_⟩))
    refine Yb Zz Zz ?_
    refine Yd (YX T Zz Zz (fun g8=>⟨(⟨hle2,Zx⟩),?_⟩))
    refine Yb Zz Zz ?_
    refine PoS.soft0 (YN T Zz Zz Zz Zz Zz Zz ⟨(⟨hle2,Zx⟩),?_⟩)
    refine Yb Zz Zz ?_
    refine PoS.soft0 (YP T Zz Zz Zz Zz Zz Zz ⟨(⟨hle2,Zx⟩),?_⟩)
    refine Po.eag 16 Xb Zz Zz Zj Zj (⟨hle2,Zx⟩) (fun _ _=>YJ Zz rfl) ?_
    refine Po.eag 17 Xb Zz Zz Zj Zj (⟨hle2,Zx⟩) (fun _ _=>YJ Zz rfl) ?_
    refine Po.done ?_
    refine zW ?_;intros
    exact midN ⟨g7,g8,_,_,rfl,hle2,rfl,hd2,hp2⟩ Zw Zb
   ·refine Yd (YX T Zz Zz (fun g8=>⟨(⟨hle2,Zx⟩),?_⟩))
    refine Yb Zz Zz ?_
    refine Yd (YX T Zz Zz (fun g7=>⟨(⟨hle2,Zx⟩),?_⟩))
    refine Yb Zz Zz ?_
    refine PoS.soft0 (YP T Zz Zz Zz Zz Zz Zz ⟨(⟨hle2,Zx⟩),?_⟩)
    refine Yb Zz Zz ?_
    refine PoS.soft0 (YN T Zz Zz Zz Zz Zz Zz ⟨(⟨hle2,Zx⟩),?_⟩)
    refine Po.eag 16 Xb Zz Zz Zj Zj (⟨hle2,Zx⟩) (fun _ _=>YJ Zz rfl) ?_
    refine Po.eag 17 Xb Zz Zz Zj Zj (⟨hle2,Zx⟩) (fun _ _=>YJ Zz rfl) ?_
    refine Po.done ?_
    refine zW ?_;intros
    exact midP (H1:=(g8,_)::(g7,_):: [_,_,_]) (List.Perm.swap _ _ _) ⟨g7,g8,_,_,rfl,hle2,rfl,hd2,hp2⟩ Zw Zb
  ·refine Yd (YX T Zz Zz (fun g7=>⟨(⟨(Le.refl _),Zx⟩),?_⟩))
   refine YG Zz Zz Zz ?_ ?_
   ·refine Yd (Ym [] [(g7,_),(g4,_),(g3,_),(g1,_)] Zz Zz Zz (YeO ((hT.mono hle1)) ((hX.mono hle1))) (fun r2 fz2 H2 hle2 hR2=>?_))
    obtain ⟨rfl,hR2⟩:=hR2
    rw [hlaw] at hR2
    obtain ⟨cd2,cp2,pl2,hd2,hp2,rfl⟩:=hR2.form
    rw [hdm] at hd2
    rw [hpm] at hp2
    obtain ⟨u1,u2,u3,u4,u5,u6,rfl,hD2⟩:=Wc hd2
    obtain ⟨x1,x2,x3,x4,x5,x6,x7,rfl,hP2⟩:=XP hp2
    obtain ⟨bD0,bd0,bz0,rfl,_⟩:=hD2.types
    obtain ⟨bD1,bd1,bz1,rfl,_⟩:=hD2.constants
    obtain ⟨bD2,bd2,bz2,rfl,_⟩:=hD2.predicates
    obtain ⟨bD3,bd3,bz3,rfl,_⟩:=hD2.functions
    obtain ⟨bD4,bd4,bz4,rfl,_⟩:=hD2.actions
    obtain ⟨bD5,bd5,bz5,rfl,_⟩:=hD2.duratives
    obtain ⟨bP0,bp0,by0,rfl,_⟩:=hP2.objects
    obtain ⟨bP1,bp1,by1,rfl,_⟩:=hP2.init
    obtain ⟨bP2,bp2,by2,rfl,_⟩:=hP2.values
    obtain ⟨bP3,bp3,by3,rfl,_⟩:=hP2.goal.args
    obtain ⟨bP4,bp4,by4,rfl,_⟩:=hP2.goal.params
    obtain ⟨bP5,bp5,by5,rfl,_⟩:=hP2.goal.exprs
    obtain ⟨bP6,bp6,by6,rfl,_⟩:=hP2.goal.kids
    refine ⟨(⟨hle2,Zx⟩),?_⟩
    refine Po.eag 7 Xb Zz Zz Zj Zj (⟨hle2,Zx⟩) (fun _ _=>X5 Zz rfl) ?_
    refine Po.eag 8 Xb Zz Zz Zj Zj (⟨hle2,Zx⟩) (fun _ _=>YY Zz Zz rfl) ?_
    refine Po.eag 9 Xb Zz Zz Zj Zj (⟨hle2,Zx⟩) (fun _ _=>YY Zz Zz rfl) ?_
    refine Po.eag 10 Xb Zz Zz Zj Zj (⟨hle2,Zx⟩) (fun _ _=>YY Zz Zz rfl) ?_
    refine Po.eag 11 Xb Zz Zz Zj Zj (⟨hle2,Zx⟩) (fun _ _=>YY Zz Zz rfl) ?_
    refine Yb Zz Zz ?_
    refine Yd (YX T Zz Zz (fun g8=>⟨(⟨hle2,Zx⟩),?_⟩))
    refine Yb Zz Zz ?_
    refine PoS.soft0 (YN T Zz Zz Zz Zz Zz Zz ⟨(⟨hle2,Zx⟩),?_⟩)
    refine Yb Zz Zz ?_
    refine PoS.soft0 (YP T Zz Zz Zz Zz Zz Zz ⟨(⟨hle2,Zx⟩),?_⟩)
    refine Po.eag 16 Xb Zz Zz Zj Zj (⟨hle2,Zx⟩) (fun _ _=>YJ Zz rfl) ?_
    refine Po.eag 17 Xb Zz Zz Zj Zj (⟨hle2,Zx⟩) (fun _ _=>YJ Zz rfl) ?_
    refine Po.done ?_
    refine zW ?_;intros
    exact midN ⟨g7,g8,_,_,rfl,hle2,rfl,hd2,hp2⟩ Zw Zb
   ·refine Yd (YX T Zz Zz (fun g8=>⟨(⟨(Le.refl _),Zx⟩),?_⟩))
    refine Yb Zz Zz ?_
    refine Yd (Ym [] [(g8,_),(g7,_),(g4,_),(g3,_),(g1,_)] Zz Zz Zz (YeO ((hT.mono hle1)) ((hX.mono hle1))) (fun r2 fz2 H2 hle2 hR2=>?_))
    obtain ⟨rfl,hR2⟩:=hR2
    rw [hlaw] at hR2
    obtain ⟨cd2,cp2,pl2,hd2,hp2,rfl⟩:=hR2.form
    rw [hdm] at hd2
    rw [hpm] at hp2
    obtain ⟨u1,u2,u3,u4,u5,u6,rfl,hD2⟩:=Wc hd2
    obtain ⟨x1,x2,x3,x4,x5,x6,x7,rfl,hP2⟩:=XP hp2
    obtain ⟨bD0,bd0,bz0,rfl,_⟩:=hD2.types
    obtain ⟨bD1,bd1,bz1,rfl,_⟩:=hD2.constants
    obtain ⟨bD2,bd2,bz2,rfl,_⟩:=hD2.predicates
    obtain ⟨bD3,bd3,bz3,rfl,_⟩:=hD2.functions
    obtain ⟨bD4,bd4,bz4,rfl,_⟩:=hD2.actions
    obtain ⟨bD5,bd5,bz5,rfl,_⟩:=hD2.duratives
    obtain ⟨bP0,bp0,by0,rfl,_⟩:=hP2.objects
    obtain ⟨bP1,bp1,by1,rfl,_⟩:=hP2.init
    obtain ⟨bP2,bp2,by2,rfl,_⟩:=hP2.values
    obtain ⟨bP3,bp3,by3,rfl,_⟩:=hP2.goal.args
    obtain ⟨bP4,bp4,by4,rfl,_⟩:=hP2.goal.params
    obtain ⟨bP5,bp5,by5,rfl,_⟩:=hP2.goal.exprs
    obtain ⟨bP6,bp6,by6,rfl,_⟩:=hP2.goal.kids
    refine ⟨(⟨hle2,Zx⟩),?_⟩
    refine Po.eag 7 Xb Zz Zz Zj Zj (⟨hle2,Zx⟩) (fun _ _=>X5 Zz rfl) ?_
    refine Po.eag 8 Xb Zz Zz Zj Zj (⟨hle2,Zx⟩) (fun _ _=>YY Zz Zz rfl) ?_
    refine Po.eag 9 Xb Zz Zz Zj Zj (⟨hle2,Zx⟩) (fun _ _=>YY Zz Zz rfl) ?_
    refine Po.eag 10 Xb Zz Zz Zj Zj (⟨hle2,Zx⟩) (fun _ _=>YY Zz Zz rfl) ?_
    refine Po.eag 11 Xb Zz Zz Zj Zj (⟨hle2,Zx⟩) (fun _ _=>YY Zz Zz rfl) ?_
    refine Yb Zz Zz ?_
    refine PoS.soft0 (YN T Zz Zz Zz Zz Zz Zz ⟨(⟨hle2,Zx⟩),?_⟩)
    refine Yb Zz Zz ?_
    refine PoS.soft0 (YP T Zz Zz Zz Zz Zz Zz ⟨(⟨hle2,Zx⟩),?_⟩)
    refine Po.eag 16 Xb Zz Zz Zj Zj (⟨hle2,Zx⟩) (fun _ _=>YJ Zz rfl) ?_
    refine Po.eag 17 Xb Zz Zz Zj Zj (⟨hle2,Zx⟩) (fun _ _=>YJ Zz rfl) ?_
    refine Po.done ?_
    refine zW ?_;intros
    exact midN ⟨g7,g8,_,_,rfl,hle2,rfl,hd2,hp2⟩ Zw Zb
  ·refine Yd (YX T Zz Zz (fun g8=>⟨(⟨(Le.refl _),Zx⟩),?_⟩))
   refine YG Zz Zz Zz ?_ ?_
   ·refine Yd (Ym [] [(g8,_),(g4,_),(g3,_),(g1,_)] Zz Zz Zz (YeO ((hT.mono hle1)) ((hX.mono hle1))) (fun r2 fz2 H2 hle2 hR2=>?_))
    obtain ⟨rfl,hR2⟩:=hR2
    rw [hlaw] at hR2
    obtain ⟨cd2,cp2,pl2,hd2,hp2,rfl⟩:=hR2.form
    rw [hdm] at hd2
    rw [hpm] at hp2
    obtain ⟨u1,u2,u3,u4,u5,u6,rfl,hD2⟩:=Wc hd2
    obtain ⟨x1,x2,x3,x4,x5,x6,x7,rfl,hP2⟩:=XP hp2
    obtain ⟨bD0,bd0,bz0,rfl,_⟩:=hD2.types
    obtain ⟨bD1,bd1,bz1,rfl,_⟩:=hD2.constants
    obtain ⟨bD2,bd2,bz2,rfl,_⟩:=hD2.predicates
    obtain ⟨bD3,bd3,bz3,rfl,_⟩:=hD2.functions
    obtain ⟨bD4,bd4,bz4,rfl,_⟩:=hD2.actions
    obtain ⟨bD5,bd5,bz5,rfl,_⟩:=hD2.duratives
    obtain ⟨bP0,bp0,by0,rfl,_⟩:=hP2.objects
    obtain ⟨bP1,bp1,by1,rfl,_⟩:=hP2.init
    obtain ⟨bP2,bp2,by2,rfl,_⟩:=hP2.values
    obtain ⟨bP3,bp3,by3,rfl,_⟩:=hP2.goal.args
    obtain ⟨bP4,bp4,by4,rfl,_⟩:=hP2.goal.params
    obtain ⟨bP5,bp5,by5,rfl,_⟩:=hP2.goal.exprs
    obtain ⟨bP6,bp6,by6,rfl,_⟩:=hP2.goal.kids
    refine ⟨(⟨hle2,Zx⟩),?_⟩
    refine Po.eag 7 Xb Zz Zz Zj Zj (⟨hle2,Zx⟩) (fun _ _=>X5 Zz rfl) ?_
    refine Po.eag 8 Xb Zz Zz Zj Zj (⟨hle2,Zx⟩) (fun _ _=>YY Zz Zz rfl) ?_
    refine Po.eag 9 Xb Zz Zz Zj Zj (⟨hle2,Zx⟩) (fun _ _=>YY Zz Zz rfl) ?_
    refine Po.eag 10 Xb Zz Zz Zj Zj (⟨hle2,Zx⟩) (fun _ _=>YY Zz Zz rfl) ?_
    refine Po.eag 11 Xb Zz Zz Zj Zj (⟨hle2,Zx⟩) (fun _ _=>YY Zz Zz rfl) ?_
    refine Yb Zz Zz ?_
    refine Yd (YX T Zz Zz (fun g7=>⟨(⟨hle2,Zx⟩),?_⟩))
    refine Yb Zz Zz ?_
    refine PoS.soft0 (YP T Zz Zz Zz Zz Zz Zz ⟨(⟨hle2,Zx⟩),?_⟩)
    refine Yb Zz Zz ?_
    refine PoS.soft0 (YN T Zz Zz Zz Zz Zz Zz ⟨(⟨hle2,Zx⟩),?_⟩)
    refine Po.eag 16 Xb Zz Zz Zj Zj (⟨hle2,Zx⟩) (fun _ _=>YJ Zz rfl) ?_
    refine Po.eag 17 Xb Zz Zz Zj Zj (⟨hle2,Zx⟩) (fun _ _=>YJ Zz rfl) ?_
    refine Po.done ?_
    refine zW ?_;intros
    exact midP (H1:=(g8,_)::(g7,_):: [_,_,_]) (List.Perm.swap _ _ _) ⟨g7,g8,_,_,rfl,hle2,rfl,hd2,hp2⟩ Zw Zb
   ·refine Yd (YX T Zz Zz (fun g7=>⟨(⟨(Le.refl _),Zx⟩),?_⟩))
    refine Yb Zz Zz ?_
    refine Yd (Ym [] [(g7,_),(g8,_),(g4,_),(g3,_),(g1,_)] Zz Zz Zz (YeO ((hT.mono hle1)) ((hX.mono hle1))) (fun r2 fz2 H2 hle2 hR2=>?_))
    obtain ⟨rfl,hR2⟩:=hR2
    rw [hlaw] at hR2
    obtain ⟨cd2,cp2,pl2,hd2,hp2,rfl⟩:=hR2.form
    rw [hdm] at hd2
    rw [hpm] at hp2
    obtain ⟨u1,u2,u3,u4,u5,u6,rfl,hD2⟩:=Wc hd2
    obtain ⟨x1,x2,x3,x4,x5,x6,x7,rfl,hP2⟩:=XP hp2
    obtain ⟨bD0,bd0,bz0,rfl,_⟩:=hD2.types
    obtain ⟨bD1,bd1,bz1,rfl,_⟩:=hD2.constants
    obtain ⟨bD2,bd2,bz2,rfl,_⟩:=hD2.predicates
    obtain ⟨bD3,bd3,bz3,rfl,_⟩:=hD2.functions
    obtain ⟨bD4,bd4,bz4,rfl,_⟩:=hD2.actions
    obtain ⟨bD5,bd5,bz5,rfl,_⟩:=hD2.duratives
    obtain ⟨bP0,bp0,by0,rfl,_⟩:=hP2.objects
    obtain ⟨bP1,bp1,by1,rfl,_⟩:=hP2.init
    obtain ⟨bP2,bp2,by2,rfl,_⟩:=hP2.values
    obtain ⟨bP3,bp3,by3,rfl,_⟩:=hP2.goal.args
    obtain ⟨bP4,bp4,by4,rfl,_⟩:=hP2.goal.params
    obtain ⟨bP5,bp5,by5,rfl,_⟩:=hP2.goal.exprs
    obtain ⟨bP6,bp6,by6,rfl,_⟩:=hP2.goal.kids
    refine ⟨(⟨hle2,Zx⟩),?_⟩
    refine Po.eag 7 Xb Zz Zz Zj Zj (⟨hle2,Zx⟩) (fun _ _=>X5 Zz rfl) ?_
    refine Po.eag 8 Xb Zz Zz Zj Zj (⟨hle2,Zx⟩) (fun _ _=>YY Zz Zz rfl) ?_
    refine Po.eag 9 Xb Zz Zz Zj Zj (⟨hle2,Zx⟩) (fun _ _=>YY Zz Zz rfl) ?_
    refine Po.eag 10 Xb Zz Zz Zj Zj (⟨hle2,Zx⟩) (fun _ _=>YY Zz Zz rfl) ?_
    refine Po.eag 11 Xb Zz Zz Zj Zj (⟨hle2,Zx⟩) (fun _ _=>YY Zz Zz rfl) ?_
    refine Yb Zz Zz ?_
    refine PoS.soft0 (YP T Zz Zz Zz Zz Zz Zz ⟨(⟨hle2,Zx⟩),?_⟩)
    refine Yb Zz Zz ?_
    refine PoS.soft0 (YN T Zz Zz Zz Zz Zz Zz ⟨(⟨hle2,Zx⟩),?_⟩)
    refine Po.eag 16 Xb Zz Zz Zj Zj (⟨hle2,Zx⟩) (fun _ _=>YJ Zz rfl) ?_
    refine Po.eag 17 Xb Zz Zz Zj Zj (⟨hle2,Zx⟩) (fun _ _=>YJ Zz rfl) ?_
    refine Po.done ?_
    refine zW ?_;intros
    exact midP (H1:=(g8,_)::(g7,_):: [_,_,_]) (List.Perm.swap _ _ _) ⟨g7,g8,_,_,rfl,hle2,rfl,hd2,hp2⟩ Zw Zb
 rintro σ fz' H' ⟨g7,g8,cd2,cp2,rfl,hle2,rfl,hd2,hp2⟩
 obtain ⟨u1,u2,u3,u4,u5,u6,rfl,hD2⟩:=Wc hd2
 obtain ⟨x1,x2,x3,x4,x5,x6,x7,rfl,hP2⟩:=XP hp2
 have hD2':=hD2
 have hP2':=hP2
 obtain ⟨bD0,bd0,bz0,rfl,_⟩:=hD2.types
 obtain ⟨bD1,bd1,bz1,rfl,_⟩:=hD2.constants
 obtain ⟨bD2,bd2,bz2,rfl,_⟩:=hD2.predicates
 obtain ⟨bD3,bd3,bz3,rfl,_⟩:=hD2.functions
 obtain ⟨bD4,bd4,bz4,rfl,_⟩:=hD2.actions
 obtain ⟨bD5,bd5,bz5,rfl,_⟩:=hD2.duratives
 obtain ⟨bP0,bp0,by0,rfl,_⟩:=hP2.objects
 obtain ⟨bP1,bp1,by1,rfl,_⟩:=hP2.init
 obtain ⟨bP2,bp2,by2,rfl,_⟩:=hP2.values
 obtain ⟨bP3,bp3,by3,rfl,_⟩:=hP2.goal.args
 obtain ⟨bP4,bp4,by4,rfl,_⟩:=hP2.goal.params
 obtain ⟨bP5,bp5,by5,rfl,_⟩:=hP2.goal.exprs
 obtain ⟨bP6,bp6,by6,rfl,_⟩:=hP2.goal.kids
 refine zW ?_;intros
 refine zc num_q ?_
 refine zW ?_;intros
 refine zc num_q ?_
 refine zW ?_;intros
 (((refine zC (fun n1=>?_) (fun n1=>?_));rotate_left 1;(exact absurd rfl n1);(refine zW ?_;intros)))
 refine zc (edomain (hD1'.mono hle2) hD2') ?_
 refine zW ?_;intros
 refine zc (eproblem (hP1'.mono hle2) hP2') ?_
 refine zW ?_;intros
 exact zR (h:=rfl)
end Go.Proofs.YtfjopfinkdhmaaaGreatDoor
