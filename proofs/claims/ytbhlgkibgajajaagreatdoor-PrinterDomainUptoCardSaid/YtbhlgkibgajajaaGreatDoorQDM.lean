/- The texts PRefM, PRefO, PText, PBuild, Shelf, PWalkU, PWalkV, laid together. Conditions: none. -/
import Derived.Test.YtbhlgkibgajajaaGreatDoorQDI
import Derived.Test.YtbhlgkibgajajaaGreatDoorQDH
import Derived.Test.YtbhlgkibgajajaaGreatDoorQDJ
import Derived.Test.YtbhlgkibgajajaaGreatDoorQDK
import Derived.Test.YtbhlgkibgajajaaGreatDoorQDB
import Derived.Test.YtbhlgkibgajajaaGreatDoorQDC
import Derived.Test.YtbhlgkibgajajaaGreatDoorQDD
import Derived.Test.YtbhlgkibgajajaaGreatDoorQDL
import Derived.Test.YtbhlgkibgajajaaGreatDoorQDF
import Derived.Lib.Join
import Derived.Lib.ItoaNum
import Derived.Lib.ItoaMem
import Derived.Lib.Repeat
import Derived.Test.YtbhlgkibgajajaaGreatDoorQDG
import Derived.Lib.AppendStr
import Derived.Lib.UnsafeStr
import Derived.Shelf.Strings.Builder1
import Derived.Shelf.Strings.Builder2
import Derived.Shelf.Strings.OnBuilder
import Derived.Shelf.Small.Strs
import Derived.Shelf.Strings.BuilderF
import Derived.Shelf.Strconv.Itoa0
import Derived.Shelf.Strconv.Itoa1
import Derived.Shelf.LaysM
import Derived.Shelf.Strconv.Itoa2
import Derived.Shelf.Strconv.Itoa3
import Derived.Shelf.Strings.Search1
import Derived.Shelf.Strings.Search2
import Derived.Shelf.Strings.Search3
import Derived.Shelf.Strings.Shaped
import Derived.Shelf.Strings.Prefix
import Derived.Shelf.Bits.Mul64
import Derived.Shelf.Strings.Repeat
import Derived.Test.YtbhlgkibgajajaaGreatDoorChecked
import Derived.Test.YtbhlgkibgajajaaGreatDoorQDE
set_option maxRecDepth 20000
namespace Go.Proofs.YtbhlgkibgajajaaGreatDoor
open Go.Lx Go.RowKit
attribute [local instance 10] Classical.propDecidable
def ShF (f:Function):Prop:=Xq f.name∧(∀ q∈f.params,Xz true q)∧YaM f.lo∧YaM f.hi
def ShA (a:Action):Prop:=Xq a.name∧(∀ q∈a.params,Xz true q)∧0≤a.cost∧YaM a.cost∧FOk a.pre∧∀ c∈a.changes,ShC c
def ShU (a:Durative):Prop:=Xq a.name∧(∀ q∈a.params,Xz true q)∧YaM a.duration∧(∀ c∈a.atStart,ShC c)∧(∀ c∈a.atEnd,ShC c)∧FOk a.start∧FOk a.over∧FOk a.fin
def ShD (d:Domain):Prop:=Xq d.name∧(∀ p∈d.types,Xz false p)∧(∀ p∈d.constants,Xz false p)∧(∀ p∈d.predicates,Yet p)∧(∀ f∈d.functions,ShF f)∧(∀ x∈d.actions,ShA x)∧(∀ x∈d.duratives,ShU x)
set_option maxHeartbeats 4000000 in
theorem Yi6 {fz:FZ} {d:Domain} {v1 v2 v3 v4 v5 v6:Value} (h:DomainR fz d v1 v2 v3 v4 v5 v6):
 QFn Tryz.prog 38 [.agg #[.string d.name,v1,v2,v3,v4,v5,v6]] fz (.bool (decide (ShD d))):=by
 obtain ⟨A1,n1,b1,rfl,i1⟩:=h.types
 obtain ⟨A2,n2,b2,rfl,i2⟩:=h.constants
 obtain ⟨A3,n3,b3,rfl,i3⟩:=h.predicates
 obtain ⟨A4,n4,b4,rfl,i4⟩:=h.functions
 obtain ⟨A5,n5,b5,rfl,i5⟩:=h.actions
 obtain ⟨A6,n6,b6,rfl,i6⟩:=h.duratives
 have l3:=i3.len
 have l4:=i4.len
 have l5:=i5.len
 have l6:=i6.len
 have s3:=i3.short
 have s4:=i4.short
 have s5:=i5.short
 have s6:=i6.short
 refine GFn.quiet ?_
 (refine GFn.of_wp Tryz.func38 rfl Tryz.ntmps38 rfl rfl (fun w0=>?_))
 (refine Yp (Yq (Yc Zz (Xl _ Zz Zz (fun g0=>?_)))))
 ((repeat (first | refine zS ?_ | refine zA fun _=>?_)))
 (((refine zG ?_));refine Yx Zz Zz (Yao h.name) (fun f1=>?_) (fun f1=>?_))
 ·((repeat (first | refine zS ?_ | refine zA fun _=>?_)))
  (((refine zG ?_));refine Yx Zz Zz (Yac (vars:=false) i1) (fun f2=>?_) (fun f2=>?_))
  ·((repeat (first | refine zS ?_ | refine zA fun _=>?_)))
   (((refine zG ?_));refine Yx Zz Zz (Yac (vars:=false) i2) (fun f3=>?_) (fun f3=>?_))
   ·((repeat (first | refine zS ?_ | refine zA fun _=>?_)))
    refine YG (fun q σ fz' H'=>∃ k3:Nat,k3≤n3∧q=n3 - k3∧σ=[(3,.int .i64 k3),(1,.pointer (some ⟨g0,0,none⟩))]∧fz=fz'∧H'=[(g0,.cells #[.string d.name,.slice A1 n1 b1,.slice A2 n2 b2,.slice A3 n3 b3,.slice A4 n4 b4,.slice A5 n5 b5,.slice A6 n6 b6] 28 (0,0))]∧(∀ i,i<k3→∀ x,d.predicates[i]?=some x→Yet x)) ⟨0,Nat.zero_le _,rfl,rfl,rfl,rfl,fun i hi=>absurd hi Zi⟩ (Zw) (Zb) ?_
    rintro q σ fz' H' ⟨k3,hkk3,rfl,rfl,rfl,rfl,hhk3⟩
    ((repeat (first | refine zS ?_ | refine zA fun _=>?_)))
    ((refine zG ?_;refine zC (fun ck3=>?_) (fun ck3=>?_)))
    ·obtain ⟨x,hx⟩:=YF (l:=d.predicates) (k:=k3) Zi
     have bad:¬Yet x→¬ShD d:=fun h0 h=>h0 (h.2.2.2.1 x (List.mem_of_getElem? hx))
     ((repeat (first | refine zS ?_ | refine zA fun _=>?_)))
     (((refine zG ?_));refine YB T k3 Zz Zz Zz Zz Zz Zz i3 (by first | rfl | omega) hx (fun a ha=>?_))
     ((repeat (first | refine zS ?_ | refine zA fun _=>?_)))
     (((refine zG ?_));refine YZ T Zz Zz Zz ha.Predicate_name (fun is=>?_))
     (((refine zG ?_));refine Yx Zz Zz (Yao is) (fun f4=>?_) (fun f4=>?_))
     ·((repeat (first | refine zS ?_ | refine zA fun _=>?_)))
      (((refine zG ?_));refine YB T k3 Zz Zz Zz Zz Zz Zz i3 (by first | rfl | omega) hx (fun a2 ha2=>?_))
      ((repeat (first | refine zS ?_ | refine zA fun _=>?_)))
      (((refine zG ?_));refine YbD T Zz Zz Zz ha2.Predicate_params (fun P p1 q1 ip=>?_))
      ((repeat (first | refine zS ?_ | refine zA fun _=>?_)))
      (((refine zG ?_));refine Yx Zz Zz (Yac (vars:=true) ip) (fun f5=>?_) (fun f5=>?_))
      ·((repeat (first | refine zS ?_ | refine zA fun _=>?_)))
       exact YP ⟨k3+1,by omega,rfl,rfl,rfl,rfl,Y1 hhk3 hx ⟨of_decide_eq_true f4,of_decide_eq_true f5⟩⟩ Zi (Zw) (Zb)
      ·((repeat (first | refine zS ?_ | refine zA fun _=>?_)))
       (exact ret1 rfl rfl (Zb) (Ya (bad (fun h0=>of_decide_eq_false f5 h0.2))))
     ·((repeat (first | refine zS ?_ | refine zA fun _=>?_)))
      (exact ret1 rfl rfl (Zb) (Ya (bad (fun h0=>of_decide_eq_false f4 h0.1))))
    ·have hAk3:=XY hhk3 Zi
     ((repeat (first | refine zS ?_ | refine zA fun _=>?_)))
     refine YG (fun q σ fz' H'=>∃ k4:Nat,k4≤n4∧q=n4 - k4∧σ=[(4,.int .i64 k4),(1,.pointer (some ⟨g0,0,none⟩))]∧fz=fz'∧H'=[(g0,.cells #[.string d.name,.slice A1 n1 b1,.slice A2 n2 b2,.slice A3 n3 b3,.slice A4 n4 b4,.slice A5 n5 b5,.slice A6 n6 b6] 28 (0,0))]∧(∀ i,i<k4→∀ x,d.functions[i]?=some x→ShF x)) ⟨0,Nat.zero_le _,rfl,rfl,rfl,rfl,fun i hi=>absurd hi Zi⟩ (Zw) (Zb) ?_
     rintro q σ fz' H' ⟨k4,hkk4,rfl,rfl,rfl,rfl,hhk4⟩
     ((repeat (first | refine zS ?_ | refine zA fun _=>?_)))
     ((refine zG ?_;refine zC (fun ck4=>?_) (fun ck4=>?_)))
     ·obtain ⟨x,hx⟩:=YF (l:=d.functions) (k:=k4) Zi
      have bad:¬ShF x→¬ShD d:=fun h0 h=>h0 (h.2.2.2.2.1 x (List.mem_of_getElem? hx))
      ((repeat (first | refine zS ?_ | refine zA fun _=>?_)))
      (((refine zG ?_));refine YB T k4 Zz Zz Zz Zz Zz Zz i4 (by first | rfl | omega) hx (fun a ha=>?_))
      (((refine zG ?_));refine Yz T Zz Zz Zz ha Zz ?_)
      intro cs hcs
      obtain ⟨u1,rfl,hR⟩:=YaX hcs
      obtain ⟨P1,p1,q1,rfl,ip⟩:=hR.params
      ((repeat (first | refine zS ?_ | refine zA fun _=>?_)))
      (((refine zG ?_));refine Yx Zz Zz (Yao hR.name) (fun f4=>?_) (fun f4=>?_))
      ·((repeat (first | refine zS ?_ | refine zA fun _=>?_)))
       (((refine zG ?_));refine Yx Zz Zz (Yac (vars:=true) ip) (fun f5=>?_) (fun f5=>?_))
       ·((repeat (first | refine zS ?_ | refine zA fun _=>?_)))
        (((refine zG ?_));refine Yx Zz Zz (Ydx (n:=x.lo)) (fun f6=>?_) (fun f6=>?_))
        ·((repeat (first | refine zS ?_ | refine zA fun _=>?_)))
         (((refine zG ?_));refine Yx Zz Zz (Ydx (n:=x.hi)) (fun f7=>?_) (fun f7=>?_))
         ·((repeat (first | refine zS ?_ | refine zA fun _=>?_)))
          exact YP ⟨k4+1,by omega,rfl,rfl,rfl,rfl,Y1 hhk4 hx ⟨of_decide_eq_true f4,of_decide_eq_true f5,of_decide_eq_true f6,of_decide_eq_true f7⟩⟩ Zi (Zw) (Zb)
         ·((repeat (first | refine zS ?_ | refine zA fun _=>?_)))
          (exact ret1 rfl rfl (Zb) (Ya (bad (fun h0=>of_decide_eq_false f7 h0.2.2.2))))
        ·((repeat (first | refine zS ?_ | refine zA fun _=>?_)))
         (exact ret1 rfl rfl (Zb) (Ya (bad (fun h0=>of_decide_eq_false f6 h0.2.2.1))))
       ·((repeat (first | refine zS ?_ | refine zA fun _=>?_)))
        (exact ret1 rfl rfl (Zb) (Ya (bad (fun h0=>of_decide_eq_false f5 h0.2.1))))
      ·((repeat (first | refine zS ?_ | refine zA fun _=>?_)))
       (exact ret1 rfl rfl (Zb) (Ya (bad (fun h0=>of_decide_eq_false f4 h0.1))))
     ·have hAk4:=XY hhk4 Zi
      ((repeat (first | refine zS ?_ | refine zA fun _=>?_)))
      refine YG (fun q σ fz' H'=>∃ k5:Nat,k5≤n5∧q=n5 - k5∧σ=[(6,.int .i64 k5),(1,.pointer (some ⟨g0,0,none⟩))]∧fz=fz'∧H'=[(g0,.cells #[.string d.name,.slice A1 n1 b1,.slice A2 n2 b2,.slice A3 n3 b3,.slice A4 n4 b4,.slice A5 n5 b5,.slice A6 n6 b6] 28 (0,0))]∧(∀ i,i<k5→∀ x,d.actions[i]?=some x→ShA x)) ⟨0,Nat.zero_le _,rfl,rfl,rfl,rfl,fun i hi=>absurd hi Zi⟩ (Zw) (Zb) ?_
      rintro q σ fz' H' ⟨k5,hkk5,rfl,rfl,rfl,rfl,hhk5⟩
      ((repeat (first | refine zS ?_ | refine zA fun _=>?_)))
      ((refine zG ?_;refine zC (fun ck5=>?_) (fun ck5=>?_)))
      ·obtain ⟨x,hx⟩:=YF (l:=d.actions) (k:=k5) Zi
       have bad:¬ShA x→¬ShD d:=fun h0 h=>h0 (h.2.2.2.2.2.1 x (List.mem_of_getElem? hx))
       ((repeat (first | refine zS ?_ | refine zA fun _=>?_)))
       (((refine zG ?_));refine YB T k5 Zz Zz Zz Zz Zz Zz i5 (by first | rfl | omega) hx (fun a ha=>?_))
       (((refine zG ?_));refine Yz T Zz Zz Zz ha Zz ?_)
       intro cs hcs
       obtain ⟨u0,u1,u2,u3,u4,u5,rfl,hR⟩:=Yai hcs
       obtain ⟨P1,p1,q1,rfl,ip⟩:=hR.params
       have hP:=hR.pre
       obtain ⟨U1,w1,z1,rfl,_⟩:=hR.pre.args
       obtain ⟨U2,w2,z2,rfl,_⟩:=hR.pre.params
       obtain ⟨U3,w3,z3,rfl,_⟩:=hR.pre.exprs
       obtain ⟨U4,w4,z4,rfl,_⟩:=hR.pre.kids
       obtain ⟨U5,w5,z5,rfl,ic⟩:=hR.changes
       ((repeat (first | refine zS ?_ | refine zA fun _=>?_)))
       (((refine zG ?_));refine Yx Zz Zz (Yao hR.name) (fun f4=>?_) (fun f4=>?_))
       ·((repeat (first | refine zS ?_ | refine zA fun _=>?_)))
        (((refine zG ?_));refine Yx Zz Zz (Yac (vars:=true) ip) (fun f5=>?_) (fun f5=>?_))
        ·((repeat (first | refine zS ?_ | refine zA fun _=>?_)))
         ((((refine zG ?_;refine zC (fun m1=>?_) (fun m1=>?_)));(((repeat (first | refine zS ?_ | refine zA fun _=>?_)));(exact ret1 rfl rfl (Zb) (Ya (bad (fun h0=>by have:=h0.2.2.1;omega)))));((repeat (first | refine zS ?_ | refine zA fun _=>?_)))))
         (((refine zG ?_));refine Yx Zz Zz (Ydx (n:=x.cost)) (fun f6=>?_) (fun f6=>?_))
         ·((repeat (first | refine zS ?_ | refine zA fun _=>?_)))
          (((refine zG ?_));refine Yu (vs:=[.string x.pre.op,.string x.pre.name,.slice U1 w1 z1,.slice U2 w2 z2,.slice U3 w3 z3,.slice U4 w4 z4]) T 0 Zz Zz Zz Zz Zz Zz ?_)
          ((repeat (first | refine zS ?_ | refine zA fun _=>?_)))
          (((refine zG ?_));refine Yx Zz Zz (Ya2 hP) (fun f7=>?_) (fun f7=>?_))
          ·((repeat (first | refine zS ?_ | refine zA fun _=>?_)))
           (((refine zG ?_));refine Yx Zz Zz (YdR ic) (fun f8=>?_) (fun f8=>?_))
           ·((repeat (first | refine zS ?_ | refine zA fun _=>?_)))
            exact YP ⟨k5+1,by omega,rfl,rfl,rfl,rfl,Y1 hhk5 hx ⟨of_decide_eq_true f4,of_decide_eq_true f5,by omega,of_decide_eq_true f6,of_decide_eq_true f7,of_decide_eq_true f8⟩⟩ Zi (Zw) (Zb)
           ·((repeat (first | refine zS ?_ | refine zA fun _=>?_)))
            (exact ret1 rfl rfl (Zb) (Ya (bad (fun h0=>of_decide_eq_false f8 h0.2.2.2.2.2))))
          ·((repeat (first | refine zS ?_ | refine zA fun _=>?_)))
           (exact ret1 rfl rfl (Zb) (Ya (bad (fun h0=>of_decide_eq_false f7 h0.2.2.2.2.1))))
         ·((repeat (first | refine zS ?_ | refine zA fun _=>?_)))
          (exact ret1 rfl rfl (Zb) (Ya (bad (fun h0=>of_decide_eq_false f6 h0.2.2.2.1))))
        ·((repeat (first | refine zS ?_ | refine zA fun _=>?_)))
         (exact ret1 rfl rfl (Zb) (Ya (bad (fun h0=>of_decide_eq_false f5 h0.2.1))))
       ·((repeat (first | refine zS ?_ | refine zA fun _=>?_)))
        (exact ret1 rfl rfl (Zb) (Ya (bad (fun h0=>of_decide_eq_false f4 h0.1))))
      ·have hAk5:=XY hhk5 Zi
       ((repeat (first | refine zS ?_ | refine zA fun _=>?_)))
       refine YG (fun q σ fz' H'=>∃ k6:Nat,k6≤n6∧q=n6 - k6∧σ=[(8,.int .i64 k6),(1,.pointer (some ⟨g0,0,none⟩))]∧fz=fz'∧H'=[(g0,.cells #[.string d.name,.slice A1 n1 b1,.slice A2 n2 b2,.slice A3 n3 b3,.slice A4 n4 b4,.slice A5 n5 b5,.slice A6 n6 b6] 28 (0,0))]∧(∀ i,i<k6→∀ x,d.duratives[i]?=some x→ShU x)) ⟨0,Nat.zero_le _,rfl,rfl,rfl,rfl,fun i hi=>absurd hi Zi⟩ (Zw) (Zb) ?_
       rintro q σ fz' H' ⟨k6,hkk6,rfl,rfl,rfl,rfl,hhk6⟩
       ((repeat (first | refine zS ?_ | refine zA fun _=>?_)))
       ((refine zG ?_;refine zC (fun ck6=>?_) (fun ck6=>?_)))
       ·obtain ⟨x,hx⟩:=YF (l:=d.duratives) (k:=k6) Zi
        have bad:¬ShU x→¬ShD d:=fun h0 h=>h0 (h.2.2.2.2.2.2 x (List.mem_of_getElem? hx))
        ((repeat (first | refine zS ?_ | refine zA fun _=>?_)))
        (((refine zG ?_));refine YB T k6 Zz Zz Zz Zz Zz Zz i6 (by first | rfl | omega) hx (fun a ha=>?_))
        (((refine zG ?_));refine Yz T Zz Zz Zz ha Zz ?_)
        intro cs hcs
        obtain ⟨u0,u1,u2,u3,u4,u5,u6,u7,u8,u9,u10,u11,u12,u13,u14,rfl,hR⟩:=W9 hcs
        obtain ⟨P1,p1,q1,rfl,ip⟩:=hR.params
        have hS:=hR.start
        have hO:=hR.over
        have hE:=hR.fin
        obtain ⟨U1,w1,z1,rfl,_⟩:=hR.start.args
        obtain ⟨U2,w2,z2,rfl,_⟩:=hR.start.params
        obtain ⟨U3,w3,z3,rfl,_⟩:=hR.start.exprs
        obtain ⟨U4,w4,z4,rfl,_⟩:=hR.start.kids
        obtain ⟨U5,w5,z5,rfl,_⟩:=hR.over.args
        obtain ⟨U6,w6,z6,rfl,_⟩:=hR.over.params
        obtain ⟨U7,w7,z7,rfl,_⟩:=hR.over.exprs
        obtain ⟨U8,w8,z8,rfl,_⟩:=hR.over.kids
        obtain ⟨U9,w9,z9,rfl,_⟩:=hR.fin.args
        obtain ⟨U10,w10,z10,rfl,_⟩:=hR.fin.params
        obtain ⟨U11,w11,z11,rfl,_⟩:=hR.fin.exprs
        obtain ⟨U12,w12,z12,rfl,_⟩:=hR.fin.kids
        obtain ⟨U13,w13,z13,rfl,ia⟩:=hR.atStart
        obtain ⟨U14,w14,z14,rfl,ie⟩:=hR.atEnd
        ((repeat (first | refine zS ?_ | refine zA fun _=>?_)))
        (((refine zG ?_));refine Yx Zz Zz (Yao hR.name) (fun f4=>?_) (fun f4=>?_))
        ·((repeat (first | refine zS ?_ | refine zA fun _=>?_)))
         (((refine zG ?_));refine Yx Zz Zz (Yac (vars:=true) ip) (fun f5=>?_) (fun f5=>?_))
         ·((repeat (first | refine zS ?_ | refine zA fun _=>?_)))
          (((refine zG ?_));refine Yx Zz Zz (Ydx (n:=x.duration)) (fun f6=>?_) (fun f6=>?_))
          ·((repeat (first | refine zS ?_ | refine zA fun _=>?_)))
           (((refine zG ?_));refine Yx Zz Zz (YdR ia) (fun f7=>?_) (fun f7=>?_))
           ·((repeat (first | refine zS ?_ | refine zA fun _=>?_)))
            (((refine zG ?_));refine Yx Zz Zz (YdR ie) (fun f8=>?_) (fun f8=>?_))
            ·((repeat (first | refine zS ?_ | refine zA fun _=>?_)))
             (((refine zG ?_));refine Yu (vs:=[.string x.start.op,.string x.start.name,.slice U1 w1 z1,.slice U2 w2 z2,.slice U3 w3 z3,.slice U4 w4 z4]) T 0 Zz Zz Zz Zz Zz Zz ?_)
             ((repeat (first | refine zS ?_ | refine zA fun _=>?_)))
             (((refine zG ?_));refine Yx Zz Zz (Ya2 hS) (fun f9=>?_) (fun f9=>?_))
             ·((repeat (first | refine zS ?_ | refine zA fun _=>?_)))
              (((refine zG ?_));refine Yu (vs:=[.string x.over.op,.string x.over.name,.slice U5 w5 z5,.slice U6 w6 z6,.slice U7 w7 z7,.slice U8 w8 z8]) T 0 Zz Zz Zz Zz Zz Zz ?_)
              ((repeat (first | refine zS ?_ | refine zA fun _=>?_)))
              (((refine zG ?_));refine Yx Zz Zz (Ya2 hO) (fun f10=>?_) (fun f10=>?_))
              ·((repeat (first | refine zS ?_ | refine zA fun _=>?_)))
               (((refine zG ?_));refine Yu (vs:=[.string x.fin.op,.string x.fin.name,.slice U9 w9 z9,.slice U10 w10 z10,.slice U11 w11 z11,.slice U12 w12 z12]) T 0 Zz Zz Zz Zz Zz Zz ?_)
               ((repeat (first | refine zS ?_ | refine zA fun _=>?_)))
               (((refine zG ?_));refine Yx Zz Zz (Ya2 hE) (fun f11=>?_) (fun f11=>?_))
               ·((repeat (first | refine zS ?_ | refine zA fun _=>?_)))
                exact YP ⟨k6+1,by omega,rfl,rfl,rfl,rfl,Y1 hhk6 hx ⟨of_decide_eq_true f4,of_decide_eq_true f5,of_decide_eq_true f6,of_decide_eq_true f7,of_decide_eq_true f8,of_decide_eq_true f9,of_decide_eq_true f10,of_decide_eq_true f11⟩⟩ Zi (Zw) (Zb)
               ·((repeat (first | refine zS ?_ | refine zA fun _=>?_)))
                (exact ret1 rfl rfl (Zb) (Ya (bad (fun h0=>of_decide_eq_false f11 h0.2.2.2.2.2.2.2))))
              ·((repeat (first | refine zS ?_ | refine zA fun _=>?_)))
               (exact ret1 rfl rfl (Zb) (Ya (bad (fun h0=>of_decide_eq_false f10 h0.2.2.2.2.2.2.1))))
             ·((repeat (first | refine zS ?_ | refine zA fun _=>?_)))
              (exact ret1 rfl rfl (Zb) (Ya (bad (fun h0=>of_decide_eq_false f9 h0.2.2.2.2.2.1))))
            ·((repeat (first | refine zS ?_ | refine zA fun _=>?_)))
             (exact ret1 rfl rfl (Zb) (Ya (bad (fun h0=>of_decide_eq_false f8 h0.2.2.2.2.1))))
           ·((repeat (first | refine zS ?_ | refine zA fun _=>?_)))
            (exact ret1 rfl rfl (Zb) (Ya (bad (fun h0=>of_decide_eq_false f7 h0.2.2.2.1))))
          ·((repeat (first | refine zS ?_ | refine zA fun _=>?_)))
           (exact ret1 rfl rfl (Zb) (Ya (bad (fun h0=>of_decide_eq_false f6 h0.2.2.1))))
         ·((repeat (first | refine zS ?_ | refine zA fun _=>?_)))
          (exact ret1 rfl rfl (Zb) (Ya (bad (fun h0=>of_decide_eq_false f5 h0.2.1))))
        ·((repeat (first | refine zS ?_ | refine zA fun _=>?_)))
         (exact ret1 rfl rfl (Zb) (Ya (bad (fun h0=>of_decide_eq_false f4 h0.1))))
       ·have hAk6:=XY hhk6 Zi
        ((repeat (first | refine zS ?_ | refine zA fun _=>?_)))
        (exact ret1 rfl rfl (Zb) (Yy ⟨of_decide_eq_true f1,of_decide_eq_true f2,of_decide_eq_true f3,hAk3,hAk4,hAk5,hAk6⟩))
   ·((repeat (first | refine zS ?_ | refine zA fun _=>?_)))
    (exact ret1 rfl rfl (Zb) (Ya (fun h0=>of_decide_eq_false f3 h0.2.2.1)))
  ·((repeat (first | refine zS ?_ | refine zA fun _=>?_)))
   (exact ret1 rfl rfl (Zb) (Ya (fun h0=>of_decide_eq_false f2 h0.2.1)))
 ·((repeat (first | refine zS ?_ | refine zA fun _=>?_)))
  (exact ret1 rfl rfl (Zb) (Ya (fun h0=>of_decide_eq_false f1 h0.1)))
end Go.Proofs.YtbhlgkibgajajaaGreatDoor
set_option maxRecDepth 20000
namespace Go.Proofs.YtbhlgkibgajajaaGreatDoor
open Go.Lx Go.RowKit
attribute [local instance 10] Classical.propDecidable
set_option maxHeartbeats 1000000 in
theorem Yjn {fz:FZ} {A:Option Addr} {n c:Nat} {l:List Param} (h1:Sl paramL fz A n c l) (hn:n≤1000000000):
 GFn Tryz.prog 80 [.slice A n c] fz [] (fun v fz' H'=>fz=fz'∧Grow YH 64 fz' v (3*n) H' (Xd l)):=by
 have l1:=h1.len
 (refine GFn.of_wp Tryz.func80 rfl Tryz.ntmps80 rfl rfl (fun w0=>?_))
 ((repeat (first | refine zS ?_ | refine zA fun _=>?_)))
 refine YG (fun q σ fz' H'=>∃ (k:Nat) (v:Value),k≤n∧q=n - k∧σ=[(4,.int .i64 k),(3,v),(0,.slice A n c)]∧fz=fz'∧Grow YH 64 fz' v (3*k) H' (((l.take k).flatMap Xw).map Yg))
  ⟨0,_,Nat.zero_le _,rfl,rfl,rfl,Grow.nil _ _ _⟩ (Zw) (Zb) ?_
 rintro q σ fz' H' ⟨k,v,hk,rfl,rfl,rfl,hG⟩
 obtain ⟨Av,cv,rfl,_,_⟩:=hG.form
 ((repeat (first | refine zS ?_ | refine zA fun _=>?_)))
 ((refine zG ?_;refine zC (fun c1=>?_) (fun c1=>?_)))
 ·obtain ⟨x,hx⟩:=YF (l:=l) (k:=k) Zi
  ((repeat (first | refine zS ?_ | refine zA fun _=>?_)))
  (refine Wp.drawK (Hq:=[]) T.mixed Zj Zj (Zb) ?_)
  ((repeat (first | refine zS ?_ | refine zA fun _=>?_)))
  (((refine zG ?_));refine YB T k Zz Zz Zz Zz Zz Zz h1 (by first | rfl | omega) hx (fun p hp=>?_))
  ((repeat (first | refine zS ?_ | refine zA fun _=>?_)))
  (((refine zG ?_));refine YZ T Zz Zz Zz hp.Param_name (fun i1=>?_))
  (((refine zG ?_));refine Yj Zz Zz (YaB (s:=x.name)) ?_)
  (((refine zG ?_));refine Yj Zz Zz (YaB (s:=XW)) ?_)
  ((repeat (first | refine zS ?_ | refine zA fun _=>?_)))
  (((refine zG ?_));refine YB T k Zz Zz Zz Zz Zz Zz h1 (by first | rfl | omega) hx (fun p2 hp2=>?_))
  ((repeat (first | refine zS ?_ | refine zA fun _=>?_)))
  (((refine zG ?_));refine YZ T Zz Zz Zz hp2.Param_typ (fun i2=>?_))
  (((refine zG ?_));refine Yj Zz Zz (YaB (s:=x.typ)) ?_)
  unfold sxV
  (refine Yb ?_)
  (refine Yb ?_)
  (refine Yb ?_)
  (refine YK ⟨by kernel_rfl,?_⟩)
  refine Yh (Yd T (cs:=Yw x.name++Yw XW++Yw x.typ) Zz Zz Zz Zz Zz Zz Zz Zz (fun gb=>⟨(⟨(Le.refl _),by intro p hp;cases hp⟩),?_⟩))
  refine Yh (Yd6 T (Hr:=[_]) (ys:=[(Yg x.name,Yw x.name),(Yg XW,Yw XW),(Yg x.typ,Yw x.typ)]) (l2:=[Yg x.name,Yg XW,Yg x.typ]) (m:=3) Zz Zz Zz Zz Zz Zz Zz Zz (List.Perm.refl _) hG Yn (.head _) rfl rfl (by
   intro p hp
   simp only [List.mem_cons,List.not_mem_nil,or_false] at hp
   rcases hp with rfl | rfl | rfl
   ·exact Yt i1
   ·exact Yt (by unfold Short XW;decide)
   ·exact Yt i2) rfl (by show _*72≤_;omega) Zi (fun v' Hs' hO'=>⟨(⟨(Le.refl _),by intro p hp;cases hp⟩),?_⟩))
  refine Ch.qk (⟨(Le.refl _),by intro p hp;cases hp⟩) (YU Zz ?_)
  refine Ch.done ?_
  ((repeat (first | refine zS ?_ | refine zA fun _=>?_)))
  exact YP (H':=Hs') ⟨k+1,_,by omega,rfl,rfl,rfl,hO'.of (by rw [List.take_add_one,hx];simp [Xw]) Zi⟩ Zi (Zw) (List.Sublist.cons _ (List.Sublist.refl _))
 ·have hk1:n=k:=by omega
  subst hk1
  rw [List.take_of_length_le Zi] at hG
  ((repeat (first | refine zS ?_ | refine zA fun _=>?_)))
  exact ret1 rfl rfl (List.Sublist.refl _) ⟨rfl,hG⟩
theorem Ybz {f:Formula} (h:FOk f):(f.op=kAnd∧f.kids=[])↔f=Xr:=by
 constructor
 ·rintro ⟨h1,h2⟩
  have hN:=(X2.1 h).1
  obtain ⟨_,⟨k,hk,hr⟩,_⟩:=hN
  have n1:f.op≠kAtom:=fun h0=>absurd (congrArg (fun s=>s.size) (h1.symm.trans h0)) Zh
  have n2:f.op≠kSame:=fun h0=>absurd (congrArg (fun s=>s.size) (h1.symm.trans h0)) Zh
  have n3:¬CmpOp f.op:=by
   rw [h1];unfold CmpOp kAnd
   rintro (h0 | h0 | h0 | h0 | h0)<;>exact absurd (congrArg (fun s=>WP s 0) h0) Zh
  unfold Ycm at hk
  rw [if_neg (fun h0=>h0.elim n1 n2),if_neg n3,if_pos (.inl h1)] at hk
  injection hk with hk
  subst hk
  obtain ⟨r1,r2,r3,r4⟩:=hr
  have h3:=r1 n1 n2
  have h4:f.exprs=[]:=List.eq_nil_of_length_eq_zero r2
  have h5:=r4 rfl
  cases f
  simp only [Formula.op,Formula.name,Formula.args,Formula.params,Formula.exprs,Formula.kids] at*
  obtain ⟨h3a,h3b⟩:=h3
  subst h1 h2 h3a h3b h4 h5
  rfl
 ·rintro rfl;exact ⟨rfl,rfl⟩
theorem Yka {c:Change} (h:ShC c) (hs:ChSm c):ChF c:=by
 obtain ⟨_,_,_,h1,_,_,h2⟩:=h
 obtain ⟨s1,s2,s3,s4⟩:=hs
 refine ⟨fun h0=>YaJ _ (Nat.le_refl _) (h2 (by unfold Num5 at h0;omega)) s4,fun _=>Yah _ (Nat.le_refl _) h1 s3,fun h0=>(Ybz h1).1 h0,s2,s1⟩
theorem Yfz {kw:ByteArray} {ks:List Sexpr} (h:ks≠ []):grp kw ks=[YE (Yg kw::ks)]:=if_neg h
theorem YbM {kw:ByteArray}:grp kw []=[]:=if_pos rfl
theorem Ycx {l:List Param}:Xd l=[]↔l=[]:=by
 constructor
 ·intro h
  have:=congrArg List.length h
  rw [Yjm] at this
  exact List.eq_nil_of_length_eq_zero (by simp at this;omega)
 ·rintro rfl;rfl
theorem WS {p:Prop} {d:Decidable p} {l:List Sexpr} {kw:ByteArray} {x:Sexpr}:(if @decide p d=true then l else l++ [Yg kw,x])=l++opt p kw x:=by
 unfold opt
 by_cases hp:p
 ·rw [if_pos hp,if_pos (by simpa using hp),List.append_nil]
 ·rw [if_neg hp,if_neg (by simpa using hp)]
theorem Ybi {p q:Prop} {kw:ByteArray} {x:Sexpr} (h:p↔q):opt p kw x=opt q kw x:=by rw [propext h]
end Go.Proofs.YtbhlgkibgajajaaGreatDoor
namespace Go.Lx
open Go
def strOf (l:List UInt8):ByteArray:=⟨l.toArray⟩
theorem WE (l:List UInt8):(strOf l).size=l.length:=by simp [strOf,ByteArray.size]
theorem YcV (l:List UInt8):(strOf l).data.toList=l:=by simp [strOf]
theorem Yf5 (a b:List UInt8):strOf a++strOf b=strOf (a++b):=by
 apply ByteArray.ext
 simp [strOf,ByteArray.data_append]
theorem YhF (s:ByteArray):strOf s.data.toList=s:=by
 apply ByteArray.ext
 simp [strOf]
mutual
/-- the text in one line -/
def txt:Sexpr→List UInt8
 | .mk k v _ _ t ks=>if k=1 then t.data.toList else if k=2 then Lib.itoa v else 40::(Lib.join (txtL ks) [32]++ [41])
def txtL:List Sexpr→List (List UInt8)
 | []=>[]
 | x::r=>txt x::txtL r
end
theorem Yfc (l:List Sexpr):txtL l=l.map txt:=by
 induction l with
 | nil=>simp [txtL]
 | cons a r ih=>simp [txtL,ih]
theorem Yf3 (x:Sexpr):txt x=if x.kind=1 then x.text.data.toList else if x.kind=2 then Lib.itoa x.value else 40::(Lib.join (x.kids.map txt) [32]++ [41]):=by
 cases x;rw [txt,Yfc];rfl
mutual
/-- the text in lines -/
def lay (w:Nat):Sexpr→Nat→List UInt8
 | .mk k v l c t ks,i=>if k≠3∨ks.length=0∨i+(txt (.mk k v l c t ks)).length≤w then txt (.mk k v l c t ks) else 40::(layH w ks i++ [41])
def layH (w:Nat):List Sexpr→Nat→List UInt8
 | [],_=>[]
 | x::r,i=>lay w x (i+1)++layT w r (i+2)
def layT (w:Nat):List Sexpr→Nat→List UInt8
 | [],_=>[]
 | x::r,i=>(10::(List.replicate i 32++lay w x i))++layT w r i
end
theorem Ybn {w i:Nat} {x:Sexpr} (h:x.kind≠3∨x.kids.length=0∨i+(txt x).length≤w):lay w x i=txt x:=by
 cases x;rw [lay];exact if_pos h
theorem YhU {w i:Nat} {x:Sexpr} (h:¬(x.kind≠3∨x.kids.length=0∨i+(txt x).length≤w)):lay w x i=40::(layH w x.kids i++ [41]):=by
 cases x;rw [lay];exact if_neg h
theorem Yhd {w i:Nat} {l m:List Sexpr}:layT w (l++m) i=layT w l i++layT w m i:=by
 induction l with
 | nil=>simp [layT]
 | cons a r ih=>simp only [List.cons_append,layT,ih,List.append_assoc]
theorem Ygs {w i k:Nat} {l:List Sexpr} {x:Sexpr} (hx:l[k]?=some x):layT w (l.take (k+1)) i=layT w (l.take k) i++(10::(List.replicate i 32++lay w x i)):=by
 rw [List.take_add_one,hx];simp only [Option.toList];rw [Yhd];simp [layT]
def XSm (x:Sexpr):Prop:=(x.kind=1→x.text.size≤32)∧(x.kind=2→YaM x.value)
theorem YcH {u k:Nat} (h:u<10 ^ (k+1)):(Lib.decDigits u).length≤k+1:=by
 induction k generalizing u with
 | zero=>rw [Lib.decDigits,dif_pos (by simpa using h)];simp
 | succ k ih=>
  by_cases h0:u<10
  ·rw [Lib.decDigits,dif_pos h0];simp
  ·have:=ih (u:=u / 10) (by rw [Nat.pow_succ] at h;omega)
   rw [Lib.decDigits,dif_neg h0,List.length_append]
   simp;omega
theorem itoa_len {n:Int} (h:YaM n):(Lib.itoa n).length≤14:=by
 unfold YaM at h
 have h1:∀ u:Nat,u≤1099511627776→(Lib.decDigits u).length≤13:=fun u hu=>YcH (k:=12) Zi
 unfold Lib.itoa
 split
 ·have:=h1 n.natAbs Zi;simp;omega
 ·have:=h1 n.toNat Zi;omega
theorem join_len {l:List (List UInt8)}:(Lib.join l [32]).length≤(l.map fun t=>t.length+1).sum:=by
 cases l with
 | nil=>simp [Lib.join_nil]
 | cons x r=>
  rw [Lib.join_cons,List.length_append,Lib.joinTail_length]
  have:Lib.lens r+r.length=(r.map fun t=>t.length+1).sum:=by
   induction r with
   | nil=>simp [Lib.lens]
   | cons a r ih=>simp only [Lib.lens,List.map_cons,List.sum_cons,List.length_cons] at ih ⊢;omega
  simp only [List.map_cons,List.sum_cons,List.length_cons,List.length_nil] at this ⊢
  omega
mutual
theorem txt_len:∀ {x:Sexpr},XAll XSm x→(txt x).length+4≤36*xcount x
 | .mk k v l c t ks,h=>by
  rw [XAll] at h
  have hs:=txtL_len h.2
  rw [txt,xcount]
  have h1:=h.1
  unfold XSm at h1
  split
  ·rename_i hk
   have:=h1.1 hk
   have e:t.data.toList.length=t.size:=by rw [Array.length_toList];rfl
   simp only [Sexpr.text] at this
   omega
  ·split
   ·rename_i hk
    have:=itoa_len (h1.2 hk)
    simp only [Sexpr.value] at this
    omega
   ·have:=join_len (l:=txtL ks)
    simp only [List.length_cons,List.length_append,List.length_nil]
    omega
theorem txtL_len:∀ {l:List Sexpr},XAllL XSm l→((txtL l).map fun t=>t.length+1).sum≤36*xcountL l
 | [],_=>by simp [txtL]
 | x::r,h=>by
  rw [XAllL] at h
  have h1:=txt_len h.1
  have h2:=txtL_len h.2
  simp only [txtL,List.map_cons,List.sum_cons,xcountL]
  omega
end
mutual
theorem lay_len {w M:Nat}:∀ {x:Sexpr} {i:Nat},XAll XSm x→i+2*xdepth x≤M→(lay w x i).length+M+3≤(M+36)*xcount x
 | .mk k v l c t ks,i,h,hM=>by
  have ht:=txt_len h
  have hc:1≤xcount (.mk k v l c t ks):=by rw [xcount];omega
  have hmul:(M+36)*xcount (.mk k v l c t ks)=M*xcount (.mk k v l c t ks)+36*xcount (.mk k v l c t ks):=Nat.add_mul _ _ _
  have hM1:M*1≤M*xcount (.mk k v l c t ks):=Nat.mul_le_mul_left _ hc
  rw [lay]
  split
  ·omega
  ·rename_i hn
   have hk:k=3:=Classical.byContradiction fun h0=>hn (.inl h0)
   rw [XAll] at h
   rw [xdepth,if_pos hk] at hM
   have:=layH_len (w:=w) (M:=M) (l:=ks) (i:=i) h.2 Zi
   rw [xcount,Nat.mul_add,Nat.mul_one]
   simp only [List.length_cons,List.length_append,List.length_nil]
   omega
theorem layH_len {w M:Nat}:∀ {l:List Sexpr} {i:Nat},XAllL XSm l→i+2+2*xdepthL l≤M→(layH w l i).length≤(M+36)*xcountL l
 | [],_,_,_=>by simp [layH]
 | x::r,i,h,hM=>by
  rw [XAllL] at h
  rw [xdepthL] at hM
  have h1:=lay_len (w:=w) (M:=M) (i:=i+1) h.1 Zi
  have h2:=layT_len (w:=w) (M:=M) (l:=r) (i:=i+2) h.2 Zi
  rw [layH,List.length_append,xcountL,Nat.mul_add]
  omega
theorem layT_len {w M:Nat}:∀ {l:List Sexpr} {i:Nat},XAllL XSm l→i+2*xdepthL l≤M→(layT w l i).length≤(M+36)*xcountL l
 | [],_,_,_=>by simp [layT]
 | x::r,i,h,hM=>by
  rw [XAllL] at h
  rw [xdepthL] at hM
  have h1:=lay_len (w:=w) (M:=M) (i:=i) h.1 Zi
  have h2:=layT_len (w:=w) (M:=M) (l:=r) (i:=i) h.2 Zi
  rw [layT,xcountL,Nat.mul_add]
  simp only [List.length_cons,List.length_append,List.length_replicate]
  omega
end
theorem Yge (n:Nat):Lib.repeatL [32] n=List.replicate n 32:=by
 induction n with
 | zero=>rfl
 | succ n ih=>rw [Lib.repeatL,ih];rfl
theorem join_step {l:List (List UInt8)} {k:Nat} {y:List UInt8} (hx:l[k]?=some y):Lib.join (l.take (k+1)) [32]=if k=0 then y else Lib.join (l.take k) [32]++32::y:=by
 cases l with
 | nil=>simp at hx
 | cons a r=>
  cases k with
  | zero=>simp at hx;subst hx;simp [Lib.join_one]
  | succ k=>
   simp at hx
   rw [List.take_succ_cons,List.take_succ_cons,Lib.join_cons,Lib.join_cons,Lib.joinTail_take_succ _ _ _ _ hx]
   simp
end Go.Lx
namespace Go.Lx
open Go.RowKit
section
variable {P:Program}
theorem Yez (w:World) (t u ty e:TypeId) (i:TypeInfo) (ht:P.underlying t=some (.slice e)) (hu:P.underlying u=some .string) (hi:P.info? e=some i) (hz:i.zero=some (.int .u8 0))
 (hsize:i.size=1) (hby:i.bytes=1) (v:Value) (n:Nat) (xs:List Value) (hown:w.ownsRow 0 e 1 v n xs) (s:ByteArray) (hm:n+s.size≤140737488355328):
 ∃ v' w',(Builtin.append_ #[t,u] ty #[v,.string s]).run P w=.ok v' w'∧w'.ownsRow 0 e 1 v' (n+s.size) (xs++s.data.toList.map Yay)∧w.grownBy w' v.ownBlock∧(v'.ownBlock=v.ownBlock∨v'.ownBlock=some w.heap.size):=by
 obtain ⟨v',w',hr,h2,h3,h4⟩:=Go.Lib.run_append_own_string (P:=P) w 0 t u ty e i ht hu hi hz hsize hby v n xs hown s (by unfold maxLen;omega) hm (Nat.zero_le _)
 refine ⟨v',w',hr,h2,h3,?_⟩
 have hxl:xs.length=n:=by simpa using hown.1
 rcases hown.2 with ⟨h5,h6⟩ | ⟨g,cap,cur,h5,_,h7,h8,h9,h10,h11⟩
 ·subst h5 h6
  by_cases h0:s.size=0
  ·left;rw [h4.2 ⟨rfl,h0⟩]
  ·right
   have hr2:=run_append_nil_string (P:=P) w t u ty e i (.int .u8 0) ht hu hi hz s Zi Zi (by rw [hby];omega)
   rw [hr] at hr2
   injection hr2 with e1 _
   rw [e1];rfl
 ·subst h5
  by_cases hroom:n+s.size≤cap
  ·left
   have hr2:=Go.Lib.run_append_room_string (P:=P) w t u ty e i ht hu hi hsize g n cap cur h7 s hroom (by simp at h10;omega)
   rw [hr] at hr2
   injection hr2 with e1 _
   rw [e1];rfl
  ·right
   have hr2:=Go.Lib.run_append_grow_string (P:=P) w t u ty e i (.int .u8 0) ht hu hi hz ⟨g,0,none⟩ n cap xs (by rw [hsize];omega) (hown.cells (g:=g) rfl) s Zi Zi (by rw [hby];exact growslice_fits Zi Zi)
   rw [hr] at hr2
   injection hr2 with e1 _
   rw [e1];rfl
end
section
variable {P:Program} {cx:Cx} {r:Operand→Option Value} {fz:FZ} {H:HP} {V:Value→Prop} {dst:Option Nat} {ty:TypeId} {pos:String} {af:Array Edge} {gd:Option (Nat × Bool)}
theorem Yhg (T:Tab P) {t u e:TypeId} {x y:Operand} {X U Y:Ty} {v:Value} {n:Nat} {xs:List Value} {s:ByteArray} {Hr Hs:HP} {K:Value→FZ→HP→Prop} (hT:T.inf t=some X) (hd:X.desc=.slice e) (hU:T.inf u=some U) (hUd:U.desc=.string) (hY:T.inf e=some Y) (hz:Y.zero=.int .u8 0) (hsz:Y.size=1) (hby:Y.bytes=1)
 (hx:r x=some v) (hy:r y=some (.string s)) (hp:H.Perm (Hr++Hs)) (ho:OwnS e 1 v n xs Hs) (hm:n+s.size≤140737488355328)
 (h:∀ v' Hs',OwnS e 1 v' (n+s.size) (xs++s.data.toList.map Yay) Hs'→K v' fz (Hr++Hs')):
 Does P cx ⟨dst,.call {callee:=.builtin .append,args:=#[x,y],argTypes:=#[t,u]},ty,pos,af,gd⟩ r fz H K:=by
 refine Does.of fun ρ w hr hi=>?_
 have hi':=hi.perm hp.symm
 obtain ⟨i,hinf,g1,g2,g3⟩:=(T.ok_ hY).info
 rw [hz] at g3
 rw [hsz] at g1
 rw [hby] at g2
 have hown:=ho.owns hi'
 obtain ⟨v',w',hrun,h2,h3,h5⟩:=Yez (P:=P) w t u ty e i (und_plain T hT hd rfl) (und_plain T hU hUd rfl) hinf g3 g1 g2 v n xs hown s hm
 obtain ⟨Hs',h6,h7⟩:=OwnS.of_owns h2
 have hexec:(execOp ρ ⟨dst,.call {callee:=.builtin .append,args:=#[x,y],argTypes:=#[t,u]},ty,pos,af,gd⟩).run P w=.ok (.value v') w':=by
  simp only [execOp,resolve,invoke,builtin,Sem.run_bind,Sem.run_pure,Result.andThen_ok,List.map_toArray,List.map_cons,List.map_nil,hr _ _ hx,hr _ _ hy,hrun]
 rw [hexec]
 exact ⟨fz,_,hi'.appended ho h3 h6 h7 h5,h v' Hs' h6⟩
theorem Ygg {t:TypeId} {x:Operand} {a:Addr} {n c:Nat} (hx:r x=some (.slice (some a) n c)) (hc:c≠0) (h:V (.pointer (some a))):
 DoesQ P cx ⟨dst,.call {callee:=.builtin .unsafeSliceData,args:=#[x],argTypes:=#[t]},ty,pos,af,gd⟩ r fz H V:=
 YA (fun ρ w hr=>by
  simp only [execOp,resolve,invoke,builtin,Sem.run_bind,Sem.run_pure,Result.andThen_ok,List.map_toArray,List.map_cons,List.map_nil,hr _ _ hx,Go.Lib.run_unsafeSliceData_row _ _ _ _ _ _ hc]) h
theorem YeG (T:Tab P) {pt it e:TypeId} {x y:Operand} {X:Ty} {pre post:HP} {g:Nat} {cur:List Value} {l:List UInt8} {K:Value→FZ→HP→Prop} (hT:T.inf pt=some X) (hd:X.desc=.pointer e) (hc:P.cellsOf e=1)
 (hx:r x=some (.pointer (some ⟨g,0,none⟩))) (hy:r y=some (.int .i64 l.length)) (hH:H=pre++(g,.cells cur.toArray e (0,0))::post) (h0:l≠ []) (hl:l.length≤cur.length) (h63:l.length≤140737488355328) (hcur:cur.take l.length=l.map Yay)
 (h:K (.string (strOf l)) fz (pre++(g,.cells cur.toArray e (0,l.length))::post)):
 Does P cx ⟨dst,.call {callee:=.builtin .unsafeString,args:=#[x,y],argTypes:=#[pt,it]},ty,pos,af,gd⟩ r fz H K:=by
 refine Does.of fun ρ w hr hw=>?_
 subst hH
 have hb:=(hw.hp.own (g,.cells cur.toArray e (0,0)) (by simp)).1
 have hcell:∀ j x,l[j]?=some x→w.cell? ((⟨g,0,none⟩:Addr).add j)=some (.int .u8 x.toNat):=by
  intro j b hb2
  have hadd:(⟨g,0,none⟩:Addr).add j=⟨g,j,none⟩:=by unfold Addr.add;split<;>simp_all
  have hj:j<l.length:=(List.getElem?_eq_some_iff.1 hb2).1
  have h1:(cur.take l.length)[j]?=some (Yay b):=by rw [hcur,List.getElem?_map,hb2];rfl
  rw [List.getElem?_take,if_pos hj] at h1
  rw [hadd]
  simp only [World.cell?,hb]
  simpa [Yay] using h1
 have hrun:=Go.Lib.run_unsafeString_row (P:=P) w pt it ty e (und_plain T hT hd rfl) hc g cur.length (by simp [World.shape?,hb]) l h0 hl Zi hcell
 have hexec:(execOp ρ ⟨dst,.call {callee:=.builtin .unsafeString,args:=#[x,y],argTypes:=#[pt,it]},ty,pos,af,gd⟩).run P w=.ok (.value (.string (strOf l))) (w.freeze ⟨g,0,none⟩ l.length):=by
  simp only [execOp,resolve,invoke,builtin,Sem.run_bind,Sem.run_pure,Result.andThen_ok,List.map_toArray,List.map_cons,List.map_nil,hr _ _ hx,hr _ _ hy,hrun]
  rfl
 rw [hexec]
 have hl0:l.length≠0:=by simpa using h0
 refine ⟨fz,_,hw.write (o':=.cells cur.toArray e (0,l.length)) (by simp [World.freeze,hl0]) (by simp [World.freeze,hl0]) (by simp [World.freeze,hl0]) (by simp [World.freeze,hl0]) ?_ (fun k hk=>?_),h⟩
 ·simp [World.freeze,hl0,Array.getElem?_modify,hb]
 ·simp only [World.freeze,if_neg hl0,Array.getElem?_modify]
  rw [if_neg Zi]
theorem q_addS {t t':TypeId} {x y:Operand} {a b:ByteArray} (hx:r x=some (.string a)) (hy:r y=some (.string b)) (hs:a.size+b.size≤9223372036854775807) (h:V (.string (a++b))):
 DoesQ P cx ⟨dst,.binOp .add t x y t',ty,pos,af,gd⟩ r fz H V:=
 YA (fun ρ w hr=>by
  have:¬(9223372036854775807<((a.size:Int)+(b.size:Int))):=by omega
  simp [execOp,hr _ _ hx,hr _ _ hy,eqGuard_at_string,binOp,Op.stringOp,this]) h
theorem WM {t t':TypeId} {x y:Operand} {a b:List UInt8} (hx:r x=some (.string (strOf a))) (hy:r y=some (.string (strOf b))) (hs:a.length+b.length≤9223372036854775807) (h:V (.string (strOf (a++b)))):
 DoesQ P cx ⟨dst,.binOp .add t x y t',ty,pos,af,gd⟩ r fz H V:=
 q_addS hx hy (by rw [WE,WE];exact hs) (by rw [Yf5];exact h)
theorem Ygi (T:Tab P) {α:Type} {L:Lay α} {t e:TypeId} {x i:Operand} {X Y:Ty} {A:Option Addr} {n c:Nat} {k:IntKind} {j:Nat} {xs:List α} (hT:T.inf t=some X) (hd:X.desc=.slice e) (hY:T.inf e=some Y) (hz:Y.size=L.size)
 (hx:r x=some (.slice A n c)) (hi:r i=some (.int k j)) (hs:Sl L fz A n c xs) (hj:j≤n) (h:∀ A',Sl L fz A' (n - j) (c - j) (xs.drop j)→V (.slice A' (n - j) (c - j))):DoesQ P cx ⟨dst,.slice t x (some i) none none,ty,pos,af,gd⟩ r fz H V:=by
 have h1:=hs.cap
 have h2:=hs.max
 have h3:=hs.short
 have h4:=hs.len
 refine YA (v:=.slice (if c=j then A else A.map (·.add (j*Y.size))) (n - j) (c - j)) (fun ρ w hr=>by
  have hu:=run_underlying (und_plain T hT hd rfl) w
  have hs:=Lx.run_sizeOf T hY w
  simp [execOp,hr _ _ hx,hr _ _ hi,Instr.sliceAt,Instr.slice,Instr.sliceBounds,Instr.sliceBound,asIntOf,hu,hs,hj]
  try omega) (h _ ?_)
 refine ⟨by rw [List.length_drop,h4],by omega,by omega,by omega,?_⟩
 rcases hs.elem with h0 | ⟨ad,h5,h6⟩
 ·exact .inl Zi
 ·by_cases hn:n - j=0
  ·exact .inl hn
  ·refine .inr ⟨ad.add (j*L.size),?_,fun i d hd=>?_⟩
   ·rw [if_neg Zi,h5,hz];rfl
   ·rw [List.getElem?_drop] at hd
    have:=h6 (j+i) d hd
    have e:(ad.add (j*L.size)).add (i*L.size)=ad.add ((j+i)*L.size):=by
     rw [Nat.add_mul]
     unfold Addr.add
     by_cases h7:j*L.size=0
     ·rw [h7];simp
     ·by_cases h8:i*L.size=0
      ·rw [h8];simp
      ·simp [h7,h8,Nat.add_assoc]
    rw [e];exact this
theorem q_min {x y:Operand} {ats:Array TypeId} {k:IntKind} {a b:Int} (hx:r x=some (.int k a)) (hy:r y=some (.int k b)) (h:V (.int k (min a b))):
 DoesQ P cx ⟨dst,.call {callee:=.builtin .min,args:=#[x,y],argTypes:=ats},ty,pos,af,gd⟩ r fz H V:=
 YA (fun ρ w hr=>by
  have:(if b<a then b else a)=min a b:=by omega
  simp [execOp,resolve,invoke,builtin,hr _ _ hx,hr _ _ hy,Builtin.min_,Builtin.min2,this]) h
theorem q_neg {x:Operand} {t:TypeId} {k:IntKind} {a c:Int} (hx:r x=some (.int k a)) (hw:k.wrap (0 - a)=c) (h:V (.int k c)):DoesQ P cx ⟨dst,.unOp .neg t x,ty,pos,af,gd⟩ r fz H V:=
 YA (fun ρ w hr=>by simp [execOp,hr _ _ hx,Op.unary,Op.intArith] at hw ⊢;exact hw) h
theorem q_remN {x y:Operand} {t t':TypeId} {a b:Nat} (hx:r x=some (.int .i64 a)) (hy:r y=some (.int .i64 b)) (hb:0<b) (h:V (.int .i64 (a % b:Nat))):DoesQ P cx ⟨dst,.binOp .rem t x y t',ty,pos,af,gd⟩ r fz H V:=
 YA (fun ρ w hr=>by
  have h0:¬(b:Int)=0:=by omega
  have h1:(a:Int).tmod b=((a % b:Nat):Int):=(Int.ofNat_tmod a b).symm
  have h2:(eqGuard .rem t x y (.int .i64 a) (.int .i64 b)).run P w=.ok () w:=by simp [eqGuard]
  have h3:binOp .rem t (.int .i64 a) (.int .i64 b)=Op.intDiv .rem .i64 a b:=by simp [binOp]
  rw [← h1]
  simp [execOp,hr _ _ hx,hr _ _ hy,h2,h3,Op.intDiv]
  omega) h
theorem q_quoN {x y:Operand} {t t':TypeId} {a b:Nat} (hx:r x=some (.int .i64 a)) (hy:r y=some (.int .i64 b)) (hb:0<b) (ha:a≤9223372036854775807) (h:V (.int .i64 (a / b:Nat))):DoesQ P cx ⟨dst,.binOp .quo t x y t',ty,pos,af,gd⟩ r fz H V:=
 YA (fun ρ w hr=>by
  have h0:¬(b:Int)=0:=by omega
  have h1:(a:Int).tdiv b=((a / b:Nat):Int):=(Int.ofNat_tdiv a b).symm
  have h2:(eqGuard .quo t x y (.int .i64 a) (.int .i64 b)).run P w=.ok () w:=by simp [eqGuard]
  have h3:binOp .quo t (.int .i64 a) (.int .i64 b)=Op.intDiv .quo .i64 a b:=by simp [binOp]
  have h4:a / b≤a:=Nat.div_le_self a b
  have h5:IntKind.i64.wrap ((a:Int).tdiv b)=((a / b:Nat):Int):=by rw [h1];generalize a / b=q at h4;exact Xk Zi
  simp only [execOp,hr _ _ hx,hr _ _ hy,h2,h3,Op.intDiv,Sem.run_bind,Result.andThen_ok,if_neg h0,h5,Sem.run_pure]) h
theorem Ygh (T:Tab P) {src dt e:TypeId} {x:Operand} {X Y Z:Ty} {t':TypeId} {g n c:Nat} {cs:List Value} {f:Nat × Nat} {bs:List UInt8} (i:Nat) (hX:T.inf src=some X) (hXd:X.desc=.slice e) (hY:T.inf dt=some Y) (hYd:Y.desc=.string) (hZ:T.inf e=some Z) (hZd:Z.desc=.int .u8)
 (hx:r x=some (.slice (some ⟨g,0,none⟩) n c)) (hi:H[i]?=some (g,.cells cs.toArray t' f)) (hcs:cs.take n=bs.map Yay) (hn:bs.length=n) (h:V (.string (strOf bs))):DoesQ P cx ⟨dst,.convert src dt x,ty,pos,af,gd⟩ r fz H V:=by
 refine DoesQ.of h fun ρ w hr hw=>?_
 have hcell:∀ j,j<n→w.cell? ⟨g,0+j,none⟩=some (.int .u8 ((bs.map fun b=>(b.toNat:Int)).getD j 0)):=fun j hj=>by
  have hj':j<bs.length:=by omega
  rw [Nat.zero_add,hw.cellOwn hi j]
  have h1:(cs.take n)[j]?=some (Yay bs[j]):=by rw [hcs,List.getElem?_map,List.getElem?_eq_getElem hj'];rfl
  rw [List.getElem?_take,if_pos hj] at h1
  simp only [List.getElem?_toArray,h1,Yay]
  simp [List.getD,hj']
 have hrun:=run_convert_bytes_arg (P:=P) w src e (und_plain T hX hXd rfl) (und_plain T hZ hZd rfl) g 0 n c (bs.map fun b=>(b.toNat:Int)) (by simpa using hn) hcell dt (und_plain T hY hYd rfl)
 have hs:strOfNums (bs.map fun b=>(b.toNat:Int))=strOf bs:=by simp [strOfNums,Function.comp_def,strOf]
 rw [hs] at hrun
 have:(execOp ρ ⟨dst,.convert src dt x,ty,pos,af,gd⟩).run P w=.ok (.value (.string (strOf bs))) w:=by
  simp only [execOp,hr _ _ hx,Sem.run_bind,hrun,Result.andThen_ok,Sem.run_pure]
 rw [this]
 exact ⟨rfl,Fr.refl _ _⟩
end
end Go.Lx
namespace Go.Proofs
open Go.Shelf
def Tryz.lays156_ren:Go.Shelf.Ren:=⟨fun | 156=>197 | 165=>201 | 166=>139 | 169=>141 | 240=>198 | 241=>241 | 276=>237 | 277=>269 | n=>n,fun | 31=>32 | 9=>9 | 3=>3 | 4=>4 | 0=>0 | 20=>20 | 72=>194 | 76=>195 | 70=>191 | 37=>192 | 75=>41 | 127=>254 | 164=>283 | 5=>5 | 80=>198 | n=>n,fun | n=>n⟩
theorem Tryz.lays156:Go.Proofs.Lays.n156 Tryz.prog Tryz.lays156_ren:={
 mixed:=by kernel_rfl
 f156:=Tryz.func197.trans (congrArg some (by kernel_rfl))
 f165:=Tryz.func201.trans (congrArg some (by kernel_rfl))
 f166:=Tryz.func139.trans (congrArg some (by kernel_rfl))
 f169:=Tryz.func141.trans (congrArg some (by kernel_rfl))
 f240:=Tryz.func198.trans (congrArg some (by kernel_rfl))
 f241:=Tryz.func241.trans (congrArg some (by kernel_rfl))
 f276:=Tryz.func237.trans (congrArg some (by kernel_rfl))
 f277:=Tryz.func269.trans (congrArg some (by kernel_rfl))
 t0:=Tryz.underlying0
 a0:=Tryz.isAgg0
 z0:=Tryz.sizeOf0
 v0:=Tryz.zeroValue0
 t3:=Tryz.underlying3
 a3:=Tryz.isAgg3
 z3:=Tryz.sizeOf3
 v3:=Tryz.zeroValue3
 t4:=Tryz.underlying4
 a4:=Tryz.isAgg4
 z4:=Tryz.sizeOf4
 v4:=Tryz.zeroValue4
 t9:=Tryz.underlying9
 a9:=Tryz.isAgg9
 z9:=Tryz.sizeOf9
 v9:=Tryz.zeroValue9
 t20:=Tryz.underlying20
 a20:=Tryz.isAgg20
 z20:=Tryz.sizeOf20
 v20:=Tryz.zeroValue20
 t31:=Tryz.underlying32
 a31:=Tryz.isAgg32
 z31:=Tryz.sizeOf32
 v31:=Tryz.zeroValue32
 t37:=Tryz.underlying192
 a37:=Tryz.isAgg192
 z37:=Tryz.sizeOf192
 v37:=Tryz.zeroValue192
 t70:=Tryz.underlying191
 a70:=Tryz.isAgg191
 z70:=Tryz.sizeOf191
 v70:=Tryz.zeroValue191
 t72:=Tryz.underlying194
 a72:=Tryz.isAgg194
 z72:=Tryz.sizeOf194
 v72:=Tryz.zeroValue194
 t75:=Tryz.underlying41
 a75:=Tryz.isAgg41
 z75:=Tryz.sizeOf41
 v75:=Tryz.zeroValue41
 t76:=Tryz.underlying195
 a76:=Tryz.isAgg195
 z76:=Tryz.sizeOf195
 v76:=Tryz.zeroValue195
 t127:=Tryz.underlying254
 a127:=Tryz.isAgg254
 z127:=Tryz.sizeOf254
 v127:=Tryz.zeroValue254
 t164:=Tryz.underlying283
 a164:=Tryz.isAgg283
 z164:=Tryz.sizeOf283
 v164:=Tryz.zeroValue283}
theorem Tryz.Builder_Extra_156:Builder.Extra Tryz.prog Tryz.lays156_ren:={
 sizeBuilder:=by kernel_rfl
 liesBuilder:=by kernel_rfl
 t5:=Tryz.underlying5
 a5:=Tryz.isAgg5
 z5:=Tryz.sizeOf5
 v5:=Tryz.zeroValue5
 infoByte:=by kernel_rfl
 cellsByte:=by kernel_rfl
 sizeByte:=by kernel_rfl
 neB5:=by decide}
open Go.RowKit in
/-- No element: the empty string; the world is as1 it was. (Whatever the slice's address and capacity: a nil slice too.) (LAID: no walk: one application.) -/
theorem Tryz.strings_Join_none (a:Option Addr) (c:Nat) (sep:ByteArray) (w:World):
 Calls Tryz.prog 197 #[.slice a 0 c,.string sep] w fun e w'=>e=.returned (.string ⟨#[]⟩)∧w'=w:=Any.strings_Join_none Tryz.lays156 Tryz.Builder_Extra_156 a c sep w
open Go.RowKit in
/-- strings.Join: "Join concatenates the elements of its first argument to create a single string. The separator string sep is placed between elements in the resulting string.": HOWEVER MANY ELEMENTS. Below the heap's end the world is as1 it was. (LAID: no walk: one application.) -/
theorem Tryz.strings_Join (bk o c:Nat) (xs:List ByteArray) (sep:ByteArray) (w:World) (hcells:∀ (j:Nat) x,xs[j]?=some x→w.cell? ⟨bk,o+j,none⟩=some (.string x)) (hbk:bk<w.heap.size) (hN:xs.length≤140737488355328) (hcap:xs.length≤c) (hlen:(Lib.join (xs.map (·.data.toList)) sep.data.toList).length≤140737488355328):
 Calls Tryz.prog 197 #[.slice (some ⟨bk,o,none⟩) xs.length c,.string sep] w fun e w'=>e=.returned (.string ⟨(Lib.join (xs.map (·.data.toList)) sep.data.toList).toArray⟩)∧Below w.heap.size w w':=Any.strings_Join Tryz.lays156 Tryz.Builder_Extra_156 bk o c xs sep w hcells hbk hN hcap hlen
def Tryz.laysM171_ren:Go.Shelf.Ren:=⟨fun | 171=>54 | 243=>103 | 246=>170 | 283=>218 | 284=>219 | 285=>220 | 286=>221 | 129=>250 | 317=>249 | 318=>251 | 319=>252 | 320=>253 | 337=>272 | 338=>273 | n=>n,fun | 3=>3 | 9=>9 | 2=>2 | 4=>4 | 171=>262 | 0=>0 | 53=>263 | 37=>192 | 5=>5 | 173=>266 | 212=>293 | 51=>285 | 20=>20 | 213=>294 | 46=>248 | 232=>313 | 233=>314 | n=>n,fun | 17=>0 | 18=>2 | 19=>3 | n=>n⟩
theorem Tryz.laysM171:Go.Proofs.LaysM.n171 Tryz.prog Tryz.laysM171_ren:={
 mixed:=by kernel_rfl
 f129:=Tryz.func250.trans (congrArg some (by kernel_rfl))
 f171:=Tryz.func54.trans (congrArg some (by kernel_rfl))
 f243:=Tryz.func103.trans (congrArg some (by kernel_rfl))
 f246:=Tryz.func170.trans (congrArg some (by kernel_rfl))
 f283:=Tryz.func218.trans (congrArg some (by kernel_rfl))
 f284:=Tryz.func219.trans (congrArg some (by kernel_rfl))
 f285:=Tryz.func220.trans (congrArg some (by kernel_rfl))
 f286:=Tryz.func221.trans (congrArg some (by kernel_rfl))
 f317:=Tryz.func249.trans (congrArg some (by kernel_rfl))
 f318:=Tryz.func251.trans (congrArg some (by kernel_rfl))
 f319:=Tryz.func252.trans (congrArg some (by kernel_rfl))
 f320:=Tryz.func253.trans (congrArg some (by kernel_rfl))
 f337:=Tryz.func272.trans (congrArg some (by kernel_rfl))
 f338:=Tryz.func273.trans (congrArg some (by kernel_rfl))
 t0:=Tryz.underlying0
 a0:=Tryz.isAgg0
 z0:=Tryz.sizeOf0
 v0:=Tryz.zeroValue0
 t2:=Tryz.underlying2
 a2:=Tryz.isAgg2
 z2:=Tryz.sizeOf2
 v2:=Tryz.zeroValue2
 t3:=Tryz.underlying3
 a3:=Tryz.isAgg3
 z3:=Tryz.sizeOf3
 v3:=Tryz.zeroValue3
 t4:=Tryz.underlying4
 a4:=Tryz.isAgg4
 z4:=Tryz.sizeOf4
 v4:=Tryz.zeroValue4
 t5:=Tryz.underlying5
 a5:=Tryz.isAgg5
 z5:=Tryz.sizeOf5
 v5:=Tryz.zeroValue5
 t9:=Tryz.underlying9
 a9:=Tryz.isAgg9
 z9:=Tryz.sizeOf9
 v9:=Tryz.zeroValue9
 t20:=Tryz.underlying20
 a20:=Tryz.isAgg20
 z20:=Tryz.sizeOf20
 v20:=Tryz.zeroValue20
 t37:=Tryz.underlying192
 a37:=Tryz.isAgg192
 z37:=Tryz.sizeOf192
 v37:=Tryz.zeroValue192
 t46:=Tryz.underlying248
 a46:=Tryz.isAgg248
 z46:=Tryz.sizeOf248
 v46:=Tryz.zeroValue248
 t51:=Tryz.underlying285
 a51:=Tryz.isAgg285
 z51:=Tryz.sizeOf285
 v51:=Tryz.zeroValue285
 t53:=Tryz.underlying263
 a53:=Tryz.isAgg263
 z53:=Tryz.sizeOf263
 v53:=Tryz.zeroValue263
 t171:=Tryz.underlying262
 a171:=Tryz.isAgg262
 z171:=Tryz.sizeOf262
 v171:=Tryz.zeroValue262
 t173:=Tryz.underlying266
 a173:=Tryz.isAgg266
 z173:=Tryz.sizeOf266
 v173:=Tryz.zeroValue266
 t212:=Tryz.underlying293
 a212:=Tryz.isAgg293
 z212:=Tryz.sizeOf293
 v212:=Tryz.zeroValue293
 t213:=Tryz.underlying294
 a213:=Tryz.isAgg294
 z213:=Tryz.sizeOf294
 t232:=Tryz.underlying313
 a232:=Tryz.isAgg313
 z232:=Tryz.sizeOf313
 v232:=Tryz.zeroValue313
 t233:=Tryz.underlying314
 a233:=Tryz.isAgg314
 z233:=Tryz.sizeOf314
 v233:=Tryz.zeroValue314
 g17:=by kernel_rfl
 g18:=by kernel_rfl
 g19:=by kernel_rfl
 i0:=by kernel_rfl
 i2:=by kernel_rfl
 i3:=by kernel_rfl
 i4:=by kernel_rfl
 i5:=by kernel_rfl
 i9:=by kernel_rfl
 i20:=by kernel_rfl
 i37:=by kernel_rfl
 i46:=by kernel_rfl
 i51:=by kernel_rfl
 i53:=by kernel_rfl
 i171:=by kernel_rfl
 i173:=by kernel_rfl
 i212:=by kernel_rfl
 i232:=by kernel_rfl
 i233:=by kernel_rfl
 m17:=by kernel_rfl
 m18:=by kernel_rfl
 m19:=by kernel_rfl}
open Go.RowKit Go.Sort Go.Lib in
/-- strconv.Itoa: "Itoa is equivalent to FormatInt(int64(i), 10).": i's DECIMAL NUMERAL ('Lib.itoa': a '-' where i is negative, then the digits), FOR EVERY int. The world behind the call: the world before it, new blocks behind the heap (the library's 'var a [24]byte'), draws. (LAID: no walk: one application.) -/
theorem Tryz.strconv_Itoa (n:Int) (h0: -9223372036854775808≤n) (h1:n≤9223372036854775807) (w:World) (htab:Lib.TabIs Tryz.prog w "internal/strconv.uint64pow10" .u64 Lib.pow10Tab):
 Calls Tryz.prog 54 #[.int .i64 n] w fun e w'=>e=.returned (.string ⟨(Lib.itoa n).toArray⟩)∧∃ k os,w'=grow (w.drewN k) os:=Any.strconv_Itoa Tryz.laysM171 n h0 h1 w htab
def Tryz.lays105_ren:Go.Shelf.Ren:=⟨fun | 105=>140 | 212=>199 | 99=>200 | 165=>201 | 166=>139 | 170=>202 | 169=>141 | 263=>238 | 264=>239 | 206=>240 | 240=>198 | 241=>241 | 276=>237 | 277=>269 | n=>n,fun | 9=>9 | 3=>3 | 4=>4 | 20=>20 | 0=>0 | 46=>248 | 109=>249 | 5=>5 | 72=>194 | 76=>195 | 51=>285 | 146=>286 | 53=>263 | 148=>288 | 70=>191 | 37=>192 | 75=>41 | 127=>254 | 164=>283 | 80=>198 | n=>n,fun | n=>n⟩
theorem Tryz.lays105:Go.Proofs.Lays.n105 Tryz.prog Tryz.lays105_ren:={
 mixed:=by kernel_rfl
 f99:=Tryz.func200.trans (congrArg some (by kernel_rfl))
 f105:=Tryz.func140.trans (congrArg some (by kernel_rfl))
 f165:=Tryz.func201.trans (congrArg some (by kernel_rfl))
 f166:=Tryz.func139.trans (congrArg some (by kernel_rfl))
 f169:=Tryz.func141.trans (congrArg some (by kernel_rfl))
 f170:=Tryz.func202.trans (congrArg some (by kernel_rfl))
 f206:=Tryz.func240.trans (congrArg some (by kernel_rfl))
 f212:=Tryz.func199.trans (congrArg some (by kernel_rfl))
 f240:=Tryz.func198.trans (congrArg some (by kernel_rfl))
 f241:=Tryz.func241.trans (congrArg some (by kernel_rfl))
 f263:=Tryz.func238.trans (congrArg some (by kernel_rfl))
 f264:=Tryz.func239.trans (congrArg some (by kernel_rfl))
 f276:=Tryz.func237.trans (congrArg some (by kernel_rfl))
 f277:=Tryz.func269.trans (congrArg some (by kernel_rfl))
 t0:=Tryz.underlying0
 a0:=Tryz.isAgg0
 z0:=Tryz.sizeOf0
 v0:=Tryz.zeroValue0
 t3:=Tryz.underlying3
 a3:=Tryz.isAgg3
 z3:=Tryz.sizeOf3
 v3:=Tryz.zeroValue3
 t4:=Tryz.underlying4
 a4:=Tryz.isAgg4
 z4:=Tryz.sizeOf4
 v4:=Tryz.zeroValue4
 t5:=Tryz.underlying5
 a5:=Tryz.isAgg5
 z5:=Tryz.sizeOf5
 v5:=Tryz.zeroValue5
 t9:=Tryz.underlying9
 a9:=Tryz.isAgg9
 z9:=Tryz.sizeOf9
 v9:=Tryz.zeroValue9
 t20:=Tryz.underlying20
 a20:=Tryz.isAgg20
 z20:=Tryz.sizeOf20
 v20:=Tryz.zeroValue20
 t37:=Tryz.underlying192
 a37:=Tryz.isAgg192
 z37:=Tryz.sizeOf192
 v37:=Tryz.zeroValue192
 t46:=Tryz.underlying248
 a46:=Tryz.isAgg248
 z46:=Tryz.sizeOf248
 v46:=Tryz.zeroValue248
 t51:=Tryz.underlying285
 a51:=Tryz.isAgg285
 z51:=Tryz.sizeOf285
 v51:=Tryz.zeroValue285
 t53:=Tryz.underlying263
 a53:=Tryz.isAgg263
 z53:=Tryz.sizeOf263
 v53:=Tryz.zeroValue263
 t70:=Tryz.underlying191
 a70:=Tryz.isAgg191
 z70:=Tryz.sizeOf191
 v70:=Tryz.zeroValue191
 t72:=Tryz.underlying194
 a72:=Tryz.isAgg194
 z72:=Tryz.sizeOf194
 v72:=Tryz.zeroValue194
 t75:=Tryz.underlying41
 a75:=Tryz.isAgg41
 z75:=Tryz.sizeOf41
 v75:=Tryz.zeroValue41
 t76:=Tryz.underlying195
 a76:=Tryz.isAgg195
 z76:=Tryz.sizeOf195
 v76:=Tryz.zeroValue195
 t109:=Tryz.underlying249
 a109:=Tryz.isAgg249
 z109:=Tryz.sizeOf249
 v109:=Tryz.zeroValue249
 t127:=Tryz.underlying254
 a127:=Tryz.isAgg254
 z127:=Tryz.sizeOf254
 v127:=Tryz.zeroValue254
 t146:=Tryz.underlying286
 a146:=Tryz.isAgg286
 z146:=Tryz.sizeOf286
 v146:=Tryz.zeroValue286
 t148:=Tryz.underlying288
 a148:=Tryz.isAgg288
 z148:=Tryz.sizeOf288
 v148:=Tryz.zeroValue288
 t164:=Tryz.underlying283
 a164:=Tryz.isAgg283
 z164:=Tryz.sizeOf283
 v164:=Tryz.zeroValue283}
theorem Tryz.Builder_Extra_105:Builder.Extra Tryz.prog Tryz.lays105_ren:={
 sizeBuilder:=by kernel_rfl
 liesBuilder:=by kernel_rfl
 t5:=Tryz.underlying5
 a5:=Tryz.isAgg5
 z5:=Tryz.sizeOf5
 v5:=Tryz.zeroValue5
 infoByte:=by kernel_rfl
 cellsByte:=by kernel_rfl
 sizeByte:=by kernel_rfl
 neB5:=by decide}
open Go.RowKit Go.Lib in
/-- **strings.Repeat: count ≥ 0, the result within one allocation: count copies of s.** (LAID: no walk: one application.) -/
theorem Tryz.strings_Repeat (s:ByteArray) (c:Nat) (w:World) (hc:c≤9223372036854775807) (hlen:s.size*c≤140737488355328):
 Calls Tryz.prog 140 #[.string s,.int .i64 c] w fun e w'=>e=.returned (.string ⟨(Lib.repeatL s.data.toList c).toArray⟩)∧Below w.heap.size w w':=Any.strings_Repeat Tryz.lays105 Tryz.Builder_Extra_105 s c w hc hlen
end Go.Proofs
set_option maxRecDepth 20000
namespace Go.Proofs.YtbhlgkibgajajaaGreatDoor
open Go.Lx Go.RowKit
attribute [local instance 10] Classical.propDecidable
theorem Yh1 {w w':World} (h:Below w.heap.size w w'):Fr [] w w':=⟨h.os,h.tape,h.output,h.size,fun b hb _=>h.block b hb⟩
def TabF (fz:FZ):Prop:=∀ w,Hp fz [] w→Lib.TabIs Tryz.prog w "internal/strconv.uint64pow10" .u64 Lib.pow10Tab
theorem TabF.mono {fz fz':FZ} (hle:Le fz fz') (h:TabF fz):TabF fz':=fun w hw=>h w ⟨fun b o hb=>hw.keep b o (hle b o hb),by simp,by simp⟩
theorem itoa_q {fz:FZ} {n:Int} (hT:TabF fz) (h:YaM n):QFn Tryz.prog 54 [.int .i64 n] fz (.string (strOf (Lib.itoa n))):=by
 unfold QFn
 refine ⟨⟨_,Tryz.func54,by decide,by decide⟩,fun w hw=>?_⟩
 unfold YaM at h
 refine (Tryz.strconv_Itoa n Zi Zi w (hT w hw)).mono fun e w' ⟨he,k,os,hw'⟩=>⟨he,?_⟩
 subst hw'
 exact ⟨rfl,rfl,rfl,by show w.heap.size≤(w.heap++os).size;rw [Array.size_append];omega,fun b hb _=>Sort.heap_grow_old (w.drewN k) os hb⟩
theorem repeat_q {fz:FZ} {n:Nat} (h:n≤1000000000):QFn Tryz.prog 140 [.string ⟨#[32]⟩,.int .i64 n] fz (.string (strOf (List.replicate n 32))):=by
 unfold QFn
 refine ⟨⟨_,Tryz.func140,by decide,by decide⟩,fun w hw=>?_⟩
 refine (Tryz.strings_Repeat ⟨#[32]⟩ n w Zi (by show 1*n≤_;omega)).mono fun e w' ⟨he,hb⟩=>⟨?_,Yh1 hb⟩
 rw [he,← Yge]
 rfl
theorem join_q {fz fz':FZ} {v:Value} {n:Nat} {Hs:HP} {l:List (List UInt8)} (hg:Grow strL 9 fz v n Hs (l.map strOf)) (hf:∀ p∈Hs,fz' p.1=some p.2) (hn:n≤1000000000) (hlen:(Lib.join l [32]).length≤1000000000):
 QFn Tryz.prog 197 [v,.string ⟨#[32]⟩] fz' (.string (strOf (Lib.join l [32]))):=by
 unfold QFn
 refine ⟨⟨_,Tryz.func197,by decide,by decide⟩,fun w hw=>?_⟩
 have hd:(l.map strOf).map (fun x=>x.data.toList)=l:=by
  rw [List.map_map]
  calc l.map _=l.map id:=List.map_congr_left fun t _=>YcV t
   _=l:=List.map_id l
 obtain ⟨xs,h1,h2,h3,h4⟩:=hg
 rcases h4.2 with ⟨rfl,h0,_⟩ | ⟨g,cap,cur,rfl,hH,h6,h7,h8,h9⟩
 ·have hl:l=[]:=List.eq_nil_of_length_eq_zero (by have:=h3;rw [List.length_map] at this;omega)
  subst hl
  refine (Tryz.strings_Join_none none 0 ⟨#[32]⟩ w).mono fun e w' ⟨he,hb⟩=>⟨?_,by subst hb;exact Fr.refl _ _⟩
  rw [he];rfl
 ·have hb:=hw.keep _ _ (hf (g,.cells cur 9 (0,0)) (by rw [hH];simp))
  have hsh:∀ p∈xs,p.2=[Value.string p.1]:=fun p hp=>(h2 p hp).1
  have hfl:xs.flatMap Prod.snd=(l.map strOf).map Value.string:=by
   rw [← h1,List.map_map]
   clear h1 h3 h4 h9 h2
   induction xs with
   | nil=>rfl
   | cons a r ih=>rw [List.flatMap_cons,hsh a (by simp),ih (fun p hp=>hsh p (by simp [hp]))];rfl
  have hcells:∀ (j:Nat) x,(l.map strOf)[j]?=some x→w.cell? ⟨g,0+j,none⟩=some (.string x):=by
   intro j x hx
   have hj:j<n:=by have:=(List.getElem?_eq_some_iff.1 hx).1;omega
   have h10:(cur.toList.take (n*1))[j]?=some (.string x):=by
    have h9':cur.toList.take (n*1)=xs.flatMap Prod.snd:=h9
    rw [h9',hfl,List.getElem?_map,hx];rfl
   rw [List.getElem?_take,if_pos Zi] at h10
   rw [Nat.zero_add]
   simp only [World.cell?,hb]
   simpa using h10
  have hll:(l.map strOf).length=n:=h3
  have:=Tryz.strings_Join g 0 cap (l.map strOf) ⟨#[32]⟩ w hcells (lt_of_heap hb) Zi Zi (by rw [hd];exact Nat.le_trans hlen Zh)
  rw [hd,hll] at this
  exact this.mono fun e w' ⟨he,hb⟩=>⟨he,Yh1 hb⟩
def bldO (p v:Value):Obj:=.cells #[p,v] 194 (0,0)
def Bld (b:Nat) (l:List UInt8) (H:HP):Prop:=∃ (p v:Value) (Hs:HP),H=(b,bldO p v)::Hs∧(p=.pointer none∨p=.pointer (some ⟨b,0,none⟩))∧OwnS 5 1 v l.length (l.map Yay) Hs
theorem Bld.new (b:Nat):Bld b [] [(b,bldO (.pointer none) (.slice none 0 0))]:=⟨_,_,_,rfl,.inl rfl,OwnS.nil _ _⟩
theorem Yhs {fz:FZ} {b:Nat} {p v:Value} (hp:p=.pointer none∨p=.pointer (some ⟨b,0,none⟩)):
 GFn Tryz.prog 198 [.pointer (some ⟨b,0,none⟩)] fz [(b,bldO p v)] (fun r fz' H'=>r=.tuple #[]∧fz=fz'∧H'=[(b,bldO (.pointer (some ⟨b,0,none⟩)) v)]):=by
 refine GFn.of ⟨_,Tryz.func198,by decide,by decide⟩ fun w hw=>?_
 obtain ⟨hb,hz⟩:=hw.own (b,bldO p v) (by simp)
 simp only at hb hz
 have c0:w.cell? ⟨b,0,none⟩=some p:=by simp [World.cell?,hb,bldO]
 rcases hp with rfl | rfl
 ·refine (Any.Builder_copyCheck_fresh (ρ:=Tryz.lays156_ren) {Tryz.lays156 with} Tryz.Builder_Extra_156.toX72 b w c0 (by simp [World.shape?,hb,bldO];rfl) (by simp [World.frozen?,hb,bldO])).mono fun e w' ⟨he,hw'⟩=>?_
  subst hw'
  refine ⟨_,fz,_,he,⟨rfl,rfl,rfl⟩,⟨fun k o hk=>?_,fun q hq=>?_,by simp⟩,⟨rfl,rfl,rfl,by simp [World.setCell],fun k _ hn=>?_⟩,⟨fun _ _ h=>h,fun _ _ _=>rfl,fun q hq=>.inl (by simp at hq;subst hq;simp)⟩⟩
  ·rw [Below.heap_setCell _ _ _ _ (fun h=>by subst h;rw [hz] at hk;cases hk)]
   exact hw.keep k o hk
  ·simp only [List.mem_singleton] at hq
   subst hq
   refine ⟨?_,hz⟩
   simp [World.setCell,Array.getElem?_modify,hb,bldO]
  ·exact Below.heap_setCell _ _ _ _ (fun h=>hn (by simp [h]))
 ·refine (Any.Builder_copyCheck_used (ρ:=Tryz.lays156_ren) {Tryz.lays156 with} Tryz.Builder_Extra_156.toX72 b w c0).mono fun e w' ⟨he,hw'⟩=>?_
  subst hw'
  exact ⟨_,fz,_,he,⟨rfl,rfl,rfl⟩,hw,Fr.refl _ _,⟨fun _ _ h=>h,fun _ _ _=>rfl,fun q hq=>.inl (by simp at hq;subst hq;simp)⟩⟩
set_option maxHeartbeats 1000000 in
theorem YeN {fz:FZ} {b:Nat} {l:List UInt8} {H:HP} {s:ByteArray} (hb:Bld b l H) (hs:l.length+s.size≤1000000000):
 GFn Tryz.prog 139 [.pointer (some ⟨b,0,none⟩),.string s] fz H (fun r fz' H'=>fz=fz'∧r=.tuple #[.int .i64 s.size,.nilIface]∧Bld b (l++s.data.toList) H'):=by
 obtain ⟨p,v,Hs,rfl,hp,hO⟩:=hb
 (refine GFn.of_wp Tryz.func139 rfl Tryz.ntmps139 rfl rfl (fun w0=>?_))
 ((repeat (first | refine zS ?_ | refine zA fun _=>?_)))
 (refine Yc Zz (Yr [_] _ Zz Zz Zz (Yhs hp) (fun r1 fz1 H1 hle1 hR1=>?_)))
 obtain ⟨rfl,rfl,rfl⟩:=hR1
 unfold bldO
 ((repeat (first | refine zS ?_ | refine zA fun _=>?_)))
 refine Yc Zz (Yhg T (Hr:=[_]) Zz Zz Zz Zz Zz Zz Zz Zz Zz Zz (List.Perm.refl _) hO Zi (fun v' Hs' hO'=>?_))
 obtain ⟨A',c',rfl,_,_⟩:=hO'.form
 ((repeat (first | refine zS ?_ | refine zA fun _=>?_)))
 refine ret2 rfl rfl rfl (List.Sublist.refl _) ⟨rfl,rfl,_,_,Hs',rfl,.inr rfl,?_⟩
 have e:(l++s.data.toList).length=l.length+s.size:=by rw [List.length_append,Array.length_toList];rfl
 rw [e,List.map_append]
 exact hO'
set_option maxHeartbeats 1000000 in
theorem Ykb {fz:FZ} {b:Nat} {l:List UInt8} {H:HP} (hb:Bld b l H) (h0:l≠ []) (hn:l.length≤1000000000):
 GFn Tryz.prog 141 [.pointer (some ⟨b,0,none⟩)] fz H (fun r fz' H'=>fz=fz'∧r=.string (strOf l)∧H'=[]):=by
 obtain ⟨p,v,Hs,rfl,hp,hO⟩:=hb
 have hl0:l.length≠0:=by simpa using h0
 rcases hO.2 with ⟨_,h1,_⟩ | ⟨g,cap,cur,rfl,rfl,h3,h4,h5,h6⟩
 ·exact absurd h1 hl0
 ·obtain ⟨curl,rfl⟩:∃ cl:List Value,cur=cl.toArray:=⟨cur.toList,by simp⟩
  unfold bldO
  (refine GFn.of_wp Tryz.func141 rfl Tryz.ntmps141 rfl rfl (fun w0=>?_))
  ((repeat (first | refine zSO ?_ | refine zA fun _=>?_)))
  refine Yp (Yq ?_)
  ((repeat (first | refine zSO ?_ | refine zA fun _=>?_)))
  refine Yp ?_
  (refine Wp.drawK (Hq:=[_]) T.mixed Zj Zj (Zb) ?_)
  ((repeat (first | refine zS ?_ | refine zA fun _=>?_)))
  ((refine zG ?_));refine Ygg Zz Zi ?_
  ((repeat (first | refine zS ?_ | refine zA fun _=>?_)))
  (refine Yb ?_)
  (refine Yb ?_)
  (refine YK ⟨by kernel_rfl,?_⟩)
  refine Yh (YeG T (pre:=[_]) (post:=[]) Zz Zz Zz Zz Zz Zz h0 (by simp at h5;omega) Zi (by simpa using h6) ⟨(⟨Le.refl _,Zx⟩),?_⟩)
  refine Ch.qk (⟨Le.refl _,Zx⟩) (YU Zz ?_)
  refine Ch.done ?_
  ((repeat (first | refine zS ?_ | refine zA fun _=>?_)))
  exact ret1 rfl rfl (List.nil_sublist _) ⟨rfl,rfl,rfl⟩
end Go.Proofs.YtbhlgkibgajajaaGreatDoor
set_option maxRecDepth 20000
namespace Go.Proofs.YtbhlgkibgajajaaGreatDoor
open Go.Lx Go.RowKit
attribute [local instance 10] Classical.propDecidable
theorem YhA {p q:Sexpr→Prop} (h:∀ x,p x→q x):∀ (s:Nat) {x:Sexpr},SizeOf.sizeOf x≤s→XAll p x→XAll q x
 | 0,x,hs,_=>by cases x;simp at hs
 | s+1,x,hs,hx=>by
  have h1:=Xm.1 hx
  exact Xm.2 ⟨h _ h1.1,fun k hk=>YhA h s (by have:=Sexpr.kids_lt hk;omega) (h1.2 k hk)⟩
theorem xnode_sm {x:Sexpr} (h:Ycc x):XSm x:=by
 rcases h with ⟨h1,h2,_⟩ | ⟨h1,_,_,h2⟩ | ⟨h1,_⟩
 ·exact ⟨fun _=>h2.2.1,fun h0=>by omega⟩
 ·exact ⟨fun h0=>by omega,fun _=>h2⟩
 ·exact ⟨fun h0=>by omega,fun h0=>by omega⟩
theorem YeL {x:Sexpr} (h:XOk x):XAll XSm x:=YhA (fun _=>xnode_sm) _ (Nat.le_refl _) h
theorem Ye6 {x:Sexpr} (h:XOk x):(txt x).length≤36*xcount x:=by have:=txt_len (YeL h);omega
theorem str_one:OneC strL:=by
 intro fz d cs h u hu
 obtain ⟨rfl,_⟩:=h
 simp at hu;subst hu;rfl
theorem YiZ {fz:FZ} {l:List UInt8} (h:l.length≤1000000000):strL.rep fz (strOf l) [.string (strOf l)]:=⟨rfl,by rw [WE];omega⟩
theorem Ygx {x:Sexpr} (h:XOk x):(Lib.join (x.kids.map txt) [32]).length≤36*xcount x:=by
 cases x with
 | mk k v l c t ks=>
  have h1:=(Xm.1 (YeL h)).2
  have h2:=txtL_len (YbT.2 h1)
  have h3:=join_len (l:=ks.map txt)
  rw [← Yfc] at h3 ⊢
  simp only [Sexpr.kids] at h2 ⊢
  rw [xcount]
  omega
set_option maxHeartbeats 1000000 in
theorem Yhy:∀ (s:Nat) {fz:FZ} {x:Sexpr} {vk:Value},SizeOf.sizeOf x≤s→Y9 fz x vk→XOk x→xcount x≤4096→TabF fz→
 QFn Tryz.prog 138 [.agg #[.int .i64 x.kind,.int .i64 x.value,.int .i64 x.line,.int .i64 x.column,.string x.text,vk]] fz (.string (strOf (txt x)))
 | 0,_,x,_,hs,_,_,_,_=>by cases x;simp at hs
 | s+1,fz,x,vk,hs,h,hX,hc,hT=>by
  refine GFn.quiet ?_
  obtain ⟨A,n,ca,rfl,hk⟩:=h.kids
  have l1:=hk.len
  have l2:=hk.short
  have hN:=Xm.1 hX
  have e:=Yf3 x
  have ec:=WQ x
  (refine GFn.of_wp Tryz.func138 rfl Tryz.ntmps138 rfl rfl (fun w0=>?_))
  (refine Yp (Yq (Yc Zz (Xl _ Zz Zz (fun g0=>?_)))))
  ((repeat (first | refine zS ?_ | refine zA fun _=>?_)))
  ((refine zG ?_;refine zC (fun x1=>?_) (fun y1=>?_)))
  ·((repeat (first | refine zS ?_ | refine zA fun _=>?_)))
   (exact ret1 rfl rfl (Zb) (by rw [e,if_pos (show x.kind=1 from x1),YhF]))
  ·((repeat (first | refine zS ?_ | refine zA fun _=>?_)))
   ((refine zG ?_;refine zC (fun x2=>?_) (fun y2=>?_)))
   ·have hNum:YaM x.value:=by
     rcases hN.1 with ⟨h1,_⟩ | ⟨_,_,_,h1⟩ | ⟨h1,_⟩
     ·omega
     ·exact h1
     ·omega
    ((repeat (first | refine zS ?_ | refine zA fun _=>?_)))
    (((refine zG ?_));refine Yj Zz Zz (itoa_q hT hNum) ?_)
    ((repeat (first | refine zS ?_ | refine zA fun _=>?_)))
    (exact ret1 rfl rfl (Zb) (by rw [e,if_neg (show ¬x.kind=1 from y1),if_pos (show x.kind=2 from x2)]))
   ·have hlen:=Ygx hX
    have hln:=YdH (l:=x.kids)
    ((repeat (first | refine zS ?_ | refine zA fun _=>?_)))
    refine YG (fun q σ fz' H'=>∃ (k:Nat) (v:Value) (Hs:HP),k≤n∧q=n - k∧σ=[(20,.int .i64 k),(19,.int .i64 n),(18,.slice A n ca),(3,v)]∧fz=fz'∧H'=Hs∧Grow strL 9 fz' v k Hs (((x.kids.map txt).take k).map strOf))
     ⟨0,_,[],Nat.zero_le _,rfl,rfl,rfl,rfl,Grow.nil _ _ _⟩ (Zw) (Zb) ?_
    rintro q σ fz' H' ⟨k,v,Hs,hk',rfl,rfl,rfl,rfl,hG⟩
    obtain ⟨Av,cv,rfl,_,_⟩:=hG.form
    ((repeat (first | refine zS ?_ | refine zA fun _=>?_)))
    ((refine zG ?_;refine zC (fun c1=>?_) (fun c1=>?_)))
    ·obtain ⟨y,hy⟩:=YF (l:=x.kids) (k:=k) Zi
     have hym:=List.mem_of_getElem? hy
     have hlt:=Sexpr.kids_lt hym
     have hcy:=Wy hym
     have hyo:=hN.2 y hym
     have hyl:=Ye6 hyo
     ((repeat (first | refine zS ?_ | refine zA fun _=>?_)))
     (((refine zG ?_));refine YB T k Zz Zz Zz Zz Zz Zz hk (by first | rfl | omega) hy (fun p hp=>?_))
     (((refine zG ?_));refine Yz T Zz Zz Zz hp Zz ?_)
     intro cs hcs
     obtain ⟨vk2,rfl,hR⟩:=Yl hcs
     obtain ⟨A2,n2,c2,rfl,_⟩:=hR.kids
     ((repeat (first | refine zS ?_ | refine zA fun _=>?_)))
     (((refine zG ?_));refine Yj Zz Zz (Yhy s Zi hR hyo Zi hT) ?_)
     refine Yc Zz (Yd T (cs:=[.string (strOf (txt y))]) Zz Zz Zz Zz Zz Zz Zz Zz (fun gb=>?_))
     refine Yc Zz (Xc T (Hr:=[_,_]) Zz Zz Zz Zz Zz Zz Zz Zz (List.Perm.refl _) hG str_one (.head _) (YiZ Zi) (by show _*16≤_;omega) Zi (fun v' Hs' hO'=>?_))
     obtain ⟨Av',cv',rfl,_,_⟩:=hO'.form
     ((repeat (first | refine zS ?_ | refine zA fun _=>?_)))
     exact YP ⟨k+1,_,Hs',by omega,rfl,rfl,rfl,rfl,hO'.of (by rw [List.take_add_one,List.getElem?_map,hy];simp) rfl⟩ Zi (Zw) (Zb)
    ·have hk1:n=k:=by omega
     subst hk1
     rw [List.take_of_length_le (by rw [List.length_map];omega)] at hG
     ((repeat (first | refine zS ?_ | refine zA fun _=>?_)))
     refine Seq.freezeAll (H1:=[]) (List.Perm.refl _) (fun fz3 hle3 hf3=>?_)
     (((refine zG ?_));refine Yj Zz Zz (join_q hG hf3 Zi Zi) ?_)
     ((refine zG ?_));refine WM (a:=[40]) Zz Zz (by simp;omega) ?_
     ((refine zG ?_));refine WM (b:=[41]) Zz Zz (by simp;omega) ?_
     ((repeat (first | refine zS ?_ | refine zA fun _=>?_)))
     (exact ret1 rfl rfl (Zb) (by rw [e,if_neg (show ¬x.kind=1 from y1),if_neg (show ¬x.kind=2 from y2)];rfl))
theorem xwrite_q {fz:FZ} {x:Sexpr} {vk:Value} (h:Y9 fz x vk) (hX:XOk x) (hc:xcount x≤4096) (hT:TabF fz):
 QFn Tryz.prog 138 [.agg #[.int .i64 x.kind,.int .i64 x.value,.int .i64 x.line,.int .i64 x.column,.string x.text,vk]] fz (.string (strOf (txt x))):=Yhy _ (Nat.le_refl _) h hX hc hT
theorem YcS {x:Sexpr} {w i:Nat} (h:XOk x) (hi:i+2*xdepth x≤66):(lay w x i).length≤102*xcount x:=by
 have:=lay_len (w:=w) (M:=66) (YeL h) hi
 omega
set_option maxHeartbeats 2000000 in
theorem YiP:∀ (s:Nat) {fz:FZ} {x:Sexpr} {vk:Value} {w i:Nat},SizeOf.sizeOf x≤s→Y9 fz x vk→XOk x→xcount x≤4096→i+2*xdepth x≤66→w≤200→TabF fz→
 QFn Tryz.prog 64 [.agg #[.int .i64 x.kind,.int .i64 x.value,.int .i64 x.line,.int .i64 x.column,.string x.text,vk],.int .i64 w,.int .i64 i] fz (.string (strOf (lay w x i)))
 | 0,_,x,_,_,_,hs,_,_,_,_,_,_=>by cases x;simp at hs
 | s+1,fz,x,vk,w,i,hs,h,hX,hc,hi,hw,hT=>by
  refine GFn.quiet ?_
  obtain ⟨A,n,ca,rfl,hk⟩:=h.kids
  have l1:=hk.len
  have l2:=hk.short
  have hN:=Xm.1 hX
  have ec:=WQ x
  have ed:=Ya0 x
  have htl:=Ye6 hX
  have hsz:=WE (txt x)
  (refine GFn.of_wp Tryz.func64 rfl Tryz.ntmps64 rfl rfl (fun w0=>?_))
  (refine Yp (Yq (Yc Zz (Xl _ Zz Zz (fun g0=>?_)))))
  ((repeat (first | refine zS ?_ | refine zA fun _=>?_)))
  (((refine zG ?_));refine Yj Zz Zz (xwrite_q h hX hc hT) ?_)
  ((repeat (first | refine zS ?_ | refine zA fun _=>?_)))
  ((refine zG ?_;refine zC (fun x3=>?_) (fun y3=>?_)))
  ·((repeat (first | refine zS ?_ | refine zA fun _=>?_)))
   (exact ret1 rfl rfl (Zb) (by rw [Ybn (.inl x3)]))
  ·((repeat (first | refine zS ?_ | refine zA fun _=>?_)))
   ((refine zG ?_;refine zC (fun e1=>?_) (fun e1=>?_)))
   ·((repeat (first | refine zS ?_ | refine zA fun _=>?_)))
    (exact ret1 rfl rfl (Zb) (by rw [Ybn (.inr (.inl Zi))]))
   ·((repeat (first | refine zS ?_ | refine zA fun _=>?_)))
    ((refine zG ?_;refine zC (fun e2=>?_) (fun e2=>?_)))
    ·((repeat (first | refine zS ?_ | refine zA fun _=>?_)))
     (exact ret1 rfl rfl (Zb) (by rw [Ybn (.inr (.inr Zi))]))
    ·have hl:=YhU (w:=w) (i:=i) (x:=x) (fun h0=>by omega)
     obtain ⟨y,hy⟩:=YF (l:=x.kids) (k:=0) Zi
     have hym:=List.mem_of_getElem? hy
     have hlt:=Sexpr.kids_lt hym
     have hcy:=Wy hym
     have hdy:=XD.1 (Nat.le_refl _) y hym
     have hd0:i+2+2*xdepthL x.kids≤66:=by rw [if_pos Zi] at ed;omega
     have hyo:=hN.2 y hym
     have hyl:=YcS (w:=w) (i:=i+1) hyo Zi
     ((repeat (first | refine zS ?_ | refine zA fun _=>?_)))
     rename_i gb
     (((refine zG ?_));refine YB T 0 Zz Zz Zz Zz Zz Zz hk (by first | rfl | omega) hy (fun p hp=>?_))
     (((refine zG ?_));refine Yz T Zz Zz Zz hp Zz ?_)
     intro cs hcs
     obtain ⟨vk2,rfl,hR⟩:=Yl hcs
     obtain ⟨A2,n2,c2,rfl,_⟩:=hR.kids
     ((repeat (first | refine zS ?_ | refine zA fun _=>?_)))
     (((refine zG ?_));refine Yj Zz Zz (YiP s (i:=i+1) Zi hR hyo Zi Zi hw hT) ?_)
     ((refine zG ?_));refine WM (a:=[40]) Zz Zz (by simp;omega) ?_
     (refine Yc Zz (Yr [_] [_] Zz Zz Zz (YeN (Bld.new gb) (by rw [WE];simp;omega)) (fun r1 fz1 H1 hle1 hR1=>?_)))
     obtain ⟨rfl,rfl,hB⟩:=hR1
     refine Seq.perm (List.perm_append_comm (l₁:=[_])) ?_
     have hkk:x.kids=y::x.kids.drop 1:=by
      cases hq:x.kids with
      | nil=>simp [hq] at hy
      | cons a b=>simp [hq] at hy;subst hy;rfl
     have hcr:xcountL (x.kids.drop 1)≤xcountL x.kids:=by
      have h0:xcountL x.kids=xcountL (y::x.kids.drop 1):=congrArg xcountL hkk
      rw [xcountL] at h0;omega
     have hB2:Bld gb (40::(lay w y (i+1)++layT w ((x.kids.drop 1).take 0) (i+2))) H1:=by simpa [YcV,layT] using hB
     have hlT:∀ k,(layT w ((x.kids.drop 1).take k) (i+2)).length≤102*4096:=fun k=>by
      have h0:=layT_len (w:=w) (M:=66) (l:=(x.kids.drop 1).take k) (i:=i+2) (YbT.2 (fun z hz=>YeL (hN.2 z (List.mem_of_mem_drop (List.mem_of_mem_take hz))))) (by
       have:xdepthL ((x.kids.drop 1).take k)≤xdepthL x.kids:=XD.2 (fun z hz=>XD.1 (Nat.le_refl _) z (List.mem_of_mem_drop (List.mem_of_mem_take hz)))
       omega)
      have h1:=YaO (l:=x.kids.drop 1) (k:=k)
      omega
     ((repeat (first | refine zS ?_ | refine zA fun _=>?_)))
     ((refine zG ?_));refine Ygi T (j:=1) Zz Zz Zz Zz Zz Zz hk Zi (fun B hS=>?_)
     ((repeat (first | refine zS ?_ | refine zA fun _=>?_)))
     refine YG (fun q σ fz' H'=>∃ k:Nat,k≤n - 1∧q=n - 1 - k∧σ=[(45,.int .i64 k),(44,.int .i64 ((n - 1:Nat):Int)),(43,.slice B (n - 1) (ca - 1)),(8,.pointer (some ⟨gb,0,none⟩)),(2,.int .i64 i),(1,.int .i64 w)]∧fz=fz'∧Bld gb (40::(lay w y (i+1)++layT w ((x.kids.drop 1).take k) (i+2))) H')
      ⟨0,Nat.zero_le _,rfl,rfl,rfl,hB2⟩ (Zw) (Zb) ?_
     rintro q σ fz' H' ⟨k,hk',rfl,rfl,rfl,hBk⟩
     have hdl:(x.kids.drop 1).length=n - 1:=by rw [List.length_drop,l1]
     ((repeat (first | refine zS ?_ | refine zA fun _=>?_)))
     ((refine zG ?_;refine zC (fun c1=>?_) (fun c1=>?_)))
     ·obtain ⟨z,hz⟩:=YF (l:=x.kids.drop 1) (k:=k) Zi
      have hzm:z∈x.kids:=List.mem_of_mem_drop (List.mem_of_getElem? hz)
      have hltz:=Sexpr.kids_lt hzm
      have hcz:=Wy hzm
      have hdz:=XD.1 (Nat.le_refl _) z hzm
      have hzo:=hN.2 z hzm
      have hzl:=YcS (w:=w) (i:=i+2) hzo Zi
      have hlk:=hlT k
      ((repeat (first | refine zS ?_ | refine zA fun _=>?_)))
      (((refine zG ?_));refine YB T k Zz Zz Zz Zz Zz Zz hS (by first | rfl | omega) hz (fun p2 hp2=>?_))
      (((refine zG ?_));refine Yz T Zz Zz Zz hp2 Zz ?_)
      intro cs2 hcs2
      obtain ⟨vk3,rfl,hR3⟩:=Yl hcs2
      obtain ⟨A3,n3,c3,rfl,_⟩:=hR3.kids
      ((repeat (first | refine zSO ?_ | refine zA fun _=>?_)))
      rename_i gk
      (refine Wp.drawK (Hq:=[_]) T.mixed Zj Zj (Zb) ?_)
      ((repeat (first | refine zS ?_ | refine zA fun _=>?_)))
      (((refine zG ?_));refine Yj Zz Zz (repeat_q (n:=i+2) Zi) ?_)
      ((refine zG ?_));refine WM (a:=[10]) Zz Zz (by simp;omega) ?_
      ((repeat (first | refine zS ?_ | refine zA fun _=>?_)))
      (((refine zG ?_));refine Yj Zz Zz (YiP s (i:=i+2) Zi hR3 hzo Zi Zi hw hT) ?_)
      ((refine zG ?_));refine WM Zz Zz (by simp;omega) ?_
      (refine Yb ?_)
      (refine YK ⟨by kernel_rfl,?_⟩)
      refine Yh (Does.perm (List.perm_append_comm (l₂:=[_])) (Yr _ [_] Zz Zz Zz (YeN hBk (by rw [WE];simp only [List.length_cons,List.length_append,List.length_replicate,List.length_nil];omega)) (fun r2 fz2 H2 hle2 hR2=>?_)))
      obtain ⟨rfl,rfl,hB3⟩:=hR2
      refine ⟨⟨Le.refl _,by intro p hp;simp only [List.mem_singleton] at hp;subst hp;simp⟩,?_⟩
      refine Ch.done ?_
      have hB4:Bld gb (40::(lay w y (i+1)++layT w ((x.kids.drop 1).take (k+1)) (i+2))) H2:=by
       rw [Ygs hz]
       rw [YcV] at hB3
       simpa only [List.cons_append,List.append_assoc,List.nil_append] using hB3
      ((repeat (first | refine zS ?_ | refine zA fun _=>?_)))
      exact YP ⟨k+1,by omega,rfl,rfl,rfl,hB4⟩ Zi (Zw) (List.sublist_append_left _ _)
     ·have hk1:k=n - 1:=by omega
      subst hk1
      rw [List.take_of_length_le Zi] at hBk
      have hll:=hlT (n - 1)
      rw [List.take_of_length_le Zi] at hll
      ((repeat (first | refine zS ?_ | refine zA fun _=>?_)))
      refine Yc Zz (Yr _ [] (List.append_nil _).symm Zz Zz (Ykb hBk (by simp) (by simp only [List.length_cons,List.length_append];omega)) (fun r2 fz2 H2 hle2 hR2=>?_))
      obtain ⟨rfl,rfl,rfl⟩:=hR2
      ((refine zG ?_));refine WM (b:=[41]) Zz Zz (by simp only [List.length_cons,List.length_append,List.length_nil];omega) ?_
      ((repeat (first | refine zS ?_ | refine zA fun _=>?_)))
      (exact ret1 rfl rfl (Zb) (by rw [hl,hkk];rfl))
set_option maxHeartbeats 1000000 in
theorem YiQ {fz:FZ} {x:Sexpr} {vk:Value} (h:Y9 fz x vk) (hT:TabF fz):
 QFn Tryz.prog 28 [.agg #[.int .i64 x.kind,.int .i64 x.value,.int .i64 x.line,.int .i64 x.column,.string x.text,vk],.int .i64 80] fz (if XVal x then .tuple #[.string (strOf (lay 80 x 0)),.nilIface] else .tuple #[.string ⟨#[]⟩,errV 2]):=by
 refine GFn.quiet ?_
 obtain ⟨A,n,ca,rfl,hk⟩:=h.kids
 (refine GFn.of_wp Tryz.func28 rfl Tryz.ntmps28 rfl rfl (fun w0=>?_))
 (refine Yp (Yq (Yc Zz (Xl _ Zz Zz (fun g0=>?_)))))
 ((repeat (first | refine zS ?_ | refine zA fun _=>?_)))
 (((refine zG ?_));refine Yx Zz Zz (Ydw h) (fun f1=>?_) (fun f1=>?_))
 ·have hv:=of_decide_eq_true f1
  ((repeat (first | refine zS ?_ | refine zA fun _=>?_)))
  ((refine zG ?_));refine q_min Zz Zz ?_
  ((repeat (first | refine zS ?_ | refine zA fun _=>?_)))
  (((refine zG ?_));refine Yj Zz Zz (YiP (w:=80) (i:=0) _ (Nat.le_refl _) h hv.1 hv.2.2 (by have:=hv.2.1;omega) Zi hT) ?_)
  ((repeat (first | refine zS ?_ | refine zA fun _=>?_)))
  exact ret2 rfl rfl rfl (Zb) (if_pos hv).symm
 ·have hv:=of_decide_eq_false f1
  ((repeat (first | refine zS ?_ | refine zA fun _=>?_)))
  exact ret2 rfl rfl rfl (Zb) (if_neg hv).symm
end Go.Proofs.YtbhlgkibgajajaaGreatDoor
