/- The texts PCE, PCJ, PCK, PCM, PCF, laid together. Conditions: none. -/
import Derived.Test.YtfjopfinkdhmaaaGreatDoorRYQ
set_option linter.all false
noncomputable section
set_option maxRecDepth 20000
namespace Go.Proofs.YtfjopfinkdhmaaaGreatDoor
open Go.Lx Go.RowKit
attribute [local instance 10] Classical.propDecidable
open Go.Proofs.Tryz (prog)
def nmd (w n:Bs):Param:=⟨n,w++n⟩
def YeM (d:Domain):List Param:=d.predicates.map (fun x=>nmd X2 x.name)++d.functions.map (fun x=>nmd XB x.name)
def YdY (all:List Param):List Param:=all.map (fun x=>nmd YbD x.name)
def YfN (d:Domain):List Param:=d.actions.map (fun x=>nmd Wx x.name)++d.duratives.map (fun x=>nmd XC x.name)
def Yba (d:Domain) (all:List Param):Option Bs:=match repM [] (YeM d) with
 | some p=>some p
 | none=>match repM [] (YdY all) with
  | some p=>some p
  | none=>repM [] (YfN d)
variable {fz:FZ}
theorem YeL {w n:Bs} (hn:Short n) (hs:n.size≤1000) (hw:w.size≤1000):paramL.rep fz (nmd w n) [.string n,.string (w++n)]:=
 YbM (x:=nmd w n) ⟨hn,by show (w++n).size≤_;rw [ByteArray.size_append];omega⟩
variable {all:List Param} {d:Domain} {p:Problem} {v vp:Value}
set_option maxHeartbeats 8000000 in
theorem names_q {vf vg vo:Value} (h:CkR fz v d p all vf vp vg vo) (hs:NmS d all)
 (hm:d.predicates.length≤1000000∧d.functions.length≤1000000∧all.length≤1000000∧d.actions.length≤1000000∧d.duratives.length≤1000000):
 QFn prog 73 [v] fz (repV (Yba d all)):=by
 obtain ⟨gc,v1,v2,v3,v4,v5,v6,u1,u2,u3,u4,u5,u6,u7,Aa,na,ca,rfl,hc,hD,hP,hall⟩:=h
 obtain ⟨A1,n1,b1,rfl,i1⟩:=hD.types
 obtain ⟨A2,n2,b2,rfl,i2⟩:=hD.constants
 obtain ⟨A3,n3,b3,rfl,i3⟩:=hD.predicates
 obtain ⟨A4,n4,b4,rfl,i4⟩:=hD.functions
 obtain ⟨A5,n5,b5,rfl,i5⟩:=hD.actions
 obtain ⟨A6,n6,b6,rfl,i6⟩:=hD.duratives
 have l3:=i3.len
 have l4:=i4.len
 have l5:=i5.len
 have l6:=i6.len
 have la:=hall.len
 have s3:=i3.short
 have s4:=i4.short
 have s5:=i5.short
 have s6:=i6.short
 have sa:=hall.short
 obtain ⟨m3,m4,ma,m5,m6⟩:=hm
 refine GFn.quiet ?_
 refine zF Tryz.func73 Tryz.ntmps73 (fun w0=>?_)
 refine zV ?_;intros
 rename_i gs
 refine zV ?_;intros
 refine Yl (fun q σ fz' H'=>∃ (k:Nat) (v':Value) (Ho:HP),k≤n3∧q=n3 - k∧σ=[(25,.int .i64 k),(24,.int .i64 n3),(23,.slice A3 n3 b3),(4,.pointer (some ⟨gs,0,none⟩)),(0,.pointer (some ⟨gc,0,none⟩))]∧fz=fz'∧H'=(gs,.cells #[v',.slice none 0 0,.slice none 0 0] 198 (0,0))::Ho∧Grow paramL 200 fz v' (k) Ho ((d.predicates.take k).map (fun x=>nmd X2 x.name))) ⟨0,_,[],Z0 _,rfl,rfl,rfl,rfl,Grow.nil _ _ _⟩ Zw Zb ?_
 rintro q σ fz' H' ⟨k,v',Ho,hk,rfl,rfl,rfl,rfl,hG⟩
 obtain ⟨Ao,co,rfl,_,_⟩:=hG.form
 refine zV ?_;intros
 refine zC (fun c1=>?_) (fun c1=>?_)
 ·obtain ⟨x,hx⟩:=Yn (l:=d.predicates) (k:=k) Zi
  have hxs:=hs.p x (Zm hx)
  refine zV ?_;intros
  refine zI i3 hx (fun p1 hp=>?_)
  refine zL hp ?_
  intro cs hcs
  obtain ⟨w1,rfl,hR⟩:=XD hcs
  obtain ⟨Ap,np,cp,rfl,ip⟩:=hR.params
  have hxn:Short x.name:=by unfold Short;omega
  refine zV ?_;intros
  ((refine zG ?_);refine We T Zz Zz Zz Zz Zz Zh Zh ?_)
  refine zV ?_;intros
  refine zG ?_;refine XK Zz Zz (by show _+_≤_;exact Nat.le_trans (Nat.add_le_add_left hxs _) Zh) ?_
  refine zV ?_;intros
  refine Ya Zz (Yc T (cs:=[.string x.name,.string (X2++x.name)]) Zz Zz Zz Zz Zz Zz Zz Zz (fun gb=>?_))
  refine Ya Zz (YS T (Hr:=[_,_,_]) (d:=nmd X2 x.name) Zz Zz Zz Zz Zz Zz Zz Zz (Zr _) hG WE (.head _) (YeL hxn hxs Zh) (by show _*32≤_;omega) Zi (fun v2 Hs' hO'=>?_))
  obtain ⟨Av',cv',rfl,_,_⟩:=hO'.form
  refine zV ?_;intros
  ((refine zG ?_);refine We T Zz Zz Zz Zz Zz Zh Zh ?_)
  refine zV ?_;intros
  exact Yz ⟨k+1,_,Hs',by omega,rfl,rfl,rfl,rfl,hO'.of (by rw [List.take_add_one,hx];simp) Zi⟩ Zi Zw Zb
 ·have hk1:n3=k:=by omega
  subst hk1
  rw [show d.predicates.take n3=d.predicates from Zl Zi] at hG
  refine zV ?_;intros
  refine Yl (fun q σ fz' H'=>∃ (k:Nat) (v':Value) (Ho:HP),k≤n4∧q=n4 - k∧σ=[(47,.int .i64 k),(46,.int .i64 n4),(45,.slice A4 n4 b4),(4,.pointer (some ⟨gs,0,none⟩)),(0,.pointer (some ⟨gc,0,none⟩))]∧fz=fz'∧H'=(gs,.cells #[v',.slice none 0 0,.slice none 0 0] 198 (0,0))::Ho∧Grow paramL 200 fz v' (n3+k) Ho (d.predicates.map (fun x=>nmd X2 x.name)++(d.functions.take k).map (fun x=>nmd XB x.name))) ⟨0,_,Ho,Z0 _,rfl,rfl,rfl,rfl,hG.of (by simp) rfl⟩ Zw Zb ?_
  rintro q σ fz' H' ⟨k,v',Ho,hk,rfl,rfl,rfl,rfl,hG⟩
  obtain ⟨Ao,co,rfl,_,_⟩:=hG.form
  refine zV ?_;intros
  refine zC (fun c1=>?_) (fun c1=>?_)
  ·obtain ⟨x,hx⟩:=Yn (l:=d.functions) (k:=k) Zi
   have hxs:=hs.f x (Zm hx)
   refine zV ?_;intros
   refine zI i4 hx (fun p1 hp=>?_)
   refine zL hp ?_
   intro cs hcs
   obtain ⟨w1,rfl,hR⟩:=Y6 hcs
   obtain ⟨Ap,np,cp,rfl,ip⟩:=hR.params
   have hxn:Short x.name:=by unfold Short;omega
   refine zV ?_;intros
   ((refine zG ?_);refine We T Zz Zz Zz Zz Zz Zh Zh ?_)
   refine zV ?_;intros
   refine zG ?_;refine XK Zz Zz (by show _+_≤_;exact Nat.le_trans (Nat.add_le_add_left hxs _) Zh) ?_
   refine zV ?_;intros
   refine Ya Zz (Yc T (cs:=[.string x.name,.string (XB++x.name)]) Zz Zz Zz Zz Zz Zz Zz Zz (fun gb=>?_))
   refine Ya Zz (YS T (Hr:=[_,_,_]) (d:=nmd XB x.name) Zz Zz Zz Zz Zz Zz Zz Zz (Zr _) hG WE (.head _) (YeL hxn hxs Zh) (by show _*32≤_;omega) Zi (fun v2 Hs' hO'=>?_))
   obtain ⟨Av',cv',rfl,_,_⟩:=hO'.form
   refine zV ?_;intros
   ((refine zG ?_);refine We T Zz Zz Zz Zz Zz Zh Zh ?_)
   refine zV ?_;intros
   exact Yz ⟨k+1,_,Hs',by omega,rfl,rfl,rfl,rfl,hO'.of (by rw [List.take_add_one,hx];simp) Zi⟩ Zi Zw Zb
  ·have hk1:n4=k:=by omega
   subst hk1
   rw [show d.functions.take n4=d.functions from Zl Zi] at hG
   have hG0:Grow paramL 200 fz _ (n3+n4) Ho (YeM d):=hG
   clear hG
   refine zV ?_;intros
   refine Yl (fun q σ fz' H'=>∃ (k:Nat) (v':Value) (H1:HP),k≤na∧q=na - k∧σ=[(68,.int .i64 k),(67,.int .i64 na),(66,.slice Aa na ca),(4,.pointer (some ⟨gs,0,none⟩)),(0,.pointer (some ⟨gc,0,none⟩))]∧fz=fz'∧H'=(gs,.cells #[.slice Ao (n3+n4) co,v',.slice none 0 0] 198 (0,0))::(Ho++H1)∧Grow paramL 200 fz v' (k) H1 ((all.take k).map (fun x=>nmd YbD x.name))) ⟨0,_,[],Z0 _,rfl,rfl,rfl,(by rw [List.append_nil]),Grow.nil _ _ _⟩ Zw Zb ?_
   rintro q σ fz' H' ⟨k,v',H1,hk,rfl,rfl,rfl,rfl,hG⟩
   obtain ⟨A1',c1',rfl,_,_⟩:=hG.form
   refine zV ?_;intros
   refine zC (fun c1=>?_) (fun c1=>?_)
   ·obtain ⟨x,hx⟩:=Yn (l:=all) (k:=k) Zi
    have hxs:=hs.o x (Zm hx)
    refine zV ?_;intros
    refine zI hall hx (fun p1 hp=>?_)
    refine zL hp ?_
    intro cs hcs
    obtain ⟨rfl,hR⟩:=YV hcs
    have hxn:Short x.name:=by unfold Short;omega
    refine zV ?_;intros
    ((refine zG ?_);refine We T Zz Zz Zz Zz Zz Zh Zh ?_)
    refine zV ?_;intros
    refine zG ?_;refine XK Zz Zz (by show _+_≤_;exact Nat.le_trans (Nat.add_le_add_left hxs _) Zh) ?_
    refine zV ?_;intros
    refine Ya Zz (Yc T (cs:=[.string x.name,.string (YbD++x.name)]) Zz Zz Zz Zz Zz Zz Zz Zz (fun gb=>?_))
    refine Ya Zz (YS T (Hr:=_::_::_::Ho) (d:=nmd YbD x.name) Zz Zz Zz Zz Zz Zz Zz Zz (Zr _) hG WE (.head _) (YeL hxn hxs Zh) (by show _*32≤_;omega) Zi (fun v2 Hs' hO'=>?_))
    obtain ⟨Av',cv',rfl,_,_⟩:=hO'.form
    refine zV ?_;intros
    ((refine zG ?_);refine We T Zz Zz Zz Zz Zz Zh Zh ?_)
    refine zV ?_;intros
    exact Yz ⟨k+1,_,Hs',by omega,rfl,rfl,rfl,rfl,hO'.of (by rw [List.take_add_one,hx];simp) Zi⟩ Zi Zw Zb
   ·have hk1:na=k:=by omega
    subst hk1
    rw [show all.take na=all from Zl Zi] at hG
    have hG1:Grow paramL 200 fz _ na H1 (YdY all):=hG
    clear hG
    refine zV ?_;intros
    refine Yl (fun q σ fz' H'=>∃ (k:Nat) (v':Value) (H2:HP),k≤n5∧q=n5 - k∧σ=[(90,.int .i64 k),(89,.int .i64 n5),(88,.slice A5 n5 b5),(4,.pointer (some ⟨gs,0,none⟩)),(0,.pointer (some ⟨gc,0,none⟩))]∧fz=fz'∧H'=(gs,.cells #[.slice Ao (n3+n4) co,.slice A1' na c1',v'] 198 (0,0))::((Ho++H1)++H2)∧Grow paramL 200 fz v' (k) H2 ((d.actions.take k).map (fun x=>nmd Wx x.name))) ⟨0,_,[],Z0 _,rfl,rfl,rfl,(by rw [List.append_nil]),Grow.nil _ _ _⟩ Zw Zb ?_
    rintro q σ fz' H' ⟨k,v',H2,hk,rfl,rfl,rfl,rfl,hG⟩
    obtain ⟨A2',c2',rfl,_,_⟩:=hG.form
    refine zV ?_;intros
    refine zC (fun c1=>?_) (fun c1=>?_)
    ·obtain ⟨x,hx⟩:=Yn (l:=d.actions) (k:=k) Zi
     have hxs:=hs.a x (Zm hx)
     refine zV ?_;intros
     refine zI i5 hx (fun p1 hp=>?_)
     refine zL hp ?_
     intro cs hcs
     obtain ⟨w1,w2,w3,w4,w5,w6,rfl,hR⟩:=Xz hcs
     obtain ⟨Ap,np,cp,rfl,ip⟩:=hR.params
     obtain ⟨B0,e0,j0,rfl,_⟩:=hR.pre.args
     obtain ⟨B1,e1,j1,rfl,_⟩:=hR.pre.params
     obtain ⟨B2,e2,j2,rfl,_⟩:=hR.pre.exprs
     obtain ⟨B3,e3,j3,rfl,_⟩:=hR.pre.kids
     obtain ⟨B4,e4,j4,rfl,_⟩:=hR.changes
     have hxn:Short x.name:=by unfold Short;omega
     refine zV ?_;intros
     ((refine zG ?_);refine We T Zz Zz Zz Zz Zz Zh Zh ?_)
     refine zV ?_;intros
     refine zG ?_;refine XK Zz Zz (by show _+_≤_;exact Nat.le_trans (Nat.add_le_add_left hxs _) Zh) ?_
     refine zV ?_;intros
     refine Ya Zz (Yc T (cs:=[.string x.name,.string (Wx++x.name)]) Zz Zz Zz Zz Zz Zz Zz Zz (fun gb=>?_))
     refine Ya Zz (YS T (Hr:=_::_::_::(Ho++H1)) (d:=nmd Wx x.name) Zz Zz Zz Zz Zz Zz Zz Zz (Zr _) hG WE (.head _) (YeL hxn hxs Zh) (by show _*32≤_;omega) Zi (fun v2 Hs' hO'=>?_))
     obtain ⟨Av',cv',rfl,_,_⟩:=hO'.form
     refine zV ?_;intros
     ((refine zG ?_);refine We T Zz Zz Zz Zz Zz Zh Zh ?_)
     refine zV ?_;intros
     exact Yz ⟨k+1,_,Hs',by omega,rfl,rfl,rfl,rfl,hO'.of (by rw [List.take_add_one,hx];simp) Zi⟩ Zi Zw Zb
    ·have hk1:n5=k:=by omega
     subst hk1
     rw [show d.actions.take n5=d.actions from Zl Zi] at hG
     refine zV ?_;intros
     refine Yl (fun q σ fz' H'=>∃ (k:Nat) (v':Value) (H2:HP),k≤n6∧q=n6 - k∧σ=[(112,.int .i64 k),(111,.int .i64 n6),(110,.slice A6 n6 b6),(4,.pointer (some ⟨gs,0,none⟩))]∧fz=fz'∧H'=(gs,.cells #[.slice Ao (n3+n4) co,.slice A1' na c1',v'] 198 (0,0))::((Ho++H1)++H2)∧Grow paramL 200 fz v' (n5+k) H2 (d.actions.map (fun x=>nmd Wx x.name)++(d.duratives.take k).map (fun x=>nmd XC x.name))) ⟨0,_,H2,Z0 _,rfl,rfl,rfl,rfl,hG.of (by simp) rfl⟩ Zw Zb ?_
     rintro q σ fz' H' ⟨k,v',H2,hk,rfl,rfl,rfl,rfl,hG⟩
     obtain ⟨A2',c2',rfl,_,_⟩:=hG.form
     refine zV ?_;intros
     refine zC (fun c1=>?_) (fun c1=>?_)
     ·obtain ⟨x,hx⟩:=Yn (l:=d.duratives) (k:=k) Zi
      have hxs:=hs.u x (Zm hx)
      refine zV ?_;intros
      refine zI i6 hx (fun p1 hp=>?_)
      refine zL hp ?_
      intro cs hcs
      obtain ⟨w0,w1,w2,w3,w4,w5,w6,w7,w8,w9,w10,w11,w12,w13,w14,rfl,hR⟩:=Xm hcs
      obtain ⟨Ap,np,cp,rfl,ip⟩:=hR.params
      obtain ⟨B0,e0,j0,rfl,_⟩:=hR.start.args
      obtain ⟨B1,e1,j1,rfl,_⟩:=hR.start.params
      obtain ⟨B2,e2,j2,rfl,_⟩:=hR.start.exprs
      obtain ⟨B3,e3,j3,rfl,_⟩:=hR.start.kids
      obtain ⟨B4,e4,j4,rfl,_⟩:=hR.over.args
      obtain ⟨B5,e5,j5,rfl,_⟩:=hR.over.params
      obtain ⟨B6,e6,j6,rfl,_⟩:=hR.over.exprs
      obtain ⟨B7,e7,j7,rfl,_⟩:=hR.over.kids
      obtain ⟨B8,e8,j8,rfl,_⟩:=hR.fin.args
      obtain ⟨B9,e9,j9,rfl,_⟩:=hR.fin.params
      obtain ⟨B10,e10,j10,rfl,_⟩:=hR.fin.exprs
      obtain ⟨B11,e11,j11,rfl,_⟩:=hR.fin.kids
      obtain ⟨B12,e12,j12,rfl,_⟩:=hR.atStart
      obtain ⟨B13,e13,j13,rfl,_⟩:=hR.atEnd
      have hxn:Short x.name:=by unfold Short;omega
      refine zV ?_;intros
      ((refine zG ?_);refine We T Zz Zz Zz Zz Zz Zh Zh ?_)
      refine zV ?_;intros
      refine zG ?_;refine XK Zz Zz (by show _+_≤_;exact Nat.le_trans (Nat.add_le_add_left hxs _) Zh) ?_
      refine zV ?_;intros
      refine Ya Zz (Yc T (cs:=[.string x.name,.string (XC++x.name)]) Zz Zz Zz Zz Zz Zz Zz Zz (fun gb=>?_))
      refine Ya Zz (YS T (Hr:=_::_::_::(Ho++H1)) (d:=nmd XC x.name) Zz Zz Zz Zz Zz Zz Zz Zz (Zr _) hG WE (.head _) (YeL hxn hxs Zh) (by show _*32≤_;omega) Zi (fun v2 Hs' hO'=>?_))
      obtain ⟨Av',cv',rfl,_,_⟩:=hO'.form
      refine zV ?_;intros
      ((refine zG ?_);refine We T Zz Zz Zz Zz Zz Zh Zh ?_)
      refine zV ?_;intros
      exact Yz ⟨k+1,_,Hs',by omega,rfl,rfl,rfl,rfl,hO'.of (by rw [List.take_add_one,hx];simp) Zi⟩ Zi Zw Zb
     ·have hk1:n6=k:=by omega
      subst hk1
      rw [show d.duratives.take n6=d.duratives from Zl Zi] at hG
      have hG2:Grow paramL 200 fz _ (n5+n6) H2 (YfN d):=hG
      clear hG
      refine zV ?_;intros
      refine Yl (fun q σ fz' H'=>∃ k:Nat,k≤3∧q=3 - k∧σ=[(129,.int .i64 k),(128,.agg #[.slice Ao (n3+n4) co,.slice A1' na c1',.slice A2' (n5+n6) c2'])]∧fz=fz'∧H'=(gs,.cells #[.slice Ao (n3+n4) co,.slice A1' na c1',.slice A2' (n5+n6) c2'] 198 (0,0))::((Ho++H1)++H2)∧(0<k→repM [] (YeM d)=none)∧(1<k→repM [] (YdY all)=none)∧(2<k→repM [] (YfN d)=none)) ⟨0,by omega,rfl,rfl,rfl,rfl,fun h0=>by omega,fun h0=>by omega,fun h0=>by omega⟩ Zw Zb ?_
      rintro q σ fz' H' ⟨k,hk,rfl,rfl,rfl,rfl,z0,z1,z2⟩
      refine zV ?_;intros
      refine zC (fun c1=>?_) (fun c1=>?_)
      ·have hk3:k=0∨k=1∨k=2:=by omega
       rcases hk3 with rfl | rfl | rfl
       ·refine zV ?_;intros
        refine zG ?_;refine Ygi T Zz Zz Zz Zz Zz Zz Zz Zh Zh Zz ?_
        refine zV ?_;intros
        (refine zG ?_);refine YbL (v:=repV (repM [] (YeM d))) Zz Zz (fun fz' hl hf=>by
         obtain ⟨A',c',he,hsl⟩:=hG0.sl hl (fun p hp=>hf p (by simp [hp])) Zi
         injection he with x1 x2 x3
         subst x1 x3
         exact Ydt hsl) ?_
        cases hr:repM [] (YeM d) with
        | some pl=>
         rw [show repV (some pl)=.tuple #[.string pl,.iface 65 (.int .i64 4)] from rfl]
         refine zV ?_;intros
         exact ret2 rfl rfl rfl Zb (by rw [Yba,hr];rfl)
        | none=>
         rw [show repV none=.tuple #[.string ⟨#[]⟩,.nilIface] from rfl]
         refine zV ?_;intros
         exact Yz ⟨1,by omega,rfl,rfl,rfl,rfl,fun _=>rfl,fun h0=>by omega,fun h0=>by omega⟩ Zi Zw Zb
       ·refine zV ?_;intros
        refine zG ?_;refine Ygi T Zz Zz Zz Zz Zz Zz Zz Zh Zh Zz ?_
        refine zV ?_;intros
        (refine zG ?_);refine YbL (v:=repV (repM [] (YdY all))) Zz Zz (fun fz' hl hf=>by
         obtain ⟨A',c',he,hsl⟩:=hG1.sl hl (fun p hp=>hf p (by simp [hp])) Zi
         injection he with x1 x2 x3
         subst x1 x3
         exact Ydt hsl) ?_
        cases hr:repM [] (YdY all) with
        | some pl=>
         rw [show repV (some pl)=.tuple #[.string pl,.iface 65 (.int .i64 4)] from rfl]
         refine zV ?_;intros
         exact ret2 rfl rfl rfl Zb (by rw [Yba,z0 Zi,hr];rfl)
        | none=>
         rw [show repV none=.tuple #[.string ⟨#[]⟩,.nilIface] from rfl]
         refine zV ?_;intros
         exact Yz ⟨2,by omega,rfl,rfl,rfl,rfl,fun _=>z0 Zi,fun _=>rfl,fun h0=>by omega⟩ Zi Zw Zb
       ·refine zV ?_;intros
        refine zG ?_;refine Ygi T Zz Zz Zz Zz Zz Zz Zz Zh Zh Zz ?_
        refine zV ?_;intros
        (refine zG ?_);refine YbL (v:=repV (repM [] (YfN d))) Zz Zz (fun fz' hl hf=>by
         obtain ⟨A',c',he,hsl⟩:=hG2.sl hl (fun p hp=>hf p (by simp [hp])) Zi
         injection he with x1 x2 x3
         subst x1 x3
         exact Ydt hsl) ?_
        cases hr:repM [] (YfN d) with
        | some pl=>
         rw [show repV (some pl)=.tuple #[.string pl,.iface 65 (.int .i64 4)] from rfl]
         refine zV ?_;intros
         exact ret2 rfl rfl rfl Zb (by rw [Yba,z0 Zi,z1 Zi,hr];rfl)
        | none=>
         rw [show repV none=.tuple #[.string ⟨#[]⟩,.nilIface] from rfl]
         refine zV ?_;intros
         exact Yz ⟨3,by omega,rfl,rfl,rfl,rfl,fun _=>z0 Zi,fun _=>z1 Zi,fun _=>rfl⟩ Zi Zw Zb
      ·refine zV ?_;intros
       exact ret2 rfl rfl rfl Zb (by rw [Yba,z0 Zi,z1 Zi,z2 Zi];rfl)
def Yib (op:Bs):Prop:=op=XZ∨op=WX
def ownM (d:Domain) (all vars:List Param) (op:Bs) (args:List Bs) (params:List Param):Int:=
 if op=kSame then (if ∀ a∈args,(Ydg all vars a).isSome=true then 0 else 8)
 else if Yib op then (if TwP [] (parN params) then 4 else if ExP d.types params then 0 else 3)
 else 0
def varsM (vars:List Param) (op:Bs) (params:List Param):List Param:=if op=kSame then vars else if Yib op then vars++params else vars
mutual
def formM (d:Domain) (all:List Param):List Param→Formula→Int
 | vars,.mk op name args params exprs kids=>
  if op=kAtom then atomM d all vars name args
  else if ownM d all vars op args params≠0 then ownM d all vars op args params
  else if exprML d all (varsM vars op params) exprs≠0 then exprML d all (varsM vars op params) exprs
  else formML d all (varsM vars op params) kids
def formML (d:Domain) (all:List Param):List Param→List Formula→Int
 | _,[]=>0
 | vars,k::r=>if formM d all vars k=0 then formML d all vars r else formM d all vars k
end
variable {vars:List Param}
theorem YgE (f:Formula):formM d all vars f=if f.op=kAtom then atomM d all vars f.name f.args
 else if ownM d all vars f.op f.args f.params≠0 then ownM d all vars f.op f.args f.params
 else if exprML d all (varsM vars f.op f.params) f.exprs≠0 then exprML d all (varsM vars f.op f.params) f.exprs
 else formML d all (varsM vars f.op f.params) f.kids:=by cases f;rw [formM];rfl
theorem YhL {d:Domain} {all vars:List Param}:∀ {l:List Formula} {k:Nat} {x:Formula},l[k]?=some x→(∀ i,i<k→∀ y,l[i]?=some y→formM d all vars y=0)→formM d all vars x≠0→formML d all vars l=formM d all vars x
 | [],k,x,h,_,_=>by simp at h
 | y::l,0,x,h,_,hx=>by simp at h;subst h;rw [formML,if_neg hx]
 | y::l,k+1,x,h,hh,hx=>by
  rw [formML,if_pos (hh 0 Zi y rfl)]
  exact YhL (k:=k) (by simpa using h) (fun i hi z hz=>hh (i+1) Zi z (by simpa using hz)) hx
theorem YeW {d:Domain} {all vars:List Param}:∀ {l:List Formula},(∀ y∈l,formM d all vars y=0)→formML d all vars l=0
 | [],_=>by rw [formML]
 | y::l,h=>by rw [formML,if_pos (h y (by simp))];exact YeW (fun z hz=>h z (by simp [hz]))
variable {f:Formula}
theorem kids_w {k:Formula} (h:k∈f.kids):fW k+f.params.length≤fW f:=by
 have:=Yin (w:=fW) h
 rw [fW_eq f];omega
set_option maxHeartbeats 8000000 in
theorem Ymv:∀ (s:Nat) {fz:FZ} {v:Value} {d:Domain} {p:Problem} {all vars:List Param} {f:Formula} {va vp ve vk:Value} {A:Option Addr} {n c:Nat},SizeOf.sizeOf f≤s→CkG fz v d p all→Sl paramL fz A n c vars→FormulaR fz f va vp ve vk→n+fW f≤1000000000→
 QFn prog 124 [v,.slice A n c,.agg #[.string f.op,.string f.name,va,vp,ve,vk]] fz (errV (formM d all vars f))
 | 0,_,_,_,_,_,_,f,_,_,_,_,_,_,_,hse,_,_,_,_=>by cases f;simp at hse
 | s+1,fz,v,d,p,all,vars,f,va,vp,ve,vk,A,n,c,hse,h,h1,hR,hW=>by
  have h0:=h
  obtain ⟨⟨vf,vpp,vg,vo,hck,hF,hPr,hFu,hO⟩,hw⟩:=h
  have hck0:=hck
  obtain ⟨gc,v1,v2,v3,v4,v5,v6,u1,u2,u3,u4,u5,u6,u7,Aa,na,ca,rfl,hc,hD,hP,hall⟩:=hck
  obtain ⟨B1,m1,d1,rfl,ia⟩:=hR.args
  obtain ⟨B2,m2,d2,rfl,ip⟩:=hR.params
  obtain ⟨B3,m3,d3,rfl,ie⟩:=hR.exprs
  obtain ⟨B4,m4,d4,rfl,ik⟩:=hR.kids
  have l1:=ia.len
  have l2:=ip.len
  have l3:=ie.len
  have l4:=ik.len
  have ln:=h1.len
  have s1:=ia.short
  have s3:=ie.short
  have s4:=ik.short
  have hwp:f.params.length≤fW f:=by rw [fW_eq];omega
  refine GFn.quiet ?_
  refine zF Tryz.func124 Tryz.ntmps124 (fun w0=>?_)
  refine Yk (Yr (Ya Zz (Xc _ Zz Zz (fun g0=>?_))))
  refine zWO ?_;intros
  by_cases hat:f.op=kAtom
  ·refine zV ?_;intros
   refine zc (Yi1 h0 h1 ia) ?_
   refine zV ?_;intros
   exact zR (h:=by rw [YgE,if_pos hat])
  ·have e1:formM d all vars f=if ownM d all vars f.op f.args f.params≠0 then ownM d all vars f.op f.args f.params else if exprML d all (varsM vars f.op f.params) f.exprs≠0 then exprML d all (varsM vars f.op f.params) f.exprs else formML d all (varsM vars f.op f.params) f.kids:=by rw [YgE,if_neg hat]
   refine zVX ?_;intros
   refine Yk (Wp.mid (fun σ fz' H'=>∃ (A':Option Addr) (n' c':Nat),σ=[(5,.pointer (some ⟨g0,0,none⟩)),(0,.pointer (some ⟨gc,0,none⟩)),(1,.slice A' n' c')]∧Le fz fz'∧H'=[(g0,.cells #[.string f.op,.string f.name,.slice B1 m1 d1,.slice B2 m2 d2,.slice B3 m3 d3,.slice B4 m4 d4] 38 (0,0))]∧Sl paramL fz' A' n' c' (varsM vars f.op f.params)∧n'≤n+f.params.length∧ownM d all vars f.op f.args f.params=0) ?_ ?_)
   ·refine zV ?_;intros
    by_cases hsa:f.op=kSame
    ·have e2:varsM vars f.op f.params=vars:=if_pos hsa
     have e3:ownM d all vars f.op f.args f.params=if ∀ a∈f.args,(Ydg all vars a).isSome=true then 0 else 8:=if_pos hsa
     refine zV ?_;intros
     refine Yl (fun q σ fz' H'=>∃ k:Nat,k≤m1∧q=m1 - k∧σ=[(35,.int .i64 k),(34,.int .i64 m1),(33,.slice B1 m1 d1),(5,.pointer (some ⟨g0,0,none⟩)),(0,.pointer (some ⟨gc,0,none⟩)),(1,.slice A n c)]∧fz=fz'∧H'=[(g0,.cells #[.string f.op,.string f.name,.slice B1 m1 d1,.slice B2 m2 d2,.slice B3 m3 d3,.slice B4 m4 d4] 38 (0,0))]∧(∀ i,i<k→∀ x,f.args[i]?=some x→(Ydg all vars x).isSome=true)) ⟨0,Z0 _,rfl,rfl,rfl,rfl,fun i hi=>absurd hi Zi⟩ Zw Zb ?_
     rintro q σ fz' H' ⟨k,hk,rfl,rfl,rfl,rfl,hh⟩
     refine zV ?_;intros
     refine zC (fun c1=>?_) (fun c1=>?_)
     ·obtain ⟨x,hx⟩:=Yn (l:=f.args) (k:=k) Zi
      refine zV ?_;intros
      refine zI ia hx (fun p1 hp1=>?_)
      refine zH hp1 (fun hxs=>?_)
      refine zV ?_;intros
      refine zc (find_q hck0 hO h1 hxs) ?_
      cases hr:Ydg all vars x with
      | none=>
       have e4:ownM d all vars f.op f.args f.params=8:=by rw [e3,if_neg];intro h9;have:=h9 x (Zm hx);rw [hr] at this;cases this
       rw [show Yl9 none=.tuple #[.string ⟨#[]⟩,.iface 65 (.int .i64 8)] from rfl]
       refine zV ?_;intros
       exact zR (h:=by rw [e1,if_pos (by rw [e4];decide),e4];rfl)
      | some t=>
       rw [show Yl9 (some t)=.tuple #[.string t,.nilIface] from rfl]
       refine zV ?_;intros
       exact Yz ⟨k+1,by omega,rfl,rfl,rfl,rfl,YL (p:=fun x=>(Ydg all vars x).isSome=true) hh hx (by rw [hr];rfl)⟩ Zi Zw Zb
     ·have hA:=Xs hh Zi
      refine zV ?_;intros
      exact midN ⟨A,n,c,rfl,Le.refl _,rfl,by rw [e2];exact h1,by omega,by rw [e3,if_pos hA]⟩ Zw Zb
    ·have wf:¬f.op=kSame:=hsa
     by_cases hq:Yib f.op
     ·have e2:varsM vars f.op f.params=vars++f.params:=by rw [varsM,if_neg hsa,if_pos hq]
      have e3:ownM d all vars f.op f.args f.params=if TwP [] (parN f.params) then 4 else if ExP d.types f.params then 0 else 3:=by rw [ownM,if_neg hsa,if_pos hq]
      refine zVX ?_;intros
      refine Yk (Wp.mid (fun σ fz' H'=>σ=[(50,.bool true),(5,.pointer (some ⟨g0,0,none⟩)),(0,.pointer (some ⟨gc,0,none⟩)),(1,.slice A n c)]∧fz=fz'∧H'=[(g0,.cells #[.string f.op,.string f.name,.slice B1 m1 d1,.slice B2 m2 d2,.slice B3 m3 d3,.slice B4 m4 d4] 38 (0,0))]) ?_ ?_)
      ·rcases hq with w1 | w2
       ·refine zV ?_;intros
        exact midN ⟨rfl,rfl,rfl⟩ Zw Zb
       ·have w1:¬f.op=XZ:=by rw [w2];decide
        refine zV ?_;intros
        exact midN ⟨rfl,rfl,rfl⟩ Zw Zb
      ·rintro σ fz1 H' ⟨rfl,rfl,rfl⟩
       refine zV ?_;intros
       ((refine zG ?_);refine Yw Zz Zz (Yii ip (Sl.nil (A:=none) (c:=0) Zi)) ?_)
       rw [show parN ([]:List Param)=[] from rfl]
       by_cases ht:TwP [] (parN f.params)
       ·rw [if_pos ht,show errV 4=.iface 65 (.int .i64 4) from rfl]
        refine zV ?_;intros
        exact zR (h:=by rw [e1,e3,if_pos ht,if_pos Zh];rfl)
       ·rw [if_neg ht,show errV 0=.nilIface from rfl]
        refine zV ?_;intros
        refine zc (YiS hck0 hF ip) ?_
        by_cases hx:ExP d.types f.params
        ·rw [if_pos hx,show errV 0=.nilIface from rfl]
         refine zV ?_;intros
         refine Wp.drawK (Hq:=[_]) T.mixed Zj Zj Zb ?_
         refine zW ?_;intros
         refine Yf ?_
         refine zW ?_;intros
         refine Yf ?_
         refine Yf ?_
         refine YM ⟨by kernel_rfl,?_⟩
         refine Yt (Ym [] [_] Zz Zz Zz (YaP h1 Zi) (fun v6 fz6 H6 hle6 hR6=>⟨(⟨hle6,Zx⟩),?_⟩))
         obtain ⟨Av,cv,rfl,_,_⟩:=hR6.form
         refine Yt (WF T (Hr:=[_]) Zz Zz Zz Zz Zz Zz Zz Zz Zq hR6 WE (ip.mono hle6) (by show _*32≤_;omega) Zi (fun v7 H7 hO7=>⟨(⟨hle6,Zx⟩),?_⟩))
         obtain ⟨Aw,cw,rfl,_,_⟩:=hO7.form
         refine Ch.qk (⟨hle6,Zx⟩) (YJ Zz ?_)
         refine Ch.done ?_
         refine zW ?_;intros
         exact midF (H':=[_]) (H2:=H7) (Zr _) (fun fz8 hle8 hf8=>by
          obtain ⟨A8,c8,e8,h8⟩:=hO7.sl hle8 hf8 Zi
          injection e8 with e81 e82 e83
          subst e81;subst e83
          exact ⟨Aw,_,cw,rfl,hle6.trans hle8,rfl,by rw [e2];exact h8,by omega,by rw [e3,if_neg ht,if_pos hx]⟩) Zw
        ·rw [if_neg hx,show errV 3=.iface 65 (.int .i64 3) from rfl]
         refine zV ?_;intros
         exact zR (h:=by rw [e1,e3,if_neg ht,if_neg hx,if_pos Zh];rfl)
     ·have w1:¬f.op=XZ:=fun h=>hq (.inl h)
      have w2:¬f.op=WX:=fun h=>hq (.inr h)
      have e2:varsM vars f.op f.params=vars:=by rw [varsM,if_neg hsa,if_neg hq]
      have e3:ownM d all vars f.op f.args f.params=0:=by rw [ownM,if_neg hsa,if_neg hq]
      refine zV ?_;intros
      exact midN ⟨A,n,c,rfl,Le.refl _,rfl,by rw [e2];exact h1,by omega,e3⟩ Zw Zb
   ·rintro σ fz1 H' ⟨A',n',c',rfl,hle,rfl,h1',hn',ho0⟩
    have e2:formM d all vars f=if exprML d all (varsM vars f.op f.params) f.exprs≠0 then exprML d all (varsM vars f.op f.params) f.exprs else formML d all (varsM vars f.op f.params) f.kids:=by rw [e1,if_neg (by rw [ho0];decide)]
    generalize hvs:varsM vars f.op f.params=vars' at h1' e2
    have h0':=h0.mono hle
    have ie':=ie.mono hle
    have ik':=ik.mono hle
    have hcg:=hle _ _ hc
    refine zVX ?_;intros
    refine Yk (Wp.mid (fun σ fz' H'=>σ=[(5,.pointer (some ⟨g0,0,none⟩)),(0,.pointer (some ⟨gc,0,none⟩)),(1,.slice A' n' c')]∧fz1=fz'∧H'=[(g0,.cells #[.string f.op,.string f.name,.slice B1 m1 d1,.slice B2 m2 d2,.slice B3 m3 d3,.slice B4 m4 d4] 38 (0,0))]∧exprML d all vars' f.exprs=0) ?_ ?_)
    ·refine zV ?_;intros
     refine Yl (fun q σ fz' H'=>∃ k:Nat,k≤m3∧q=m3 - k∧σ=[(74,.int .i64 k),(73,.int .i64 m3),(72,.slice B3 m3 d3),(5,.pointer (some ⟨g0,0,none⟩)),(0,.pointer (some ⟨gc,0,none⟩)),(1,.slice A' n' c')]∧fz1=fz'∧H'=[(g0,.cells #[.string f.op,.string f.name,.slice B1 m1 d1,.slice B2 m2 d2,.slice B3 m3 d3,.slice B4 m4 d4] 38 (0,0))]∧(∀ i,i<k→∀ y,f.exprs[i]?=some y→exprM d all vars' y=0)) ⟨0,Z0 _,rfl,rfl,rfl,rfl,fun i hi=>absurd hi Zi⟩ Zw Zb ?_
     rintro q σ fz' H' ⟨k,hk,rfl,rfl,rfl,rfl,hh⟩
     refine zV ?_;intros
     refine zC (fun c1=>?_) (fun c1=>?_)
     ·obtain ⟨x,hx⟩:=Yn (l:=f.exprs) (k:=k) Zi
      refine zV ?_;intros
      refine zI ie' hx (fun p1 hp1=>?_)
      refine zL hp1 ?_
      intro cs hcs
      obtain ⟨wa,wk,rfl,hRx⟩:=YT hcs
      obtain ⟨E1,r1,q1,rfl,_⟩:=hRx.args
      obtain ⟨E2,r2,q2,rfl,_⟩:=hRx.kids
      refine zV ?_;intros
      refine zc (Ymw h0' h1' hRx) ?_
      by_cases hz:exprM d all vars' x=0
      ·rw [hz,show errV 0=.nilIface from rfl]
       refine zV ?_;intros
       exact Yz ⟨k+1,by omega,rfl,rfl,rfl,rfl,YL hh hx hz⟩ Zi Zw Zb
      ·rw [Yj hz]
       refine zV ?_;intros
       exact zR (h:=by rw [e2,Ye5 hx hh hz,if_pos hz,Yj hz])
     ·have hA:=Xs hh Zi
      refine zV ?_;intros
      exact midN ⟨rfl,rfl,rfl,YcO hA⟩ Zw Zb
    ·rintro σ fz2 H' ⟨rfl,rfl,rfl,hez⟩
     have e3:formM d all vars f=formML d all vars' f.kids:=by rw [e2,hez,if_neg Zh]
     refine zV ?_;intros
     refine Yl (fun q σ fz' H'=>∃ k:Nat,k≤m4∧q=m4 - k∧σ=[(89,.int .i64 k),(88,.int .i64 m4),(87,.slice B4 m4 d4),(0,.pointer (some ⟨gc,0,none⟩)),(1,.slice A' n' c')]∧fz1=fz'∧H'=[]∧(∀ i,i<k→∀ y,f.kids[i]?=some y→formM d all vars' y=0)) ⟨0,Z0 _,rfl,rfl,rfl,rfl,fun i hi=>absurd hi Zi⟩ Zw Zb ?_
     rintro q σ fz' H' ⟨k,hk,rfl,rfl,rfl,rfl,hh⟩
     refine zV ?_;intros
     refine zC (fun c1=>?_) (fun c1=>?_)
     ·obtain ⟨x,hx⟩:=Yn (l:=f.kids) (k:=k) Zi
      have hlt:=Lx.Formula.kids_lt (Zm hx)
      have hkw:=kids_w (Zm hx)
      refine zV ?_;intros
      refine zI ik' hx (fun p1 hp1=>?_)
      refine zL hp1 ?_
      intro cs hcs
      obtain ⟨wa,wp,we,wk,rfl,hRx⟩:=YK hcs
      obtain ⟨E1,r1,q1,rfl,_⟩:=hRx.args
      obtain ⟨E2,r2,q2,rfl,_⟩:=hRx.params
      obtain ⟨E3,r3,q3,rfl,_⟩:=hRx.exprs
      obtain ⟨E4,r4,q4,rfl,_⟩:=hRx.kids
      refine zV ?_;intros
      ((refine zG ?_);refine Yw Zz Zz (Ymv s Zi h0' h1' hRx Zi) ?_)
      by_cases hz:formM d all vars' x=0
      ·rw [hz,show errV 0=.nilIface from rfl]
       refine zV ?_;intros
       exact Yz ⟨k+1,by omega,rfl,rfl,rfl,rfl,YL hh hx hz⟩ Zi Zw Zb
      ·rw [Yj hz]
       refine zV ?_;intros
       exact zR (h:=by rw [e3,YhL hx hh hz,Yj hz])
     ·have hA:=Xs hh Zi
      refine zV ?_;intros
      exact zR (h:=by rw [e3,YeW hA];rfl)
variable {A:Option Addr} {c n:Nat} {va ve vk:Value}
theorem YgU (h:CkG fz v d p all) (h1:Sl paramL fz A n c vars) (hR:FormulaR fz f va vp ve vk) (hW:n+fW f≤1000000000):
 QFn prog 124 [v,.slice A n c,.agg #[.string f.op,.string f.name,va,vp,ve,vk]] fz (errV (formM d all vars f)):=Ymv _ (Zs _) h h1 hR hW
theorem YeS {l:List Lx.Formula} {ff:FuncId} {cap:List Value} {p:Lx.Formula→Prop} [DecidablePred p] (h1:Sl Y1 fz A n c l) (hq:∀ x∈l,∀ cs,Y1.rep fz x cs→QFn prog ff (.agg cs.toArray::cap) fz (.bool (decide (p x)))):
 QFn prog 161 [.slice A n c,.func (.func ff) #[] cap.toArray] fz (.int .i64 (Wt p l 0)):=by
 refine GFn.quiet ?_
 refine zF Tryz.func161 Tryz.ntmps161 (fun w0=>?_)
 have l1:=h1.len
 have hm:=h1.short
 refine zW ?_;intros
 refine Yl (fun q σ fz' H'=>∃ k:Nat,k≤n∧q=n - k∧σ=[(8,.int .i64 k),(7,.int .i64 n),(0,.slice A n c),(1,.func (.func ff) #[] cap.toArray)]∧fz=fz'∧H'=[]∧(∀ i,i<k→∀ x,l[i]?=some x→¬p x)) ⟨0,Z0 _,rfl,rfl,rfl,rfl,(fun i hi=>absurd hi Zi)⟩ Zw Zb ?_;rintro q σ fz' H' ⟨k,hk,rfl,rfl,rfl,rfl,hh⟩
 refine zW ?_;intros
 refine zC (fun hlt=>?_) (fun hge=>?_)
 ·refine zW ?_;intros
  obtain ⟨x,hx⟩:=Yn (l:=l) (k:=k) Zi
  refine zI h1 hx (fun a ha=>?_)
  refine zL ha ?_
  intro cs hcs
  refine zW ?_;intros
  ((refine zG ?_);refine WQ Zz Zz Zz (hq x (Zm hx) cs hcs) (fun c1=>?_) (fun c1=>?_))
  ·refine zW ?_;intros
   exact zR (h:=by rw [WP hh hx c1,Int.zero_add])
  ·refine zW ?_;intros
   exact Yz ⟨k+1,by omega,rfl,rfl,rfl,rfl,(YL hh hx c1)⟩ Zi Zw Zb
 ·refine zW ?_;intros
  exact zR (h:=by rw [Wi (Xs hh Zi)])
theorem Ybd {l:List Lx.Formula} {ff:FuncId} {cap:List Value} {p:Lx.Formula→Prop} [DecidablePred p] (h1:Sl Y1 fz A n c l) (hq:∀ x∈l,∀ cs,Y1.rep fz x cs→QFn prog ff (.agg cs.toArray::cap) fz (.bool (decide (p x)))):
 QFn prog 113 [.slice A n c,.func (.func ff) #[] cap.toArray] fz (.bool (decide (∃ x∈l,p x))):=by
 refine GFn.quiet ?_
 refine zF Tryz.func113 Tryz.ntmps113 (fun w0=>?_)
 refine zW ?_;intros
 refine zc (YeS h1 hq) ?_
 refine zC (fun c1=>?_) (fun c1=>?_)
 ·refine zW ?_;intros
  exact ret1 rfl rfl Zb (Yv ((Xo (Int.le_refl 0)).1 c1))
 ·refine zW ?_;intros
  exact ret1 rfl rfl Zb (Yo (fun h=>c1 ((Xo (Int.le_refl 0)).2 h)))
theorem Yfu {l:List Lx.Change} {ff:FuncId} {cap:List Value} {p:Lx.Change→Prop} [DecidablePred p] (h1:Sl changeL fz A n c l) (hq:∀ x∈l,∀ cs,changeL.rep fz x cs→QFn prog ff (.agg cs.toArray::cap) fz (.bool (decide (p x)))):
 QFn prog 162 [.slice A n c,.func (.func ff) #[] cap.toArray] fz (.int .i64 (Wt p l 0)):=by
 refine GFn.quiet ?_
 refine zF Tryz.func162 Tryz.ntmps162 (fun w0=>?_)
 have l1:=h1.len
 have hm:=h1.short
 refine zW ?_;intros
 refine Yl (fun q σ fz' H'=>∃ k:Nat,k≤n∧q=n - k∧σ=[(8,.int .i64 k),(7,.int .i64 n),(0,.slice A n c),(1,.func (.func ff) #[] cap.toArray)]∧fz=fz'∧H'=[]∧(∀ i,i<k→∀ x,l[i]?=some x→¬p x)) ⟨0,Z0 _,rfl,rfl,rfl,rfl,(fun i hi=>absurd hi Zi)⟩ Zw Zb ?_;rintro q σ fz' H' ⟨k,hk,rfl,rfl,rfl,rfl,hh⟩
 refine zW ?_;intros
 refine zC (fun hlt=>?_) (fun hge=>?_)
 ·refine zW ?_;intros
  obtain ⟨x,hx⟩:=Yn (l:=l) (k:=k) Zi
  refine zI h1 hx (fun a ha=>?_)
  refine zL ha ?_
  intro cs hcs
  refine zW ?_;intros
  ((refine zG ?_);refine WQ Zz Zz Zz (hq x (Zm hx) cs hcs) (fun c1=>?_) (fun c1=>?_))
  ·refine zW ?_;intros
   exact zR (h:=by rw [WP hh hx c1,Int.zero_add])
  ·refine zW ?_;intros
   exact Yz ⟨k+1,by omega,rfl,rfl,rfl,rfl,(YL hh hx c1)⟩ Zi Zw Zb
 ·refine zW ?_;intros
  exact zR (h:=by rw [Wi (Xs hh Zi)])
theorem YdN {l:List Lx.Change} {ff:FuncId} {cap:List Value} {p:Lx.Change→Prop} [DecidablePred p] (h1:Sl changeL fz A n c l) (hq:∀ x∈l,∀ cs,changeL.rep fz x cs→QFn prog ff (.agg cs.toArray::cap) fz (.bool (decide (p x)))):
 QFn prog 117 [.slice A n c,.func (.func ff) #[] cap.toArray] fz (.bool (decide (∃ x∈l,p x))):=by
 refine GFn.quiet ?_
 refine zF Tryz.func117 Tryz.ntmps117 (fun w0=>?_)
 refine zW ?_;intros
 refine zc (Yfu h1 hq) ?_
 refine zC (fun c1=>?_) (fun c1=>?_)
 ·refine zW ?_;intros
  exact ret1 rfl rfl Zb (Yv ((Xo (Int.le_refl 0)).1 c1))
 ·refine zW ?_;intros
  exact ret1 rfl rfl Zb (Yo (fun h=>c1 ((Xo (Int.le_refl 0)).2 h)))
theorem YdF {l:List Lx.Predicate} {ff:FuncId} {cap:List Value} {p:Lx.Predicate→Prop} [DecidablePred p] (h1:Sl predicateL fz A n c l) (hq:∀ x∈l,∀ cs,predicateL.rep fz x cs→QFn prog ff (.agg cs.toArray::cap) fz (.bool (decide (p x)))):
 QFn prog 114 [.slice A n c,.func (.func ff) #[] cap.toArray] fz (.int .i64 (Wt p l 0)):=by
 refine GFn.quiet ?_
 refine zF Tryz.func114 Tryz.ntmps114 (fun w0=>?_)
 have l1:=h1.len
 have hm:=h1.short
 refine zW ?_;intros
 refine Yl (fun q σ fz' H'=>∃ k:Nat,k≤n∧q=n - k∧σ=[(8,.int .i64 k),(7,.int .i64 n),(0,.slice A n c),(1,.func (.func ff) #[] cap.toArray)]∧fz=fz'∧H'=[]∧(∀ i,i<k→∀ x,l[i]?=some x→¬p x)) ⟨0,Z0 _,rfl,rfl,rfl,rfl,(fun i hi=>absurd hi Zi)⟩ Zw Zb ?_;rintro q σ fz' H' ⟨k,hk,rfl,rfl,rfl,rfl,hh⟩
 refine zW ?_;intros
 refine zC (fun hlt=>?_) (fun hge=>?_)
 ·refine zW ?_;intros
  obtain ⟨x,hx⟩:=Yn (l:=l) (k:=k) Zi
  refine zI h1 hx (fun a ha=>?_)
  refine zL ha ?_
  intro cs hcs
  refine zW ?_;intros
  ((refine zG ?_);refine WQ Zz Zz Zz (hq x (Zm hx) cs hcs) (fun c1=>?_) (fun c1=>?_))
  ·refine zW ?_;intros
   exact zR (h:=by rw [WP hh hx c1,Int.zero_add])
  ·refine zW ?_;intros
   exact Yz ⟨k+1,by omega,rfl,rfl,rfl,rfl,(YL hh hx c1)⟩ Zi Zw Zb
 ·refine zW ?_;intros
  exact zR (h:=by rw [Wi (Xs hh Zi)])
theorem Ycz {l:List Lx.Predicate} {ff:FuncId} {cap:List Value} {p:Lx.Predicate→Prop} [DecidablePred p] (h1:Sl predicateL fz A n c l) (hq:∀ x∈l,∀ cs,predicateL.rep fz x cs→QFn prog ff (.agg cs.toArray::cap) fz (.bool (decide (p x)))):
 QFn prog 63 [.slice A n c,.func (.func ff) #[] cap.toArray] fz (.bool (decide (∃ x∈l,p x))):=by
 refine GFn.quiet ?_
 refine zF Tryz.func63 Tryz.ntmps63 (fun w0=>?_)
 refine zW ?_;intros
 refine zc (YdF h1 hq) ?_
 refine zC (fun c1=>?_) (fun c1=>?_)
 ·refine zW ?_;intros
  exact ret1 rfl rfl Zb (Yv ((Xo (Int.le_refl 0)).1 c1))
 ·refine zW ?_;intros
  exact ret1 rfl rfl Zb (Yo (fun h=>c1 ((Xo (Int.le_refl 0)).2 h)))
theorem Yd4 {l:List Lx.Function} {ff:FuncId} {cap:List Value} {p:Lx.Function→Prop} [DecidablePred p] (h1:Sl functionL fz A n c l) (hq:∀ x∈l,∀ cs,functionL.rep fz x cs→QFn prog ff (.agg cs.toArray::cap) fz (.bool (decide (p x)))):
 QFn prog 115 [.slice A n c,.func (.func ff) #[] cap.toArray] fz (.int .i64 (Wt p l 0)):=by
 refine GFn.quiet ?_
 refine zF Tryz.func115 Tryz.ntmps115 (fun w0=>?_)
 have l1:=h1.len
 have hm:=h1.short
 refine zW ?_;intros
 refine Yl (fun q σ fz' H'=>∃ k:Nat,k≤n∧q=n - k∧σ=[(8,.int .i64 k),(7,.int .i64 n),(0,.slice A n c),(1,.func (.func ff) #[] cap.toArray)]∧fz=fz'∧H'=[]∧(∀ i,i<k→∀ x,l[i]?=some x→¬p x)) ⟨0,Z0 _,rfl,rfl,rfl,rfl,(fun i hi=>absurd hi Zi)⟩ Zw Zb ?_;rintro q σ fz' H' ⟨k,hk,rfl,rfl,rfl,rfl,hh⟩
 refine zW ?_;intros
 refine zC (fun hlt=>?_) (fun hge=>?_)
 ·refine zW ?_;intros
  obtain ⟨x,hx⟩:=Yn (l:=l) (k:=k) Zi
  refine zI h1 hx (fun a ha=>?_)
  refine zL ha ?_
  intro cs hcs
  refine zW ?_;intros
  ((refine zG ?_);refine WQ Zz Zz Zz (hq x (Zm hx) cs hcs) (fun c1=>?_) (fun c1=>?_))
  ·refine zW ?_;intros
   exact zR (h:=by rw [WP hh hx c1,Int.zero_add])
  ·refine zW ?_;intros
   exact Yz ⟨k+1,by omega,rfl,rfl,rfl,rfl,(YL hh hx c1)⟩ Zi Zw Zb
 ·refine zW ?_;intros
  exact zR (h:=by rw [Wi (Xs hh Zi)])
theorem YcR {l:List Lx.Function} {ff:FuncId} {cap:List Value} {p:Lx.Function→Prop} [DecidablePred p] (h1:Sl functionL fz A n c l) (hq:∀ x∈l,∀ cs,functionL.rep fz x cs→QFn prog ff (.agg cs.toArray::cap) fz (.bool (decide (p x)))):
 QFn prog 65 [.slice A n c,.func (.func ff) #[] cap.toArray] fz (.bool (decide (∃ x∈l,p x))):=by
 refine GFn.quiet ?_
 refine zF Tryz.func65 Tryz.ntmps65 (fun w0=>?_)
 refine zW ?_;intros
 refine zc (Yd4 h1 hq) ?_
 refine zC (fun c1=>?_) (fun c1=>?_)
 ·refine zW ?_;intros
  exact ret1 rfl rfl Zb (Yv ((Xo (Int.le_refl 0)).1 c1))
 ·refine zW ?_;intros
  exact ret1 rfl rfl Zb (Yo (fun h=>c1 ((Xo (Int.le_refl 0)).2 h)))
theorem Yfv {l:List Lx.Action} {ff:FuncId} {cap:List Value} {p:Lx.Action→Prop} [DecidablePred p] (h1:Sl actionL fz A n c l) (hq:∀ x∈l,∀ cs,actionL.rep fz x cs→QFn prog ff (.agg cs.toArray::cap) fz (.bool (decide (p x)))):
 QFn prog 116 [.slice A n c,.func (.func ff) #[] cap.toArray] fz (.int .i64 (Wt p l 0)):=by
 refine GFn.quiet ?_
 refine zF Tryz.func116 Tryz.ntmps116 (fun w0=>?_)
 have l1:=h1.len
 have hm:=h1.short
 refine zW ?_;intros
 refine Yl (fun q σ fz' H'=>∃ k:Nat,k≤n∧q=n - k∧σ=[(8,.int .i64 k),(7,.int .i64 n),(0,.slice A n c),(1,.func (.func ff) #[] cap.toArray)]∧fz=fz'∧H'=[]∧(∀ i,i<k→∀ x,l[i]?=some x→¬p x)) ⟨0,Z0 _,rfl,rfl,rfl,rfl,(fun i hi=>absurd hi Zi)⟩ Zw Zb ?_;rintro q σ fz' H' ⟨k,hk,rfl,rfl,rfl,rfl,hh⟩
 refine zW ?_;intros
 refine zC (fun hlt=>?_) (fun hge=>?_)
 ·refine zW ?_;intros
  obtain ⟨x,hx⟩:=Yn (l:=l) (k:=k) Zi
  refine zI h1 hx (fun a ha=>?_)
  refine zL ha ?_
  intro cs hcs
  refine zW ?_;intros
  ((refine zG ?_);refine WQ Zz Zz Zz (hq x (Zm hx) cs hcs) (fun c1=>?_) (fun c1=>?_))
  ·refine zW ?_;intros
   exact zR (h:=by rw [WP hh hx c1,Int.zero_add])
  ·refine zW ?_;intros
   exact Yz ⟨k+1,by omega,rfl,rfl,rfl,rfl,(YL hh hx c1)⟩ Zi Zw Zb
 ·refine zW ?_;intros
  exact zR (h:=by rw [Wi (Xs hh Zi)])
theorem YdO {l:List Lx.Action} {ff:FuncId} {cap:List Value} {p:Lx.Action→Prop} [DecidablePred p] (h1:Sl actionL fz A n c l) (hq:∀ x∈l,∀ cs,actionL.rep fz x cs→QFn prog ff (.agg cs.toArray::cap) fz (.bool (decide (p x)))):
 QFn prog 67 [.slice A n c,.func (.func ff) #[] cap.toArray] fz (.bool (decide (∃ x∈l,p x))):=by
 refine GFn.quiet ?_
 refine zF Tryz.func67 Tryz.ntmps67 (fun w0=>?_)
 refine zW ?_;intros
 refine zc (Yfv h1 hq) ?_
 refine zC (fun c1=>?_) (fun c1=>?_)
 ·refine zW ?_;intros
  exact ret1 rfl rfl Zb (Yv ((Xo (Int.le_refl 0)).1 c1))
 ·refine zW ?_;intros
  exact ret1 rfl rfl Zb (Yo (fun h=>c1 ((Xo (Int.le_refl 0)).2 h)))
theorem Yd5 {l:List Lx.Durative} {ff:FuncId} {cap:List Value} {p:Lx.Durative→Prop} [DecidablePred p] (h1:Sl durativeL fz A n c l) (hq:∀ x∈l,∀ cs,durativeL.rep fz x cs→QFn prog ff (.agg cs.toArray::cap) fz (.bool (decide (p x)))):
 QFn prog 119 [.slice A n c,.func (.func ff) #[] cap.toArray] fz (.int .i64 (Wt p l 0)):=by
 refine GFn.quiet ?_
 refine zF Tryz.func119 Tryz.ntmps119 (fun w0=>?_)
 have l1:=h1.len
 have hm:=h1.short
 refine zW ?_;intros
 refine Yl (fun q σ fz' H'=>∃ k:Nat,k≤n∧q=n - k∧σ=[(8,.int .i64 k),(7,.int .i64 n),(0,.slice A n c),(1,.func (.func ff) #[] cap.toArray)]∧fz=fz'∧H'=[]∧(∀ i,i<k→∀ x,l[i]?=some x→¬p x)) ⟨0,Z0 _,rfl,rfl,rfl,rfl,(fun i hi=>absurd hi Zi)⟩ Zw Zb ?_;rintro q σ fz' H' ⟨k,hk,rfl,rfl,rfl,rfl,hh⟩
 refine zW ?_;intros
 refine zC (fun hlt=>?_) (fun hge=>?_)
 ·refine zW ?_;intros
  obtain ⟨x,hx⟩:=Yn (l:=l) (k:=k) Zi
  refine zI h1 hx (fun a ha=>?_)
  refine zL ha ?_
  intro cs hcs
  refine zW ?_;intros
  ((refine zG ?_);refine WQ Zz Zz Zz (hq x (Zm hx) cs hcs) (fun c1=>?_) (fun c1=>?_))
  ·refine zW ?_;intros
   exact zR (h:=by rw [WP hh hx c1,Int.zero_add])
  ·refine zW ?_;intros
   exact Yz ⟨k+1,by omega,rfl,rfl,rfl,rfl,(YL hh hx c1)⟩ Zi Zw Zb
 ·refine zW ?_;intros
  exact zR (h:=by rw [Wi (Xs hh Zi)])
theorem YcS {l:List Lx.Durative} {ff:FuncId} {cap:List Value} {p:Lx.Durative→Prop} [DecidablePred p] (h1:Sl durativeL fz A n c l) (hq:∀ x∈l,∀ cs,durativeL.rep fz x cs→QFn prog ff (.agg cs.toArray::cap) fz (.bool (decide (p x)))):
 QFn prog 70 [.slice A n c,.func (.func ff) #[] cap.toArray] fz (.bool (decide (∃ x∈l,p x))):=by
 refine GFn.quiet ?_
 refine zF Tryz.func70 Tryz.ntmps70 (fun w0=>?_)
 refine zW ?_;intros
 refine zc (Yd5 h1 hq) ?_
 refine zC (fun c1=>?_) (fun c1=>?_)
 ·refine zW ?_;intros
  exact ret1 rfl rfl Zb (Yv ((Xo (Int.le_refl 0)).1 c1))
 ·refine zW ?_;intros
  exact ret1 rfl rfl Zb (Yo (fun h=>c1 ((Xo (Int.le_refl 0)).2 h)))
def LtP (f:Formula):Prop:=f.op=kAtom∨f.op=kSame
mutual
/-- a conjunction of literals -/
def LitP:Formula→Prop
 | .mk op _ _ _ _ kids=>(op=kNot∧∃ k,kids=[k]∧LtP k)∨(op=kAnd∧LitPL kids)∨op=kAtom∨op=kSame
def LitPL:List Formula→Prop
 | []=>True
 | k::r=>LitP k∧LitPL r
end
theorem YhC:∀ {l:List Formula},LitPL l↔∀ x∈l,LitP x
 | []=>by simp [LitPL]
 | k::r=>by rw [LitPL,YhC (l:=r)];simp
theorem YiG (f:Formula):LitP f↔(f.op=kNot∧∃ k,f.kids=[k]∧LtP k)∨(f.op=kAnd∧∀ x∈f.kids,LitP x)∨LtP f:=by cases f;rw [LitP,YhC];rfl
theorem litP_not (h:f.op=kNot):LitP f↔∃ k,f.kids=[k]∧LtP k:=by
 rw [YiG]
 constructor
 ·rintro (h1 | h1 | h1)
  ·exact h1.2
  ·rw [h] at h1;exact absurd h1.1 Zh
  ·unfold LtP at h1;rw [h] at h1;exact absurd h1 Zh
 ·intro h1;exact .inl ⟨h,h1⟩
theorem litP_and (h:f.op=kAnd):LitP f↔∀ x∈f.kids,LitP x:=by
 rw [YiG]
 constructor
 ·rintro (h1 | h1 | h1)
  ·rw [h] at h1;exact absurd h1.1 Zh
  ·exact h1.2
  ·unfold LtP at h1;rw [h] at h1;exact absurd h1 Zh
 ·intro h1;exact .inr (.inl ⟨h,h1⟩)
theorem litP_oth (h1:¬f.op=kNot) (h2:¬f.op=kAnd):LitP f↔LtP f:=by
 rw [YiG]
 exact ⟨fun h=>h.elim (fun h=>absurd h.1 h1) (fun h=>h.elim (fun h=>absurd h.1 h2) id),fun h=>.inr (.inr h)⟩
theorem lt1_q (hR:FormulaR fz f va vp ve vk):
 QFn prog 199 [.agg #[.string f.op,.string f.name,va,vp,ve,vk]] fz (.bool (decide (LtP f))):=by
 refine GFn.quiet ?_
 refine zF Tryz.func199 Tryz.ntmps199 (fun w0=>?_)
 refine Yk (Yr (Ya Zz (Xc _ Zz Zz (fun g0=>?_))))
 refine zV ?_;intros
 refine zC (fun x1=>?_) (fun x1=>?_)
 ·refine zV ?_;intros
  exact ret1 rfl rfl Zb (Yv (.inl x1))
 ·refine zV ?_;intros
  refine zC (fun x2=>?_) (fun x2=>?_)
  ·refine zV ?_;intros
   exact ret1 rfl rfl Zb (Yv (.inr x2))
  ·refine zV ?_;intros
   exact ret1 rfl rfl Zb (Yo (fun h=>h.elim x1 x2))
theorem lit2_q (h:QFn prog 168 [.agg #[.string f.op,.string f.name,va,vp,ve,vk]] fz (.bool (decide (LitP f)))):
 QFn prog 200 [.agg #[.string f.op,.string f.name,va,vp,ve,vk]] fz (.bool (decide (¬LitP f))):=by
 refine GFn.quiet ?_
 refine zF Tryz.func200 Tryz.ntmps200 (fun w0=>?_)
 refine Yk (Yr (Ya Zz (Xc _ Zz Zz (fun g1=>?_))))
 refine zV ?_;intros
 refine zc h ?_
 refine zV ?_;intros
 exact zR (h:=by rw [decide_not])
theorem lit_f:∀ (s:Nat) {fz:FZ} {f:Formula} {va vp ve vk:Value},SizeOf.sizeOf f≤s→FormulaR fz f va vp ve vk→
 QFn prog 168 [.agg #[.string f.op,.string f.name,va,vp,ve,vk]] fz (.bool (decide (LitP f)))
 | 0,_,f,_,_,_,_,hse,_=>by cases f;simp at hse
 | s+1,fz,f,va,vp,ve,vk,hse,hR=>by
  have hR0:=hR
  obtain ⟨B1,m1,d1,rfl,ia⟩:=hR.args
  obtain ⟨B2,m2,d2,rfl,ip⟩:=hR.params
  obtain ⟨B3,m3,d3,rfl,ie⟩:=hR.exprs
  obtain ⟨B4,m4,d4,rfl,ik⟩:=hR.kids
  have l4:=ik.len
  refine GFn.quiet ?_
  refine zF Tryz.func168 Tryz.ntmps168 (fun w0=>?_)
  refine Yk (Yr (Ya Zz (Xc _ Zz Zz (fun g0=>?_))))
  refine zWO ?_;intros
  by_cases hno:f.op=kNot
  ·have w:=litP_not hno
   refine zV ?_;intros
   refine zC (fun x1=>?_) (fun x1=>?_)
   ·have h1:f.kids.length=1:=by omega
    obtain ⟨k,hk⟩:∃ k,f.kids=[k]:=by
     match hkk:f.kids,h1 with
     | [k],_=>exact ⟨k,rfl⟩
    refine zV ?_;intros
    ((refine zG ?_);refine Yax T 0 Zz Zz Zz Zz Zz Zz ik (by first | rfl | omega) (by rw [hk];rfl:f.kids[0]?=some k) (fun p1 hp1=>?_))
    refine zL hp1 ?_
    intro cs hcs
    obtain ⟨wa,wp,we,wk,rfl,hRx⟩:=YK hcs
    refine zV ?_;intros
    refine zv (lt1_q hRx) ?_
    refine zV ?_;intros
    (exact ret1 rfl rfl Zb (by
     by_cases hl:LtP k
     ·rw [decide_eq_true hl,decide_eq_true (w.2 ⟨k,hk,hl⟩)]
     ·rw [decide_eq_false hl,decide_eq_false (fun h=>by obtain ⟨k',hk',hl'⟩:=w.1 h;rw [hk] at hk';injection hk' with hk';subst hk';exact hl hl')]))
   ·refine zV ?_;intros
    exact ret1 rfl rfl Zb (Yo (fun h=>by obtain ⟨k,hk,_⟩:=w.1 h;rw [hk] at l4;simp at l4;exact x1 Zi))
  ·by_cases han:f.op=kAnd
   ·have w:=litP_and han
    refine zV ?_;intros
    ((refine zG ?_);refine Yw Zz Zz (Ybd (cap:=[]) (p:=fun k=>¬LitP k) ik (fun x hx cs hcs=>by
     obtain ⟨wa,wp,we,wk,rfl,hRx⟩:=YK hcs
     exact lit2_q (lit_f s (by have:=Lx.Formula.kids_lt hx;omega) hRx))) ?_)
    refine zV ?_;intros
    (exact ret1 rfl rfl Zb (by
     by_cases hl:∀ x∈f.kids,LitP x
     ·rw [decide_eq_true (w.2 hl),decide_eq_false (fun ⟨x,hx,h0⟩=>h0 (hl x hx))];rfl
     ·rw [decide_eq_false (fun h=>hl (w.1 h)),decide_eq_true (by simpa using hl)];rfl))
   ·have w:=litP_oth hno han
    refine zV ?_;intros
    refine zv (lt1_q hR0) ?_
    refine zV ?_;intros
    (exact ret1 rfl rfl Zb (by
     by_cases hl:LtP f
     ·rw [decide_eq_true hl,decide_eq_true (w.2 hl)]
     ·rw [decide_eq_false hl,decide_eq_false (fun h=>hl (w.1 h))]))
theorem lit_q (hR:FormulaR fz f va vp ve vk):
 QFn prog 168 [.agg #[.string f.op,.string f.name,va,vp,ve,vk]] fz (.bool (decide (LitP f))):=lit_f _ (Zs _) hR
def Ybk (d:Domain) (all vars:List Param) (f:Formula):Int:=if LitP f then formM d all vars f else 2
theorem Yfg (h:CkG fz v d p all) (h1:Sl paramL fz A n c vars) (hR:FormulaR fz f va vp ve vk) (hW:n+fW f≤1000000000):
 QFn prog 126 [v,.slice A n c,.agg #[.string f.op,.string f.name,va,vp,ve,vk]] fz (errV (Ybk d all vars f)):=by
 refine GFn.quiet ?_
 refine zF Tryz.func126 Tryz.ntmps126 (fun w0=>?_)
 refine Yk (Yr (Ya Zz (Xc _ Zz Zz (fun g0=>?_))))
 refine zV ?_;intros
 refine zb (lit_q hR) (fun f1=>?_) (fun f1=>?_)
 ·refine zV ?_;intros
  refine zc (YgU h h1 hR hW) ?_
  refine zV ?_;intros
  exact zR (h:=by rw [Ybk,if_pos (Zt f1)])
 ·refine zV ?_;intros
  exact zR (h:=by rw [Ybk,if_neg (Zf f1)];rfl)
def Yic (x:Change):Prop:=x.params=[]∧x.when_=XJ
def NumC (x:Change):Prop:=x.kind≠1∧x.kind≠2
def Ybm (d:Domain) (all vars:List Param) (x:Change) (du:Bool):Int:=
 if ¬Yic x∧(NumC x∨du=true) then 6
 else if TwP (parN vars) (parN x.params) then 4
 else if ¬ExP d.types x.params then 3
 else if formM d all (vars++x.params) x.when_≠0 then formM d all (vars++x.params) x.when_
 else if ¬NumC x then atomM d all (vars++x.params) x.name x.args
 else if fluM d all (vars++x.params) x.name x.args≠0 then fluM d all (vars++x.params) x.name x.args
 else exprM d all (vars++x.params) x.value
theorem changeM1 {x:Change} {du:Bool} (h1:¬(¬Yic x∧(NumC x∨du=true))) (h2:¬TwP (parN vars) (parN x.params)) (h3:ExP d.types x.params):
 Ybm d all vars x du=if formM d all (vars++x.params) x.when_≠0 then formM d all (vars++x.params) x.when_
  else if ¬NumC x then atomM d all (vars++x.params) x.name x.args
  else if fluM d all (vars++x.params) x.name x.args≠0 then fluM d all (vars++x.params) x.name x.args
  else exprM d all (vars++x.params) x.value:=by rw [Ybm,if_neg h1,if_neg h2,if_neg (by simpa using h3)]
variable {cs:List Value}
set_option maxHeartbeats 4000000 in
theorem Ymy {x:Change} {du:Bool} (h:CkG fz v d p all) (h1:Sl paramL fz A n c vars) (hRc:changeL.rep fz x cs) (hW:n+WZ x≤1000000000):
 QFn prog 167 [v,.slice A n c,.agg cs.toArray,.bool du] fz (errV (Ybm d all vars x du)):=by
 have h0:=h
 obtain ⟨⟨vf,vpp,vg,vo,hck,hF,hPr,hFu,hO⟩,hw⟩:=h
 have hck0:=hck
 obtain ⟨gc,w1,w2,w3,w4,w5,w6,u1,u2,u3,u4,u5,u6,u7,Aa,na,ca,rfl,hc,hD,hP,hall⟩:=hck
 obtain ⟨v1,v2,v3,v4,v5,v6,v7,v8,rfl,hR⟩:=XH hRc
 obtain ⟨A1,n1,b1,rfl,ip⟩:=hR.params
 have hwh:=hR.when_
 have hva:=hR.value
 obtain ⟨A2,n2,b2,rfl,_⟩:=hR.when_.args
 obtain ⟨A3,n3,b3,rfl,_⟩:=hR.when_.params
 obtain ⟨A4,n4,b4,rfl,_⟩:=hR.when_.exprs
 obtain ⟨A5,n5,b5,rfl,_⟩:=hR.when_.kids
 obtain ⟨A6,n6,b6,rfl,ia⟩:=hR.args
 obtain ⟨A7,n7,b7,rfl,_⟩:=hR.value.args
 obtain ⟨A8,n8,b8,rfl,_⟩:=hR.value.kids
 have l1:=ip.len
 have ln:=h1.len
 have hWp:n+x.params.length+fW x.when_≤1000000000:=by unfold WZ at hW;omega
 refine GFn.quiet ?_
 refine zF Tryz.func167 Tryz.ntmps167 (fun w0=>?_)
 refine Yk (Yr (Ya Zz (Xc _ Zz Zz (fun g0=>?_))))
 refine zWO ?_;intros
 refine Yk (Wp.mid (fun σ fz' H'=>∃ bb:Bool,σ=[(9,.bool bb),(6,.pointer (some ⟨g0,0,none⟩)),(0,.pointer (some ⟨gc,0,none⟩)),(1,.slice A n c),(3,.bool du)]∧fz=fz'∧H'=[(g0,.cells #[.int .i64 x.kind,.slice A1 n1 b1,.string x.when_.op,.string x.when_.name,.slice A2 n2 b2,.slice A3 n3 b3,.slice A4 n4 b4,.slice A5 n5 b5,.string x.name,.slice A6 n6 b6,.string x.value.op,.string x.value.name,.int .i64 x.value.n,.slice A7 n7 b7,.slice A8 n8 b8] 123 (0,0))]∧(bb=true↔Yic x)) ?_ ?_)
 ·refine zV ?_;intros
  refine zC (fun x1=>?_) (fun x1=>?_)
  ·have hnil:x.params=[]:=List.eq_nil_of_length_eq_zero Zi
   refine zV ?_;intros
   ((refine zG ?_);refine Yp (vs:=[.string x.when_.op,.string x.when_.name,.slice A2 n2 b2,.slice A3 n3 b3,.slice A4 n4 b4,.slice A5 n5 b5]) T 0 Zz Zz Zz Zz Zz Zz ?_)
   refine zV ?_;intros
   refine zb (Yew hwh Yb5) (fun f1=>?_) (fun f1=>?_)
   ·refine zV ?_;intros
    exact midN ⟨true,rfl,rfl,rfl,iff_of_true rfl ⟨hnil,Zt f1⟩⟩ Zw Zb
   ·refine zV ?_;intros
    exact midN ⟨false,rfl,rfl,rfl,iff_of_false (by simp) (fun h=>Zf f1 h.2)⟩ Zw Zb
  ·refine zV ?_;intros
   exact midN ⟨false,rfl,rfl,rfl,iff_of_false (by simp) (fun h=>x1 (by rw [h.1] at l1;simp at l1;omega))⟩ Zw Zb
 ·rintro σ fz' H' ⟨bb,rfl,rfl,rfl,hbb⟩
  refine Yk (Wp.mid (fun σ fz' H'=>∃ nn:Bool,σ=[(10,.bool nn),(9,.bool bb),(6,.pointer (some ⟨g0,0,none⟩)),(0,.pointer (some ⟨gc,0,none⟩)),(1,.slice A n c),(3,.bool du)]∧fz=fz'∧H'=[(g0,.cells #[.int .i64 x.kind,.slice A1 n1 b1,.string x.when_.op,.string x.when_.name,.slice A2 n2 b2,.slice A3 n3 b3,.slice A4 n4 b4,.slice A5 n5 b5,.string x.name,.slice A6 n6 b6,.string x.value.op,.string x.value.name,.int .i64 x.value.n,.slice A7 n7 b7,.slice A8 n8 b8] 123 (0,0))]∧(nn=true↔NumC x)) ?_ ?_)
  ·refine zV ?_;intros
   refine zC (fun x1=>?_) (fun x1=>?_)
   ·refine zV ?_;intros
    refine zC (fun x2=>?_) (fun x2=>?_)
    ·refine zV ?_;intros
     exact midN ⟨true,rfl,rfl,rfl,iff_of_true rfl ⟨x1,x2⟩⟩ Zw Zb
    ·refine zV ?_;intros
     exact midN ⟨false,rfl,rfl,rfl,iff_of_false (by simp) (fun h=>h.2 Zi)⟩ Zw Zb
   ·refine zV ?_;intros
    exact midN ⟨false,rfl,rfl,rfl,iff_of_false (by simp) (fun h=>h.1 Zi)⟩ Zw Zb
  ·rintro σ fz' H' ⟨nn,rfl,rfl,rfl,hnn⟩
   by_cases hbad:¬Yic x∧(NumC x∨du=true)
   ·have e1:Ybm d all vars x du=6:=if_pos hbad
    obtain rfl:bb=false:=by cases bb with | false=>rfl | true=>exact absurd (hbb.1 rfl) hbad.1
    cases nn with
    | true=>
     refine zV ?_;intros
     exact zR (h:=by rw [e1];rfl)
    | false=>
     obtain rfl:du=true:=hbad.2.elim (fun h=>by have:=hnn.2 h;cases this) id
     refine zV ?_;intros
     exact zR (h:=by rw [e1];rfl)
   ·refine Yk (Wp.mid (fun σ fz' H'=>σ=[(10,.bool nn),(6,.pointer (some ⟨g0,0,none⟩)),(0,.pointer (some ⟨gc,0,none⟩)),(1,.slice A n c)]∧fz=fz'∧H'=[(g0,.cells #[.int .i64 x.kind,.slice A1 n1 b1,.string x.when_.op,.string x.when_.name,.slice A2 n2 b2,.slice A3 n3 b3,.slice A4 n4 b4,.slice A5 n5 b5,.string x.name,.slice A6 n6 b6,.string x.value.op,.string x.value.name,.int .i64 x.value.n,.slice A7 n7 b7,.slice A8 n8 b8] 123 (0,0))]) ?_ ?_)
    ·cases bb with
     | true=>
      refine zV ?_;intros
      exact midN ⟨rfl,rfl,rfl⟩ Zw Zb
     | false=>
      have hp:¬Yic x:=fun h=>by have:=hbb.2 h;cases this
      obtain rfl:nn=false:=by cases nn with | false=>rfl | true=>exact absurd ⟨hp,.inl (hnn.1 rfl)⟩ hbad
      obtain rfl:du=false:=by cases du with | false=>rfl | true=>exact absurd ⟨hp,.inr rfl⟩ hbad
      refine zV ?_;intros
      exact midN ⟨rfl,rfl,rfl⟩ Zw Zb
    ·rintro σ fz' H' ⟨rfl,rfl,rfl⟩
     refine zV ?_;intros
     refine zc (Yii ip h1) ?_
     by_cases ht:TwP (parN vars) (parN x.params)
     ·rw [if_pos ht,show errV 4=.iface 65 (.int .i64 4) from rfl]
      refine zV ?_;intros
      exact zR (h:=by rw [Ybm,if_neg hbad,if_pos ht];rfl)
     ·rw [if_neg ht,show errV 0=.nilIface from rfl]
      refine zV ?_;intros
      refine zc (YiS hck0 hF ip) ?_
      by_cases hx:ExP d.types x.params
      ·have e1:=changeM1 (all:=all) (du:=du) hbad ht hx
       rw [if_pos hx,show errV 0=.nilIface from rfl]
       refine zV ?_;intros
       refine Wp.drawK (Hq:=[_]) T.mixed Zj Zj Zb ?_
       refine zW ?_;intros
       refine Yf ?_
       refine zW ?_;intros
       refine Yf ?_
       refine Yf ?_
       refine YM ⟨by kernel_rfl,?_⟩
       refine Yt (Ym [] [_] Zz Zz Zz (YaP h1 Zi) (fun v6 fz6 H6 hle6 hR6=>⟨(⟨hle6,Zx⟩),?_⟩))
       obtain ⟨Av,cv,rfl,_,_⟩:=hR6.form
       refine Yt (WF T (Hr:=[_]) Zz Zz Zz Zz Zz Zz Zz Zz Zq hR6 WE (ip.mono hle6) (by show _*32≤_;omega) Zi (fun v7 H7 hO7=>⟨(⟨hle6,Zx⟩),?_⟩))
       obtain ⟨Aw,cw,rfl,_,_⟩:=hO7.form
       refine Ch.qk (⟨hle6,Zx⟩) (YJ Zz ?_)
       refine Ch.done ?_
       refine Yc0 ?_
       refine Wp.freezeAll (H1:=[_]) (H2:=H7) (Zr _) (fun fz8 hle8 hf8=>?_)
       obtain ⟨A8,c8,e8,h8⟩:=hO7.sl hle8 hf8 Zi
       injection e8 with e81 e82 e83
       subst e81
       subst e83
       have hle:=hle6.trans hle8
       have h0':=h0.mono hle
       have ia':=ia.mono hle
       have hwh':=hwh.mono hle
       have hva':=hva.mono hle
       have hcg:=hle _ _ hc
       refine zV ?_;intros
       ((refine zG ?_);refine Yp (vs:=[.string x.when_.op,.string x.when_.name,.slice A2 n2 b2,.slice A3 n3 b3,.slice A4 n4 b4,.slice A5 n5 b5]) T 0 Zz Zz Zz Zz Zz Zz ?_)
       refine zV ?_;intros
       ((refine zG ?_);refine Yw Zz Zz (YgU h0' h8 hwh' Zi) ?_)
       by_cases hz:formM d all (vars++x.params) x.when_=0
       ·have e2:=e1
        rw [hz,if_neg Zh] at e2
        rw [hz,show errV 0=.nilIface from rfl]
        cases nn with
        | false=>
         have hn:¬NumC x:=fun h=>by have:=hnn.2 h;cases this
         refine zV ?_;intros
         refine zc (Yi1 h0' h8 ia') ?_
         refine zV ?_;intros
         exact zR (h:=by rw [e2,if_pos hn])
        | true=>
         have hn:NumC x:=hnn.1 rfl
         refine zV ?_;intros
         refine zc (Yfi h0' h8 ia') ?_
         by_cases hy:fluM d all (vars++x.params) x.name x.args=0
         ·rw [hy,show errV 0=.nilIface from rfl]
          refine zV ?_;intros
          ((refine zG ?_);refine Yp (vs:=[.string x.value.op,.string x.value.name,.int .i64 x.value.n,.slice A7 n7 b7,.slice A8 n8 b8]) T 0 Zz Zz Zz Zz Zz Zz ?_)
          refine zV ?_;intros
          refine zc (Ymw h0' h8 hva') ?_
          refine zV ?_;intros
          exact zR (h:=by rw [e2,if_neg (by simpa using hn),hy,if_neg Zh])
         ·rw [Yj hy]
          refine zV ?_;intros
          exact zR (h:=by rw [e2,if_neg (by simpa using hn),if_pos hy,Yj hy])
       ·rw [Yj hz]
        refine zV ?_;intros
        exact zR (h:=by rw [e1,if_pos hz,Yj hz])
      ·rw [if_neg hx,show errV 3=.iface 65 (.int .i64 3) from rfl]
       refine zV ?_;intros
       exact zR (h:=by rw [Ybm,if_neg hbad,if_neg ht,if_pos (by simpa using hx)];rfl)
def Yb1 {α:Type} (E:α→Int):List α→Int
 | []=>0
 | x::r=>if E x=0 then Yb1 E r else E x
theorem Ye1 {α:Type} {E:α→Int}:∀ {l:List α} {k:Nat} {x:α},l[k]?=some x→(∀ i,i<k→∀ y,l[i]?=some y→E y=0)→E x≠0→Yb1 E l=E x
 | [],k,x,h,_,_=>by simp at h
 | y::l,0,x,h,_,hx=>by simp at h;subst h;rw [Yb1,if_neg hx]
 | y::l,k+1,x,h,hh,hx=>by
  rw [Yb1,if_pos (hh 0 Zi y rfl)]
  exact Ye1 (k:=k) (by simpa using h) (fun i hi z hz=>hh (i+1) Zi z (by simpa using hz)) hx
theorem YcN {α:Type} {E:α→Int}:∀ {l:List α},(∀ y∈l,E y=0)→Yb1 E l=0
 | [],_=>rfl
 | y::l,h=>by rw [Yb1,if_pos (h y (by simp))];exact YcN (fun z hz=>h z (by simp [hz]))
def WT (d:Domain) (all vars:List Param) (l:List Change) (du:Bool):Int:=Yb1 (fun x=>Ybm d all vars x du) l
variable {B:Option Addr}
set_option maxHeartbeats 1000000 in
theorem YfY {l:List Change} {m b:Nat} {du:Bool} (h:CkG fz v d p all) (h1:Sl paramL fz A n c vars) (h2:Sl changeL fz B m b l) (hW:∀ x∈l,n+WZ x≤1000000000):
 QFn prog 125 [v,.slice A n c,.slice B m b,.bool du] fz (errV (WT d all vars l du)):=by
 have h0:=h
 obtain ⟨⟨vf,vpp,vg,vo,hck,hF,hPr,hFu,hO⟩,hw⟩:=h
 obtain ⟨gc,w1,w2,w3,w4,w5,w6,u1,u2,u3,u4,u5,u6,u7,Aa,na,ca,rfl,hc,hD,hP,hall⟩:=hck
 have l2:=h2.len
 have s2:=h2.short
 refine GFn.quiet ?_
 refine zF Tryz.func125 Tryz.ntmps125 (fun w0=>?_)
 refine zV ?_;intros
 refine Yl (fun q σ fz' H'=>∃ k:Nat,k≤m∧q=m - k∧σ=[(14,.int .i64 k),(13,.int .i64 m),(12,.slice B m b),(0,.pointer (some ⟨gc,0,none⟩)),(1,.slice A n c),(3,.bool du)]∧fz=fz'∧H'=[]∧(∀ i,i<k→∀ y,l[i]?=some y→Ybm d all vars y du=0)) ⟨0,Z0 _,rfl,rfl,rfl,rfl,fun i hi=>absurd hi Zi⟩ Zw Zb ?_
 rintro q σ fz' H' ⟨k,hk,rfl,rfl,rfl,rfl,hh⟩
 refine zV ?_;intros
 refine zC (fun c1=>?_) (fun c1=>?_)
 ·obtain ⟨x,hx⟩:=Yn (l:=l) (k:=k) Zi
  refine zV ?_;intros
  refine zI h2 hx (fun p1 hp1=>?_)
  refine zL hp1 ?_
  intro cs hcs
  have hcs0:=hcs
  obtain ⟨v1,v2,v3,v4,v5,v6,v7,v8,rfl,hR⟩:=XH hcs
  obtain ⟨A1,n1,b1,rfl,_⟩:=hR.params
  obtain ⟨A2,n2,b2,rfl,_⟩:=hR.when_.args
  obtain ⟨A3,n3,b3,rfl,_⟩:=hR.when_.params
  obtain ⟨A4,n4,b4,rfl,_⟩:=hR.when_.exprs
  obtain ⟨A5,n5,b5,rfl,_⟩:=hR.when_.kids
  obtain ⟨A6,n6,b6,rfl,_⟩:=hR.args
  obtain ⟨A7,n7,b7,rfl,_⟩:=hR.value.args
  obtain ⟨A8,n8,b8,rfl,_⟩:=hR.value.kids
  refine zV ?_;intros
  refine zc (Ymy h0 h1 hcs0 (hW x (Zm hx))) ?_
  by_cases hz:Ybm d all vars x du=0
  ·rw [hz,show errV 0=.nilIface from rfl]
   refine zV ?_;intros
   exact Yz ⟨k+1,by omega,rfl,rfl,rfl,rfl,YL hh hx hz⟩ Zi Zw Zb
  ·rw [Yj hz]
   refine zV ?_;intros
   exact zR (h:=by rw [WT,Ye1 (E:=fun x=>Ybm d all vars x du) hx hh hz,Yj hz])
 ·have hA:=Xs hh Zi
  refine zV ?_;intros
  exact zR (h:=by rw [WT,YcN hA];rfl)
def YiZ (d:Domain):Bs × Int:=match d.duratives with
 | []=>(⟨#[]⟩,0)
 | _::_=>match d.actions with
  | a::_=>(Wx++a.name,6)
  | []=>match d.functions with
   | f::_=>(XB++f.name,6)
   | []=>(⟨#[]⟩,0)
theorem get0 {α:Type} {l:List α} (h:0<l.length):∃ x r,l=x::r:=by cases l with
 | nil=>simp at h
 | cons x r=>exact ⟨x,r,rfl⟩
theorem cknd_q {vf vg vo:Value} (h:CkR fz v d p all vf vp vg vo) (hs:NmS d all):
 QFn prog 78 [v] fz (resV (YiZ d)):=by
 obtain ⟨gc,v1,v2,v3,v4,v5,v6,u1,u2,u3,u4,u5,u6,u7,Aa,na,ca,rfl,hc,hD,hP,hall⟩:=h
 obtain ⟨A1,n1,b1,rfl,i1⟩:=hD.types
 obtain ⟨A2,n2,b2,rfl,i2⟩:=hD.constants
 obtain ⟨A3,n3,b3,rfl,i3⟩:=hD.predicates
 obtain ⟨A4,n4,b4,rfl,i4⟩:=hD.functions
 obtain ⟨A5,n5,b5,rfl,i5⟩:=hD.actions
 obtain ⟨A6,n6,b6,rfl,i6⟩:=hD.duratives
 have l3:=i3.len
 have l4:=i4.len
 have l5:=i5.len
 have l6:=i6.len
 have la:=hall.len
 have s3:=i3.short
 have s4:=i4.short
 have s5:=i5.short
 have s6:=i6.short
 have sa:=hall.short
 refine GFn.quiet ?_
 refine zF Tryz.func78 Tryz.ntmps78 (fun w0=>?_)
 refine zV ?_;intros
 refine zC (fun c1=>?_) (fun c1=>?_)
 ·have h0:d.duratives=[]:=List.eq_nil_of_length_eq_zero Zi
  refine zV ?_;intros
  exact ret2 rfl rfl rfl Zb (by rw [YiZ,h0];rfl)
 ·obtain ⟨u,r,h0⟩:=get0 (l:=d.duratives) Zi
  refine zV ?_;intros
  refine zC (fun c2=>?_) (fun c2=>?_)
  ·obtain ⟨x,r2,h2⟩:=get0 (l:=d.actions) Zi
   have hxs:=hs.a x (by rw [h2];simp)
   have hx:d.actions[0]?=some x:=by rw [h2];rfl
   refine zV ?_;intros
   refine zI i5 hx (fun p1 hp=>?_)
   refine zV ?_;intros
   refine zH hp.Action_name (fun hxn=>?_)
   refine zG ?_;refine XK Zz Zz (by show _+_≤_;exact Nat.le_trans (Nat.add_le_add_left hxs _) Zh) ?_
   refine zV ?_;intros
   exact ret2 rfl rfl rfl Zb (by rw [YiZ,h0,h2];rfl)
  ·have h2:d.actions=[]:=List.eq_nil_of_length_eq_zero Zi
   refine zV ?_;intros
   refine zC (fun c3=>?_) (fun c3=>?_)
   ·obtain ⟨x,r3,h3⟩:=get0 (l:=d.functions) Zi
    have hxs:=hs.f x (by rw [h3];simp)
    have hx:d.functions[0]?=some x:=by rw [h3];rfl
    refine zV ?_;intros
    refine zI i4 hx (fun p1 hp=>?_)
    refine zV ?_;intros
    refine zH hp.Function_name (fun hxn=>?_)
    refine zG ?_;refine XK Zz Zz (by show _+_≤_;exact Nat.le_trans (Nat.add_le_add_left hxs _) Zh) ?_
    refine zV ?_;intros
    exact ret2 rfl rfl rfl Zb (by rw [YiZ,h0,h2,h3];rfl)
   ·have h3:d.functions=[]:=List.eq_nil_of_length_eq_zero Zi
    refine zV ?_;intros
    exact ret2 rfl rfl rfl Zb (by rw [YiZ,h0,h2,h3];rfl)
def codeF (f:Function):Int:=if f.hi<f.lo then 7 else if 64≤f.hi - f.lo then 5 else 0
def YgR (a:Action):Int:=if 1048576<a.cost then 1 else 0
def YgQ (a:Durative):Int:=if a.duration<1∨62<a.duration then 1 else 0
def numsL (d:Domain):List (Bs × Int):=
 d.functions.map (fun x=>(XB++x.name,codeF x))++(d.actions.map (fun x=>(Wx++x.name,YgR x))++(d.duratives.map (fun x=>(XC++x.name,YgQ x))++ []))
set_option maxHeartbeats 4000000 in
theorem YlH {vf vg vo:Value} (h:CkR fz v d p all vf vp vg vo) (hs:NmS d all) (hn:∀ f∈d.functions,Ya3 f.lo∧Ya3 f.hi):
 QFn prog 79 [v] fz (resV (Xr (fun n=>n) (numsL d))):=by
 obtain ⟨gc,v1,v2,v3,v4,v5,v6,u1,u2,u3,u4,u5,u6,u7,Aa,na,ca,rfl,hc,hD,hP,hall⟩:=h
 obtain ⟨A1,n1,b1,rfl,i1⟩:=hD.types
 obtain ⟨A2,n2,b2,rfl,i2⟩:=hD.constants
 obtain ⟨A3,n3,b3,rfl,i3⟩:=hD.predicates
 obtain ⟨A4,n4,b4,rfl,i4⟩:=hD.functions
 obtain ⟨A5,n5,b5,rfl,i5⟩:=hD.actions
 obtain ⟨A6,n6,b6,rfl,i6⟩:=hD.duratives
 have l3:=i3.len
 have l4:=i4.len
 have l5:=i5.len
 have l6:=i6.len
 have la:=hall.len
 have s3:=i3.short
 have s4:=i4.short
 have s5:=i5.short
 have s6:=i6.short
 have sa:=hall.short
 refine GFn.quiet ?_
 refine zF Tryz.func79 Tryz.ntmps79 (fun w0=>?_)
 refine zV ?_;intros
 refine Yl (fun q σ fz' H'=>∃ k:Nat,k≤n4∧q=n4 - k∧σ=[(16,.int .i64 k),(15,.int .i64 n4),(14,.slice A4 n4 b4),(0,.pointer (some ⟨gc,0,none⟩))]∧fz=fz'∧H'=[]∧(∀ i,i<k→∀ x,d.functions[i]?=some x→codeF x=0)) ⟨0,Z0 _,rfl,rfl,rfl,rfl,fun i hi=>absurd hi Zi⟩ Zw Zb ?_
 rintro q σ fz' H' ⟨k,hk,rfl,rfl,rfl,rfl,hh⟩
 refine zV ?_;intros
 refine zC (fun c1=>?_) (fun c1=>?_)
 ·obtain ⟨x,hx⟩:=Yn (l:=d.functions) (k:=k) Zi
  have hxm:=Zm hx
  have hxs:=hs.f x hxm
  refine zV ?_;intros
  refine zI i4 hx (fun p1 hp=>?_)
  refine zL hp ?_
  intro cs hcs
  obtain ⟨w1,rfl,hR⟩:=Y6 hcs
  obtain ⟨Ap,np,cp,rfl,ip⟩:=hR.params
  have hnx:=hn x hxm
  obtain ⟨hn1,hn2⟩:=hnx
  unfold Ya3 at hn1 hn2
  refine zV ?_;intros
  refine zC (fun e1=>?_) (fun e1=>?_)
  ·have e1:=e1
   have hz:codeF x=7:=if_pos e1
   refine zV ?_;intros
   refine zG ?_;refine XK Zz Zz (by show _+_≤_;exact Nat.le_trans (Nat.add_le_add_left hxs _) Zh) ?_
   refine zV ?_;intros
   exact ret2 rfl rfl rfl Zb (by rw [numsL,Ws (l:=d.functions) (E:=fun n=>n) (f:=fun x=>XB++x.name) (g:=codeF) hx hh (by rw [hz];decide),hz];rfl)
  ·refine zV ?_;intros
   refine zC (fun e2=>?_) (fun e2=>?_)
   ·have e2:=e2
    have hz:codeF x=5:=by rw [codeF,if_neg e1,if_pos e2]
    refine zV ?_;intros
    refine zG ?_;refine XK Zz Zz (by show _+_≤_;exact Nat.le_trans (Nat.add_le_add_left hxs _) Zh) ?_
    refine zV ?_;intros
    exact ret2 rfl rfl rfl Zb (by rw [numsL,Ws (l:=d.functions) (E:=fun n=>n) (f:=fun x=>XB++x.name) (g:=codeF) hx hh (by rw [hz];decide),hz];rfl)
   ·have e2:=e2
    have hz:codeF x=0:=by rw [codeF,if_neg e1,if_neg e2]
    refine zV ?_;intros
    exact Yz ⟨k+1,by omega,rfl,rfl,rfl,rfl,YL hh hx hz⟩ Zi Zw Zb
 ·have hzf:=fun x (hx:x∈d.functions)=>(by obtain ⟨i,hi⟩:=List.getElem?_of_mem hx;exact Xs hh Zi x hx:codeF x=0)
  refine zV ?_;intros
  refine Yl (fun q σ fz' H'=>∃ k:Nat,k≤n5∧q=n5 - k∧σ=[(48,.int .i64 k),(47,.int .i64 n5),(46,.slice A5 n5 b5),(0,.pointer (some ⟨gc,0,none⟩))]∧fz=fz'∧H'=[]∧(∀ i,i<k→∀ x,d.actions[i]?=some x→YgR x=0)) ⟨0,Z0 _,rfl,rfl,rfl,rfl,fun i hi=>absurd hi Zi⟩ Zw Zb ?_
  rintro q σ fz' H' ⟨k,hk,rfl,rfl,rfl,rfl,hh⟩
  refine zV ?_;intros
  refine zC (fun c1=>?_) (fun c1=>?_)
  ·obtain ⟨x,hx⟩:=Yn (l:=d.actions) (k:=k) Zi
   have hxm:=Zm hx
   have hxs:=hs.a x hxm
   refine zV ?_;intros
   refine zI i5 hx (fun p1 hp=>?_)
   refine zL hp ?_
   intro cs hcs
   obtain ⟨w1,w2,w3,w4,w5,w6,rfl,hR⟩:=Xz hcs
   obtain ⟨Ap,np,cp,rfl,ip⟩:=hR.params
   obtain ⟨B0,e0,j0,rfl,_⟩:=hR.pre.args
   obtain ⟨B1,e1,j1,rfl,_⟩:=hR.pre.params
   obtain ⟨B2,e2,j2,rfl,_⟩:=hR.pre.exprs
   obtain ⟨B3,e3,j3,rfl,_⟩:=hR.pre.kids
   obtain ⟨B4,e4,j4,rfl,_⟩:=hR.changes
   refine zV ?_;intros
   refine zC (fun e1=>?_) (fun e1=>?_)
   ·have e1:=e1
    have hz:YgR x=1:=if_pos e1
    refine zV ?_;intros
    refine zG ?_;refine XK Zz Zz (by show _+_≤_;exact Nat.le_trans (Nat.add_le_add_left hxs _) Zh) ?_
    refine zV ?_;intros
    exact ret2 rfl rfl rfl Zb (by rw [numsL,Y4 (l:=d.functions) (E:=fun n=>n) (f:=fun x=>XB++x.name) (g:=codeF) hzf,Ws (l:=d.actions) (E:=fun n=>n) (f:=fun x=>Wx++x.name) (g:=YgR) hx hh (by rw [hz];decide),hz];rfl)
   ·have e1:=e1
    have hz:YgR x=0:=if_neg e1
    refine zV ?_;intros
    exact Yz ⟨k+1,by omega,rfl,rfl,rfl,rfl,YL hh hx hz⟩ Zi Zw Zb
  ·have hza:=fun x (hx:x∈d.actions)=>(by obtain ⟨i,hi⟩:=List.getElem?_of_mem hx;exact Xs hh Zi x hx:YgR x=0)
   refine zV ?_;intros
   refine Yl (fun q σ fz' H'=>∃ k:Nat,k≤n6∧q=n6 - k∧σ=[(66,.int .i64 k),(65,.int .i64 n6),(64,.slice A6 n6 b6)]∧fz=fz'∧H'=[]∧(∀ i,i<k→∀ x,d.duratives[i]?=some x→YgQ x=0)) ⟨0,Z0 _,rfl,rfl,rfl,rfl,fun i hi=>absurd hi Zi⟩ Zw Zb ?_
   rintro q σ fz' H' ⟨k,hk,rfl,rfl,rfl,rfl,hh⟩
   refine zV ?_;intros
   refine zC (fun c1=>?_) (fun c1=>?_)
   ·obtain ⟨x,hx⟩:=Yn (l:=d.duratives) (k:=k) Zi
    have hxm:=Zm hx
    have hxs:=hs.u x hxm
    refine zV ?_;intros
    refine zI i6 hx (fun p1 hp=>?_)
    refine zL hp ?_
    intro cs hcs
    obtain ⟨w0,w1,w2,w3,w4,w5,w6,w7,w8,w9,w10,w11,w12,w13,w14,rfl,hR⟩:=Xm hcs
    obtain ⟨Ap,np,cp,rfl,ip⟩:=hR.params
    obtain ⟨B0,e0,j0,rfl,_⟩:=hR.start.args
    obtain ⟨B1,e1,j1,rfl,_⟩:=hR.start.params
    obtain ⟨B2,e2,j2,rfl,_⟩:=hR.start.exprs
    obtain ⟨B3,e3,j3,rfl,_⟩:=hR.start.kids
    obtain ⟨B4,e4,j4,rfl,_⟩:=hR.over.args
    obtain ⟨B5,e5,j5,rfl,_⟩:=hR.over.params
    obtain ⟨B6,e6,j6,rfl,_⟩:=hR.over.exprs
    obtain ⟨B7,e7,j7,rfl,_⟩:=hR.over.kids
    obtain ⟨B8,e8,j8,rfl,_⟩:=hR.fin.args
    obtain ⟨B9,e9,j9,rfl,_⟩:=hR.fin.params
    obtain ⟨B10,e10,j10,rfl,_⟩:=hR.fin.exprs
    obtain ⟨B11,e11,j11,rfl,_⟩:=hR.fin.kids
    obtain ⟨B12,e12,j12,rfl,_⟩:=hR.atStart
    obtain ⟨B13,e13,j13,rfl,_⟩:=hR.atEnd
    refine zV ?_;intros
    refine zC (fun e1=>?_) (fun e1=>?_)
    ·have e1:=e1
     have hz:YgQ x=1:=if_pos (.inl e1)
     refine zV ?_;intros
     refine zG ?_;refine XK Zz Zz (by show _+_≤_;exact Nat.le_trans (Nat.add_le_add_left hxs _) Zh) ?_
     refine zV ?_;intros
     exact ret2 rfl rfl rfl Zb (by rw [numsL,Y4 (l:=d.functions) (E:=fun n=>n) (f:=fun x=>XB++x.name) (g:=codeF) hzf,Y4 (l:=d.actions) (E:=fun n=>n) (f:=fun x=>Wx++x.name) (g:=YgR) hza,Ws (l:=d.duratives) (E:=fun n=>n) (f:=fun x=>XC++x.name) (g:=YgQ) hx hh (by rw [hz];decide),hz];rfl)
    ·refine zV ?_;intros
     refine zC (fun e2=>?_) (fun e2=>?_)
     ·have e2:=e2
      have hz:YgQ x=1:=if_pos (.inr e2)
      refine zV ?_;intros
      refine zG ?_;refine XK Zz Zz (by show _+_≤_;exact Nat.le_trans (Nat.add_le_add_left hxs _) Zh) ?_
      refine zV ?_;intros
      exact ret2 rfl rfl rfl Zb (by rw [numsL,Y4 (l:=d.functions) (E:=fun n=>n) (f:=fun x=>XB++x.name) (g:=codeF) hzf,Y4 (l:=d.actions) (E:=fun n=>n) (f:=fun x=>Wx++x.name) (g:=YgR) hza,Ws (l:=d.duratives) (E:=fun n=>n) (f:=fun x=>XC++x.name) (g:=YgQ) hx hh (by rw [hz];decide),hz];rfl)
     ·have e2:=e2
      have hz:YgQ x=0:=if_neg (fun h=>h.elim e1 e2)
      refine zV ?_;intros
      exact Yz ⟨k+1,by omega,rfl,rfl,rfl,rfl,YL hh hx hz⟩ Zi Zw Zb
   ·have hzu:=fun x (hx:x∈d.duratives)=>(by obtain ⟨i,hi⟩:=List.getElem?_of_mem hx;exact Xs hh Zi x hx:YgQ x=0)
    refine zV ?_;intros
    exact ret2 rfl rfl rfl Zb (by rw [numsL,Y4 (l:=d.functions) (E:=fun n=>n) (f:=fun x=>XB++x.name) (g:=codeF) hzf,Y4 (l:=d.actions) (E:=fun n=>n) (f:=fun x=>Wx++x.name) (g:=YgR) hza,Y4 (l:=d.duratives) (E:=fun n=>n) (f:=fun x=>XC++x.name) (g:=YgQ) hzu];rfl)
end Go.Proofs.YtfjopfinkdhmaaaGreatDoor
