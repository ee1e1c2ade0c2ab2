/- The texts PCE, PCG, PCH, PCI, PWt, PCJ, PCK, laid together. Conditions: none. -/
import Derived.Test.YtbnpeechpebmeaaGreatDoorRBH
set_option linter.all false
noncomputable section
set_option maxRecDepth 20000
namespace Go.Proofs.YtbnpeechpebmeaaGreatDoor
open Go.Lx Go.RowKit
attribute [local instance 10] Classical.propDecidable
open Go.Proofs.Tryz (prog)
def nmd (w n:Bs):Param:=⟨n,w++n⟩
def Yce (d:Domain):List Param:=d.predicates.map (fun x=>nmd XG x.name)++d.functions.map (fun x=>nmd Xr x.name)
def YbQ (all:List Param):List Param:=all.map (fun x=>nmd Ybr x.name)
def YdG (d:Domain):List Param:=d.actions.map (fun x=>nmd XW x.name)++d.duratives.map (fun x=>nmd Xn x.name)
def Yao (d:Domain) (all:List Param):Option Bs:=match repM [] (Yce d) with
 | some p=>some p
 | none=>match repM [] (YbQ all) with
  | some p=>some p
  | none=>repM [] (YdG d)
variable {fz:FZ}
theorem Yew {w n:Bs} (hn:Short n) (hs:n.size≤1000) (hw:w.size≤1000):paramL.rep fz (nmd w n) [.string n,.string (w++n)]:=
 Yes (x:=nmd w n) ⟨hn,by show (w++n).size≤_;rw [ByteArray.size_append];omega⟩
variable {all:List Param} {d:Domain} {p:Problem} {v vp:Value}
set_option maxHeartbeats 8000000 in
theorem names_q {vf vg vo:Value} (h:CkR fz v d p all vf vp vg vo) (hs:NmS d all)
 (hm:d.predicates.length≤1000000∧d.functions.length≤1000000∧all.length≤1000000∧d.actions.length≤1000000∧d.duratives.length≤1000000):
 QFn prog 59 [v] fz (repV (Yao d all)):=by
 obtain ⟨gc,v1,v2,v3,v4,v5,v6,u1,u2,u3,u4,u5,u6,u7,Aa,na,ca,rfl,hc,hD,hP,hall⟩:=h
 obtain ⟨A1,n1,b1,rfl,i1⟩:=hD.types
 obtain ⟨A2,n2,b2,rfl,i2⟩:=hD.constants
 obtain ⟨A3,n3,b3,rfl,i3⟩:=hD.predicates
 obtain ⟨A4,n4,b4,rfl,i4⟩:=hD.functions
 obtain ⟨A5,n5,b5,rfl,i5⟩:=hD.actions
 obtain ⟨A6,n6,b6,rfl,i6⟩:=hD.duratives
 have l3:=i3.len
 have l4:=i4.len
 have l5:=i5.len
 have l6:=i6.len
 have la:=hall.len
 have s3:=i3.short
 have s4:=i4.short
 have s5:=i5.short
 have s6:=i6.short
 have sa:=hall.short
 obtain ⟨m3,m4,ma,m5,m6⟩:=hm
 refine GFn.quiet ?_
 refine zF Tryz.func59 Tryz.ntmps59 (fun w0=>?_)
 refine zV ?_;intros
 rename_i gs
 refine zV ?_;intros
 refine Yk (fun q σ fz' H'=>∃ (k:Nat) (v':Value) (Ho:HP),k≤n3∧q=n3 - k∧σ=[(25,.int .i64 k),(24,.int .i64 n3),(23,.slice A3 n3 b3),(4,.pointer (some ⟨gs,0,none⟩)),(0,.pointer (some ⟨gc,0,none⟩))]∧fz=fz'∧H'=(gs,.cells #[v',.slice none 0 0,.slice none 0 0] 182 (0,0))::Ho∧Grow paramL 184 fz v' (k) Ho ((d.predicates.take k).map (fun x=>nmd XG x.name))) ⟨0,_,[],Z0 _,rfl,rfl,rfl,rfl,Grow.nil _ _ _⟩ Zw Zb ?_
 rintro q σ fz' H' ⟨k,v',Ho,hk,rfl,rfl,rfl,rfl,hG⟩
 obtain ⟨Ao,co,rfl,_,_⟩:=hG.form
 refine zV ?_;intros
 refine zC (fun c1=>?_) (fun c1=>?_)
 ·obtain ⟨x,hx⟩:=Yg (l:=d.predicates) (k:=k) Zi
  have hxs:=hs.p x (Zm hx)
  refine zV ?_;intros
  refine zI i3 hx (fun p1 hp=>?_)
  refine zL hp ?_
  intro cs hcs
  obtain ⟨w1,rfl,hR⟩:=X0 hcs
  obtain ⟨Ap,np,cp,rfl,ip⟩:=hR.params
  have hxn:Short x.name:=by unfold Short;omega
  refine zV ?_;intros
  ((refine zG ?_);refine XQ T Zz Zz Zz Zz Zz Zh Zh ?_)
  refine zV ?_;intros
  refine zG ?_;refine XC Zz Zz (by show _+_≤_;exact Nat.le_trans (Nat.add_le_add_left hxs _) Zh) ?_
  refine zV ?_;intros
  refine Yb Zz (Yc T (cs:=[.string x.name,.string (XG++x.name)]) Zz Zz Zz Zz Zz Zz Zz Zz (fun gb=>?_))
  refine Yb Zz (YK T (Hr:=[_,_,_]) (d:=nmd XG x.name) Zz Zz Zz Zz Zz Zz Zz Zz (Zr _) hG WN (.head _) (Yew hxn hxs Zh) (by show _*32≤_;omega) Zi (fun v2 Hs' hO'=>?_))
  obtain ⟨Av',cv',rfl,_,_⟩:=hO'.form
  refine zV ?_;intros
  ((refine zG ?_);refine XQ T Zz Zz Zz Zz Zz Zh Zh ?_)
  refine zV ?_;intros
  exact YA ⟨k+1,_,Hs',by omega,rfl,rfl,rfl,rfl,hO'.of (by rw [List.take_add_one,hx];simp) Zi⟩ Zi Zw Zb
 ·have hk1:n3=k:=by omega
  subst hk1
  rw [show d.predicates.take n3=d.predicates from Zl Zi] at hG
  refine zV ?_;intros
  refine Yk (fun q σ fz' H'=>∃ (k:Nat) (v':Value) (Ho:HP),k≤n4∧q=n4 - k∧σ=[(47,.int .i64 k),(46,.int .i64 n4),(45,.slice A4 n4 b4),(4,.pointer (some ⟨gs,0,none⟩)),(0,.pointer (some ⟨gc,0,none⟩))]∧fz=fz'∧H'=(gs,.cells #[v',.slice none 0 0,.slice none 0 0] 182 (0,0))::Ho∧Grow paramL 184 fz v' (n3+k) Ho (d.predicates.map (fun x=>nmd XG x.name)++(d.functions.take k).map (fun x=>nmd Xr x.name))) ⟨0,_,Ho,Z0 _,rfl,rfl,rfl,rfl,hG.of (by simp) rfl⟩ Zw Zb ?_
  rintro q σ fz' H' ⟨k,v',Ho,hk,rfl,rfl,rfl,rfl,hG⟩
  obtain ⟨Ao,co,rfl,_,_⟩:=hG.form
  refine zV ?_;intros
  refine zC (fun c1=>?_) (fun c1=>?_)
  ·obtain ⟨x,hx⟩:=Yg (l:=d.functions) (k:=k) Zi
   have hxs:=hs.f x (Zm hx)
   refine zV ?_;intros
   refine zI i4 hx (fun p1 hp=>?_)
   refine zL hp ?_
   intro cs hcs
   obtain ⟨w1,rfl,hR⟩:=XD hcs
   obtain ⟨Ap,np,cp,rfl,ip⟩:=hR.params
   have hxn:Short x.name:=by unfold Short;omega
   refine zV ?_;intros
   ((refine zG ?_);refine XQ T Zz Zz Zz Zz Zz Zh Zh ?_)
   refine zV ?_;intros
   refine zG ?_;refine XC Zz Zz (by show _+_≤_;exact Nat.le_trans (Nat.add_le_add_left hxs _) Zh) ?_
   refine zV ?_;intros
   refine Yb Zz (Yc T (cs:=[.string x.name,.string (Xr++x.name)]) Zz Zz Zz Zz Zz Zz Zz Zz (fun gb=>?_))
   refine Yb Zz (YK T (Hr:=[_,_,_]) (d:=nmd Xr x.name) Zz Zz Zz Zz Zz Zz Zz Zz (Zr _) hG WN (.head _) (Yew hxn hxs Zh) (by show _*32≤_;omega) Zi (fun v2 Hs' hO'=>?_))
   obtain ⟨Av',cv',rfl,_,_⟩:=hO'.form
   refine zV ?_;intros
   ((refine zG ?_);refine XQ T Zz Zz Zz Zz Zz Zh Zh ?_)
   refine zV ?_;intros
   exact YA ⟨k+1,_,Hs',by omega,rfl,rfl,rfl,rfl,hO'.of (by rw [List.take_add_one,hx];simp) Zi⟩ Zi Zw Zb
  ·have hk1:n4=k:=by omega
   subst hk1
   rw [show d.functions.take n4=d.functions from Zl Zi] at hG
   have hG0:Grow paramL 184 fz _ (n3+n4) Ho (Yce d):=hG
   clear hG
   refine zV ?_;intros
   refine Yk (fun q σ fz' H'=>∃ (k:Nat) (v':Value) (H1:HP),k≤na∧q=na - k∧σ=[(68,.int .i64 k),(67,.int .i64 na),(66,.slice Aa na ca),(4,.pointer (some ⟨gs,0,none⟩)),(0,.pointer (some ⟨gc,0,none⟩))]∧fz=fz'∧H'=(gs,.cells #[.slice Ao (n3+n4) co,v',.slice none 0 0] 182 (0,0))::(Ho++H1)∧Grow paramL 184 fz v' (k) H1 ((all.take k).map (fun x=>nmd Ybr x.name))) ⟨0,_,[],Z0 _,rfl,rfl,rfl,(by rw [List.append_nil]),Grow.nil _ _ _⟩ Zw Zb ?_
   rintro q σ fz' H' ⟨k,v',H1,hk,rfl,rfl,rfl,rfl,hG⟩
   obtain ⟨A1',c1',rfl,_,_⟩:=hG.form
   refine zV ?_;intros
   refine zC (fun c1=>?_) (fun c1=>?_)
   ·obtain ⟨x,hx⟩:=Yg (l:=all) (k:=k) Zi
    have hxs:=hs.o x (Zm hx)
    refine zV ?_;intros
    refine zI hall hx (fun p1 hp=>?_)
    refine zL hp ?_
    intro cs hcs
    obtain ⟨rfl,hR⟩:=YT hcs
    have hxn:Short x.name:=by unfold Short;omega
    refine zV ?_;intros
    ((refine zG ?_);refine XQ T Zz Zz Zz Zz Zz Zh Zh ?_)
    refine zV ?_;intros
    refine zG ?_;refine XC Zz Zz (by show _+_≤_;exact Nat.le_trans (Nat.add_le_add_left hxs _) Zh) ?_
    refine zV ?_;intros
    refine Yb Zz (Yc T (cs:=[.string x.name,.string (Ybr++x.name)]) Zz Zz Zz Zz Zz Zz Zz Zz (fun gb=>?_))
    refine Yb Zz (YK T (Hr:=_::_::_::Ho) (d:=nmd Ybr x.name) Zz Zz Zz Zz Zz Zz Zz Zz (Zr _) hG WN (.head _) (Yew hxn hxs Zh) (by show _*32≤_;omega) Zi (fun v2 Hs' hO'=>?_))
    obtain ⟨Av',cv',rfl,_,_⟩:=hO'.form
    refine zV ?_;intros
    ((refine zG ?_);refine XQ T Zz Zz Zz Zz Zz Zh Zh ?_)
    refine zV ?_;intros
    exact YA ⟨k+1,_,Hs',by omega,rfl,rfl,rfl,rfl,hO'.of (by rw [List.take_add_one,hx];simp) Zi⟩ Zi Zw Zb
   ·have hk1:na=k:=by omega
    subst hk1
    rw [show all.take na=all from Zl Zi] at hG
    have hG1:Grow paramL 184 fz _ na H1 (YbQ all):=hG
    clear hG
    refine zV ?_;intros
    refine Yk (fun q σ fz' H'=>∃ (k:Nat) (v':Value) (H2:HP),k≤n5∧q=n5 - k∧σ=[(90,.int .i64 k),(89,.int .i64 n5),(88,.slice A5 n5 b5),(4,.pointer (some ⟨gs,0,none⟩)),(0,.pointer (some ⟨gc,0,none⟩))]∧fz=fz'∧H'=(gs,.cells #[.slice Ao (n3+n4) co,.slice A1' na c1',v'] 182 (0,0))::((Ho++H1)++H2)∧Grow paramL 184 fz v' (k) H2 ((d.actions.take k).map (fun x=>nmd XW x.name))) ⟨0,_,[],Z0 _,rfl,rfl,rfl,(by rw [List.append_nil]),Grow.nil _ _ _⟩ Zw Zb ?_
    rintro q σ fz' H' ⟨k,v',H2,hk,rfl,rfl,rfl,rfl,hG⟩
    obtain ⟨A2',c2',rfl,_,_⟩:=hG.form
    refine zV ?_;intros
    refine zC (fun c1=>?_) (fun c1=>?_)
    ·obtain ⟨x,hx⟩:=Yg (l:=d.actions) (k:=k) Zi
     have hxs:=hs.a x (Zm hx)
     refine zV ?_;intros
     refine zI i5 hx (fun p1 hp=>?_)
     refine zL hp ?_
     intro cs hcs
     obtain ⟨w1,w2,w3,w4,w5,w6,rfl,hR⟩:=XO hcs
     obtain ⟨Ap,np,cp,rfl,ip⟩:=hR.params
     obtain ⟨B0,e0,j0,rfl,_⟩:=hR.pre.args
     obtain ⟨B1,e1,j1,rfl,_⟩:=hR.pre.params
     obtain ⟨B2,e2,j2,rfl,_⟩:=hR.pre.exprs
     obtain ⟨B3,e3,j3,rfl,_⟩:=hR.pre.kids
     obtain ⟨B4,e4,j4,rfl,_⟩:=hR.changes
     have hxn:Short x.name:=by unfold Short;omega
     refine zV ?_;intros
     ((refine zG ?_);refine XQ T Zz Zz Zz Zz Zz Zh Zh ?_)
     refine zV ?_;intros
     refine zG ?_;refine XC Zz Zz (by show _+_≤_;exact Nat.le_trans (Nat.add_le_add_left hxs _) Zh) ?_
     refine zV ?_;intros
     refine Yb Zz (Yc T (cs:=[.string x.name,.string (XW++x.name)]) Zz Zz Zz Zz Zz Zz Zz Zz (fun gb=>?_))
     refine Yb Zz (YK T (Hr:=_::_::_::(Ho++H1)) (d:=nmd XW x.name) Zz Zz Zz Zz Zz Zz Zz Zz (Zr _) hG WN (.head _) (Yew hxn hxs Zh) (by show _*32≤_;omega) Zi (fun v2 Hs' hO'=>?_))
     obtain ⟨Av',cv',rfl,_,_⟩:=hO'.form
     refine zV ?_;intros
     ((refine zG ?_);refine XQ T Zz Zz Zz Zz Zz Zh Zh ?_)
     refine zV ?_;intros
     exact YA ⟨k+1,_,Hs',by omega,rfl,rfl,rfl,rfl,hO'.of (by rw [List.take_add_one,hx];simp) Zi⟩ Zi Zw Zb
    ·have hk1:n5=k:=by omega
     subst hk1
     rw [show d.actions.take n5=d.actions from Zl Zi] at hG
     refine zV ?_;intros
     refine Yk (fun q σ fz' H'=>∃ (k:Nat) (v':Value) (H2:HP),k≤n6∧q=n6 - k∧σ=[(112,.int .i64 k),(111,.int .i64 n6),(110,.slice A6 n6 b6),(4,.pointer (some ⟨gs,0,none⟩))]∧fz=fz'∧H'=(gs,.cells #[.slice Ao (n3+n4) co,.slice A1' na c1',v'] 182 (0,0))::((Ho++H1)++H2)∧Grow paramL 184 fz v' (n5+k) H2 (d.actions.map (fun x=>nmd XW x.name)++(d.duratives.take k).map (fun x=>nmd Xn x.name))) ⟨0,_,H2,Z0 _,rfl,rfl,rfl,rfl,hG.of (by simp) rfl⟩ Zw Zb ?_
     rintro q σ fz' H' ⟨k,v',H2,hk,rfl,rfl,rfl,rfl,hG⟩
     obtain ⟨A2',c2',rfl,_,_⟩:=hG.form
     refine zV ?_;intros
     refine zC (fun c1=>?_) (fun c1=>?_)
     ·obtain ⟨x,hx⟩:=Yg (l:=d.duratives) (k:=k) Zi
      have hxs:=hs.u x (Zm hx)
      refine zV ?_;intros
      refine zI i6 hx (fun p1 hp=>?_)
      refine zL hp ?_
      intro cs hcs
      obtain ⟨w0,w1,w2,w3,w4,w5,w6,w7,w8,w9,w10,w11,w12,w13,w14,rfl,hR⟩:=XE hcs
      obtain ⟨Ap,np,cp,rfl,ip⟩:=hR.params
      obtain ⟨B0,e0,j0,rfl,_⟩:=hR.start.args
      obtain ⟨B1,e1,j1,rfl,_⟩:=hR.start.params
      obtain ⟨B2,e2,j2,rfl,_⟩:=hR.start.exprs
      obtain ⟨B3,e3,j3,rfl,_⟩:=hR.start.kids
      obtain ⟨B4,e4,j4,rfl,_⟩:=hR.over.args
      obtain ⟨B5,e5,j5,rfl,_⟩:=hR.over.params
      obtain ⟨B6,e6,j6,rfl,_⟩:=hR.over.exprs
      obtain ⟨B7,e7,j7,rfl,_⟩:=hR.over.kids
      obtain ⟨B8,e8,j8,rfl,_⟩:=hR.fin.args
      obtain ⟨B9,e9,j9,rfl,_⟩:=hR.fin.params
      obtain ⟨B10,e10,j10,rfl,_⟩:=hR.fin.exprs
      obtain ⟨B11,e11,j11,rfl,_⟩:=hR.fin.kids
      obtain ⟨B12,e12,j12,rfl,_⟩:=hR.atStart
      obtain ⟨B13,e13,j13,rfl,_⟩:=hR.atEnd
      have hxn:Short x.name:=by unfold Short;omega
      refine zV ?_;intros
      ((refine zG ?_);refine XQ T Zz Zz Zz Zz Zz Zh Zh ?_)
      refine zV ?_;intros
      refine zG ?_;refine XC Zz Zz (by show _+_≤_;exact Nat.le_trans (Nat.add_le_add_left hxs _) Zh) ?_
      refine zV ?_;intros
      refine Yb Zz (Yc T (cs:=[.string x.name,.string (Xn++x.name)]) Zz Zz Zz Zz Zz Zz Zz Zz (fun gb=>?_))
      refine Yb Zz (YK T (Hr:=_::_::_::(Ho++H1)) (d:=nmd Xn x.name) Zz Zz Zz Zz Zz Zz Zz Zz (Zr _) hG WN (.head _) (Yew hxn hxs Zh) (by show _*32≤_;omega) Zi (fun v2 Hs' hO'=>?_))
      obtain ⟨Av',cv',rfl,_,_⟩:=hO'.form
      refine zV ?_;intros
      ((refine zG ?_);refine XQ T Zz Zz Zz Zz Zz Zh Zh ?_)
      refine zV ?_;intros
      exact YA ⟨k+1,_,Hs',by omega,rfl,rfl,rfl,rfl,hO'.of (by rw [List.take_add_one,hx];simp) Zi⟩ Zi Zw Zb
     ·have hk1:n6=k:=by omega
      subst hk1
      rw [show d.duratives.take n6=d.duratives from Zl Zi] at hG
      have hG2:Grow paramL 184 fz _ (n5+n6) H2 (YdG d):=hG
      clear hG
      refine zV ?_;intros
      refine Yk (fun q σ fz' H'=>∃ k:Nat,k≤3∧q=3 - k∧σ=[(129,.int .i64 k),(128,.agg #[.slice Ao (n3+n4) co,.slice A1' na c1',.slice A2' (n5+n6) c2'])]∧fz=fz'∧H'=(gs,.cells #[.slice Ao (n3+n4) co,.slice A1' na c1',.slice A2' (n5+n6) c2'] 182 (0,0))::((Ho++H1)++H2)∧(0<k→repM [] (Yce d)=none)∧(1<k→repM [] (YbQ all)=none)∧(2<k→repM [] (YdG d)=none)) ⟨0,by omega,rfl,rfl,rfl,rfl,fun h0=>by omega,fun h0=>by omega,fun h0=>by omega⟩ Zw Zb ?_
      rintro q σ fz' H' ⟨k,hk,rfl,rfl,rfl,rfl,z0,z1,z2⟩
      refine zV ?_;intros
      refine zC (fun c1=>?_) (fun c1=>?_)
      ·have hk3:k=0∨k=1∨k=2:=by omega
       rcases hk3 with rfl | rfl | rfl
       ·refine zV ?_;intros
        refine zG ?_;refine Ygc T Zz Zz Zz Zz Zz Zz Zz Zh Zh Zz ?_
        refine zV ?_;intros
        (refine zG ?_);refine Wf (v:=repV (repM [] (Yce d))) Zz Zz (fun fz' hl hf=>by
         obtain ⟨A',c',he,hsl⟩:=hG0.sl hl (fun p hp=>hf p (by simp [hp])) Zi
         injection he with x1 x2 x3
         subst x1 x3
         exact Yda hsl) ?_
        cases hr:repM [] (Yce d) with
        | some pl=>
         rw [show repV (some pl)=.tuple #[.string pl,.iface 60 (.int .i64 4)] from rfl]
         refine zV ?_;intros
         exact ret2 rfl rfl rfl Zb (by rw [Yao,hr];rfl)
        | none=>
         rw [show repV none=.tuple #[.string ⟨#[]⟩,.nilIface] from rfl]
         refine zV ?_;intros
         exact YA ⟨1,by omega,rfl,rfl,rfl,rfl,fun _=>rfl,fun h0=>by omega,fun h0=>by omega⟩ Zi Zw Zb
       ·refine zV ?_;intros
        refine zG ?_;refine Ygc T Zz Zz Zz Zz Zz Zz Zz Zh Zh Zz ?_
        refine zV ?_;intros
        (refine zG ?_);refine Wf (v:=repV (repM [] (YbQ all))) Zz Zz (fun fz' hl hf=>by
         obtain ⟨A',c',he,hsl⟩:=hG1.sl hl (fun p hp=>hf p (by simp [hp])) Zi
         injection he with x1 x2 x3
         subst x1 x3
         exact Yda hsl) ?_
        cases hr:repM [] (YbQ all) with
        | some pl=>
         rw [show repV (some pl)=.tuple #[.string pl,.iface 60 (.int .i64 4)] from rfl]
         refine zV ?_;intros
         exact ret2 rfl rfl rfl Zb (by rw [Yao,z0 Zi,hr];rfl)
        | none=>
         rw [show repV none=.tuple #[.string ⟨#[]⟩,.nilIface] from rfl]
         refine zV ?_;intros
         exact YA ⟨2,by omega,rfl,rfl,rfl,rfl,fun _=>z0 Zi,fun _=>rfl,fun h0=>by omega⟩ Zi Zw Zb
       ·refine zV ?_;intros
        refine zG ?_;refine Ygc T Zz Zz Zz Zz Zz Zz Zz Zh Zh Zz ?_
        refine zV ?_;intros
        (refine zG ?_);refine Wf (v:=repV (repM [] (YdG d))) Zz Zz (fun fz' hl hf=>by
         obtain ⟨A',c',he,hsl⟩:=hG2.sl hl (fun p hp=>hf p (by simp [hp])) Zi
         injection he with x1 x2 x3
         subst x1 x3
         exact Yda hsl) ?_
        cases hr:repM [] (YdG d) with
        | some pl=>
         rw [show repV (some pl)=.tuple #[.string pl,.iface 60 (.int .i64 4)] from rfl]
         refine zV ?_;intros
         exact ret2 rfl rfl rfl Zb (by rw [Yao,z0 Zi,z1 Zi,hr];rfl)
        | none=>
         rw [show repV none=.tuple #[.string ⟨#[]⟩,.nilIface] from rfl]
         refine zV ?_;intros
         exact YA ⟨3,by omega,rfl,rfl,rfl,rfl,fun _=>z0 Zi,fun _=>z1 Zi,fun _=>rfl⟩ Zi Zw Zb
      ·refine zV ?_;intros
       exact ret2 rfl rfl rfl Zb (by rw [Yao,z0 Zi,z1 Zi,z2 Zi];rfl)
end Go.Proofs.YtbnpeechpebmeaaGreatDoor
namespace Go.Lx
variable {A:Option Addr} {c n:Nat} {fz:FZ}
theorem Sl.reps {α:Type} {L:Lay α} {l:List α} (h:Sl L fz A n c l) {x:α} (hx:x∈l):∃ cs,L.rep fz x cs:=by
 obtain ⟨i,hi⟩:=List.getElem?_of_mem hx
 have h1:=(Zg hi).1
 have h2:=h.len
 rcases h.elem with h0 | ⟨ad,_,h3⟩
 ·omega
 ·obtain ⟨cs,h4,_⟩:=h3 i x hi
  exact ⟨cs,h4⟩
end Go.Lx
namespace Go.Proofs.YtbnpeechpebmeaaGreatDoor
open Go.Lx Go.RowKit
attribute [local instance 10] Classical.propDecidable
open Go.Proofs.Tryz (prog)
variable {A:Option Addr} {c n:Nat} {fz:FZ}
theorem YaY {l:List Param} (h:Sl paramL fz A n c l):∀ p∈l,Short p.name∧Short p.typ:=fun p hp=>by
 obtain ⟨cs,hr⟩:=h.reps hp
 obtain ⟨_,hR⟩:=YT hr
 exact ⟨hR.name,hR.typ⟩
def kQm:Bs:=⟨#[63]⟩
theorem Yg2 {s p:Bs} (hs:Short s) (hp:Short p):QFn prog 192 [.string s,.string p] fz (.bool (decide (PreP s p))):=by
 refine GFn.quiet ?_
 refine zF Tryz.func192 Tryz.ntmps192 (fun w0=>?_)
 refine zV ?_;intros
 refine zc (YeK hs hp) ?_
 refine zV ?_;intros
 exact zR (h:=rfl)
def Yfb:List Param→Bs→Option Bs
 | [],_=>none
 | p::r,t=>match Yfb r t with
  | some u=>some u
  | none=>if p.name=t then some p.typ else none
theorem Ydj:∀ {l:List Param} {t:Bs},(∀ p∈l,p.name≠t)→Yfb l t=none
 | [],_,_=>rfl
 | p::r,t,h=>by rw [Yfb,Ydj (fun q hq=>h q (by simp [hq]))];exact if_neg (h p (by simp))
theorem Yjq:∀ {l:List Param} {j:Nat} {x:Param} {t:Bs},l[j]?=some x→x.name=t→(∀ i,j<i→∀ y,l[i]?=some y→y.name≠t)→Yfb l t=some x.typ
 | [],j,x,t,h,_,_=>by simp at h
 | p::r,0,x,t,h,hx,hh=>by
  simp at h;subst h
  rw [Yfb,Ydj (fun q hq=>by obtain ⟨i,hi⟩:=List.getElem?_of_mem hq;exact hh (i+1) Zi q (by simpa using hi))]
  exact if_pos hx
 | p::r,j+1,x,t,h,hx,hh=>by
  rw [Yfb,Yjq (l:=r) (j:=j) (by simpa using h) hx (fun i hi y hy=>hh (i+1) Zi y (by simpa using hy))]
theorem Yhp:∀ {l:List Param} {t u:Bs},Yfb l t=some u→∃ p∈l,p.typ=u
 | [],_,_,h=>by cases h
 | p::r,t,u,h=>by
  rw [Yfb] at h
  cases hr:Yfb r t with
  | some w=>
   rw [hr] at h
   injection h with h
   subst h
   obtain ⟨q,hq,e⟩:=Yhp hr
   exact ⟨q,by simp [hq],e⟩
  | none=>
   rw [hr] at h
   split at h
   ·rename_i h0;cases h0
   ·split at h
    ·injection h with h;exact ⟨p,by simp,h⟩
    ·cases h
theorem YkP:∀ {l:List Param} {t u:Bs},tyF l t=some u→∃ p∈l,p.typ=u
 | [],_,_,h=>by cases h
 | p::r,t,u,h=>by
  rw [tyF] at h
  split at h
  ·injection h with h;exact ⟨p,by simp,h⟩
  ·obtain ⟨q,hq,e⟩:=YkP h
   exact ⟨q,by simp [hq],e⟩
def YcR (all vars:List Param) (t:Bs):Option Bs:=if PreP t kQm then Yfb vars t else tyF all t
def ObjR (fz:FZ) (vo:Value) (all:List Param):Prop:=∃ g m,vo=.map (some g)∧fz g=some (mapS m)∧∀ x,valS m x=(tyF all x).map Value.string
variable {all:List Param} {fz':FZ}
theorem ObjR.mono {vo:Value} (h:ObjR fz vo all) (hle:Le fz fz'):ObjR fz' vo all:=by
 obtain ⟨g,m,h1,h2,h3⟩:=h
 exact ⟨g,m,h1,hle _ _ h2,h3⟩
def Yl6 (o:Option Bs):Value:=.tuple #[.string (o.getD ⟨#[]⟩),errV (if o.isSome=true then 0 else 8)]
variable {d:Domain} {p:Problem} {v vp:Value} {vars:List Param}
theorem find_q {vf vg vo:Value} {t:Bs} (h:CkR fz v d p all vf vp vg vo) (ho:ObjR fz vo all) (h1:Sl paramL fz A n c vars) (ht:Short t):
 QFn prog 150 [v,.slice A n c,.string t] fz (Yl6 (YcR all vars t)):=by
 obtain ⟨gc,v1,v2,v3,v4,v5,v6,u1,u2,u3,u4,u5,u6,u7,Aa,na,ca,rfl,hc,hD,hP,hall⟩:=h
 obtain ⟨go,mo,rfl,hgo,hmo⟩:=ho
 have l1:=h1.len
 have s1:=h1.short
 refine GFn.quiet ?_
 refine zF Tryz.func150 Tryz.ntmps150 (fun w0=>?_)
 refine zV ?_;intros
 ((refine zG ?_);refine XY Zz Zz (Yg2 (p:=kQm) ht (by unfold Short kQm;decide)) (fun f1=>?_) (fun f1=>?_))
 ·have hp:=Zt f1
  refine zV ?_;intros
  refine Yk (fun q σ fz' H'=>∃ (k:Nat) (z:Int),k≤n∧q=n - k∧z=(n:Int) - 1 - k∧σ=[(10,.int .i64 z),(1,.slice A n c),(2,.string t)]∧fz=fz'∧H'=[]∧(∀ i,n - 1 - k<i→i<n→∀ x,vars[i]?=some x→x.name≠t)∧(k=n→∀ x∈vars,x.name≠t)) ⟨0,(n:Int) - 1,Z0 _,rfl,by omega,rfl,rfl,rfl,fun i hi h2=>absurd hi Zi,fun h0 x hx=>by rw [List.eq_nil_of_length_eq_zero (l:=vars) Zi] at hx;cases hx⟩ Zw Zb ?_
  rintro q σ fz' H' ⟨k,z,hk,rfl,hzk,rfl,rfl,rfl,hh,hz⟩
  refine zV ?_;intros
  refine zC (fun c1=>?_) (fun c1=>?_)
  ·obtain ⟨x,hx⟩:=Yg (l:=vars) (k:=n - 1 - k) Zi
   refine zV ?_;intros
   refine zI h1 hx (fun p1 hp1=>?_)
   refine zV ?_;intros
   refine zH hp1.Param_name (fun hn1=>?_)
   refine zV ?_;intros
   refine zC (fun c2=>?_) (fun c2=>?_)
   ·have e1:YcR all vars t=some x.typ:=by
     rw [YcR,if_pos hp]
     exact Yjq hx c2 (fun i hi y hy=>hh i hi (by have:=(Zg hy).1;omega) y hy)
    refine zV ?_;intros
    refine zI h1 hx (fun p2 hp2=>?_)
    refine zV ?_;intros
    refine zH hp2.Param_typ (fun hn2=>?_)
    refine zV ?_;intros
    exact ret2 rfl rfl rfl Zb (by rw [e1];rfl)
   ·refine zV ?_;intros
    exact YA ⟨k+1,z - 1,by omega,rfl,by omega,rfl,rfl,rfl,fun i hi h2 y hy=>by
     by_cases he:i=n - 1 - k
     ·subst he;rw [hx] at hy;injection hy with hy;subst hy;exact c2
     ·exact hh i Zi h2 y hy,fun h0 y hy=>by
     obtain ⟨i,hi⟩:=List.getElem?_of_mem hy
     have hin:=(Zg hi).1
     by_cases he:i=n - 1 - k
     ·subst he;rw [hx] at hi;injection hi with hi;subst hi;exact c2
     ·exact hh i Zi Zi y hi⟩ Zi Zw Zb
  ·have e1:YcR all vars t=none:=by
    rw [YcR,if_pos hp]
    exact Ydj (hz Zi)
   refine zV ?_;intros
   exact ret2 rfl rfl rfl Zb (by rw [e1];rfl)
 ·have hp:=Zf f1
  have e0:YcR all vars t=tyF all t:=if_neg hp
  refine zV ?_;intros
  refine zG ?_;refine YY (v:=.string ((tyF all t).getD ⟨#[]⟩)) (b:=(tyF all t).isSome) T Zz Zz Zz Zz Zz Zz Zz hgo (by rw [Yfi,hmo];cases tyF all t<;>rfl) (by rw [Ydl,hmo];cases tyF all t<;>rfl) ?_
  cases hr:tyF all t with
  | some u=>
   refine zV ?_;intros
   exact ret2 rfl rfl rfl Zb (by rw [e0,hr];rfl)
  | none=>
   refine zV ?_;intros
   exact ret2 rfl rfl rfl Zb (by rw [e0,hr];rfl)
def fstP (l:List Predicate) (x:Bs):Option Predicate:=l.find? fun p=>decide (p.name=x)
def fstF (l:List Function) (x:Bs):Option Function:=l.find? fun p=>decide (p.name=x)
def PrdR (fz:FZ) (vp:Value) (l:List Predicate):Prop:=∃ g m,vp=.map (some g)∧fz g=some (mapS m)∧∀ x,(fstP l x=none→valS m x=none)∧∀ p,fstP l x=some p→∃ A n c,valS m x=some (.slice A n c)∧Sl paramL fz A n c p.params
def FunR (fz:FZ) (vg:Value) (l:List Function):Prop:=∃ g m,vg=.map (some g)∧fz g=some (mapS m)∧∀ x,(fstF l x=none→valS m x=none)∧∀ f,fstF l x=some f→∃ A n c,valS m x=some (.agg #[.string f.name,.slice A n c,.int .i64 f.lo,.int .i64 f.hi])∧Sl paramL fz A n c f.params
theorem PrdR.mono {l:List Predicate} (h:PrdR fz v l) (hle:Le fz fz'):PrdR fz' v l:=by
 obtain ⟨g,m,h1,h2,h3⟩:=h
 exact ⟨g,m,h1,hle _ _ h2,fun x=>⟨(h3 x).1,fun p hp=>by obtain ⟨A,n,c,h4,h5⟩:=(h3 x).2 p hp;exact ⟨A,n,c,h4,h5.mono hle⟩⟩⟩
theorem FunR.mono {l:List Function} (h:FunR fz v l) (hle:Le fz fz'):FunR fz' v l:=by
 obtain ⟨g,m,h1,h2,h3⟩:=h
 exact ⟨g,m,h1,hle _ _ h2,fun x=>⟨(h3 x).1,fun p hp=>by obtain ⟨A,n,c,h4,h5⟩:=(h3 x).2 p hp;exact ⟨A,n,c,h4,h5.mono hle⟩⟩⟩
structure CkG (fz:FZ) (v:Value) (d:Domain) (p:Problem) (all:List Param):Prop where
 ex:∃ vf vp vg vo,CkR fz v d p all vf vp vg vo∧ForR fz vf d.types∧PrdR fz vp d.predicates∧FunR fz vg d.functions∧ObjR fz vo all
 wf:WFT d.types
theorem CkG.mono (h:CkG fz v d p all) (hle:Le fz fz'):CkG fz' v d p all:=by
 obtain ⟨⟨vf,vp,vg,vo,h1,h2,h3,h4,h5⟩,hw⟩:=h
 exact ⟨⟨vf,vp,vg,vo,h1.mono hle,h2.mono hle,h3.mono hle,h4.mono hle,h5.mono hle⟩,hw⟩
def Ya7 (d:Domain) (all vars:List Param) (z:Bs × Param):Int:=match YcR all vars z.1 with
 | none=>8
 | some t=>if IsT d.types t z.2.typ then 0 else 9
def YiN (d:Domain) (all vars:List Param) (args:List Bs) (ps:List Param):Int:=
 if args.length≠ps.length then 11 else (Xa (Ya7 d all vars) ((args.zip ps).map (fun z=>((⟨#[]⟩:Bs),z))++ [])).2
variable {B:Option Addr}
set_option maxHeartbeats 1000000 in
theorem Ye4 {ps:List Param} {args:List Bs} {C:Option Addr} {n2 c2 n3 c3:Nat} (h:CkG fz v d p all) (h1:Sl paramL fz A n c vars) (h2:Sl strL fz B n2 c2 args) (h3:Sl paramL fz C n3 c3 ps):
 QFn prog 154 [v,.slice A n c,.slice B n2 c2,.slice C n3 c3] fz (errV (YiN d all vars args ps)):=by
 obtain ⟨⟨vf,vp,vg,vo,hck,hF,hPr,hFu,hO⟩,hw⟩:=h
 have hck0:=hck
 obtain ⟨gc,v1,v2,v3,v4,v5,v6,u1,u2,u3,u4,u5,u6,u7,Aa,na,ca,rfl,hc,hD,hP,hall⟩:=hck
 have hF0:=hF
 obtain ⟨gf,gm,rfl,hf1,hf2⟩:=hF
 have l2:=h2.len
 have l3:=h3.len
 have s2:=h2.short
 have s3:=h3.short
 refine GFn.quiet ?_
 refine zF Tryz.func154 Tryz.ntmps154 (fun w0=>?_)
 refine zV ?_;intros
 refine zC (fun e0=>?_) (fun e0=>?_)
 ·refine zV ?_;intros
  exact zR (h:=by rw [YiN,if_pos Zi];rfl)
 ·have e1:YiN d all vars args ps=(Xa (Ya7 d all vars) ((args.zip ps).map (fun z=>((⟨#[]⟩:Bs),z))++ [])).2:=if_neg Zi
  refine zV ?_;intros
  refine Yk (fun q σ fz' H'=>∃ k:Nat,k≤n2∧q=n2 - k∧σ=[(21,.int .i64 k),(20,.int .i64 n2),(19,.slice B n2 c2),(0,.pointer (some ⟨gc,0,none⟩)),(1,.slice A n c),(3,.slice C n3 c3)]∧fz=fz'∧H'=[]∧(∀ i,i<k→∀ z,(args.zip ps)[i]?=some z→Ya7 d all vars z=0)) ⟨0,Z0 _,rfl,rfl,rfl,rfl,fun i hi=>absurd hi Zi⟩ Zw Zb ?_
  rintro q σ fz' H' ⟨k,hk,rfl,rfl,rfl,rfl,hh⟩
  refine zV ?_;intros
  refine zC (fun c1=>?_) (fun c1=>?_)
  ·obtain ⟨x,hx⟩:=Yg (l:=args) (k:=k) Zi
   obtain ⟨y,hy⟩:=Yg (l:=ps) (k:=k) Zi
   have hz:(args.zip ps)[k]?=some (x,y):=by rw [List.getElem?_zip_eq_some];exact ⟨hx,hy⟩
   refine zV ?_;intros
   refine zI h2 hx (fun p1 hp1=>?_)
   refine zH hp1 (fun hxs=>?_)
   refine zV ?_;intros
   refine zc (find_q hck0 hO h1 hxs) ?_
   cases hr:YcR all vars x with
   | none=>
    have e2:Ya7 d all vars (x,y)=8:=by rw [Ya7,hr]
    rw [show Yl6 none=.tuple #[.string ⟨#[]⟩,.iface 60 (.int .i64 8)] from rfl]
    refine zV ?_;intros
    exact zR (h:=by rw [e1,X1 (f:=fun _=>(⟨#[]⟩:Bs)) (g:=fun z=>z) hz hh (by rw [e2];decide),e2];rfl)
   | some t=>
    have ht:Short t:=by
     rw [YcR] at hr
     split at hr
     ·obtain ⟨q,hq,rfl⟩:=Yhp hr;exact (YaY h1 q hq).2
     ·obtain ⟨q,hq,rfl⟩:=YkP hr;exact (YaY hall q hq).2
    rw [show Yl6 (some t)=.tuple #[.string t,.nilIface] from rfl]
    refine zV ?_;intros
    refine zI h3 hy (fun p2 hp2=>?_)
    refine zV ?_;intros
    refine zH hp2.Param_typ (fun hts=>?_)
    refine zV ?_;intros
    refine zb (is_q hF0 hw ht) (fun f1=>?_) (fun f1=>?_)
    ·have e2:Ya7 d all vars (x,y)=0:=by rw [Ya7,hr];exact if_pos (Zt f1)
     refine zV ?_;intros
     exact YA ⟨k+1,by omega,rfl,rfl,rfl,rfl,YO hh hz e2⟩ Zi Zw Zb
    ·have e2:Ya7 d all vars (x,y)=9:=by rw [Ya7,hr];exact if_neg (Zf f1)
     refine zV ?_;intros
     exact zR (h:=by rw [e1,X1 (f:=fun _=>(⟨#[]⟩:Bs)) (g:=fun z=>z) hz hh (by rw [e2];decide),e2];rfl)
  ·have hA:∀ z∈args.zip ps,Ya7 d all vars z=0:=fun z hz=>by
    obtain ⟨i,hi⟩:=List.getElem?_of_mem hz
    have:=(Zg hi).1
    rw [List.length_zip] at this
    exact hh i Zi z hi
   refine zV ?_;intros
   exact zR (h:=by rw [e1,Y4 (f:=fun _=>(⟨#[]⟩:Bs)) (g:=fun z=>z) hA];rfl)
def atomM (d:Domain) (all vars:List Param) (name:Bs) (args:List Bs):Int:=match fstP d.predicates name with
 | none=>8
 | some p=>YiN d all vars args p.params
def fluM (d:Domain) (all vars:List Param) (name:Bs) (args:List Bs):Int:=match fstF d.functions name with
 | none=>8
 | some f=>YiN d all vars args f.params
theorem YiL {name:Bs} {args:List Bs} {n2 c2:Nat} (h:CkG fz v d p all) (h1:Sl paramL fz A n c vars) (h2:Sl strL fz B n2 c2 args):
 QFn prog 106 [v,.slice A n c,.string name,.slice B n2 c2] fz (errV (atomM d all vars name args)):=by
 have h0:=h
 obtain ⟨⟨vf,vp,vg,vo,hck,hF,hPr,hFu,hO⟩,hw⟩:=h
 obtain ⟨gc,v1,v2,v3,v4,v5,v6,u1,u2,u3,u4,u5,u6,u7,Aa,na,ca,rfl,hc,hD,hP,hall⟩:=hck
 obtain ⟨gp,mp,rfl,hgp,hmp⟩:=hPr
 refine GFn.quiet ?_
 refine zF Tryz.func106 Tryz.ntmps106 (fun w0=>?_)
 refine zV ?_;intros
 cases hr:fstP d.predicates name with
 | none=>
  have hv:=(hmp name).1 hr
  refine zG ?_;refine YY (v:=.slice none 0 0) (b:=false) T Zz Zz Zz Zz Zz Zz Zz hgp (by rw [Yfi,hv];rfl) (by rw [Ydl,hv];rfl) ?_
  refine zV ?_;intros
  exact zR (h:=by rw [atomM,hr];rfl)
 | some x=>
  obtain ⟨C,n3,c3,hv,h3⟩:=(hmp name).2 x hr
  refine zG ?_;refine YY (v:=.slice C n3 c3) (b:=true) T Zz Zz Zz Zz Zz Zz Zz hgp (by rw [Yfi,hv];rfl) (by rw [Ydl,hv];rfl) ?_
  refine zV ?_;intros
  refine zc (Ye4 h0 h1 h2 h3) ?_
  refine zV ?_;intros
  exact zR (h:=by rw [atomM,hr])
theorem Ye1 {name:Bs} {args:List Bs} {n2 c2:Nat} (h:CkG fz v d p all) (h1:Sl paramL fz A n c vars) (h2:Sl strL fz B n2 c2 args):
 QFn prog 107 [v,.slice A n c,.string name,.slice B n2 c2] fz (errV (fluM d all vars name args)):=by
 have h0:=h
 obtain ⟨⟨vf,vp,vg,vo,hck,hF,hPr,hFu,hO⟩,hw⟩:=h
 obtain ⟨gc,v1,v2,v3,v4,v5,v6,u1,u2,u3,u4,u5,u6,u7,Aa,na,ca,rfl,hc,hD,hP,hall⟩:=hck
 obtain ⟨gp,mp,rfl,hgp,hmp⟩:=hFu
 refine GFn.quiet ?_
 refine zF Tryz.func107 Tryz.ntmps107 (fun w0=>?_)
 refine zV ?_;intros
 cases hr:fstF d.functions name with
 | none=>
  have hv:=(hmp name).1 hr
  refine zG ?_;refine YY (v:=.agg #[.string ⟨#[]⟩,.slice none 0 0,.int .i64 0,.int .i64 0]) (b:=false) T Zz Zz Zz Zz Zz Zz Zz hgp (by rw [Yfi,hv];rfl) (by rw [Ydl,hv];rfl) ?_
  refine zV ?_;intros
  exact zR (h:=by rw [fluM,hr];rfl)
 | some x=>
  obtain ⟨C,n3,c3,hv,h3⟩:=(hmp name).2 x hr
  refine zG ?_;refine YY (v:=.agg #[.string x.name,.slice C n3 c3,.int .i64 x.lo,.int .i64 x.hi]) (b:=true) T Zz Zz Zz Zz Zz Zz Zz hgp (by rw [Yfi,hv];rfl) (by rw [Ydl,hv];rfl) ?_
  refine zV ?_;intros
  refine zc (Ye4 h0 h1 h2 h3) ?_
  refine zV ?_;intros
  exact zR (h:=by rw [fluM,hr])
mutual
def exprM (d:Domain) (all vars:List Param):Lx.Expr→Int
 | .mk op name _ args kids=>if op=kFluent then fluM d all vars name args else exprML d all vars kids
def exprML (d:Domain) (all vars:List Param):List Lx.Expr→Int
 | []=>0
 | k::r=>if exprM d all vars k=0 then exprML d all vars r else exprM d all vars k
end
theorem YjE (e:Lx.Expr):exprM d all vars e=if e.op=kFluent then fluM d all vars e.name e.args else exprML d all vars e.kids:=by cases e;rw [exprM];rfl
theorem YeW {d:Domain} {all vars:List Param}:∀ {l:List Lx.Expr} {k:Nat} {x:Lx.Expr},l[k]?=some x→(∀ i,i<k→∀ y,l[i]?=some y→exprM d all vars y=0)→exprM d all vars x≠0→exprML d all vars l=exprM d all vars x
 | [],k,x,h,_,_=>by simp at h
 | y::l,0,x,h,_,hx=>by simp at h;subst h;rw [exprML,if_neg hx]
 | y::l,k+1,x,h,hh,hx=>by
  rw [exprML,if_pos (hh 0 Zi y rfl)]
  exact YeW (k:=k) (by simpa using h) (fun i hi z hz=>hh (i+1) Zi z (by simpa using hz)) hx
theorem Ycs {d:Domain} {all vars:List Param}:∀ {l:List Lx.Expr},(∀ y∈l,exprM d all vars y=0)→exprML d all vars l=0
 | [],_=>by rw [exprML]
 | y::l,h=>by rw [exprML,if_pos (h y (by simp))];exact Ycs (fun z hz=>h z (by simp [hz]))
set_option maxHeartbeats 1000000 in
theorem Ymt:∀ (s:Nat) {fz:FZ} {v:Value} {d:Domain} {p:Problem} {all vars:List Param} {e:Lx.Expr} {va vk:Value} {A:Option Addr} {n c:Nat},SizeOf.sizeOf e≤s→CkG fz v d p all→Sl paramL fz A n c vars→ExprR fz e va vk→
 QFn prog 151 [v,.slice A n c,.agg #[.string e.op,.string e.name,.int .i64 e.n,va,vk]] fz (errV (exprM d all vars e))
 | 0,_,_,_,_,_,_,e,_,_,_,_,_,hse,_,_,_=>by cases e;simp at hse
 | s+1,fz,v,d,p,all,vars,e,va,vk,A,n,c,hse,h,h1,hR=>by
  have h0:=h
  obtain ⟨⟨vf,vp,vg,vo,hck,hF,hPr,hFu,hO⟩,hw⟩:=h
  obtain ⟨gc,v1,v2,v3,v4,v5,v6,u1,u2,u3,u4,u5,u6,u7,Aa,na,ca,rfl,hc,hD,hP,hall⟩:=hck
  obtain ⟨B,n2,c2,rfl,ia⟩:=hR.args
  obtain ⟨C,n3,c3,rfl,ik⟩:=hR.kids
  have l3:=ik.len
  have s3:=ik.short
  refine GFn.quiet ?_
  refine zF Tryz.func151 Tryz.ntmps151 (fun w0=>?_)
  refine Yp (Yq (Yb Zz (Y3 _ Zz Zz (fun g0=>?_))))
  refine zV ?_;intros
  refine zC (fun x1=>?_) (fun x1=>?_)
  ·refine zV ?_;intros
   refine zc (Ye1 h0 h1 ia) ?_
   refine zV ?_;intros
   exact zR (h:=by rw [YjE,if_pos (show e.op=kFluent from x1)])
  ·have e1:exprM d all vars e=exprML d all vars e.kids:=by rw [YjE,if_neg (show ¬e.op=kFluent from x1)]
   refine zV ?_;intros
   refine Yk (fun q σ fz' H'=>∃ k:Nat,k≤n3∧q=n3 - k∧σ=[(23,.int .i64 k),(22,.int .i64 n3),(21,.slice C n3 c3),(0,.pointer (some ⟨gc,0,none⟩)),(1,.slice A n c)]∧fz=fz'∧H'=[]∧(∀ i,i<k→∀ y,e.kids[i]?=some y→exprM d all vars y=0)) ⟨0,Z0 _,rfl,rfl,rfl,rfl,fun i hi=>absurd hi Zi⟩ Zw Zb ?_
   rintro q σ fz' H' ⟨k,hk,rfl,rfl,rfl,rfl,hh⟩
   refine zV ?_;intros
   refine zC (fun c1=>?_) (fun c1=>?_)
   ·obtain ⟨x,hx⟩:=Yg (l:=e.kids) (k:=k) Zi
    have hlt:=Lx.Expr.kids_lt (Zm hx)
    refine zV ?_;intros
    refine zI ik hx (fun p1 hp1=>?_)
    refine zL hp1 ?_
    intro cs hcs
    obtain ⟨wa,wk,rfl,hRx⟩:=YP hcs
    obtain ⟨B1,m1,d1,rfl,_⟩:=hRx.args
    obtain ⟨B2,m2,d2,rfl,_⟩:=hRx.kids
    refine zV ?_;intros
    ((refine zG ?_);refine YB Zz Zz (Ymt s Zi h0 h1 hRx) ?_)
    by_cases hz:exprM d all vars x=0
    ·rw [hz,show errV 0=.nilIface from rfl]
     refine zV ?_;intros
     exact YA ⟨k+1,by omega,rfl,rfl,rfl,rfl,YO hh hx hz⟩ Zi Zw Zb
    ·rw [YF hz]
     refine zV ?_;intros
     exact zR (h:=by rw [e1,YeW hx hh hz,YF hz])
   ·have hA:=Xf hh Zi
    refine zV ?_;intros
    exact zR (h:=by rw [e1,Ycs hA];rfl)
variable {va vk:Value}
theorem Yms {e:Lx.Expr} (h:CkG fz v d p all) (h1:Sl paramL fz A n c vars) (hR:ExprR fz e va vk):
 QFn prog 151 [v,.slice A n c,.agg #[.string e.op,.string e.name,.int .i64 e.n,va,vk]] fz (errV (exprM d all vars e)):=Ymt _ (Zs _) h h1 hR
theorem YaD {l:List Param} (h:Sl paramL fz A n c l) (hn:n≤1000000000):
 GFn prog 46 [.slice A n c] fz [] (fun v fz' H'=>Grow paramL 136 fz' v n H' l):=by
 have l1:=h.len
 refine zF Tryz.func46 Tryz.ntmps46 (fun w0=>?_)
 refine zV ?_;intros
 refine zG ?_;refine Wm T Zz Zz Zz Zz (fun eA=>?_) (fun eA=>?_)
 ·subst eA
  have hl:l=[]:=by
   rcases h.elem with h0 | ⟨_,h0,_⟩
   ·exact List.eq_nil_of_length_eq_zero Zi
   ·cases h0
  subst hl
  simp at l1
  subst l1
  refine zV ?_;intros
  refine YcD (H':=[]) (H2:=[]) rfl rfl (Zr _) (fun fz3 hle3 _=>Grow.nil _ _ _)
 ·refine zV ?_;intros
  refine Yb Zz (WO T Zz Zz Zz (fun gb=>?_))
  refine zV ?_;intros
  refine Yb Zz (X8 T (Hr:=[]) (n:=0) (l:=[]) Zz Zz Zz Zz Zz Zz Zz Zz (Zr _) (Grow.block (ys:=[]) rfl rfl (by intro p hp;cases hp) rfl Zh) WN h (by show _*32≤_;omega) Zi (fun v' Hs' hO'=>?_))
  obtain ⟨Av',cv',rfl,_,_⟩:=hO'.form
  refine zV ?_;intros
  refine YcD (H':=Hs') (H2:=[]) rfl rfl (by simp) (fun fz3 hle3 _=>(hO'.mono hle3).of (by simp) Zi)
end Go.Proofs.YtbnpeechpebmeaaGreatDoor
namespace Go.Lx
mutual
def eW:Expr→Nat
 | .mk _ _ _ args kids=>1+args.length+eWL kids
def eWL:List Expr→Nat
 | []=>0
 | k::r=>eW k+eWL r
end
mutual
def fW:Formula→Nat
 | .mk _ _ args params exprs kids=>1+args.length+params.length+eWL exprs+fWL kids
def fWL:List Formula→Nat
 | []=>0
 | k::r=>fW k+fWL r
end
theorem Yme (l:List Expr):eWL l=(l.map eW).sum:=by
 induction l with
 | nil=>rfl
 | cons a r ih=>simp [eWL,ih]
theorem fWL_sum (l:List Formula):fWL l=(l.map fW).sum:=by
 induction l with
 | nil=>rfl
 | cons a r ih=>simp [fWL,ih]
def Yfm (a:Atom):Nat:=1+a.args.length
def YgU (v:Value_):Nat:=1+Yfm v.fluent
def Xq (c:Change):Nat:=1+c.params.length+fW c.when_+c.args.length+eW c.value
def Ylp (p:Predicate):Nat:=1+p.params.length
def funW (p:Function):Nat:=1+p.params.length
def actW (a:Action):Nat:=1+a.params.length+fW a.pre+(a.changes.map Xq).sum
def durW (a:Durative):Nat:=1+a.params.length+fW a.start+fW a.over+fW a.fin+(a.atStart.map Xq).sum+(a.atEnd.map Xq).sum
def domW (d:Domain):Nat:=1+d.types.length+d.constants.length+(d.predicates.map Ylp).sum+(d.functions.map funW).sum+(d.actions.map actW).sum+(d.duratives.map durW).sum
def prbW (p:Problem):Nat:=1+p.objects.length+(p.init.map Yfm).sum+(p.values.map YgU).sum+fW p.goal
theorem eW_eq (e:Expr):eW e=1+e.args.length+(e.kids.map eW).sum:=by cases e;rw [eW,Yme];rfl
theorem Yca (f:Formula):fW f=1+f.args.length+f.params.length+(f.exprs.map eW).sum+(f.kids.map fW).sum:=by cases f;rw [fW,Yme,fWL_sum];rfl
theorem Xz {α:Type} {w:α→Nat}:∀ {l:List α} {x:α},x∈l→w x≤(l.map w).sum
 | [],_,h=>by cases h
 | a::r,x,h=>by
  simp only [List.map_cons,List.sum_cons]
  rcases List.mem_cons.1 h with rfl | h
  ·omega
  ·have:=Xz (w:=w) h;omega
theorem Wx {α:Type} {w:α→Nat} (h:∀ x,1≤w x):∀ (l:List α),l.length≤(l.map w).sum
 | []=>by simp
 | a::r=>by
  have h1:=h a
  have h2:=Wx h r
  simp only [List.length_cons,List.map_cons,List.sum_cons];omega
theorem eW_pos (e:Expr):1≤eW e:=by rw [eW_eq];omega
theorem fW_pos (f:Formula):1≤fW f:=by rw [Yca];omega
theorem YiK (c:Change):1≤Xq c:=by unfold Xq;omega
theorem Ylo (c:Predicate):1≤Ylp c:=by unfold Ylp;omega
theorem funW_pos (c:Function):1≤funW c:=by unfold funW;omega
theorem actW_pos (c:Action):1≤actW c:=by unfold actW;omega
theorem durW_pos (c:Durative):1≤durW c:=by unfold durW;omega
theorem Ymx (c:Atom):1≤Yfm c:=by unfold Yfm;omega
theorem YjU (c:Value_):1≤YgU c:=by unfold YgU;omega
end Go.Lx
namespace Go.Proofs.YtbnpeechpebmeaaGreatDoor
open Go.Lx Go.RowKit
attribute [local instance 10] Classical.propDecidable
open Go.Proofs.Tryz (prog)
def Yh6 (op:Bs):Prop:=op=kForall∨op=kExists
def ownM (d:Domain) (all vars:List Param) (op:Bs) (args:List Bs) (params:List Param):Int:=
 if op=kSame then (if ∀ a∈args,(YcR all vars a).isSome=true then 0 else 8)
 else if Yh6 op then (if TwP [] (parN params) then 4 else if ExP d.types params then 0 else 3)
 else 0
def varsM (vars:List Param) (op:Bs) (params:List Param):List Param:=if op=kSame then vars else if Yh6 op then vars++params else vars
mutual
def formM (d:Domain) (all:List Param):List Param→Formula→Int
 | vars,.mk op name args params exprs kids=>
  if op=kAtom then atomM d all vars name args
  else if ownM d all vars op args params≠0 then ownM d all vars op args params
  else if exprML d all (varsM vars op params) exprs≠0 then exprML d all (varsM vars op params) exprs
  else formML d all (varsM vars op params) kids
def formML (d:Domain) (all:List Param):List Param→List Formula→Int
 | _,[]=>0
 | vars,k::r=>if formM d all vars k=0 then formML d all vars r else formM d all vars k
end
variable {all vars:List Param} {d:Domain}
theorem Yd4 (f:Formula):formM d all vars f=if f.op=kAtom then atomM d all vars f.name f.args
 else if ownM d all vars f.op f.args f.params≠0 then ownM d all vars f.op f.args f.params
 else if exprML d all (varsM vars f.op f.params) f.exprs≠0 then exprML d all (varsM vars f.op f.params) f.exprs
 else formML d all (varsM vars f.op f.params) f.kids:=by cases f;rw [formM];rfl
theorem YhB {d:Domain} {all vars:List Param}:∀ {l:List Formula} {k:Nat} {x:Formula},l[k]?=some x→(∀ i,i<k→∀ y,l[i]?=some y→formM d all vars y=0)→formM d all vars x≠0→formML d all vars l=formM d all vars x
 | [],k,x,h,_,_=>by simp at h
 | y::l,0,x,h,_,hx=>by simp at h;subst h;rw [formML,if_neg hx]
 | y::l,k+1,x,h,hh,hx=>by
  rw [formML,if_pos (hh 0 Zi y rfl)]
  exact YhB (k:=k) (by simpa using h) (fun i hi z hz=>hh (i+1) Zi z (by simpa using hz)) hx
theorem YeN {d:Domain} {all vars:List Param}:∀ {l:List Formula},(∀ y∈l,formM d all vars y=0)→formML d all vars l=0
 | [],_=>by rw [formML]
 | y::l,h=>by rw [formML,if_pos (h y (by simp))];exact YeN (fun z hz=>h z (by simp [hz]))
variable {f:Formula}
theorem kids_w {k:Formula} (h:k∈f.kids):fW k+f.params.length≤fW f:=by
 have:=Xz (w:=fW) h
 rw [Yca f];omega
set_option maxHeartbeats 8000000 in
theorem Ymr:∀ (s:Nat) {fz:FZ} {v:Value} {d:Domain} {p:Problem} {all vars:List Param} {f:Formula} {va vp ve vk:Value} {A:Option Addr} {n c:Nat},SizeOf.sizeOf f≤s→CkG fz v d p all→Sl paramL fz A n c vars→FormulaR fz f va vp ve vk→n+fW f≤1000000000→
 QFn prog 103 [v,.slice A n c,.agg #[.string f.op,.string f.name,va,vp,ve,vk]] fz (errV (formM d all vars f))
 | 0,_,_,_,_,_,_,f,_,_,_,_,_,_,_,hse,_,_,_,_=>by cases f;simp at hse
 | s+1,fz,v,d,p,all,vars,f,va,vp,ve,vk,A,n,c,hse,h,h1,hR,hW=>by
  have h0:=h
  obtain ⟨⟨vf,vpp,vg,vo,hck,hF,hPr,hFu,hO⟩,hw⟩:=h
  have hck0:=hck
  obtain ⟨gc,v1,v2,v3,v4,v5,v6,u1,u2,u3,u4,u5,u6,u7,Aa,na,ca,rfl,hc,hD,hP,hall⟩:=hck
  obtain ⟨B1,m1,d1,rfl,ia⟩:=hR.args
  obtain ⟨B2,m2,d2,rfl,ip⟩:=hR.params
  obtain ⟨B3,m3,d3,rfl,ie⟩:=hR.exprs
  obtain ⟨B4,m4,d4,rfl,ik⟩:=hR.kids
  have l1:=ia.len
  have l2:=ip.len
  have l3:=ie.len
  have l4:=ik.len
  have ln:=h1.len
  have s1:=ia.short
  have s3:=ie.short
  have s4:=ik.short
  have hwp:f.params.length≤fW f:=by rw [Yca];omega
  refine GFn.quiet ?_
  refine zF Tryz.func103 Tryz.ntmps103 (fun w0=>?_)
  refine Yp (Yq (Yb Zz (Y3 _ Zz Zz (fun g0=>?_))))
  refine zWO ?_;intros
  by_cases hat:f.op=kAtom
  ·refine zV ?_;intros
   refine zc (YiL h0 h1 ia) ?_
   refine zV ?_;intros
   exact zR (h:=by rw [Yd4,if_pos hat])
  ·have e1:formM d all vars f=if ownM d all vars f.op f.args f.params≠0 then ownM d all vars f.op f.args f.params else if exprML d all (varsM vars f.op f.params) f.exprs≠0 then exprML d all (varsM vars f.op f.params) f.exprs else formML d all (varsM vars f.op f.params) f.kids:=by rw [Yd4,if_neg hat]
   refine zVX ?_;intros
   refine Yp (Wp.mid (fun σ fz' H'=>∃ (A':Option Addr) (n' c':Nat),σ=[(5,.pointer (some ⟨g0,0,none⟩)),(0,.pointer (some ⟨gc,0,none⟩)),(1,.slice A' n' c')]∧Le fz fz'∧H'=[(g0,.cells #[.string f.op,.string f.name,.slice B1 m1 d1,.slice B2 m2 d2,.slice B3 m3 d3,.slice B4 m4 d4] 29 (0,0))]∧Sl paramL fz' A' n' c' (varsM vars f.op f.params)∧n'≤n+f.params.length∧ownM d all vars f.op f.args f.params=0) ?_ ?_)
   ·refine zV ?_;intros
    by_cases hsa:f.op=kSame
    ·have e2:varsM vars f.op f.params=vars:=if_pos hsa
     have e3:ownM d all vars f.op f.args f.params=if ∀ a∈f.args,(YcR all vars a).isSome=true then 0 else 8:=if_pos hsa
     refine zV ?_;intros
     refine Yk (fun q σ fz' H'=>∃ k:Nat,k≤m1∧q=m1 - k∧σ=[(35,.int .i64 k),(34,.int .i64 m1),(33,.slice B1 m1 d1),(5,.pointer (some ⟨g0,0,none⟩)),(0,.pointer (some ⟨gc,0,none⟩)),(1,.slice A n c)]∧fz=fz'∧H'=[(g0,.cells #[.string f.op,.string f.name,.slice B1 m1 d1,.slice B2 m2 d2,.slice B3 m3 d3,.slice B4 m4 d4] 29 (0,0))]∧(∀ i,i<k→∀ x,f.args[i]?=some x→(YcR all vars x).isSome=true)) ⟨0,Z0 _,rfl,rfl,rfl,rfl,fun i hi=>absurd hi Zi⟩ Zw Zb ?_
     rintro q σ fz' H' ⟨k,hk,rfl,rfl,rfl,rfl,hh⟩
     refine zV ?_;intros
     refine zC (fun c1=>?_) (fun c1=>?_)
     ·obtain ⟨x,hx⟩:=Yg (l:=f.args) (k:=k) Zi
      refine zV ?_;intros
      refine zI ia hx (fun p1 hp1=>?_)
      refine zH hp1 (fun hxs=>?_)
      refine zV ?_;intros
      refine zc (find_q hck0 hO h1 hxs) ?_
      cases hr:YcR all vars x with
      | none=>
       have e4:ownM d all vars f.op f.args f.params=8:=by rw [e3,if_neg];intro h9;have:=h9 x (Zm hx);rw [hr] at this;cases this
       rw [show Yl6 none=.tuple #[.string ⟨#[]⟩,.iface 60 (.int .i64 8)] from rfl]
       refine zV ?_;intros
       exact zR (h:=by rw [e1,if_pos (by rw [e4];decide),e4];rfl)
      | some t=>
       rw [show Yl6 (some t)=.tuple #[.string t,.nilIface] from rfl]
       refine zV ?_;intros
       exact YA ⟨k+1,by omega,rfl,rfl,rfl,rfl,YO (p:=fun x=>(YcR all vars x).isSome=true) hh hx (by rw [hr];rfl)⟩ Zi Zw Zb
     ·have hA:=Xf hh Zi
      refine zV ?_;intros
      exact midN ⟨A,n,c,rfl,Le.refl _,rfl,by rw [e2];exact h1,by omega,by rw [e3,if_pos hA]⟩ Zw Zb
    ·have wf:¬f.op=kSame:=hsa
     by_cases hq:Yh6 f.op
     ·have e2:varsM vars f.op f.params=vars++f.params:=by rw [varsM,if_neg hsa,if_pos hq]
      have e3:ownM d all vars f.op f.args f.params=if TwP [] (parN f.params) then 4 else if ExP d.types f.params then 0 else 3:=by rw [ownM,if_neg hsa,if_pos hq]
      refine zVX ?_;intros
      refine Yp (Wp.mid (fun σ fz' H'=>σ=[(50,.bool true),(5,.pointer (some ⟨g0,0,none⟩)),(0,.pointer (some ⟨gc,0,none⟩)),(1,.slice A n c)]∧fz=fz'∧H'=[(g0,.cells #[.string f.op,.string f.name,.slice B1 m1 d1,.slice B2 m2 d2,.slice B3 m3 d3,.slice B4 m4 d4] 29 (0,0))]) ?_ ?_)
      ·rcases hq with w1 | w2
       ·refine zV ?_;intros
        exact midN ⟨rfl,rfl,rfl⟩ Zw Zb
       ·have w1:¬f.op=kForall:=by rw [w2];decide
        refine zV ?_;intros
        exact midN ⟨rfl,rfl,rfl⟩ Zw Zb
      ·rintro σ fz1 H' ⟨rfl,rfl,rfl⟩
       refine zV ?_;intros
       ((refine zG ?_);refine YB Zz Zz (Yie ip (Sl.nil (A:=none) (c:=0) Zi)) ?_)
       rw [show parN ([]:List Param)=[] from rfl]
       by_cases ht:TwP [] (parN f.params)
       ·rw [if_pos ht,show errV 4=.iface 60 (.int .i64 4) from rfl]
        refine zV ?_;intros
        exact zR (h:=by rw [e1,e3,if_pos ht,if_pos Zh];rfl)
       ·rw [if_neg ht,show errV 0=.nilIface from rfl]
        refine zV ?_;intros
        refine zc (YiG hck0 hF ip) ?_
        by_cases hx:ExP d.types f.params
        ·rw [if_pos hx,show errV 0=.nilIface from rfl]
         refine zV ?_;intros
         refine Wp.drawK (Hq:=[_]) T.mixed Zj Zj Zb ?_
         refine zW ?_;intros
         refine Ye ?_
         refine zW ?_;intros
         refine Ye ?_
         refine Ye ?_
         refine YD ⟨by kernel_rfl,?_⟩
         refine Yj (Yl [] [_] Zz Zz Zz (YaD h1 Zi) (fun v6 fz6 H6 hle6 hR6=>⟨(⟨hle6,Zx⟩),?_⟩))
         obtain ⟨Av,cv,rfl,_,_⟩:=hR6.form
         refine Yj (X8 T (Hr:=[_]) Zz Zz Zz Zz Zz Zz Zz Zz Zq hR6 WN (ip.mono hle6) (by show _*32≤_;omega) Zi (fun v7 H7 hO7=>⟨(⟨hle6,Zx⟩),?_⟩))
         obtain ⟨Aw,cw,rfl,_,_⟩:=hO7.form
         refine Ch.qk (⟨hle6,Zx⟩) (Yz Zz ?_)
         refine Ch.done ?_
         refine zW ?_;intros
         exact midF (H':=[_]) (H2:=H7) (Zr _) (fun fz8 hle8 hf8=>by
          obtain ⟨A8,c8,e8,h8⟩:=hO7.sl hle8 hf8 Zi
          injection e8 with e81 e82 e83
          subst e81;subst e83
          exact ⟨Aw,_,cw,rfl,hle6.trans hle8,rfl,by rw [e2];exact h8,by omega,by rw [e3,if_neg ht,if_pos hx]⟩) Zw
        ·rw [if_neg hx,show errV 3=.iface 60 (.int .i64 3) from rfl]
         refine zV ?_;intros
         exact zR (h:=by rw [e1,e3,if_neg ht,if_neg hx,if_pos Zh];rfl)
     ·have w1:¬f.op=kForall:=fun h=>hq (.inl h)
      have w2:¬f.op=kExists:=fun h=>hq (.inr h)
      have e2:varsM vars f.op f.params=vars:=by rw [varsM,if_neg hsa,if_neg hq]
      have e3:ownM d all vars f.op f.args f.params=0:=by rw [ownM,if_neg hsa,if_neg hq]
      refine zV ?_;intros
      exact midN ⟨A,n,c,rfl,Le.refl _,rfl,by rw [e2];exact h1,by omega,e3⟩ Zw Zb
   ·rintro σ fz1 H' ⟨A',n',c',rfl,hle,rfl,h1',hn',ho0⟩
    have e2:formM d all vars f=if exprML d all (varsM vars f.op f.params) f.exprs≠0 then exprML d all (varsM vars f.op f.params) f.exprs else formML d all (varsM vars f.op f.params) f.kids:=by rw [e1,if_neg (by rw [ho0];decide)]
    generalize hvs:varsM vars f.op f.params=vars' at h1' e2
    have h0':=h0.mono hle
    have ie':=ie.mono hle
    have ik':=ik.mono hle
    have hcg:=hle _ _ hc
    refine zVX ?_;intros
    refine Yp (Wp.mid (fun σ fz' H'=>σ=[(5,.pointer (some ⟨g0,0,none⟩)),(0,.pointer (some ⟨gc,0,none⟩)),(1,.slice A' n' c')]∧fz1=fz'∧H'=[(g0,.cells #[.string f.op,.string f.name,.slice B1 m1 d1,.slice B2 m2 d2,.slice B3 m3 d3,.slice B4 m4 d4] 29 (0,0))]∧exprML d all vars' f.exprs=0) ?_ ?_)
    ·refine zV ?_;intros
     refine Yk (fun q σ fz' H'=>∃ k:Nat,k≤m3∧q=m3 - k∧σ=[(74,.int .i64 k),(73,.int .i64 m3),(72,.slice B3 m3 d3),(5,.pointer (some ⟨g0,0,none⟩)),(0,.pointer (some ⟨gc,0,none⟩)),(1,.slice A' n' c')]∧fz1=fz'∧H'=[(g0,.cells #[.string f.op,.string f.name,.slice B1 m1 d1,.slice B2 m2 d2,.slice B3 m3 d3,.slice B4 m4 d4] 29 (0,0))]∧(∀ i,i<k→∀ y,f.exprs[i]?=some y→exprM d all vars' y=0)) ⟨0,Z0 _,rfl,rfl,rfl,rfl,fun i hi=>absurd hi Zi⟩ Zw Zb ?_
     rintro q σ fz' H' ⟨k,hk,rfl,rfl,rfl,rfl,hh⟩
     refine zV ?_;intros
     refine zC (fun c1=>?_) (fun c1=>?_)
     ·obtain ⟨x,hx⟩:=Yg (l:=f.exprs) (k:=k) Zi
      refine zV ?_;intros
      refine zI ie' hx (fun p1 hp1=>?_)
      refine zL hp1 ?_
      intro cs hcs
      obtain ⟨wa,wk,rfl,hRx⟩:=YP hcs
      obtain ⟨E1,r1,q1,rfl,_⟩:=hRx.args
      obtain ⟨E2,r2,q2,rfl,_⟩:=hRx.kids
      refine zV ?_;intros
      refine zc (Yms h0' h1' hRx) ?_
      by_cases hz:exprM d all vars' x=0
      ·rw [hz,show errV 0=.nilIface from rfl]
       refine zV ?_;intros
       exact YA ⟨k+1,by omega,rfl,rfl,rfl,rfl,YO hh hx hz⟩ Zi Zw Zb
      ·rw [YF hz]
       refine zV ?_;intros
       exact zR (h:=by rw [e2,YeW hx hh hz,if_pos hz,YF hz])
     ·have hA:=Xf hh Zi
      refine zV ?_;intros
      exact midN ⟨rfl,rfl,rfl,Ycs hA⟩ Zw Zb
    ·rintro σ fz2 H' ⟨rfl,rfl,rfl,hez⟩
     have e3:formM d all vars f=formML d all vars' f.kids:=by rw [e2,hez,if_neg Zh]
     refine zV ?_;intros
     refine Yk (fun q σ fz' H'=>∃ k:Nat,k≤m4∧q=m4 - k∧σ=[(89,.int .i64 k),(88,.int .i64 m4),(87,.slice B4 m4 d4),(0,.pointer (some ⟨gc,0,none⟩)),(1,.slice A' n' c')]∧fz1=fz'∧H'=[]∧(∀ i,i<k→∀ y,f.kids[i]?=some y→formM d all vars' y=0)) ⟨0,Z0 _,rfl,rfl,rfl,rfl,fun i hi=>absurd hi Zi⟩ Zw Zb ?_
     rintro q σ fz' H' ⟨k,hk,rfl,rfl,rfl,rfl,hh⟩
     refine zV ?_;intros
     refine zC (fun c1=>?_) (fun c1=>?_)
     ·obtain ⟨x,hx⟩:=Yg (l:=f.kids) (k:=k) Zi
      have hlt:=Lx.Formula.kids_lt (Zm hx)
      have hkw:=kids_w (Zm hx)
      refine zV ?_;intros
      refine zI ik' hx (fun p1 hp1=>?_)
      refine zL hp1 ?_
      intro cs hcs
      obtain ⟨wa,wp,we,wk,rfl,hRx⟩:=YM hcs
      obtain ⟨E1,r1,q1,rfl,_⟩:=hRx.args
      obtain ⟨E2,r2,q2,rfl,_⟩:=hRx.params
      obtain ⟨E3,r3,q3,rfl,_⟩:=hRx.exprs
      obtain ⟨E4,r4,q4,rfl,_⟩:=hRx.kids
      refine zV ?_;intros
      ((refine zG ?_);refine YB Zz Zz (Ymr s Zi h0' h1' hRx Zi) ?_)
      by_cases hz:formM d all vars' x=0
      ·rw [hz,show errV 0=.nilIface from rfl]
       refine zV ?_;intros
       exact YA ⟨k+1,by omega,rfl,rfl,rfl,rfl,YO hh hx hz⟩ Zi Zw Zb
      ·rw [YF hz]
       refine zV ?_;intros
       exact zR (h:=by rw [e3,YhB hx hh hz,YF hz])
     ·have hA:=Xf hh Zi
      refine zV ?_;intros
      exact zR (h:=by rw [e3,YeN hA];rfl)
variable {A:Option Addr} {c n:Nat} {fz:FZ} {p:Problem} {v va ve vk vp:Value}
theorem YgF (h:CkG fz v d p all) (h1:Sl paramL fz A n c vars) (hR:FormulaR fz f va vp ve vk) (hW:n+fW f≤1000000000):
 QFn prog 103 [v,.slice A n c,.agg #[.string f.op,.string f.name,va,vp,ve,vk]] fz (errV (formM d all vars f)):=Ymr _ (Zs _) h h1 hR hW
theorem YeH {l:List Lx.Formula} {ff:FuncId} {cap:List Value} {p:Lx.Formula→Prop} [DecidablePred p] (h1:Sl formulaL fz A n c l) (hq:∀ x∈l,∀ cs,formulaL.rep fz x cs→QFn prog ff (.agg cs.toArray::cap) fz (.bool (decide (p x)))):
 QFn prog 146 [.slice A n c,.func (.func ff) #[] cap.toArray] fz (.int .i64 (WZ p l 0)):=by
 refine GFn.quiet ?_
 refine zF Tryz.func146 Tryz.ntmps146 (fun w0=>?_)
 have l1:=h1.len
 have hm:=h1.short
 refine zW ?_;intros
 refine Yk (fun q σ fz' H'=>∃ k:Nat,k≤n∧q=n - k∧σ=[(8,.int .i64 k),(7,.int .i64 n),(0,.slice A n c),(1,.func (.func ff) #[] cap.toArray)]∧fz=fz'∧H'=[]∧(∀ i,i<k→∀ x,l[i]?=some x→¬p x)) ⟨0,Z0 _,rfl,rfl,rfl,rfl,(fun i hi=>absurd hi Zi)⟩ Zw Zb ?_;rintro q σ fz' H' ⟨k,hk,rfl,rfl,rfl,rfl,hh⟩
 refine zW ?_;intros
 refine zC (fun hlt=>?_) (fun hge=>?_)
 ·refine zW ?_;intros
  obtain ⟨x,hx⟩:=Yg (l:=l) (k:=k) Zi
  refine zI h1 hx (fun a ha=>?_)
  refine zL ha ?_
  intro cs hcs
  refine zW ?_;intros
  ((refine zG ?_);refine Wt Zz Zz Zz (hq x (Zm hx) cs hcs) (fun c1=>?_) (fun c1=>?_))
  ·refine zW ?_;intros
   exact zR (h:=by rw [Wo hh hx c1,Int.zero_add])
  ·refine zW ?_;intros
   exact YA ⟨k+1,by omega,rfl,rfl,rfl,rfl,(YO hh hx c1)⟩ Zi Zw Zb
 ·refine zW ?_;intros
  exact zR (h:=by rw [XS (Xf hh Zi)])
theorem Wd {l:List Lx.Formula} {ff:FuncId} {cap:List Value} {p:Lx.Formula→Prop} [DecidablePred p] (h1:Sl formulaL fz A n c l) (hq:∀ x∈l,∀ cs,formulaL.rep fz x cs→QFn prog ff (.agg cs.toArray::cap) fz (.bool (decide (p x)))):
 QFn prog 92 [.slice A n c,.func (.func ff) #[] cap.toArray] fz (.bool (decide (∃ x∈l,p x))):=by
 refine GFn.quiet ?_
 refine zF Tryz.func92 Tryz.ntmps92 (fun w0=>?_)
 refine zW ?_;intros
 refine zc (YeH h1 hq) ?_
 refine zC (fun c1=>?_) (fun c1=>?_)
 ·refine zW ?_;intros
  exact ret1 rfl rfl Zb (YC ((Xj (Int.le_refl 0)).1 c1))
 ·refine zW ?_;intros
  exact ret1 rfl rfl Zb (Ym (fun h=>c1 ((Xj (Int.le_refl 0)).2 h)))
theorem Yff {l:List Lx.Change} {ff:FuncId} {cap:List Value} {p:Lx.Change→Prop} [DecidablePred p] (h1:Sl changeL fz A n c l) (hq:∀ x∈l,∀ cs,changeL.rep fz x cs→QFn prog ff (.agg cs.toArray::cap) fz (.bool (decide (p x)))):
 QFn prog 147 [.slice A n c,.func (.func ff) #[] cap.toArray] fz (.int .i64 (WZ p l 0)):=by
 refine GFn.quiet ?_
 refine zF Tryz.func147 Tryz.ntmps147 (fun w0=>?_)
 have l1:=h1.len
 have hm:=h1.short
 refine zW ?_;intros
 refine Yk (fun q σ fz' H'=>∃ k:Nat,k≤n∧q=n - k∧σ=[(8,.int .i64 k),(7,.int .i64 n),(0,.slice A n c),(1,.func (.func ff) #[] cap.toArray)]∧fz=fz'∧H'=[]∧(∀ i,i<k→∀ x,l[i]?=some x→¬p x)) ⟨0,Z0 _,rfl,rfl,rfl,rfl,(fun i hi=>absurd hi Zi)⟩ Zw Zb ?_;rintro q σ fz' H' ⟨k,hk,rfl,rfl,rfl,rfl,hh⟩
 refine zW ?_;intros
 refine zC (fun hlt=>?_) (fun hge=>?_)
 ·refine zW ?_;intros
  obtain ⟨x,hx⟩:=Yg (l:=l) (k:=k) Zi
  refine zI h1 hx (fun a ha=>?_)
  refine zL ha ?_
  intro cs hcs
  refine zW ?_;intros
  ((refine zG ?_);refine Wt Zz Zz Zz (hq x (Zm hx) cs hcs) (fun c1=>?_) (fun c1=>?_))
  ·refine zW ?_;intros
   exact zR (h:=by rw [Wo hh hx c1,Int.zero_add])
  ·refine zW ?_;intros
   exact YA ⟨k+1,by omega,rfl,rfl,rfl,rfl,(YO hh hx c1)⟩ Zi Zw Zb
 ·refine zW ?_;intros
  exact zR (h:=by rw [XS (Xf hh Zi)])
theorem Yab {l:List Lx.Change} {ff:FuncId} {cap:List Value} {p:Lx.Change→Prop} [DecidablePred p] (h1:Sl changeL fz A n c l) (hq:∀ x∈l,∀ cs,changeL.rep fz x cs→QFn prog ff (.agg cs.toArray::cap) fz (.bool (decide (p x)))):
 QFn prog 96 [.slice A n c,.func (.func ff) #[] cap.toArray] fz (.bool (decide (∃ x∈l,p x))):=by
 refine GFn.quiet ?_
 refine zF Tryz.func96 Tryz.ntmps96 (fun w0=>?_)
 refine zW ?_;intros
 refine zc (Yff h1 hq) ?_
 refine zC (fun c1=>?_) (fun c1=>?_)
 ·refine zW ?_;intros
  exact ret1 rfl rfl Zb (YC ((Xj (Int.le_refl 0)).1 c1))
 ·refine zW ?_;intros
  exact ret1 rfl rfl Zb (Ym (fun h=>c1 ((Xj (Int.le_refl 0)).2 h)))
theorem Ydn {l:List Lx.Predicate} {ff:FuncId} {cap:List Value} {p:Lx.Predicate→Prop} [DecidablePred p] (h1:Sl predicateL fz A n c l) (hq:∀ x∈l,∀ cs,predicateL.rep fz x cs→QFn prog ff (.agg cs.toArray::cap) fz (.bool (decide (p x)))):
 QFn prog 93 [.slice A n c,.func (.func ff) #[] cap.toArray] fz (.int .i64 (WZ p l 0)):=by
 refine GFn.quiet ?_
 refine zF Tryz.func93 Tryz.ntmps93 (fun w0=>?_)
 have l1:=h1.len
 have hm:=h1.short
 refine zW ?_;intros
 refine Yk (fun q σ fz' H'=>∃ k:Nat,k≤n∧q=n - k∧σ=[(8,.int .i64 k),(7,.int .i64 n),(0,.slice A n c),(1,.func (.func ff) #[] cap.toArray)]∧fz=fz'∧H'=[]∧(∀ i,i<k→∀ x,l[i]?=some x→¬p x)) ⟨0,Z0 _,rfl,rfl,rfl,rfl,(fun i hi=>absurd hi Zi)⟩ Zw Zb ?_;rintro q σ fz' H' ⟨k,hk,rfl,rfl,rfl,rfl,hh⟩
 refine zW ?_;intros
 refine zC (fun hlt=>?_) (fun hge=>?_)
 ·refine zW ?_;intros
  obtain ⟨x,hx⟩:=Yg (l:=l) (k:=k) Zi
  refine zI h1 hx (fun a ha=>?_)
  refine zL ha ?_
  intro cs hcs
  refine zW ?_;intros
  ((refine zG ?_);refine Wt Zz Zz Zz (hq x (Zm hx) cs hcs) (fun c1=>?_) (fun c1=>?_))
  ·refine zW ?_;intros
   exact zR (h:=by rw [Wo hh hx c1,Int.zero_add])
  ·refine zW ?_;intros
   exact YA ⟨k+1,by omega,rfl,rfl,rfl,rfl,(YO hh hx c1)⟩ Zi Zw Zb
 ·refine zW ?_;intros
  exact zR (h:=by rw [XS (Xf hh Zi)])
theorem Ycb {l:List Lx.Predicate} {ff:FuncId} {cap:List Value} {p:Lx.Predicate→Prop} [DecidablePred p] (h1:Sl predicateL fz A n c l) (hq:∀ x∈l,∀ cs,predicateL.rep fz x cs→QFn prog ff (.agg cs.toArray::cap) fz (.bool (decide (p x)))):
 QFn prog 49 [.slice A n c,.func (.func ff) #[] cap.toArray] fz (.bool (decide (∃ x∈l,p x))):=by
 refine GFn.quiet ?_
 refine zF Tryz.func49 Tryz.ntmps49 (fun w0=>?_)
 refine zW ?_;intros
 refine zc (Ydn h1 hq) ?_
 refine zC (fun c1=>?_) (fun c1=>?_)
 ·refine zW ?_;intros
  exact ret1 rfl rfl Zb (YC ((Xj (Int.le_refl 0)).1 c1))
 ·refine zW ?_;intros
  exact ret1 rfl rfl Zb (Ym (fun h=>c1 ((Xj (Int.le_refl 0)).2 h)))
theorem YdT {l:List Lx.Function} {ff:FuncId} {cap:List Value} {p:Lx.Function→Prop} [DecidablePred p] (h1:Sl functionL fz A n c l) (hq:∀ x∈l,∀ cs,functionL.rep fz x cs→QFn prog ff (.agg cs.toArray::cap) fz (.bool (decide (p x)))):
 QFn prog 94 [.slice A n c,.func (.func ff) #[] cap.toArray] fz (.int .i64 (WZ p l 0)):=by
 refine GFn.quiet ?_
 refine zF Tryz.func94 Tryz.ntmps94 (fun w0=>?_)
 have l1:=h1.len
 have hm:=h1.short
 refine zW ?_;intros
 refine Yk (fun q σ fz' H'=>∃ k:Nat,k≤n∧q=n - k∧σ=[(8,.int .i64 k),(7,.int .i64 n),(0,.slice A n c),(1,.func (.func ff) #[] cap.toArray)]∧fz=fz'∧H'=[]∧(∀ i,i<k→∀ x,l[i]?=some x→¬p x)) ⟨0,Z0 _,rfl,rfl,rfl,rfl,(fun i hi=>absurd hi Zi)⟩ Zw Zb ?_;rintro q σ fz' H' ⟨k,hk,rfl,rfl,rfl,rfl,hh⟩
 refine zW ?_;intros
 refine zC (fun hlt=>?_) (fun hge=>?_)
 ·refine zW ?_;intros
  obtain ⟨x,hx⟩:=Yg (l:=l) (k:=k) Zi
  refine zI h1 hx (fun a ha=>?_)
  refine zL ha ?_
  intro cs hcs
  refine zW ?_;intros
  ((refine zG ?_);refine Wt Zz Zz Zz (hq x (Zm hx) cs hcs) (fun c1=>?_) (fun c1=>?_))
  ·refine zW ?_;intros
   exact zR (h:=by rw [Wo hh hx c1,Int.zero_add])
  ·refine zW ?_;intros
   exact YA ⟨k+1,by omega,rfl,rfl,rfl,rfl,(YO hh hx c1)⟩ Zi Zw Zb
 ·refine zW ?_;intros
  exact zR (h:=by rw [XS (Xf hh Zi)])
theorem Ycu {l:List Lx.Function} {ff:FuncId} {cap:List Value} {p:Lx.Function→Prop} [DecidablePred p] (h1:Sl functionL fz A n c l) (hq:∀ x∈l,∀ cs,functionL.rep fz x cs→QFn prog ff (.agg cs.toArray::cap) fz (.bool (decide (p x)))):
 QFn prog 51 [.slice A n c,.func (.func ff) #[] cap.toArray] fz (.bool (decide (∃ x∈l,p x))):=by
 refine GFn.quiet ?_
 refine zF Tryz.func51 Tryz.ntmps51 (fun w0=>?_)
 refine zW ?_;intros
 refine zc (YdT h1 hq) ?_
 refine zC (fun c1=>?_) (fun c1=>?_)
 ·refine zW ?_;intros
  exact ret1 rfl rfl Zb (YC ((Xj (Int.le_refl 0)).1 c1))
 ·refine zW ?_;intros
  exact ret1 rfl rfl Zb (Ym (fun h=>c1 ((Xj (Int.le_refl 0)).2 h)))
theorem Yfg {l:List Lx.Action} {ff:FuncId} {cap:List Value} {p:Lx.Action→Prop} [DecidablePred p] (h1:Sl actionL fz A n c l) (hq:∀ x∈l,∀ cs,actionL.rep fz x cs→QFn prog ff (.agg cs.toArray::cap) fz (.bool (decide (p x)))):
 QFn prog 95 [.slice A n c,.func (.func ff) #[] cap.toArray] fz (.int .i64 (WZ p l 0)):=by
 refine GFn.quiet ?_
 refine zF Tryz.func95 Tryz.ntmps95 (fun w0=>?_)
 have l1:=h1.len
 have hm:=h1.short
 refine zW ?_;intros
 refine Yk (fun q σ fz' H'=>∃ k:Nat,k≤n∧q=n - k∧σ=[(8,.int .i64 k),(7,.int .i64 n),(0,.slice A n c),(1,.func (.func ff) #[] cap.toArray)]∧fz=fz'∧H'=[]∧(∀ i,i<k→∀ x,l[i]?=some x→¬p x)) ⟨0,Z0 _,rfl,rfl,rfl,rfl,(fun i hi=>absurd hi Zi)⟩ Zw Zb ?_;rintro q σ fz' H' ⟨k,hk,rfl,rfl,rfl,rfl,hh⟩
 refine zW ?_;intros
 refine zC (fun hlt=>?_) (fun hge=>?_)
 ·refine zW ?_;intros
  obtain ⟨x,hx⟩:=Yg (l:=l) (k:=k) Zi
  refine zI h1 hx (fun a ha=>?_)
  refine zL ha ?_
  intro cs hcs
  refine zW ?_;intros
  ((refine zG ?_);refine Wt Zz Zz Zz (hq x (Zm hx) cs hcs) (fun c1=>?_) (fun c1=>?_))
  ·refine zW ?_;intros
   exact zR (h:=by rw [Wo hh hx c1,Int.zero_add])
  ·refine zW ?_;intros
   exact YA ⟨k+1,by omega,rfl,rfl,rfl,rfl,(YO hh hx c1)⟩ Zi Zw Zb
 ·refine zW ?_;intros
  exact zR (h:=by rw [XS (Xf hh Zi)])
theorem Ybi {l:List Lx.Action} {ff:FuncId} {cap:List Value} {p:Lx.Action→Prop} [DecidablePred p] (h1:Sl actionL fz A n c l) (hq:∀ x∈l,∀ cs,actionL.rep fz x cs→QFn prog ff (.agg cs.toArray::cap) fz (.bool (decide (p x)))):
 QFn prog 53 [.slice A n c,.func (.func ff) #[] cap.toArray] fz (.bool (decide (∃ x∈l,p x))):=by
 refine GFn.quiet ?_
 refine zF Tryz.func53 Tryz.ntmps53 (fun w0=>?_)
 refine zW ?_;intros
 refine zc (Yfg h1 hq) ?_
 refine zC (fun c1=>?_) (fun c1=>?_)
 ·refine zW ?_;intros
  exact ret1 rfl rfl Zb (YC ((Xj (Int.le_refl 0)).1 c1))
 ·refine zW ?_;intros
  exact ret1 rfl rfl Zb (Ym (fun h=>c1 ((Xj (Int.le_refl 0)).2 h)))
theorem YdU {l:List Lx.Durative} {ff:FuncId} {cap:List Value} {p:Lx.Durative→Prop} [DecidablePred p] (h1:Sl durativeL fz A n c l) (hq:∀ x∈l,∀ cs,durativeL.rep fz x cs→QFn prog ff (.agg cs.toArray::cap) fz (.bool (decide (p x)))):
 QFn prog 98 [.slice A n c,.func (.func ff) #[] cap.toArray] fz (.int .i64 (WZ p l 0)):=by
 refine GFn.quiet ?_
 refine zF Tryz.func98 Tryz.ntmps98 (fun w0=>?_)
 have l1:=h1.len
 have hm:=h1.short
 refine zW ?_;intros
 refine Yk (fun q σ fz' H'=>∃ k:Nat,k≤n∧q=n - k∧σ=[(8,.int .i64 k),(7,.int .i64 n),(0,.slice A n c),(1,.func (.func ff) #[] cap.toArray)]∧fz=fz'∧H'=[]∧(∀ i,i<k→∀ x,l[i]?=some x→¬p x)) ⟨0,Z0 _,rfl,rfl,rfl,rfl,(fun i hi=>absurd hi Zi)⟩ Zw Zb ?_;rintro q σ fz' H' ⟨k,hk,rfl,rfl,rfl,rfl,hh⟩
 refine zW ?_;intros
 refine zC (fun hlt=>?_) (fun hge=>?_)
 ·refine zW ?_;intros
  obtain ⟨x,hx⟩:=Yg (l:=l) (k:=k) Zi
  refine zI h1 hx (fun a ha=>?_)
  refine zL ha ?_
  intro cs hcs
  refine zW ?_;intros
  ((refine zG ?_);refine Wt Zz Zz Zz (hq x (Zm hx) cs hcs) (fun c1=>?_) (fun c1=>?_))
  ·refine zW ?_;intros
   exact zR (h:=by rw [Wo hh hx c1,Int.zero_add])
  ·refine zW ?_;intros
   exact YA ⟨k+1,by omega,rfl,rfl,rfl,rfl,(YO hh hx c1)⟩ Zi Zw Zb
 ·refine zW ?_;intros
  exact zR (h:=by rw [XS (Xf hh Zi)])
theorem YaO {l:List Lx.Durative} {ff:FuncId} {cap:List Value} {p:Lx.Durative→Prop} [DecidablePred p] (h1:Sl durativeL fz A n c l) (hq:∀ x∈l,∀ cs,durativeL.rep fz x cs→QFn prog ff (.agg cs.toArray::cap) fz (.bool (decide (p x)))):
 QFn prog 56 [.slice A n c,.func (.func ff) #[] cap.toArray] fz (.bool (decide (∃ x∈l,p x))):=by
 refine GFn.quiet ?_
 refine zF Tryz.func56 Tryz.ntmps56 (fun w0=>?_)
 refine zW ?_;intros
 refine zc (YdU h1 hq) ?_
 refine zC (fun c1=>?_) (fun c1=>?_)
 ·refine zW ?_;intros
  exact ret1 rfl rfl Zb (YC ((Xj (Int.le_refl 0)).1 c1))
 ·refine zW ?_;intros
  exact ret1 rfl rfl Zb (Ym (fun h=>c1 ((Xj (Int.le_refl 0)).2 h)))
end Go.Proofs.YtbnpeechpebmeaaGreatDoor
