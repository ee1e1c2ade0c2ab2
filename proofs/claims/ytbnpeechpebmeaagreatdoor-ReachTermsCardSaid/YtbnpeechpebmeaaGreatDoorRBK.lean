/- The texts PCL, PCS, PCT, PCV, ShelfC, OpenA, PCQ, PCR, PVal, PGrd, PWalkK, laid together. Conditions: none. -/
import Derived.Test.YtbnpeechpebmeaaGreatDoorRBJ
import Derived.ChangeSame
import Derived.ProofKit
import Derived.Shelf.Strings.Search3
set_option linter.all false
noncomputable section
set_option maxRecDepth 20000
namespace Go.Proofs.YtbnpeechpebmeaaGreatDoor
open Go.Lx Go.RowKit
attribute [local instance 10] Classical.propDecidable
open Go.Proofs.Tryz (prog)
mutual
def LongP:Formula→Prop
 | .mk _ _ _ params _ kids=>6<params.length∨LongPL kids
def LongPL:List Formula→Prop
 | []=>False
 | k::r=>LongP k∨LongPL r
end
theorem YfD:∀ {l:List Formula},LongPL l↔∃ x∈l,LongP x
 | []=>by simp [LongPL]
 | k::r=>by rw [LongPL,YfD (l:=r)];simp
theorem YcK (f:Formula):LongP f↔6<f.params.length∨∃ x∈f.kids,LongP x:=by cases f;rw [LongP,YfD];rfl
theorem long_f:∀ (s:Nat) {fz:FZ} {f:Formula} {va vp ve vk:Value},SizeOf.sizeOf f≤s→FormulaR fz f va vp ve vk→
 QFn prog 48 [.agg #[.string f.op,.string f.name,va,vp,ve,vk]] fz (.bool (decide (LongP f)))
 | 0,_,f,_,_,_,_,hse,_=>by cases f;simp at hse
 | s+1,fz,f,va,vp,ve,vk,hse,hR=>by
  obtain ⟨B1,m1,d1,rfl,ia⟩:=hR.args
  obtain ⟨B2,m2,d2,rfl,ip⟩:=hR.params
  obtain ⟨B3,m3,d3,rfl,ie⟩:=hR.exprs
  obtain ⟨B4,m4,d4,rfl,ik⟩:=hR.kids
  have l2:=ip.len
  refine GFn.quiet ?_
  refine zF Tryz.func48 Tryz.ntmps48 (fun w0=>?_)
  refine Yp (Yq (Yb Zz (Y3 _ Zz Zz (fun g0=>?_))))
  refine zV ?_;intros
  refine zC (fun x1=>?_) (fun x1=>?_)
  ·refine zV ?_;intros
   exact ret1 rfl rfl Zb (YC ((YcK f).2 (.inl Zi)))
  ·refine zV ?_;intros
   ((refine zG ?_);refine YB Zz Zz (Wd (cap:=[]) (p:=LongP) ik (fun x hx cs hcs=>by
    obtain ⟨wa,wp,we,wk,rfl,hRx⟩:=YM hcs
    exact long_f s (by have:=Lx.Formula.kids_lt hx;omega) hRx)) ?_)
   refine zV ?_;intros
   (exact ret1 rfl rfl Zb (by
    by_cases h:∃ x∈f.kids,LongP x
    ·rw [decide_eq_true h,decide_eq_true ((YcK f).2 (.inr h))]
    ·rw [decide_eq_false h,decide_eq_false (fun h0=>((YcK f).1 h0).elim (fun h1=>x1 Zi) h)]))
variable {fz:FZ} {va ve vk vp:Value}
theorem YfC {f:Formula} (hR:FormulaR fz f va vp ve vk):
 QFn prog 48 [.agg #[.string f.op,.string f.name,va,vp,ve,vk]] fz (.bool (decide (LongP f))):=long_f _ (Zs _) hR
def Yfn (c:Change):Prop:=6<c.params.length∨LongP c.when_
variable {cs:List Value}
theorem longC_q {c:Change} (h:changeL.rep fz c cs):QFn prog 97 [.agg cs.toArray] fz (.bool (decide (Yfn c))):=by
 obtain ⟨v1,v2,v3,v4,v5,v6,v7,v8,rfl,hR⟩:=XF h
 obtain ⟨A1,n1,b1,rfl,ip⟩:=hR.params
 have hw:=hR.when_
 obtain ⟨A2,n2,b2,rfl,iw1⟩:=hR.when_.args
 obtain ⟨A3,n3,b3,rfl,iw2⟩:=hR.when_.params
 obtain ⟨A4,n4,b4,rfl,iw3⟩:=hR.when_.exprs
 obtain ⟨A5,n5,b5,rfl,iw4⟩:=hR.when_.kids
 obtain ⟨A6,n6,b6,rfl,iw5⟩:=hR.args
 obtain ⟨A7,n7,b7,rfl,iw6⟩:=hR.value.args
 obtain ⟨A8,n8,b8,rfl,iw7⟩:=hR.value.kids
 have l1:=ip.len
 refine GFn.quiet ?_
 refine zF Tryz.func97 Tryz.ntmps97 (fun w0=>?_)
 refine Yp (Yq (Yb Zz (Y3 _ Zz Zz (fun g0=>?_))))
 refine zV ?_;intros
 refine zC (fun x1=>?_) (fun x1=>?_)
 ·refine zV ?_;intros
  exact ret1 rfl rfl Zb (YC (.inl Zi))
 ·refine zV ?_;intros
  ((refine zG ?_);refine Yn (vs:=[.string c.when_.op,.string c.when_.name,.slice A2 n2 b2,.slice A3 n3 b3,.slice A4 n4 b4,.slice A5 n5 b5]) T 0 Zz Zz Zz Zz Zz Zz ?_)
  refine zc (YfC hw) ?_
  refine zV ?_;intros
  (exact ret1 rfl rfl Zb (by
   by_cases h:LongP c.when_
   ·rw [decide_eq_true h,decide_eq_true (show Yfn c from .inr h)]
   ·rw [decide_eq_false h,decide_eq_false (show ¬Yfn c from fun h0=>h0.elim (fun h1=>x1 Zi) h)]))
variable {A:Option Addr} {c n:Nat}
theorem Yby {l:List Change} (h:Sl changeL fz A n c l):
 QFn prog 55 [.slice A n c] fz (.bool (decide (∃ x∈l,Yfn x))):=by
 refine GFn.quiet ?_
 refine zF Tryz.func55 Tryz.ntmps55 (fun w0=>?_)
 refine zV ?_;intros
 ((refine zG ?_);refine YB Zz Zz (Yab (cap:=[]) (p:=Yfn) h (fun x hx cs hcs=>longC_q hcs)) ?_)
 refine zV ?_;intros
 exact zR (h:=rfl)
theorem Yd2:QFn prog 47 [.slice A n c] fz (.bool (decide (6<n))):=by
 refine GFn.quiet ?_
 refine zF Tryz.func47 Tryz.ntmps47 (fun w0=>?_)
 refine zV ?_;intros
 refine zC (fun x1=>?_) (fun x1=>?_)
 ·refine zV ?_;intros
  exact ret1 rfl rfl Zb (YC Zi)
 ·refine zV ?_;intros
  exact ret1 rfl rfl Zb (Ym Zi)
def YbG (fz:FZ) (g:Nat):Prop:=fz g=some (.cells #[.func (.func 47) #[] #[]] 137 (0,0))
variable {g:Nat}
theorem large2_q (hg:YbG fz g) {x:Predicate} (h:predicateL.rep fz x cs):
 QFn prog 50 [.agg cs.toArray,.pointer (some ⟨g,0,none⟩)] fz (.bool (decide (6<x.params.length))):=by
 unfold YbG at hg
 obtain ⟨v1,rfl,hR⟩:=X0 h
 obtain ⟨A1,n1,b1,rfl,ip⟩:=hR.params
 have l1:=ip.len
 refine GFn.quiet ?_
 refine zF Tryz.func50 Tryz.ntmps50 (fun w0=>?_)
 refine Yp (Yq (Yb Zz (Y3 _ Zz Zz (fun g0=>?_))))
 refine zV ?_;intros
 refine zv Yd2 ?_
 refine zV ?_;intros
 exact zR (h:=by rw [l1])
theorem large3_q (hg:YbG fz g) {x:Function} (h:functionL.rep fz x cs):
 QFn prog 52 [.agg cs.toArray,.pointer (some ⟨g,0,none⟩)] fz (.bool (decide (6<x.params.length))):=by
 unfold YbG at hg
 obtain ⟨v1,rfl,hR⟩:=XD h
 obtain ⟨A1,n1,b1,rfl,ip⟩:=hR.params
 have l1:=ip.len
 refine GFn.quiet ?_
 refine zF Tryz.func52 Tryz.ntmps52 (fun w0=>?_)
 refine Yp (Yq (Yb Zz (Y3 _ Zz Zz (fun g0=>?_))))
 refine zV ?_;intros
 refine zv Yd2 ?_
 refine zV ?_;intros
 exact zR (h:=by rw [l1])
def LongA (a:Action):Prop:=6<a.params.length∨LongP a.pre∨∃ c∈a.changes,Yfn c
theorem orNo {p q r:Prop} [Decidable q] [Decidable r] (h:¬p) (e:r↔p∨q):Value.bool (decide q)=Value.bool (decide r):=by
 by_cases hq:q
 ·rw [decide_eq_true hq,decide_eq_true (e.2 (.inr hq))]
 ·rw [decide_eq_false hq,decide_eq_false (fun h0=>(e.1 h0).elim h hq)]
theorem large4_q (hg:YbG fz g) {x:Action} (h:actionL.rep fz x cs):
 QFn prog 54 [.agg cs.toArray,.pointer (some ⟨g,0,none⟩)] fz (.bool (decide (LongA x))):=by
 unfold YbG at hg
 obtain ⟨v1,v2,v3,v4,v5,v6,rfl,hR⟩:=XO h
 obtain ⟨A1,n1,b1,rfl,ip⟩:=hR.params
 have hw:=hR.pre
 obtain ⟨A2,n2,b2,rfl,iw1⟩:=hR.pre.args
 obtain ⟨A3,n3,b3,rfl,iw2⟩:=hR.pre.params
 obtain ⟨A4,n4,b4,rfl,iw3⟩:=hR.pre.exprs
 obtain ⟨A5,n5,b5,rfl,iw4⟩:=hR.pre.kids
 obtain ⟨A6,n6,b6,rfl,ic⟩:=hR.changes
 have l1:=ip.len
 refine GFn.quiet ?_
 refine zF Tryz.func54 Tryz.ntmps54 (fun w0=>?_)
 refine Yp (Yq (Yb Zz (Y3 _ Zz Zz (fun g0=>?_))))
 refine zV ?_;intros
 ((refine zG ?_);refine Wt Zz Zz Zz Yd2 (fun f1=>?_) (fun f1=>?_))
 ·refine zV ?_;intros
  exact ret1 rfl rfl Zb (YC (.inl Zi))
 ·refine zV ?_;intros
  ((refine zG ?_);refine Yn (vs:=[.string x.pre.op,.string x.pre.name,.slice A2 n2 b2,.slice A3 n3 b3,.slice A4 n4 b4,.slice A5 n5 b5]) T 0 Zz Zz Zz Zz Zz Zz ?_)
  refine zb (YfC hw) (fun f2=>?_) (fun f2=>?_)
  ·refine zV ?_;intros
   exact ret1 rfl rfl Zb (YC (.inr (.inl (Zt f2))))
  ·refine zV ?_;intros
   refine zc (Yby ic) ?_
   refine zV ?_;intros
   exact ret1 rfl rfl Zb (orNo (p:=6<x.params.length∨LongP x.pre) (fun h0=>h0.elim (fun h1=>f1 Zi) (Zf f2)) or_assoc.symm)
def Ykz (a:Durative):Prop:=6<a.params.length∨LongP a.start∨LongP a.over∨LongP a.fin∨(∃ c∈a.atStart,Yfn c)∨∃ c∈a.atEnd,Yfn c
theorem large5_q (hg:YbG fz g) {x:Durative} (h:durativeL.rep fz x cs):
 QFn prog 57 [.agg cs.toArray,.pointer (some ⟨g,0,none⟩)] fz (.bool (decide (Ykz x))):=by
 unfold YbG at hg
 obtain ⟨v1,v2,v3,v4,v5,v6,v7,v8,v9,v10,v11,v12,v13,v14,v15,rfl,hR⟩:=XE h
 obtain ⟨A1,n1,b1,rfl,ip⟩:=hR.params
 have hw:=hR.start
 have ho:=hR.over
 have hf:=hR.fin
 obtain ⟨A2,n2,b2,rfl,_⟩:=hR.start.args
 obtain ⟨A3,n3,b3,rfl,_⟩:=hR.start.params
 obtain ⟨A4,n4,b4,rfl,_⟩:=hR.start.exprs
 obtain ⟨A5,n5,b5,rfl,_⟩:=hR.start.kids
 obtain ⟨C2,c2,e2,rfl,_⟩:=hR.over.args
 obtain ⟨C3,c3,e3,rfl,_⟩:=hR.over.params
 obtain ⟨C4,c4,e4,rfl,_⟩:=hR.over.exprs
 obtain ⟨C5,c5,e5,rfl,_⟩:=hR.over.kids
 obtain ⟨D2,d2,i2,rfl,_⟩:=hR.fin.args
 obtain ⟨D3,d3,i3,rfl,_⟩:=hR.fin.params
 obtain ⟨D4,d4,i4,rfl,_⟩:=hR.fin.exprs
 obtain ⟨D5,d5,i5,rfl,_⟩:=hR.fin.kids
 obtain ⟨A6,n6,b6,rfl,ic⟩:=hR.atStart
 obtain ⟨A7,n7,b7,rfl,id⟩:=hR.atEnd
 have l1:=ip.len
 refine GFn.quiet ?_
 refine zF Tryz.func57 Tryz.ntmps57 (fun w0=>?_)
 refine Yp (Yq (Yb Zz (Y3 _ Zz Zz (fun g0=>?_))))
 refine zV ?_;intros
 ((refine zG ?_);refine Wt Zz Zz Zz Yd2 (fun f1=>?_) (fun f1=>?_))
 ·refine zV ?_;intros
  exact ret1 rfl rfl Zb (YC (.inl Zi))
 ·refine zV ?_;intros
  ((refine zG ?_);refine Yn (vs:=[.string x.start.op,.string x.start.name,.slice A2 n2 b2,.slice A3 n3 b3,.slice A4 n4 b4,.slice A5 n5 b5]) T 0 Zz Zz Zz Zz Zz Zz ?_)
  refine zb (YfC hw) (fun f2=>?_) (fun f2=>?_)
  ·refine zV ?_;intros
   exact ret1 rfl rfl Zb (YC (.inr (.inl (Zt f2))))
  ·refine zV ?_;intros
   ((refine zG ?_);refine Yn (vs:=[.string x.over.op,.string x.over.name,.slice C2 c2 e2,.slice C3 c3 e3,.slice C4 c4 e4,.slice C5 c5 e5]) T 0 Zz Zz Zz Zz Zz Zz ?_)
   refine zb (YfC ho) (fun f3=>?_) (fun f3=>?_)
   ·refine zV ?_;intros
    exact ret1 rfl rfl Zb (YC (.inr (.inr (.inl (Zt f3)))))
   ·refine zV ?_;intros
    ((refine zG ?_);refine Yn (vs:=[.string x.fin.op,.string x.fin.name,.slice D2 d2 i2,.slice D3 d3 i3,.slice D4 d4 i4,.slice D5 d5 i5]) T 0 Zz Zz Zz Zz Zz Zz ?_)
    refine zb (YfC hf) (fun f4=>?_) (fun f4=>?_)
    ·refine zV ?_;intros
     exact ret1 rfl rfl Zb (YC (.inr (.inr (.inr (.inl (Zt f4))))))
    ·refine zV ?_;intros
     refine zb (Yby ic) (fun f5=>?_) (fun f5=>?_)
     ·refine zV ?_;intros
      exact ret1 rfl rfl Zb (YC (.inr (.inr (.inr (.inr (.inl (Zt f5)))))))
     ·refine zV ?_;intros
      refine zc (Yby id) ?_
      refine zV ?_;intros
      (exact ret1 rfl rfl Zb (orNo (p:=6<x.params.length∨LongP x.start∨LongP x.over∨LongP x.fin∨∃ c∈x.atStart,Yfn c) (fun h0=>by
       rcases h0 with h1 | h1 | h1 | h1 | h1
       ·exact f1 Zi
       ·exact Zf f2 h1
       ·exact Zf f3 h1
       ·exact Zf f4 h1
       ·exact Zf f5 h1) (by unfold Ykz;simp only [or_assoc])))
def LargeM (d:Domain) (p:Problem) (all:List Param):Prop:=64<all.length∨64<d.types.length∨64<d.predicates.length∨64<d.functions.length∨64<d.actions.length∨64<d.duratives.length∨LongP p.goal∨(∃ x∈d.predicates,6<x.params.length)∨(∃ x∈d.functions,6<x.params.length)∨(∃ x∈d.actions,LongA x)∨∃ x∈d.duratives,Ykz x
variable {all:List Param} {d:Domain} {v:Value}
set_option maxHeartbeats 4000000 in
theorem large_q {p:Problem} {vf vg vo:Value} (h:CkR fz v d p all vf vp vg vo):
 QFn prog 20 [v] fz (.bool (decide (LargeM d p all))):=by
 obtain ⟨gc,v1,v2,v3,v4,v5,v6,u1,u2,u3,u4,u5,u6,u7,Aa,na,ca,rfl,hc,hD,hP,hall⟩:=h
 obtain ⟨A1,n1,b1,rfl,i1⟩:=hD.types
 obtain ⟨A2,n2,b2,rfl,i2⟩:=hD.constants
 obtain ⟨A3,n3,b3,rfl,i3⟩:=hD.predicates
 obtain ⟨A4,n4,b4,rfl,i4⟩:=hD.functions
 obtain ⟨A5,n5,b5,rfl,i5⟩:=hD.actions
 obtain ⟨A6,n6,b6,rfl,i6⟩:=hD.duratives
 have hg:=hP.goal
 obtain ⟨B0,e0,q0,rfl,_⟩:=hP.goal.args
 obtain ⟨B1,e1,q1,rfl,_⟩:=hP.goal.params
 obtain ⟨B2,e2,q2,rfl,_⟩:=hP.goal.exprs
 obtain ⟨B3,e3,q3,rfl,_⟩:=hP.goal.kids
 have l1:=i1.len
 have l3:=i3.len
 have l4:=i4.len
 have l5:=i5.len
 have l6:=i6.len
 have la:=hall.len
 refine GFn.quiet ?_
 refine zF Tryz.func20 Tryz.ntmps20 (fun w0=>?_)
 refine zV ?_;intros
 refine zG ?_;refine Yar (vs:=[.string d.name,.slice A1 n1 b1,.slice A2 n2 b2,.slice A3 n3 b3,.slice A4 n4 b4,.slice A5 n5 b5,.slice A6 n6 b6]) T Zz Zz Zz hc Zz Zz ?_
 refine zV ?_;intros
 refine zC (fun x0=>?_) (fun x0=>?_)
 ·refine zV ?_;intros
  exact ret1 rfl rfl Zb (YC (.inl Zi))
 ·refine zV ?_;intros
  refine zC (fun x1=>?_) (fun x1=>?_)
  ·refine zV ?_;intros
   exact ret1 rfl rfl Zb (YC (.inr (.inl Zi)))
  ·refine zV ?_;intros
   refine zC (fun x2=>?_) (fun x2=>?_)
   ·refine zV ?_;intros
    exact ret1 rfl rfl Zb (YC (.inr (.inr (.inl Zi))))
   ·refine zV ?_;intros
    refine zC (fun x3=>?_) (fun x3=>?_)
    ·refine zV ?_;intros
     exact ret1 rfl rfl Zb (YC (.inr (.inr (.inr (.inl Zi)))))
    ·refine zV ?_;intros
     refine zC (fun x4=>?_) (fun x4=>?_)
     ·refine zV ?_;intros
      exact ret1 rfl rfl Zb (YC (.inr (.inr (.inr (.inr (.inl Zi))))))
     ·refine zV ?_;intros
      refine zC (fun x5=>?_) (fun x5=>?_)
      ·refine zV ?_;intros
       exact ret1 rfl rfl Zb (YC (.inr (.inr (.inr (.inr (.inr (.inl Zi)))))))
      ·refine zVX ?_;intros
       refine Yp ?_
       refine zVX ?_;intros
       rename_i g3 g4
       first | refine Wp.freeze Zz (fun fz2 hl2 hb2=>?_) | refine Seq.freeze Zz (fun fz2 hl2 hb2=>?_)
       have hb:YbG fz2 g4:=hb2
       have hc2:=hl2 _ _ hc
       have hg2:=hg.mono hl2
       have j3:=i3.mono hl2
       have j4:=i4.mono hl2
       have j5:=i5.mono hl2
       have j6:=i6.mono hl2
       refine zV ?_;intros
       refine zG ?_;refine Yar (vs:=[.string p.goal.op,.string p.goal.name,.slice B0 e0 q0,.slice B1 e1 q1,.slice B2 e2 q2,.slice B3 e3 q3]) T Zz Zz Zz hc2 Zz Zz ?_
       refine zV ?_;intros
       refine zb (YfC hg2) (fun f6=>?_) (fun f6=>?_)
       ·refine zV ?_;intros
        exact ret1 rfl rfl Zb (YC (.inr (.inr (.inr (.inr (.inr (.inr (.inl (Zt f6)))))))))
       ·refine zV ?_;intros
        refine zG ?_;refine Xs Zz Zz ?_
        refine zV ?_;intros
        ((refine zG ?_);refine XY Zz Zz (Ycb (cap:=[.pointer (some ⟨g4,0,none⟩)]) (p:=(fun x:Predicate=>6<x.params.length)) j3 (fun x hx cs hcs=>large2_q hb hcs)) (fun f7=>?_) (fun f7=>?_))
        ·refine zV ?_;intros
         exact ret1 rfl rfl Zb (YC (.inr (.inr (.inr (.inr (.inr (.inr (.inr (.inl (Zt f7))))))))))
        ·refine zV ?_;intros
         refine zG ?_;refine Xs Zz Zz ?_
         refine zV ?_;intros
         ((refine zG ?_);refine XY Zz Zz (Ycu (cap:=[.pointer (some ⟨g4,0,none⟩)]) (p:=(fun x:Function=>6<x.params.length)) j4 (fun x hx cs hcs=>large3_q hb hcs)) (fun f8=>?_) (fun f8=>?_))
         ·refine zV ?_;intros
          exact ret1 rfl rfl Zb (YC (.inr (.inr (.inr (.inr (.inr (.inr (.inr (.inr (.inl (Zt f8)))))))))))
         ·refine zV ?_;intros
          refine zG ?_;refine Xs Zz Zz ?_
          refine zV ?_;intros
          ((refine zG ?_);refine XY Zz Zz (Ybi (cap:=[.pointer (some ⟨g4,0,none⟩)]) (p:=LongA) j5 (fun x hx cs hcs=>large4_q hb hcs)) (fun f9=>?_) (fun f9=>?_))
          ·refine zV ?_;intros
           exact ret1 rfl rfl Zb (YC (.inr (.inr (.inr (.inr (.inr (.inr (.inr (.inr (.inr (.inl (Zt f9))))))))))))
          ·refine zV ?_;intros
           refine zG ?_;refine Xs Zz Zz ?_
           refine zV ?_;intros
           ((refine zG ?_);refine YB Zz Zz (YaO (cap:=[.pointer (some ⟨g4,0,none⟩)]) (p:=Ykz) j6 (fun x hx cs hcs=>large5_q hb hcs)) ?_)
           refine zV ?_;intros
           (exact ret1 rfl rfl Zb (by
            by_cases h9:∃ x∈d.duratives,Ykz x
            ·rw [decide_eq_true h9,decide_eq_true (show LargeM d p all from (.inr (.inr (.inr (.inr (.inr (.inr (.inr (.inr (.inr (.inr h9)))))))))))]
            ·rw [decide_eq_false h9,decide_eq_false (show ¬LargeM d p all from fun h0=>by
              rcases h0 with h0 | h0 | h0 | h0 | h0 | h0 | h0 | h0 | h0 | h0 | h0
              ·exact x0 Zi
              ·exact x1 Zi
              ·exact x2 Zi
              ·exact x3 Zi
              ·exact x4 Zi
              ·exact x5 Zi
              ·exact Zf f6 h0
              ·exact Zf f7 h0
              ·exact Zf f8 h0
              ·exact Zf f9 h0
              ·exact h9 h0)]))
def Once {α:Type} (nm:α→Bs) (l:List α):Prop:=∀ (i j:Nat) (x y:α),i<j→l[i]?=some x→l[j]?=some y→nm x≠nm y
def MapH {α:Type} (nm:α→Bs) (V:α→Value→Prop) (m:List (Bs × Value)) (l:List α) (k:Nat):Prop:=∀ x,((∀ i y,i<k→l[i]?=some y→nm y≠x)→valS m x=none)∧∀ i y,i<k→l[i]?=some y→nm y=x→∃ v,valS m x=some v∧V y v
theorem MapH.zero {α:Type} {nm:α→Bs} {V:α→Value→Prop} {l:List α}:MapH nm V [] l 0:=fun x=>⟨fun _=>rfl,fun i y hi=>absurd hi Zi⟩
variable {k:Nat}
theorem MapH.add {α:Type} {nm:α→Bs} {V:α→Value→Prop} {m:List (Bs × Value)} {l:List α} {y:α} (h:MapH nm V m l k) (ho:Once nm l) (hy:l[k]?=some y) (hv:V y v):MapH nm V (updS m (nm y) v) l (k+1):=fun x=>by
 constructor
 ·intro hn
  have h1:nm y≠x:=hn k y Zi hy
  rw [Ybs,if_neg (fun e=>h1 e.symm)]
  exact (h x).1 (fun i z hi hz=>hn i z Zi hz)
 ·intro i z hi hz he
  by_cases hik:i=k
  ·subst hik
   rw [hy] at hz;injection hz with hz;subst hz
   exact ⟨v,by rw [Ybs,if_pos he.symm],hv⟩
  ·have h2:=ho i k z y Zi hz hy
   rw [Ybs,if_neg (fun e=>h2 (by rw [he,e]))]
   exact (h x).2 i z Zi hz he
theorem MapH.mono {α:Type} {nm:α→Bs} {V V':α→Value→Prop} {m:List (Bs × Value)} {l:List α} (h:MapH nm V m l k) (hV:∀ y v,V y v→V' y v):MapH nm V' m l k:=fun x=>⟨(h x).1,fun i y hi hy he=>by obtain ⟨v,h1,h2⟩:=(h x).2 i y hi hy he;exact ⟨v,h1,hV y v h2⟩⟩
def VPred (fz:FZ) (y:Predicate) (v:Value):Prop:=∃ A n c,v=.slice A n c∧Sl paramL fz A n c y.params
def VFun (fz:FZ) (y:Function) (v:Value):Prop:=∃ A n c,v=.agg #[.string y.name,.slice A n c,.int .i64 y.lo,.int .i64 y.hi]∧Sl paramL fz A n c y.params
def VObj (y:Param) (v:Value):Prop:=v=.string y.typ
theorem YhG {α:Type} {nm:α→Bs} {l:List α} {x:Bs} (h:(l.find? fun p=>decide (nm p=x))=none):∀ i y,i<l.length→l[i]?=some y→nm y≠x:=fun i y _ hy he=>by
 have:=List.find?_eq_none.1 h y (Zm hy)
 simp [he] at this
theorem YhF {α:Type} {nm:α→Bs} {l:List α} {x:Bs} {y:α} (h:(l.find? fun p=>decide (nm p=x))=some y):∃ i,i<l.length∧l[i]?=some y∧nm y=x:=by
 obtain ⟨i,hi⟩:=List.getElem?_of_mem (List.mem_of_find?_eq_some h)
 exact ⟨i,(Zg hi).1,hi,by have:=List.find?_some h;simpa using this⟩
theorem prdR_of {m:List (Bs × Value)} {l:List Predicate} (hg:fz g=some (mapS m)) (h:MapH (·.name) (VPred fz) m l l.length):PrdR fz (.map (some g)) l:=⟨g,m,rfl,hg,fun x=>⟨fun hn=>(h x).1 (YhG (nm:=fun p:Predicate=>p.name) hn),fun y hy=>by
 obtain ⟨i,h1,h2,h3⟩:=YhF (nm:=fun p:Predicate=>p.name) hy
 obtain ⟨v,h4,A,n,c,rfl,h5⟩:=(h x).2 i y h1 h2 h3
 exact ⟨A,n,c,h4,h5⟩⟩⟩
theorem funR_of {m:List (Bs × Value)} {l:List Function} (hg:fz g=some (mapS m)) (h:MapH (·.name) (VFun fz) m l l.length):FunR fz (.map (some g)) l:=⟨g,m,rfl,hg,fun x=>⟨fun hn=>(h x).1 (YhG (nm:=fun p:Function=>p.name) hn),fun y hy=>by
 obtain ⟨i,h1,h2,h3⟩:=YhF (nm:=fun p:Function=>p.name) hy
 obtain ⟨v,h4,A,n,c,rfl,h5⟩:=(h x).2 i y h1 h2 h3
 exact ⟨A,n,c,h4,h5⟩⟩⟩
theorem tyF_none {l:List Param} {x:Bs} (h:tyF l x=none):∀ i y,i<l.length→l[i]?=some y→y.name≠x:=by
 induction l with
 | nil=>intro i y hi;simp at hi
 | cons p r ih=>
  rw [tyF] at h
  by_cases h1:x=p.name
  ·rw [if_pos h1] at h;cases h
  ·rw [if_neg h1] at h
   intro i y hi hy
   cases i with
   | zero=>simp at hy;subst hy;exact fun e=>h1 e.symm
   | succ i=>exact ih h i y (by simpa using hi) (by simpa using hy)
theorem tyF_at {l:List Param} {x u:Bs} (h:tyF l x=some u):∃ i y,i<l.length∧l[i]?=some y∧y.name=x∧y.typ=u:=by
 induction l with
 | nil=>cases h
 | cons p r ih=>
  rw [tyF] at h
  by_cases h1:x=p.name
  ·rw [if_pos h1] at h;injection h with h;exact ⟨0,p,by simp,rfl,h1.symm,h⟩
  ·rw [if_neg h1] at h
   obtain ⟨i,y,h2,h3,h4,h5⟩:=ih h
   exact ⟨i+1,y,by simpa using h2,by simpa using h3,h4,h5⟩
theorem objR_of {m:List (Bs × Value)} {l:List Param} (hg:fz g=some (mapS m)) (h:MapH (·.name) VObj m l l.length):ObjR fz (.map (some g)) l:=⟨g,m,rfl,hg,fun x=>by
 cases hr:tyF l x with
 | none=>rw [(h x).1 (tyF_none hr)];rfl
 | some u=>
  obtain ⟨i,y,h1,h2,h3,h4⟩:=tyF_at hr
  obtain ⟨v,h5,h6⟩:=(h x).2 i y h1 h2 h3
  rw [h5,show v=.string y.typ from h6,h4];rfl⟩
variable {u1 u2 u3 u4 u5 u6 u7 v1 v2 v3 v4 v5 v6:Value}
set_option maxHeartbeats 8000000 in
theorem Ymg {gc:Nat} {p:Problem} {vf:Value} {Aa:Option Addr} {na ca:Nat} (hD:DomainR fz d v1 v2 v3 v4 v5 v6) (hall:Sl paramL fz Aa na ca all)
 (op:Once (·.name) d.predicates) (of:Once (·.name) d.functions) (oo:Once (·.name) all):
 GFn prog 66 [.pointer (some ⟨gc,0,none⟩)] fz [(gc,.cells #[.string d.name,v1,v2,v3,v4,v5,v6,.string p.name,.string p.domain,u1,u2,u3,.string p.goal.op,.string p.goal.name,u4,u5,u6,u7,vf,.map none,.map none,.map none,.slice Aa na ca] 85 (0,0))]
  (fun v fz' H'=>v=.tuple #[]∧fz=fz'∧∃ go gg gp m1 m2 m3,H'=[(go,mapS m3),(gg,mapS m2),(gp,mapS m1),(gc,.cells #[.string d.name,v1,v2,v3,v4,v5,v6,.string p.name,.string p.domain,u1,u2,u3,.string p.goal.op,.string p.goal.name,u4,u5,u6,u7,vf,.map (some gp),.map (some gg),.map (some go),.slice Aa na ca] 85 (0,0))]∧
   MapH (·.name) (VPred fz) m1 d.predicates d.predicates.length∧MapH (·.name) (VFun fz) m2 d.functions d.functions.length∧MapH (·.name) VObj m3 all all.length):=by
 obtain ⟨A1,n1,b1,rfl,i1⟩:=hD.types
 obtain ⟨A2,n2,b2,rfl,i2⟩:=hD.constants
 obtain ⟨A3,n3,b3,rfl,i3⟩:=hD.predicates
 obtain ⟨A4,n4,b4,rfl,i4⟩:=hD.functions
 obtain ⟨A5,n5,b5,rfl,i5⟩:=hD.actions
 obtain ⟨A6,n6,b6,rfl,i6⟩:=hD.duratives
 have l3:=i3.len
 have l4:=i4.len
 have la:=hall.len
 have s3:=i3.short
 have s4:=i4.short
 have sa:=hall.short
 refine zF Tryz.func66 Tryz.ntmps66 (fun w0=>?_)
 refine zV ?_;intros
 refine Yb Zz (Xo (fun gp=>?_))
 refine Yb Zz (Xo (fun gg=>?_))
 refine Yb Zz (Xo (fun go=>?_))
 refine zV ?_;intros
 refine Yk (fun q σ fz' H'=>∃ (k:Nat) (m:List (Bs × Value)),k≤n3∧q=n3 - k∧σ=[(26,.int .i64 k),(25,.int .i64 n3),(24,.slice A3 n3 b3),(0,.pointer (some ⟨gc,0,none⟩))]∧fz=fz'∧H'=[(go,mapS []),(gg,mapS []),(gp,mapS m),(gc,.cells #[.string d.name,.slice A1 n1 b1,.slice A2 n2 b2,.slice A3 n3 b3,.slice A4 n4 b4,.slice A5 n5 b5,.slice A6 n6 b6,.string p.name,.string p.domain,u1,u2,u3,.string p.goal.op,.string p.goal.name,u4,u5,u6,u7,vf,.map (some gp),.map (some gg),.map (some go),.slice Aa na ca] 85 (0,0))]∧MapH (·.name) (VPred fz) m d.predicates k) ⟨0,[],Z0 _,rfl,rfl,rfl,rfl,MapH.zero⟩ Zw Zb ?_
 rintro q σ fz' H' ⟨k,m,hk,rfl,rfl,rfl,rfl,hm⟩
 refine zV ?_;intros
 refine zC (fun c24=>?_) (fun c24=>?_)
 ·obtain ⟨x,hx⟩:=Yg (l:=d.predicates) (k:=k) Zi
  refine zV ?_;intros
  refine zI i3 hx (fun p1 hp=>?_)
  refine zL hp ?_
  intro cs hcs
  obtain ⟨va,rfl,hR⟩:=X0 hcs
  obtain ⟨Ap,np,cp,rfl,ip⟩:=hR.params
  refine zWN ?_;intros
  refine Wp.drawK (Hq:=[_,_,_,_,_]) T.mixed Zj Zj Zb ?_
  refine zW ?_;intros
  refine Ye ?_
  refine YD ⟨by kernel_rfl,?_⟩
  refine Ch.hard0 Zj (Xv T (pre:=[_,_,_]) Zz Zz Zz Zz Zz Zz Zz (Zr _) ?_)
  refine Ch.done ?_
  refine zV ?_;intros
  exact YA ⟨k+1,_,by omega,rfl,rfl,rfl,rfl,hm.add op hx ⟨_,_,_,rfl,ip⟩⟩ Zi Zw Zb
 ·have hk3:k=d.predicates.length:=by omega
  subst hk3
  obtain ⟨m1,rfl⟩:∃ z,z=m:=⟨_,rfl⟩
  have hm1:=hm
  refine zV ?_;intros
  refine Yk (fun q σ fz' H'=>∃ (k:Nat) (m:List (Bs × Value)),k≤n4∧q=n4 - k∧σ=[(45,.int .i64 k),(44,.int .i64 n4),(43,.slice A4 n4 b4),(0,.pointer (some ⟨gc,0,none⟩))]∧fz=fz'∧H'=[(go,mapS []),(gg,mapS m),(gp,mapS m1),(gc,.cells #[.string d.name,.slice A1 n1 b1,.slice A2 n2 b2,.slice A3 n3 b3,.slice A4 n4 b4,.slice A5 n5 b5,.slice A6 n6 b6,.string p.name,.string p.domain,u1,u2,u3,.string p.goal.op,.string p.goal.name,u4,u5,u6,u7,vf,.map (some gp),.map (some gg),.map (some go),.slice Aa na ca] 85 (0,0))]∧MapH (·.name) (VFun fz) m d.functions k) ⟨0,[],Z0 _,rfl,rfl,rfl,rfl,MapH.zero⟩ Zw Zb ?_
  rintro q σ fz' H' ⟨k,m,hk,rfl,rfl,rfl,rfl,hm⟩
  refine zV ?_;intros
  refine zC (fun c43=>?_) (fun c43=>?_)
  ·obtain ⟨x,hx⟩:=Yg (l:=d.functions) (k:=k) Zi
   refine zV ?_;intros
   refine zI i4 hx (fun p1 hp=>?_)
   refine zL hp ?_
   intro cs hcs
   obtain ⟨va,rfl,hR⟩:=XD hcs
   obtain ⟨Ap,np,cp,rfl,ip⟩:=hR.params
   refine zWN ?_;intros
   refine Wp.drawK (Hq:=[_,_,_,_,_]) T.mixed Zj Zj Zb ?_
   refine zW ?_;intros
   refine Ye ?_
   refine YD ⟨by kernel_rfl,?_⟩
   refine Ch.hard0 Zj (Xv T (pre:=[_,_]) Zz Zz Zz Zz Zz Zz Zz (Zr _) ?_)
   refine Ch.done ?_
   refine zV ?_;intros
   exact YA ⟨k+1,_,by omega,rfl,rfl,rfl,rfl,hm.add of hx ⟨_,_,_,rfl,ip⟩⟩ Zi Zw Zb
  ·have hk4:k=d.functions.length:=by omega
   subst hk4
   obtain ⟨m2,rfl⟩:∃ z,z=m:=⟨_,rfl⟩
   have hm2:=hm
   refine zV ?_;intros
   refine Yk (fun q σ fz' H'=>∃ (k:Nat) (m:List (Bs × Value)),k≤na∧q=na - k∧σ=[(62,.int .i64 k),(61,.int .i64 na),(60,.slice Aa na ca),(0,.pointer (some ⟨gc,0,none⟩))]∧fz=fz'∧H'=[(go,mapS m),(gg,mapS m2),(gp,mapS m1),(gc,.cells #[.string d.name,.slice A1 n1 b1,.slice A2 n2 b2,.slice A3 n3 b3,.slice A4 n4 b4,.slice A5 n5 b5,.slice A6 n6 b6,.string p.name,.string p.domain,u1,u2,u3,.string p.goal.op,.string p.goal.name,u4,u5,u6,u7,vf,.map (some gp),.map (some gg),.map (some go),.slice Aa na ca] 85 (0,0))]∧MapH (·.name) VObj m all k) ⟨0,[],Z0 _,rfl,rfl,rfl,rfl,MapH.zero⟩ Zw Zb ?_
   rintro q σ fz' H' ⟨k,m,hk,rfl,rfl,rfl,rfl,hm⟩
   refine zV ?_;intros
   refine zC (fun c60=>?_) (fun c60=>?_)
   ·obtain ⟨x,hx⟩:=Yg (l:=all) (k:=k) Zi
    refine zV ?_;intros
    refine zI hall hx (fun p1 hp=>?_)
    refine zL hp ?_
    intro cs hcs
    obtain ⟨rfl,hR⟩:=YT hcs
    refine zWN ?_;intros
    refine Wp.drawK (Hq:=[_,_,_,_,_]) T.mixed Zj Zj Zb ?_
    refine zW ?_;intros
    refine Ye ?_
    refine YD ⟨by kernel_rfl,?_⟩
    refine Ch.hard0 Zj (Xv T (pre:=[_]) Zz Zz Zz Zz Zz Zz Zz (Zr _) ?_)
    refine Ch.done ?_
    refine zV ?_;intros
    exact YA ⟨k+1,_,by omega,rfl,rfl,rfl,rfl,hm.add oo hx rfl⟩ Zi Zw Zb
   ·have hk5:k=all.length:=by omega
    subst hk5
    refine zV ?_;intros
    exact Yba rfl Zb ⟨rfl,rfl,go,gg,gp,m1,m2,_,rfl,hm1,hm2,hm⟩
def objsM (d:Domain) (p:Problem):List Param:=d.constants++p.objects
set_option maxHeartbeats 1000000 in
theorem Ybd {p:Problem} (hD:DomainR fz d v1 v2 v3 v4 v5 v6) (hP:ProblemR fz p u1 u2 u3 u4 u5 u6 u7) (hc:d.constants.length≤1000000000) (ho:p.objects.length≤1000000000):
 GFn prog 19 [.agg #[.string d.name,v1,v2,v3,v4,v5,v6],.agg #[.string p.name,.string p.domain,u1,u2,u3,.string p.goal.op,.string p.goal.name,u4,u5,u6,u7]] fz [] (fun v fz' H'=>Grow paramL 136 fz' v (d.constants.length+p.objects.length) H' (objsM d p)):=by
 obtain ⟨A1,n1,b1,rfl,i1⟩:=hD.types
 obtain ⟨A2,n2,b2,rfl,i2⟩:=hD.constants
 obtain ⟨A3,n3,b3,rfl,i3⟩:=hD.predicates
 obtain ⟨A4,n4,b4,rfl,i4⟩:=hD.functions
 obtain ⟨A5,n5,b5,rfl,i5⟩:=hD.actions
 obtain ⟨A6,n6,b6,rfl,i6⟩:=hD.duratives
 obtain ⟨B1,m1,d1,rfl,j1⟩:=hP.objects
 obtain ⟨B2,m2,d2,rfl,j2⟩:=hP.init
 obtain ⟨B3,m3,d3,rfl,j3⟩:=hP.values
 obtain ⟨B4,m4,d4,rfl,_⟩:=hP.goal.args
 obtain ⟨B5,m5,d5,rfl,_⟩:=hP.goal.params
 obtain ⟨B6,m6,d6,rfl,_⟩:=hP.goal.exprs
 obtain ⟨B7,m7,d7,rfl,_⟩:=hP.goal.kids
 have l2:=i2.len
 have l1:=j1.len
 refine zF Tryz.func19 Tryz.ntmps19 (fun w0=>?_)
 refine Yp (Yq (Yb Zz (Y3 _ Zz Zz (fun g2=>?_))))
 refine Yb Zz (Y3 _ Zz Zz (fun g3=>?_))
 refine zWO ?_;intros
 refine zWN ?_;intros
 refine Wp.drawK (Hq:=[_,_]) T.mixed Zj Zj Zb ?_
 refine zW ?_;intros
 refine Ye ?_
 refine zW ?_;intros
 refine Ye ?_
 refine Ye ?_
 refine YD ⟨by kernel_rfl,?_⟩
 refine Yj (Yl [] [_,_] Zz Zz Zz (YaD i2 Zi) (fun v6 fz6 H6 hle6 hR6=>⟨(⟨hle6,Zx⟩),?_⟩))
 obtain ⟨Av,cv,rfl,_,_⟩:=hR6.form
 refine Yj (X8 T (Hr:=[_,_]) Zz Zz Zz Zz Zz Zz Zz Zz Zq hR6 WN (j1.mono hle6) (by show _*32≤_;omega) Zi (fun v7 H7 hO7=>⟨(⟨hle6,Zx⟩),?_⟩))
 obtain ⟨Aw,cw,rfl,_,_⟩:=hO7.form
 refine Ch.qk (⟨hle6,Zx⟩) (Yz Zz ?_)
 refine Ch.done ?_
 refine zW ?_;intros
 exact YcD (H':=H7) (H2:=[_,_]) rfl rfl Zq (fun fz8 hle8 _=>(hO7.mono hle8).of rfl Zi)
def stepM (d:Domain) (all:List Param) (p:Problem):Nat→Bs × Int
 | 0=>match Yao d all with | some s=>(s,4) | none=>(⟨#[]⟩,0)
 | 1=>Xa (fun l=>if TwP [] (parN l) then 4 else 0) (YaI d [])
 | 2=>Xa (fun l=>if ExP d.types l then 0 else 3) (YaI d all)
 | 3=>YdH d
 | 4=>Xa (fun n=>n) (numsL d)
 | 5=>Xa idN (WU d all)
 | 6=>Wj d all p
 | _=>Ygo d all p
theorem step1_q {l:List Param} (h:Sl paramL fz A n c l):QFn prog 61 [.slice A n c] fz (errV (if TwP [] (parN l) then 4 else 0)):=by
 refine GFn.quiet ?_
 refine zF Tryz.func61 Tryz.ntmps61 (fun w0=>?_)
 refine zV ?_;intros
 ((refine zG ?_);refine YB Zz Zz (Yie h (Sl.nil (A:=none) (c:=0) Zi)) ?_)
 refine zV ?_;intros
 exact zR (h:=rfl)
structure LenS (d:Domain) (all:List Param):Prop where
 p:d.predicates.length≤1000000
 f:d.functions.length≤1000000
 o:all.length≤1000000
 a:d.actions.length≤1000000
 u:d.duratives.length≤1000000
theorem stepA0_q {p:Problem} {vf vg vo:Value} (h:CkR fz v d p all vf vp vg vo) (hs:NmS d all) (hl:LenS d all):
 QFn prog 22 [v,.int .i64 0] fz (resV (stepM d all p 0)):=by
 have e0:(0:Int)=0:=rfl
 have hr:repV (Yao d all)=resV (stepM d all p 0):=by unfold stepM;cases Yao d all<;>rfl
 refine GFn.quiet ?_
 refine zF Tryz.func22 Tryz.ntmps22 (fun w0=>?_)
 refine zV ?_;intros
 ((refine zG ?_);refine YB Zz Zz (names_q h hs ⟨hl.p,hl.f,hl.o,hl.a,hl.u⟩) ?_)
 rw [hr]
 refine zV ?_;intros
 exact ret2 rfl rfl rfl Zb rfl
theorem stepA1_q {p:Problem} {vf vg vo:Value} (h:CkR fz v d p all vf vp vg vo) (hs:NmS d all):
 QFn prog 22 [v,.int .i64 1] fz (resV (stepM d all p 1)):=by
 have e0:¬(1:Int)=0:=by decide
 have e1:(1:Int)=1:=rfl
 refine GFn.quiet ?_
 refine zF Tryz.func22 Tryz.ntmps22 (fun w0=>?_)
 refine zV ?_;intros
 ((refine zG ?_);refine YB Zz Zz (YlG (ob:=false) (first:=[]) (capt:=[]) (E:=fun l=>if TwP [] (parN l) then 4 else 0) h hs (fun hle hs'=>step1_q hs')) ?_)
 rw [show resV (Xa (fun l=>if TwP [] (parN l) then 4 else 0) (YaI d (if false=true then all else [])))=resV (stepM d all p 1) from rfl]
 refine zV ?_;intros
 exact ret2 rfl rfl rfl Zb rfl
theorem stepA2_q {p:Problem} {vf vg vo:Value} (h:CkR fz v d p all vf vp vg vo) (hF:ForR fz vf d.types) (hs:NmS d all):
 QFn prog 22 [v,.int .i64 2] fz (resV (stepM d all p 2)):=by
 have e0:¬(2:Int)=0:=by decide
 have e1:¬(2:Int)=1:=by decide
 have e2:(2:Int)=2:=rfl
 refine GFn.quiet ?_
 refine zF Tryz.func22 Tryz.ntmps22 (fun w0=>?_)
 refine zV ?_;intros
 refine zG ?_;refine Xs Zz Zz ?_
 refine zV ?_;intros
 ((refine zG ?_);refine YB Zz Zz (YlG (ob:=true) (first:=[v]) (capt:=[]) (E:=fun l=>if ExP d.types l then 0 else 3) h hs (fun hle hs'=>YiG (h.mono hle) (hF.mono hle) hs')) ?_)
 rw [show resV (Xa (fun l=>if ExP d.types l then 0 else 3) (YaI d (if true=true then all else [])))=resV (stepM d all p 2) from rfl]
 refine zV ?_;intros
 exact ret2 rfl rfl rfl Zb rfl
theorem stepA3_q {p:Problem} {vf vg vo:Value} (h:CkR fz v d p all vf vp vg vo) (hs:NmS d all):
 QFn prog 22 [v,.int .i64 3] fz (resV (stepM d all p 3)):=by
 have e0:¬(3:Int)=0:=by decide
 have e1:¬(3:Int)=1:=by decide
 have e2:¬(3:Int)=2:=by decide
 have e3:(3:Int)=3:=rfl
 refine GFn.quiet ?_
 refine zF Tryz.func22 Tryz.ntmps22 (fun w0=>?_)
 refine zV ?_;intros
 refine zc (kinds_q h hs) ?_
 rw [show resV (YdH d)=resV (stepM d all p 3) from rfl]
 refine zV ?_;intros
 exact ret2 rfl rfl rfl Zb rfl
theorem stepA4_q {p:Problem} {vf vg vo:Value} (h:CkR fz v d p all vf vp vg vo) (hs:NmS d all) (hn:∀ f∈d.functions,Yc0 f.lo∧Yc0 f.hi):
 QFn prog 22 [v,.int .i64 4] fz (resV (stepM d all p 4)):=by
 have e0:¬(4:Int)=0:=by decide
 have e1:¬(4:Int)=1:=by decide
 have e2:¬(4:Int)=2:=by decide
 have e3:¬(4:Int)=3:=by decide
 have e4:(4:Int)=4:=rfl
 refine GFn.quiet ?_
 refine zF Tryz.func22 Tryz.ntmps22 (fun w0=>?_)
 refine zV ?_;intros
 refine zc (Ylv h hs hn) ?_
 rw [show resV (Xa (fun n=>n) (numsL d))=resV (stepM d all p 4) from rfl]
 refine zV ?_;intros
 exact ret2 rfl rfl rfl Zb rfl
theorem stepA6_q {p:Problem} (h:CkG fz v d p all) (hs:NmS d all) (hpf:∀ f∈d.functions,f.params.length≤64) (hvs:∀ x∈p.values,x.fluent.name.size≤1000∧∀ a∈x.fluent.args,a.size≤1000) (hal:all.length≤1000000000):
 QFn prog 22 [v,.int .i64 6] fz (resV (stepM d all p 6)):=by
 have e0:¬(6:Int)=0:=by decide
 have e1:¬(6:Int)=1:=by decide
 have e2:¬(6:Int)=2:=by decide
 have e3:¬(6:Int)=3:=by decide
 have e4:¬(6:Int)=4:=by decide
 have e5:¬(6:Int)=5:=by decide
 have e6:(6:Int)=6:=rfl
 refine GFn.quiet ?_
 refine zF Tryz.func22 Tryz.ntmps22 (fun w0=>?_)
 refine zV ?_;intros
 refine zc (Ykr h hs hpf hvs hal) ?_
 rw [show resV (Wj d all p)=resV (stepM d all p 6) from rfl]
 refine zV ?_;intros
 exact ret2 rfl rfl rfl Zb rfl
theorem stepA7_q {p:Problem} (h:CkG fz v d p all) (hW:fW p.goal≤1000000000):
 QFn prog 22 [v,.int .i64 7] fz (resV (stepM d all p 7)):=by
 have e0:¬(7:Int)=0:=by decide
 have e1:¬(7:Int)=1:=by decide
 have e2:¬(7:Int)=2:=by decide
 have e3:¬(7:Int)=3:=by decide
 have e4:¬(7:Int)=4:=by decide
 have e5:¬(7:Int)=5:=by decide
 have e6:¬(7:Int)=6:=by decide
 refine GFn.quiet ?_
 refine zF Tryz.func22 Tryz.ntmps22 (fun w0=>?_)
 refine zV ?_;intros
 refine zc (cgoal_q h hW) ?_
 rw [show resV (Ygo d all p)=resV (stepM d all p 7) from rfl]
 refine zV ?_;intros
 exact ret2 rfl rfl rfl Zb rfl
def ckO (d:Domain) (p:Problem) (v1 v2 v3 v4 v5 v6 u1 u2 u3 u4 u5 u6 u7 vf vp vg vo va:Value):Obj:=.cells #[.string d.name,v1,v2,v3,v4,v5,v6,.string p.name,.string p.domain,u1,u2,u3,.string p.goal.op,.string p.goal.name,u4,u5,u6,u7,vf,vp,vg,vo,va] 85 (0,0)
set_option maxHeartbeats 1000000 in
theorem stepA5_f {gc:Nat} {p:Problem} {vf:Value} {Aa:Option Addr} {na ca:Nat} (hD:DomainR fz d v1 v2 v3 v4 v5 v6) (hP:ProblemR fz p u1 u2 u3 u4 u5 u6 u7) (hall:Sl paramL fz Aa na ca all)
 (hF:ForR fz vf d.types) (hw:WFT d.types) (op:Once (·.name) d.predicates) (of:Once (·.name) d.functions) (oo:Once (·.name) all) (hs:NmS d all) (hWa:∀ a∈d.actions,actW a≤1000000000) (hWd:∀ a∈d.duratives,durW a≤1000000000):
 GFn prog 22 [.pointer (some ⟨gc,0,none⟩),.int .i64 5] fz [(gc,ckO d p v1 v2 v3 v4 v5 v6 u1 u2 u3 u4 u5 u6 u7 vf (.map none) (.map none) (.map none) (.slice Aa na ca))] (fun v fz' H'=>H'=[]∧v=resV (stepM d all p 5)∧CkG fz' (.pointer (some ⟨gc,0,none⟩)) d p all):=by
 have e0:¬(5:Int)=0:=by decide
 have e1:¬(5:Int)=1:=by decide
 have e2:¬(5:Int)=2:=by decide
 have e3:¬(5:Int)=3:=by decide
 have e4:¬(5:Int)=4:=by decide
 have e5:(5:Int)=5:=rfl
 unfold ckO
 refine zF Tryz.func22 Tryz.ntmps22 (fun w0=>?_)
 refine zV ?_;intros
 refine Yb Zz (Yl [_] [] Zz Zz Zz (Ymg hD hall op of oo) (fun v6' fz6 H6 hle6 hR6=>?_))
 obtain ⟨rfl,rfl,go,gg,gp,m1,m2,m3,rfl,h1,h2,h3⟩:=hR6
 refine zVX ?_;intros
 refine Wp.freezeAll (H1:=[]) (Zr _) (fun fz8 hle8 hf8=>?_)
 have hG:CkG fz8 (.pointer (some ⟨gc,0,none⟩)) d p all:=⟨⟨vf,.map (some gp),.map (some gg),.map (some go),⟨gc,v1,v2,v3,v4,v5,v6,u1,u2,u3,u4,u5,u6,u7,Aa,na,ca,rfl,hf8 (gc,_) (by simp),hD.mono hle8,hP.mono hle8,hall.mono hle8⟩,hF.mono hle8,
  prdR_of (hf8 (gp,mapS m1) (by simp)) (h1.mono fun y v hv=>by obtain ⟨A,n,c,e,h⟩:=hv;exact ⟨A,n,c,e,h.mono hle8⟩),
  funR_of (hf8 (gg,mapS m2) (by simp)) (h2.mono fun y v hv=>by obtain ⟨A,n,c,e,h⟩:=hv;exact ⟨A,n,c,e,h.mono hle8⟩),
  objR_of (hf8 (go,mapS m3) (by simp)) h3⟩,hw⟩
 refine zV ?_;intros
 refine zc (YmD hG hs hWa hWd) ?_
 rw [show resV (Xa idN (WU d all))=resV (stepM d all p 5) from rfl]
 refine zV ?_;intros
 exact ret2 rfl rfl rfl Zb ⟨rfl,rfl,hG⟩
end Go.Proofs.YtbnpeechpebmeaaGreatDoor
namespace Go.Proofs
open Go.Shelf
def Tryz.lays144_ren:Go.Shelf.Ren:=⟨fun | 144=>191 | 143=>213 | 219=>226 | 217=>210 | 225=>231 | 224=>232 | 267=>233 | 266=>225 | 314=>239 | n=>n,fun | 9=>9 | 4=>4 | 3=>3 | 5=>5 | 46=>203 | 146=>298 | 51=>251 | n=>n,fun | 1=>0 | n=>n⟩
theorem Tryz.lays144:Go.Proofs.Lays.n144 Tryz.prog Tryz.lays144_ren:={
 mixed:=by kernel_rfl
 f143:=Tryz.func213.trans (congrArg some (by kernel_rfl))
 f144:=Tryz.func191.trans (congrArg some (by kernel_rfl))
 f217:=Tryz.func210.trans (congrArg some (by kernel_rfl))
 f219:=Tryz.func226.trans (congrArg some (by kernel_rfl))
 f224:=Tryz.func232.trans (congrArg some (by kernel_rfl))
 f225:=Tryz.func231.trans (congrArg some (by kernel_rfl))
 f266:=Tryz.func225.trans (congrArg some (by kernel_rfl))
 f267:=Tryz.func233.trans (congrArg some (by kernel_rfl))
 f314:=Tryz.func239.trans (congrArg some (by kernel_rfl))
 t3:=Tryz.underlying3
 a3:=Tryz.isAgg3
 z3:=Tryz.sizeOf3
 v3:=Tryz.zeroValue3
 t4:=Tryz.underlying4
 a4:=Tryz.isAgg4
 z4:=Tryz.sizeOf4
 v4:=Tryz.zeroValue4
 t5:=Tryz.underlying5
 a5:=Tryz.isAgg5
 z5:=Tryz.sizeOf5
 v5:=Tryz.zeroValue5
 t9:=Tryz.underlying9
 a9:=Tryz.isAgg9
 z9:=Tryz.sizeOf9
 v9:=Tryz.zeroValue9
 t46:=Tryz.underlying203
 a46:=Tryz.isAgg203
 z46:=Tryz.sizeOf203
 v46:=Tryz.zeroValue203
 t51:=Tryz.underlying251
 a51:=Tryz.isAgg251
 z51:=Tryz.sizeOf251
 v51:=Tryz.zeroValue251
 t146:=Tryz.underlying298
 a146:=Tryz.isAgg298
 z146:=Tryz.sizeOf298
 v146:=Tryz.zeroValue298
 g1:=by kernel_rfl}
open Go.RowKit Go.Lib in
/-- strings.Contains: "Contains reports whether substr is within s.": IT RETURNS 'Lib.contains s substr'; the world is as1 it was. (LAID: no walk: one application.) -/
theorem Tryz.strings_Contains (s sub:ByteArray) (m:Int) (w:World) (hs:s.size<4294967281) (hm:w.cell? ⟨0,0,none⟩=some (.int .i64 m)):
 Calls Tryz.prog 191 #[.string s,.string sub] w fun e w'=>e=.returned (.bool (Lib.contains s.data.toList sub.data.toList))∧w'=w:=Any.strings_Contains Tryz.lays144 s sub m w hs hm
end Go.Proofs
namespace Go.Lx
open Go.RowKit
def fzOf (w:World):FZ:=fun g=>w.heap[g]?
variable {v:Value} {w:World}
theorem YjL {p:Addr} (h:w.cell? p=some v):Ybj (fzOf w) p=some v:=by
 unfold World.cell? at h
 unfold Ybj fzOf
 exact h
theorem hp_of (w:World):Hp (fzOf w) [] w:=⟨fun _ _ h=>h,by simp,by simp⟩
variable {w':World}
theorem below_of (h:Fr [] w w'):Below w.heap.size w w':=⟨h.os,h.tape,h.output,h.size,fun k hk=>h.block k hk (by simp)⟩
variable {fz:FZ}
theorem QFn.calls {P:Program} {f:FuncId} {args:List Value} (h:QFn P f args fz v) (hw:Hp fz [] w):Calls P f args.toArray w fun e w'=>e=.returned v∧Fr [] w w':=by
 unfold QFn at h
 exact h.2 w hw
end Go.Lx
namespace Go.Lx
open Go
theorem Yk2 {s:List UInt8} (h:(32:UInt8) ∉ s) (r:List UInt8):(s++32::r).takeWhile (fun b=>!(b==(32:UInt8)))=s:=by
 induction s with
 | nil=>rfl
 | cons a s ih=>
  have h1:a≠32:=fun e=>h (by simp [e])
  rw [List.cons_append,List.takeWhile_cons,if_pos (by simpa using h1),ih (fun e=>h (by simp [e]))]
variable {j:Nat}
theorem occ_word {R s:List UInt8} (h:(32:UInt8) ∉ s) (ho:Go.Lib.occAt R ([32]++s++ [32]) j=true):s=((R.drop j).drop 1).takeWhile (fun b=>!(b==(32:UInt8))):=by
 unfold Go.Lib.occAt at ho
 obtain ⟨r,hr⟩:=List.isPrefixOf_iff_prefix.1 ho
 rw [← hr]
 have:((([32]:List UInt8)++s++ [32])++r).drop 1=s++32::r:=by simp
 rw [this,Yk2 h]
theorem YiI {R sub:List UInt8} (h:∀ j,j≤R.length→Go.Lib.occAt R sub j=false):Go.Lib.contains R sub=false:=by
 unfold Go.Lib.contains
 rw [Go.Lib.index_none h]
 rfl
def resT:List UInt8:=[32,97,110,100,32,111,114,32,110,111,116,32,105,109,112,108,121,32,102,111,114,97,108,108,32,101,120,105,115,116,115,32,119,104,101,110,32,97,115,115,105,103,110,32,105,110,99,114,101,97,115,101,32,100,101,99,114,101,97,115,101,32,111,98,106,101,99,116,32]
end Go.Lx
namespace Go.Proofs.YtbnpeechpebmeaaGreatDoor
open Go.Lx Go.RowKit
attribute [local instance 10] Classical.propDecidable
open Go.Proofs.Tryz (prog)
def resB:Bs:=⟨#[32,97,110,100,32,111,114,32,110,111,116,32,105,109,112,108,121,32,102,111,114,97,108,108,32,101,120,105,115,116,115,32,119,104,101,110,32,97,115,115,105,103,110,32,105,110,99,114,101,97,115,101,32,100,101,99,114,101,97,115,101,32,111,98,106,101,99,116,32]⟩
def Yi7:List (List UInt8):=[]::YaF.map (·.data.toList)
theorem res_all:(List.range 70).all (fun j=>!((resT.drop j).headD 0==32) || Yi7.contains (((resT.drop j).drop 1).takeWhile (fun b=>!(b==(32:UInt8)))))=true:=by kernel_rfl
theorem YfB {s:Bs} (h:Xk s):(32:UInt8) ∉ s.data.toList:=by
 intro h0
 obtain ⟨i,hi⟩:=List.getElem?_of_mem h0
 have hlt:=(Zg hi).1
 have hlt2:i<s.size:=by rw [Array.length_toList] at hlt;exact hlt
 have h1:=h.1 i hlt2
 have h2:Yap s i=32:=by
  unfold Yap
  rw [getElem?_pos s i hlt2]
  have h3:s[i]=32:=by
   have:=(Zg hi).2
   rw [Array.getElem_toList] at this
   exact this
  rw [h3];rfl
 unfold Yax LetP DigP at h1
 rw [h2] at h1
 omega
theorem res_no {s:Bs} (h:Xk s):Lib.contains resT ([32]++s.data.toList++ [32])=false:=by
 refine YiI fun j hj=>?_
 cases ho:Lib.occAt resT ([32]++s.data.toList++ [32]) j with
 | false=>rfl
 | true=>
  exfalso
  have h1:=occ_word (YfB h) ho
  have h2:(resT.drop j).headD 0=32:=by
   unfold Lib.occAt at ho
   obtain ⟨r,hr⟩:=List.isPrefixOf_iff_prefix.1 ho
   rw [← hr];rfl
  have h3:=List.all_eq_true.1 res_all j (by rw [List.mem_range];exact Nat.lt_of_le_of_lt hj Zh)
  rw [h2,← h1] at h3
  simp only [beq_self_eq_true,Bool.not_true,Bool.false_or] at h3
  have h4:s.data.toList∈Yi7:=by simpa using h3
  rcases List.mem_cons.1 h4 with h5 | h5
  ·refine h.2.1 (ByteArray.ext ?_)
   have:s.data=s.data.toList.toArray:=by simp
   rw [this,h5];rfl
  ·obtain ⟨y,hy,he⟩:=List.mem_map.1 h5
   refine h.2.2.2 ?_
   have:y=s:=ByteArray.ext (by
    have e1:y.data=y.data.toList.toArray:=by simp
    have e2:s.data=s.data.toList.toArray:=by simp
    rw [e1,e2,he])
   rw [← this];exact hy
theorem YlW:∀ {l:List UInt8},(32:UInt8) ∉ l→Lib.indexByte l 32= -1
 | [],_=>rfl
 | a::l,h=>by
  have h1:(a==(32:UInt8))=false:=by simpa using fun e:a=32=>h (by simp [e])
  rw [Lib.indexByte,h1,YlW (fun e=>h (by simp [e]))];rfl
theorem blank_no {s:Bs} (h:Xk s):Lib.contains s.data.toList [32]=false:=by
 unfold Lib.contains
 rw [Lib.index_one,YlW (YfB h)]
 rfl
def MaxF (fz:FZ):Prop:=∃ m,Ybj fz ⟨0,0,none⟩=some (.int .i64 m)
variable {fz fz':FZ}
theorem MaxF.mono (hle:Le fz fz') (h:MaxF fz):MaxF fz':=by obtain ⟨m,hm⟩:=h;exact ⟨m,YfN hle hm⟩
theorem YfL {s u:Bs} (hM:MaxF fz) (hs:s.size≤4000000000):QFn prog 191 [.string s,.string u] fz (.bool (Lib.contains s.data.toList u.data.toList)):=by
 obtain ⟨m,hm⟩:=hM
 unfold QFn
 refine ⟨⟨_,Tryz.func191,by decide,by decide⟩,fun w hw=>?_⟩
 refine (Tryz.strings_Contains s u m w Zi (hw.cell hm)).mono fun e w' ⟨he,hb⟩=>⟨he,?_⟩
 subst hb
 exact Fr.refl _ _
theorem tword_q {s:Bs} (hM:MaxF fz) (h:Xk s):QFn prog 149 [.string s] fz (.bool false):=by
 have hz:=h.2.2.1
 have hne:¬s=⟨#[]⟩:=h.2.1
 refine GFn.quiet ?_
 refine zF Tryz.func149 Tryz.ntmps149 (fun w0=>?_)
 refine zW ?_;intros
 ((refine zG ?_);refine YB Zz Zz (YfL (u:=⟨#[32]⟩) hM Zi) ?_)
 rw [show (⟨#[32]⟩:Bs).data.toList=[32] from rfl,blank_no h]
 refine zW ?_;intros
 refine zG ?_;refine XC Zz Zz (by show 1+_≤_;omega) ?_
 refine zW ?_;intros
 refine zG ?_;refine XC Zz Zz (by rw [ByteArray.size_append];show 1+_+1≤_;omega) ?_
 refine zW ?_;intros
 ((refine zG ?_);refine YB Zz Zz (YfL (s:=resB) (u:=(⟨#[32]⟩++s)++⟨#[32]⟩) hM Zh) ?_)
 rw [show resB.data.toList=resT from rfl,show ((⟨#[32]⟩++s)++⟨#[32]⟩:Bs).data.toList=[32]++s.data.toList++ [32] from by simp [ByteArray.data_append],res_no h]
 refine zW ?_;intros
 exact zR (h:=rfl)
theorem Yi2 {b:UInt8}:QFn prog 148 [.int .u8 b.toNat] fz (.bool (decide (LetP (b.toNat:Int)))):=by
 refine GFn.quiet ?_
 refine zF Tryz.func148 Tryz.ntmps148 (fun w0=>?_)
 refine zW ?_;intros
 refine zC (fun x1=>?_) (fun x1=>?_)
 ·refine zW ?_;intros
  refine zC (fun x2=>?_) (fun x2=>?_)
  ·refine zW ?_;intros
   exact ret1 rfl rfl Zb (YC ⟨x1,x2⟩)
  ·refine zW ?_;intros
   exact ret1 rfl rfl Zb (Ym (fun h=>x2 h.2))
 ·refine zW ?_;intros
  exact ret1 rfl rfl Zb (Ym (fun h=>x1 h.1))
theorem YkQ {s:Bs} (hM:MaxF fz) (h:Xk s):QFn prog 99 [.string s] fz (.bool true):=by
 have hz:=h.2.2.1
 have hp:0<s.size:=Nat.pos_of_ne_zero (fun h0=>h.2.1 (ByteArray.ext (Array.eq_empty_of_size_eq_zero h0)))
 obtain ⟨b0,hb0,hb02⟩:=YaQ (s:=s) (k:=0) hp
 have hlet:LetP (b0.toNat:Int):=by
  have:=h.1 0 hp
  unfold Yax at this
  rw [hb02] at this
  rcases this with h1 | ⟨h1,_⟩
  ·exact h1
  ·exact absurd rfl h1
 refine GFn.quiet ?_
 refine zF Tryz.func99 Tryz.ntmps99 (fun w0=>?_)
 refine zW ?_;intros
 refine zC (fun x1=>?_) (fun x1=>?_)
 ·omega
 refine zW ?_;intros
 refine zC (fun x2=>?_) (fun x2=>?_)
 ·omega
 refine zW ?_;intros
 refine zG ?_;refine XP T Zz Zz Zz Zz Zi (by exact hb0) ?_
 refine zW ?_;intros
 refine zc Yi2 ?_
 rw [decide_eq_true hlet]
 refine zW ?_;intros
 refine zc (tword_q hM h) ?_
 refine zW ?_;intros
 refine Yk (fun q σ fz' H'=>∃ k:Nat,k≤s.size∧q=s.size - k∧σ=[(25,.int .i64 k),(24,.int .i64 s.size),(0,.string s)]∧fz=fz'∧H'=[]∧True) ⟨0,Z0 _,rfl,rfl,rfl,rfl,trivial⟩ Zw Zb ?_;rintro q σ fz' H' ⟨k,hk,rfl,rfl,rfl,rfl,hh⟩
 refine zW ?_;intros
 refine zC (fun hlt=>?_) (fun hge=>?_)
 ·refine zW ?_;intros
  obtain ⟨b,hb,hb2⟩:=YaQ (s:=s) (k:=k) Zi
  have hN:=h.1 k Zi
  unfold Yax at hN
  rw [hb2] at hN
  ((refine zG ?_);refine XP T Zz Zz Zz Zz Zi (by rw [Int.toNat_natCast];exact hb) ?_)
  refine zW ?_;intros
  refine zb Yi2 (fun f1=>?_) (fun f1=>?_)
  ·refine zW ?_;intros
   exact YA ⟨k+1,by omega,rfl,rfl,rfl,rfl,trivial⟩ Zi Zw Zb
  ·have h9:DigP (b.toNat:Int)∨(b.toNat:Int)=45∨(b.toNat:Int)=95:=by
    rcases hN with h1 | h1
    ·exact absurd h1 (Zf f1)
    ·exact h1.2
   unfold DigP at h9
   refine zW ?_;intros
   refine zC (fun x3=>?_) (fun x3=>?_)
   ·refine zW ?_;intros
    refine zC (fun x4=>?_) (fun x4=>?_)
    ·omega
    ·refine zW ?_;intros
     exact YA ⟨k+1,by omega,rfl,rfl,rfl,rfl,trivial⟩ Zi Zw Zb
   ·refine zW ?_;intros
    refine zC (fun x5=>?_) (fun x5=>?_)
    ·refine zW ?_;intros
     refine zC (fun x4=>?_) (fun x4=>?_)
     ·refine zW ?_;intros
      refine zC (fun x6=>?_) (fun x6=>?_)
      ·omega
      ·refine zW ?_;intros
       exact YA ⟨k+1,by omega,rfl,rfl,rfl,rfl,trivial⟩ Zi Zw Zb
     ·omega
    ·refine zW ?_;intros
     exact YA ⟨k+1,by omega,rfl,rfl,rfl,rfl,trivial⟩ Zi Zw Zb
 ·refine zW ?_;intros
  exact zR (h:=rfl)
def newM (l:List Param):Int:=
 if TwP [] (parN l) then 4 else if ¬(∀ p∈l,HasT l p.typ) then 3 else if ∃ p∈l,cycM l p.name l.length p.name=true then 21 else 0
def itU (l:List Param):Nat→Bs→Bs
 | 0,t=>t
 | n+1,t=>itU l n (upT l t)
theorem Ygl {l:List Param}:∀ (i k:Nat) (t:Bs),itU l (i+k) t=itU l k (itU l i t)
 | 0,k,t=>by rw [Nat.zero_add];rfl
 | i+1,k,t=>by rw [show i+1+k=(i+k)+1 from by omega,itU,itU,Ygl i k]
theorem cyc_no {l:List Param} {t:Bs}:∀ (n:Nat) {a:Bs},cycM l t n a=false→∀ j,1≤j→j≤n→(∀ i,1≤i→i<j→itU l i a≠W8)→itU l j a≠t
 | 0,_,_,j,h1,h2,_=>absurd h1 Zi
 | n+1,a,hc,j,h1,h2,hh=>by
  rw [cycM] at hc
  by_cases hu:upT l a=t
  ·rw [if_pos hu] at hc;cases hc
  ·rw [if_neg hu] at hc
   obtain ⟨j,rfl⟩:∃ i,j=i+1:=⟨j - 1,by omega⟩
   cases j with
   | zero=>exact hu
   | succ j=>
    have h3:upT l a≠W8:=hh 1 Zi Zi
    rw [if_neg h3] at hc
    exact cyc_no n hc (j+1) Zi Zi (fun i hi hj=>hh (i+1) Zi Zi)
theorem pigeon {α:Type} [DecidableEq α]:∀ (n:Nat) (L:List α) (f:Nat→α),L.length=n→(∀ i,i≤n→f i∈L)→∃ i j,i<j∧j≤n∧f i=f j
 | 0,L,f,hL,hf=>by
  have:=hf 0 Zi
  rw [List.eq_nil_of_length_eq_zero hL] at this
  cases this
 | n+1,L,f,hL,hf=>by
  by_cases he:∃ i,i≤n∧f i=f (n+1)
  ·obtain ⟨i,hi,he⟩:=he;exact ⟨i,n+1,by omega,by omega,he⟩
  ·obtain ⟨i,j,h1,h2,h3⟩:=pigeon n (L.erase (f (n+1))) f (by rw [List.length_erase_of_mem (hf (n+1) Zi),hL];rfl)
    (fun i hi=>(List.mem_erase_of_ne (fun e=>he ⟨i,hi,e⟩)).2 (hf i Zi))
   exact ⟨i,j,h1,by omega,h3⟩
theorem upN_of {l:List Param}:∀ {n:Nat} {t:Bs},itU l n t=W8→(∀ i,i<n→itU l i t≠W8)→upN l n t
 | 0,_,h,_=>h
 | n+1,t,h,hh=>⟨hh 0 Zi,upN_of (n:=n) h (fun i hi=>hh (i+1) Zi)⟩
theorem YdX {l:List Param} {t:Bs}:(tyF l t).isSome=true↔t∈parN l:=by
 induction l with
 | nil=>simp [tyF,parN]
 | cons p r ih=>
  rw [tyF]
  by_cases h:t=p.name
  ·rw [if_pos h];simp [parN,h]
  ·rw [if_neg h,ih]
   have:parN (p::r)=p.name::parN r:=rfl
   rw [this,List.mem_cons]
   exact ⟨.inr,fun h1=>h1.elim (fun h2=>absurd h2 h) id⟩
theorem tyF_in:∀ {l:List Param} {t u:Bs},tyF l t=some u→∃ p∈l,p.typ=u
 | p::r,t,u,h=>by
  rw [tyF] at h
  by_cases h1:t=p.name
  ·rw [if_pos h1] at h;injection h with h;exact ⟨p,by simp,h⟩
  ·rw [if_neg h1] at h
   obtain ⟨q,hq,e⟩:=tyF_in h
   exact ⟨q,by simp [hq],e⟩
theorem hasT_up {l:List Param} (h3:∀ p∈l,HasT l p.typ) {t:Bs} (h:HasT l t) (ho:t≠W8):HasT l (upT l t):=by
 rcases h with h | h
 ·exact absurd h ho
 ·obtain ⟨u,hu⟩:=Option.isSome_iff_exists.1 h
  obtain ⟨p,hp,e⟩:=tyF_in hu
  have:upT l t=p.typ:=by unfold upT;rw [hu,e];rfl
  rw [this];exact h3 p hp
theorem itU_succ {l:List Param} (n:Nat) (t:Bs):itU l (n+1) t=upT l (itU l n t):=by rw [Ygl n 1 t];rfl
theorem wft_of {l:List Param} (hs:∀ p∈l,Short p.typ) (h3:∀ p∈l,HasT l p.typ) (h4:∀ p∈l,cycM l p.name l.length p.name=false) (hl:l.length≤64):WFT l:=by
 refine ⟨hs,fun t ht=>Classical.byContradiction fun hno=>?_⟩
 have hob:∀ i,i≤l.length→itU l i t≠W8:=by
  intro i
  induction i using Nat.strongRecOn with
  | _ i ih=>
   intro hi he
   exact hno ⟨i,by omega,upN_of he (fun k hk=>ih k hk Zi)⟩
 have hHas:∀ i,i≤l.length→HasT l (itU l i t):=by
  intro i
  induction i with
  | zero=>intro _;exact ht
  | succ i ih=>intro hi;rw [itU_succ];exact hasT_up h3 (ih Zi) (hob i Zi)
 have hmem:∀ i,i≤l.length→itU l i t∈parN l:=fun i hi=>by
  rcases hHas i hi with h | h
  ·exact absurd h (hob i hi)
  ·exact YdX.1 h
 obtain ⟨i,j,hij,hj,he⟩:=pigeon l.length (parN l) (fun i=>itU l i t) Yge hmem
 obtain ⟨p,hp,hpe⟩:=List.mem_map.1 (hmem i Zi)
 have hc:=h4 p hp
 rw [hpe] at hc
 refine cyc_no l.length hc (j - i) Zi Zi (fun k h1 h2=>?_) ?_
 ·rw [← Ygl];exact hob (i+k) Zi
 ·rw [← Ygl,show i+(j - i)=j from by omega];exact he.symm
theorem Yjh {l:List Param} (h:newM l=0) (hs:∀ p∈l,Short p.typ) (hl:l.length≤64):WFT l:=by
 unfold newM at h
 by_cases h1:TwP [] (parN l)
 ·rw [if_pos h1] at h;cases h
 ·rw [if_neg h1] at h
  by_cases h2:∀ p∈l,HasT l p.typ
  ·rw [if_neg (by simpa using h2)] at h
   by_cases h3:∃ p∈l,cycM l p.name l.length p.name=true
   ·rw [if_pos h3] at h;cases h
   ·exact wft_of hs h2 (fun p hp=>by
     cases hc:cycM l p.name l.length p.name with
     | false=>rfl
     | true=>exact absurd ⟨p,hp,hc⟩ h3) hl
  ·rw [if_pos h2] at h;cases h
variable {i:Nat}
theorem fndS_no {m:List (Bs × Value)} {x:Bs} (h:(fndS m x i).isSome=false):fndS m x i=none:=by cases hf:fndS m x i with | none=>rfl | some p=>rw [hf] at h;cases h
variable {k:Nat}
theorem tyM_add {l:List Param} {x:Param} (hx:l[k]?=some x) (h:x.name ∉ parN (l.take k)):updS (tyM (l.take k)) x.name (.string x.typ)=tyM (l.take (k+1)):=by
 have h1:fndS (tyM (l.take k)) x.name 0=none:=fndS_no (by
  rw [YkO]
  cases hc:(tyF (l.take k) x.name).isSome with
  | false=>rfl
  | true=>exact absurd (YdX.1 hc) h)
 have h2:l.take (k+1)=l.take k++ [x]:=by rw [List.take_add_one,hx];rfl
 rw [updS,h1,h2]
 unfold tyM
 rw [List.map_append];rfl
variable {A:Option Addr} {c n:Nat}
set_option maxHeartbeats 4000000 in
theorem tnew_q {l:List Param} (hM:MaxF fz) (h1:Sl paramL fz A n c l) (hl:l.length≤64) (hok:∀ p∈l,Xk p.name∧YcZ p.typ):
 GFn prog 58 [.slice A n c] fz [] (fun v fz' H'=>H'=[]∧∃ (vf:Value) (z:Int),v=.tuple #[vf,.int .i64 z,errV (newM l)]∧(newM l=0→ForR fz' vf l)):=by
 have ln:=h1.len
 refine zF Tryz.func58 Tryz.ntmps58 (fun w0=>?_)
 refine zW ?_;intros
 refine zC (fun c0=>?_) (fun c0=>?_)
 ·omega
 refine zW ?_;intros
 refine Yk (fun q σ fz' H'=>∃ k:Nat,k≤n∧q=n - k∧σ=[(22,.int .i64 k),(21,.int .i64 n),(20,.slice A n c),(0,.slice A n c)]∧fz=fz'∧H'=[]∧True) ⟨0,Z0 _,rfl,rfl,rfl,rfl,trivial⟩ Zw Zb ?_;rintro q σ fz' H' ⟨k,hk,rfl,rfl,rfl,rfl,hh⟩
 refine zW ?_;intros
 refine zC (fun c1=>?_) (fun c1=>?_)
 ·obtain ⟨x,hx⟩:=Yg (l:=l) (k:=k) Zi
  obtain ⟨hn,ht⟩:=hok x (Zm hx)
  refine zW ?_;intros
  refine zI h1 hx (fun p1 hp=>?_)
  refine zL hp ?_
  intro cs hcs
  obtain ⟨rfl,hR⟩:=YT hcs
  refine zW ?_;intros
  refine zc (YkQ hM hn) ?_
  refine zW ?_;intros
  refine zC (fun x1=>?_) (fun x1=>?_)
  ·have hn2:Xk x.typ:=ht.elim id (fun h=>absurd h x1)
   refine zW ?_;intros
   refine zc (YkQ hM hn2) ?_
   refine zW ?_;intros
   exact YA ⟨k+1,by omega,rfl,rfl,rfl,rfl,trivial⟩ Zi Zw Zb
  ·refine zW ?_;intros
   exact YA ⟨k+1,by omega,rfl,rfl,rfl,rfl,trivial⟩ Zi Zw Zb
 ·refine zW ?_;intros
  refine Yb Zz (Xo (fun gm=>?_))
  refine zW ?_;intros
  rename_i gf
  refine Yk (fun q σ fz' H'=>∃ k:Nat,k≤n∧q=n - k∧σ=[(50,.int .i64 k),(49,.int .i64 n),(48,.slice A n c),(7,.pointer (some ⟨gf,0,none⟩)),(0,.slice A n c)]∧fz=fz'∧H'=[(gf,.cells #[.map (some gm)] 179 (0,0)),(gm,mapS (tyM (l.take k)))]∧(∀ i,i<k→∀ x,(parN l)[i]?=some x→x ∉ []++(parN l).take i)) ⟨0,Z0 _,rfl,rfl,rfl,rfl,fun i hi=>absurd hi Zi⟩ Zw Zb ?_
  rintro q σ fz' H' ⟨k,hk,rfl,rfl,rfl,rfl,hh⟩
  refine zW ?_;intros
  refine zC (fun c2=>?_) (fun c2=>?_)
  ·obtain ⟨x,hx⟩:=Yg (l:=l) (k:=k) Zi
   have hxn:=Yje hx
   refine zW ?_;intros
   refine zI h1 hx (fun p1 hp=>?_)
   refine zL hp ?_
   intro cs hcs
   obtain ⟨rfl,hR⟩:=YT hcs
   refine zW ?_;intros
   refine zG ?_;refine Ws T 2 Zz Zz Zz Zz Zz Zz Zz Zz YfY YkO ?_
   cases hb:(tyF (l.take k) x.name).isSome with
   | true=>
    have hin:=YdX.1 hb
    have e1:newM l=4:=if_pos ⟨k,x.name,hxn,by rw [← Ybc];exact hin⟩
    refine zW ?_;intros
    refine retN T (vs:=[_,_,_]) Zz ⟨rfl,rfl,rfl,trivial⟩ Zb ⟨rfl,.pointer none,k,by rw [e1];rfl,fun h=>by rw [e1] at h;cases h⟩
   | false=>
    have hnin:x.name ∉ parN (l.take k):=fun h=>by rw [YdX.2 h] at hb;cases hb
    refine zWN ?_;intros
    refine Wp.drawK (Hq:=[_,_,_]) T.mixed Zj Zj Zb ?_
    refine zW ?_;intros
    refine Ye ?_
    refine YD ⟨by kernel_rfl,?_⟩
    refine Ch.hard0 Zj (Xv T (pre:=[_,_]) Zz Zz Zz Zz Zz Zz Zz (Zr _) ?_)
    refine Ch.done ?_
    rw [tyM_add hx hnin]
    refine zW ?_;intros
    exact YA ⟨k+1,by omega,rfl,rfl,rfl,rfl,YaR (p:=fun i x=>x ∉ []++(parN l).take i) hh hxn (by rw [← Ybc];exact hnin)⟩ Zi Zw Zb
  ·have hno:¬TwP [] (parN l):=YiZ hh (by rw [Yge];omega)
   rw [Zl (show l.length≤k by omega)]
   refine zWX ?_;intros
   refine Wp.freezeAll (H1:=[]) (Zr _) (fun fz2 hl2 hf2=>?_)
   have hF:ForR fz2 (.pointer (some ⟨gf,0,none⟩)) l:=⟨gf,gm,rfl,hf2 (gf,.cells #[.map (some gm)] 179 (0,0)) (by simp),hf2 (gm,mapS (tyM l)) (by simp)⟩
   have h2:=h1.mono hl2
   refine zW ?_;intros
   refine Yk (fun q σ fz' H'=>∃ k:Nat,k≤n∧q=n - k∧σ=[(79,.int .i64 k),(78,.int .i64 n),(77,.slice A n c),(7,.pointer (some ⟨gf,0,none⟩)),(0,.slice A n c)]∧fz2=fz'∧H'=[]∧(∀ i,i<k→∀ x,l[i]?=some x→HasT l x.typ)) ⟨0,Z0 _,rfl,rfl,rfl,rfl,fun i hi=>absurd hi Zi⟩ Zw Zb ?_
   rintro q σ fz' H' ⟨k,hk,rfl,rfl,rfl,rfl,hh3⟩
   refine zW ?_;intros
   refine zC (fun c3=>?_) (fun c3=>?_)
   ·obtain ⟨x,hx⟩:=Yg (l:=l) (k:=k) Zi
    refine zW ?_;intros
    refine zI h2 hx (fun p1 hp=>?_)
    refine zL hp ?_
    intro cs hcs
    obtain ⟨rfl,hR⟩:=YT hcs
    refine zW ?_;intros
    refine zb (has_q hF) (fun f1=>?_) (fun f1=>?_)
    ·refine zW ?_;intros
     exact YA ⟨k+1,by omega,rfl,rfl,rfl,rfl,YO (p:=fun x:Param=>HasT l x.typ) hh3 hx (Zt f1)⟩ Zi Zw Zb
    ·have e1:newM l=3:=by rw [newM,if_neg hno,if_pos (fun h=>Zf f1 (h x (Zm hx)))]
     refine zW ?_;intros
     refine retN T (vs:=[_,_,_]) Zz ⟨rfl,rfl,rfl,trivial⟩ Zb ⟨rfl,.pointer none,k,by rw [e1];rfl,fun h=>by rw [e1] at h;cases h⟩
   ·have hall:=Xf (p:=fun x:Param=>HasT l x.typ) hh3 Zi
    refine zW ?_;intros
    refine Yk (fun q σ fz' H'=>∃ k:Nat,k≤n∧q=n - k∧σ=[(94,.int .i64 k),(93,.int .i64 n),(92,.slice A n c),(7,.pointer (some ⟨gf,0,none⟩))]∧fz2=fz'∧H'=[]∧(∀ i,i<k→∀ x,l[i]?=some x→cycM l x.name l.length x.name=false)) ⟨0,Z0 _,rfl,rfl,rfl,rfl,fun i hi=>absurd hi Zi⟩ Zw Zb ?_
    rintro q σ fz' H' ⟨k,hk,rfl,rfl,rfl,rfl,hh4⟩
    refine zW ?_;intros
    refine zC (fun c4=>?_) (fun c4=>?_)
    ·obtain ⟨x,hx⟩:=Yg (l:=l) (k:=k) Zi
     refine zW ?_;intros
     refine zI h2 hx (fun p1 hp=>?_)
     refine zL hp ?_
     intro cs hcs
     obtain ⟨rfl,hR⟩:=YT hcs
     refine zW ?_;intros
     ((refine zG ?_);refine YB Zz Zz (cycle_q hF Zi) ?_)
     cases hcy:cycM l x.name l.length x.name with
     | true=>
      have e1:newM l=21:=by rw [newM,if_neg hno,if_neg (by simpa using hall),if_pos ⟨x,Zm hx,hcy⟩]
      refine zW ?_;intros
      refine retN T (vs:=[_,_,_]) Zz ⟨rfl,rfl,rfl,trivial⟩ Zb ⟨rfl,.pointer none,k,by rw [e1];rfl,fun h=>by rw [e1] at h;cases h⟩
     | false=>
      refine zW ?_;intros
      exact YA ⟨k+1,by omega,rfl,rfl,rfl,rfl,YO (p:=fun x:Param=>cycM l x.name l.length x.name=false) hh4 hx hcy⟩ Zi Zw Zb
    ·have hcn:=Xf (p:=fun x:Param=>cycM l x.name l.length x.name=false) hh4 Zi
     have e1:newM l=0:=by
      rw [newM,if_neg hno,if_neg (by simpa using hall),if_neg]
      rintro ⟨x,hx,h9⟩
      rw [hcn x hx] at h9;cases h9
     refine zW ?_;intros
     refine retN T (vs:=[_,_,_]) Zz ⟨rfl,rfl,rfl,trivial⟩ Zb ⟨rfl,_,0,by rw [e1];rfl,fun _=>hF⟩
end Go.Proofs.YtbnpeechpebmeaaGreatDoor
namespace Go.Proofs.YtbnpeechpebmeaaGreatDoor
open Go.Lx Go.RowKit
attribute [local instance 10] Classical.propDecidable
theorem YiT {x k:Sexpr} (h:XVal x) (hk:k∈x.kids):XVal k:=by
 refine ⟨(Yaw.1 h.1).2 k hk,?_,?_⟩
 ·have h1:=h.2.1
  rw [Yd8] at h1
  have:=Yc5.1 (Zs _) k hk
  omega
 ·have h1:=h.2.2
  rw [Yd9] at h1
  have:=Yh9 hk
  omega
theorem Yd7 {l:List Sexpr} {k:Sexpr} (h:XVal (YH l)) (hk:k∈l):XVal k:=YiT h hk
theorem num_ok {n:Int} (h:XVal (numE n)):Yc0 n:=by
 have:=(Yaw.1 h.1).1
 rcases this with ⟨h1,_⟩ | ⟨_,_,_,h1⟩ | ⟨h1,_⟩
 ·exact absurd (show (2:Int)=1 from h1) Zh
 ·exact h1
 ·exact absurd (show (2:Int)=3 from h1) Zh
def GrdA (a:Atom):Prop:=Xk a.name∧∀ s∈a.args,Xk s
end Go.Proofs.YtbnpeechpebmeaaGreatDoor
namespace Go.Proofs.YtbnpeechpebmeaaGreatDoor
open Go.Lx Go.RowKit
attribute [local instance 10] Classical.propDecidable
open Go.Proofs.Tryz (prog)
def wrO (b:Bool):Obj:=.cells #[.bool b] 116 (0,0)
def MkR (g:Nat) (b:Bool) (P:Prop) (x:Sexpr) (fz:FZ) (v:Value) (fz':FZ) (H':HP):Prop:=Le fz fz'∧∃ (b':Bool) (y:Sexpr),H'=[(g,wrO b')]∧SxIs fz' v y∧(b'=false↔b=false∧P)∧(b'=false→y=x)
variable {fz:FZ} {g:Nat}
theorem Ybp {b:Bool} {s:Bs} (hs:Short s):GFn prog 33 [.pointer (some ⟨g,0,none⟩),.string s] fz [(g,wrO b)] (fun v fz' H'=>Le fz fz'∧v=sxV 1 0 s (.slice none 0 0)∧∃ b':Bool,H'=[(g,wrO b')]∧(b'=false↔b=false∧Xk s)):=by
 unfold wrO
 refine zF Tryz.func33 Tryz.ntmps33 (fun w0=>?_)
 cases b
 ·refine zW ?_;intros
  refine zb (Yah hs) (fun f1=>?_) (fun f1=>?_)
  ·refine zW ?_;intros
   refine zc (WB (s:=s)) ?_
   unfold sxV
   refine zW ?_;intros
   refine WJ T (i:=0) (H':=[(g,wrO false)]) rfl Zz Zz Zz Zz Zz Zb ?_
   exact ⟨Le.refl _,rfl,false,rfl,iff_of_true rfl ⟨rfl,Zt f1⟩⟩
  ·refine zW ?_;intros
   refine zc (WB (s:=s)) ?_
   unfold sxV
   refine zW ?_;intros
   refine WJ T (i:=0) (H':=[(g,wrO true)]) rfl Zz Zz Zz Zz Zz Zb ?_
   exact ⟨Le.refl _,rfl,true,rfl,iff_of_false (by simp) (fun h=>Zf f1 h.2)⟩
 ·refine zW ?_;intros
  refine zc (WB (s:=s)) ?_
  unfold sxV
  refine zW ?_;intros
  refine WJ T (i:=0) (H':=[(g,wrO true)]) rfl Zz Zz Zz Zz Zz Zb ?_
  exact ⟨Le.refl _,rfl,true,rfl,iff_of_false (by simp) (fun h=>by cases h.1)⟩
def Wb (vars:Bool) (p:Param):Prop:=(if vars=true then VarP p.name else Xk p.name)∧YcZ p.typ
variable {A:Option Addr} {c n:Nat}
set_option maxHeartbeats 1000000 in
theorem WG {b vars:Bool} {l:List Param} (h1:Sl paramL fz A n c l) (hn:n≤1000000000):
 GFn prog 35 [.pointer (some ⟨g,0,none⟩),.slice A n c,.bool vars] fz [(g,wrO b)] (fun v fz' H'=>Le fz fz'∧(∃ B cc,v=.slice B (3*n) cc∧Sl YL fz' B (3*n) cc ((l.flatMap WX).map Yh))∧∃ b':Bool,H'=[(g,wrO b')]∧(b'=false↔b=false∧∀ p∈l,Wb vars p)):=by
 have l1:=h1.len
 refine zF Tryz.func35 Tryz.ntmps35 (fun w0=>?_)
 refine zW ?_;intros
 refine Yk (fun q σ fz' H'=>∃ (k:Nat) (b':Bool),k≤n∧q=n - k∧σ=[(12,.int .i64 k),(11,.int .i64 n),(10,.slice A n c),(2,.bool vars),(1,.slice A n c),(0,.pointer (some ⟨g,0,none⟩))]∧fz=fz'∧H'=[(g,wrO b')]∧(b'=false↔b=false∧∀ i,i<k→∀ p,l[i]?=some p→Wb vars p)) ⟨0,b,Z0 _,rfl,rfl,rfl,rfl,⟨fun h=>⟨h,fun i hi=>absurd hi Zi⟩,fun h=>h.1⟩⟩ Zw Zb ?_
 rintro q σ fz' H' ⟨k,b',hk,rfl,rfl,rfl,rfl,hb⟩
 refine zW ?_;intros
 refine zC (fun c1=>?_) (fun c1=>?_)
 ·obtain ⟨x,hx⟩:=Yg (l:=l) (k:=k) Zi
  have step:∀ b2:Bool,(b2=false↔b'=false∧Wb vars x)→(b2=false↔b=false∧∀ i,i<k+1→∀ p,l[i]?=some p→Wb vars p):=fun b2 h=>by
   rw [h,hb]
   exact ⟨fun h0=>⟨h0.1.1,YO h0.1.2 hx h0.2⟩,fun h0=>⟨⟨h0.1,fun i hi=>h0.2 i Zi⟩,h0.2 k Zi x hx⟩⟩
  refine zW ?_;intros
  refine zI h1 hx (fun p hp=>?_)
  refine zL hp ?_
  intro cs hcs
  obtain ⟨rfl,hR⟩:=YT hcs
  cases vars
  ·refine zW ?_;intros
   rename_i g5
   refine zb (Yah hR.name) (fun f1=>?_) (fun f1=>?_)
   ·refine zW ?_;intros
    cases b'
    ·refine zW ?_;intros
     refine zC (fun e1=>?_) (fun e1=>?_)
     ·refine zW ?_;intros
      refine zb (Yah hR.typ) (fun f2=>?_) (fun f2=>?_)
      ·refine zW ?_;intros
       exact YA ⟨k+1,false,by omega,rfl,rfl,rfl,rfl,step false (iff_of_true rfl ⟨rfl,Zt f1,.inl (Zt f2)⟩)⟩ Zi Zw Zb
      ·refine zW ?_;intros
       exact YA ⟨k+1,true,by omega,rfl,rfl,rfl,rfl,step true (iff_of_false (by simp) (fun h=>h.2.2.elim (Zf f2) e1))⟩ Zi Zw Zb
     ·refine zW ?_;intros
      exact YA ⟨k+1,false,by omega,rfl,rfl,rfl,rfl,step false (iff_of_true rfl ⟨rfl,Zt f1,.inr e1⟩)⟩ Zi Zw Zb
    ·refine zW ?_;intros
     exact YA ⟨k+1,true,by omega,rfl,rfl,rfl,rfl,step true (iff_of_false (by simp) (fun h=>by cases h.1))⟩ Zi Zw Zb
   ·refine zW ?_;intros
    cases b'
    ·refine zW ?_;intros
     exact YA ⟨k+1,true,by omega,rfl,rfl,rfl,rfl,step true (iff_of_false (by simp) (fun h=>Zf f1 h.2.1))⟩ Zi Zw Zb
    ·refine zW ?_;intros
     exact YA ⟨k+1,true,by omega,rfl,rfl,rfl,rfl,step true (iff_of_false (by simp) (fun h=>by cases h.1))⟩ Zi Zw Zb
  ·refine zW ?_;intros
   rename_i g5
   refine zc (Yah hR.name) ?_
   refine zW ?_;intros
   refine zb (YbX hR.name) (fun f1=>?_) (fun f1=>?_)
   ·refine zW ?_;intros
    cases b'
    ·refine zW ?_;intros
     refine zC (fun e1=>?_) (fun e1=>?_)
     ·refine zW ?_;intros
      refine zb (Yah hR.typ) (fun f2=>?_) (fun f2=>?_)
      ·refine zW ?_;intros
       exact YA ⟨k+1,false,by omega,rfl,rfl,rfl,rfl,step false (iff_of_true rfl ⟨rfl,Zt f1,.inl (Zt f2)⟩)⟩ Zi Zw Zb
      ·refine zW ?_;intros
       exact YA ⟨k+1,true,by omega,rfl,rfl,rfl,rfl,step true (iff_of_false (by simp) (fun h=>h.2.2.elim (Zf f2) e1))⟩ Zi Zw Zb
     ·refine zW ?_;intros
      exact YA ⟨k+1,false,by omega,rfl,rfl,rfl,rfl,step false (iff_of_true rfl ⟨rfl,Zt f1,.inr e1⟩)⟩ Zi Zw Zb
    ·refine zW ?_;intros
     exact YA ⟨k+1,true,by omega,rfl,rfl,rfl,rfl,step true (iff_of_false (by simp) (fun h=>by cases h.1))⟩ Zi Zw Zb
   ·refine zW ?_;intros
    cases b'
    ·refine zW ?_;intros
     exact YA ⟨k+1,true,by omega,rfl,rfl,rfl,rfl,step true (iff_of_false (by simp) (fun h=>Zf f1 h.2.1))⟩ Zi Zw Zb
    ·refine zW ?_;intros
     exact YA ⟨k+1,true,by omega,rfl,rfl,rfl,rfl,step true (iff_of_false (by simp) (fun h=>by cases h.1))⟩ Zi Zw Zb
 ·have hk1:k=n:=by omega
  subst hk1
  refine zW ?_;intros
  refine Yb Zz (Yl [] _ Zz Zz Zz (YcG h1 hn) (fun v2 fz2 H2 hle2 hR2=>?_))
  obtain ⟨rfl,B2,cc2,rfl,hsl2⟩:=hR2
  refine zW ?_;intros
  exact ret1 rfl rfl Zb ⟨hle2,⟨B2,cc2,rfl,hsl2⟩,b',rfl,by rw [hb];exact ⟨fun h=>⟨h.1,Xf h.2 Zi⟩,fun h=>⟨h.1,fun i _ p hp=>h.2 p (Zm hp)⟩⟩⟩
variable {va ve vk vp:Value}
theorem Ya9 {b:Bool} {f:Formula} (h:FormulaR fz f va vp ve vk) (hs:FSm f):GFn prog 83 [.pointer (some ⟨g,0,none⟩),.agg #[.string f.op,.string f.name,va,vp,ve,vk]] fz [(g,wrO b)] (MkR g b (FVal f) (Y9 f) fz):=by
 obtain ⟨A,n,ca,rfl,ha⟩:=h.args
 obtain ⟨B,m,cb,rfl,hp⟩:=h.params
 obtain ⟨C,r,cr,rfl,he⟩:=h.exprs
 obtain ⟨D,q,cq,rfl,hk⟩:=h.kids
 refine zF Tryz.func83 Tryz.ntmps83 (fun w0=>?_)
 refine Yp (Yq (Yb Zz (Y3 _ Zz Zz (fun g0=>?_))))
 refine zW ?_;intros
 rename_i g1
 refine Yb Zz (Yl [] _ Zz Zz Zz (YjD h hs) (fun v6 fz6 H6 hle6 hR6=>?_))
 obtain ⟨rfl,u,y,rfl,⟨cs,rfl,hr⟩,hyx⟩:=hR6
 obtain ⟨vk6,rfl,hX⟩:=YG hr
 obtain ⟨A6,n6,b6,rfl,_⟩:=hX.kids
 by_cases hP:FVal f
 ·rw [if_pos hP]
  cases b
  ·refine zW ?_;intros
   refine WJ T (i:=1) (H':=[(g,wrO false)]) rfl Zz Zz Zz Zz Zz Zb ?_
   exact ⟨hle6,false,y,rfl,⟨_,rfl,Yi hX⟩,iff_of_true rfl ⟨rfl,hP⟩,fun _=>hyx hP⟩
  ·refine zW ?_;intros
   refine WJ T (i:=1) (H':=[(g,wrO true)]) rfl Zz Zz Zz Zz Zz Zb ?_
   exact ⟨hle6,true,y,rfl,⟨_,rfl,Yi hX⟩,iff_of_false (by simp) (fun h0=>by cases h0.1),fun h0=>by cases h0⟩
 ·rw [if_neg hP]
  cases b
  ·refine zW ?_;intros
   refine WJ T (i:=1) (H':=[(g,wrO true)]) rfl Zz Zz Zz Zz Zz Zb ?_
   exact ⟨hle6,true,y,rfl,⟨_,rfl,Yi hX⟩,iff_of_false (by simp) (fun h0=>hP h0.2),fun h0=>by cases h0⟩
  ·refine zW ?_;intros
   refine WJ T (i:=1) (H':=[(g,wrO true)]) rfl Zz Zz Zz Zz Zz Zb ?_
   exact ⟨hle6,true,y,rfl,⟨_,rfl,Yi hX⟩,iff_of_false (by simp) (fun h0=>by cases h0.1),fun h0=>by cases h0⟩
def YfS (name:Bs) (args:List Bs):Prop:=Xk name∧∀ a∈args,YdA a
set_option maxHeartbeats 2000000 in
theorem watom_q {b:Bool} {f0:Bs} {l:List Bs} (hf:Short f0) (h1:Sl strL fz A n c l) (hn:n≤1000000000):
 GFn prog 179 [.pointer (some ⟨g,0,none⟩),.string f0,.slice A n c] fz [(g,wrO b)] (MkR g b (YfS f0 l) (XT f0 l) fz):=by
 have l1:=h1.len
 refine zF Tryz.func179 Tryz.ntmps179 (fun w0=>?_)
 refine zW ?_;intros
 rename_i g4
 first | refine Wp.perm (List.Perm.swap _ _ _) ?_ | refine Seq.perm (List.Perm.swap _ _ _) ?_
 refine Yb Zz (Yl [_] [_] Zz Zz Zz (Ybp hf) (fun v6 fz6 H6 hle6 hR6=>?_))
 obtain ⟨_,rfl,b1,rfl,hb1⟩:=hR6
 unfold sxV
 refine Yb Zz (Yc T (cs:=Yr f0) Zz Zz Zz Zz Zz Zz Zz Zz (fun gb=>?_))
 refine zc Xe ?_
 unfold sxV
 refine zW ?_;intros
 rename_i g5
 refine Wp.perm (List.Perm.cons _ (List.reverse_perm [_,_,_])) ?_
 refine Yk (fun q σ fz' H'=>∃ (k:Nat) (v:Value) (Hs:HP) (b':Bool),k≤n∧q=n - k∧σ=[(17,.int .i64 k),(16,.int .i64 n),(15,.slice A n c),(7,.pointer (some ⟨g5,0,none⟩)),(6,.pointer (some ⟨g4,0,none⟩)),(0,.pointer (some ⟨g,0,none⟩))]∧fz6=fz'∧
  H'=(g5,.cells #[.int .i64 3,.int .i64 0,.int .i64 0,.int .i64 0,.string ⟨#[]⟩,v] 74 (0,0))::(g4,.cells #[.int .i64 0,.int .i64 0,.int .i64 0,.int .i64 0,.string ⟨#[]⟩,.slice none 0 0] 74 (0,0))::(g,wrO b')::Hs∧Grow YL 74 fz' v (k+1) Hs (Yh f0::(l.take k).map Yh)∧(b'=false↔b=false∧Xk f0∧∀ i,i<k→∀ a,l[i]?=some a→YdA a))
  ⟨0,_,[_],b1,Z0 _,rfl,rfl,rfl,rfl,Grow.block (ys:=[(Yh f0,Yr f0)]) rfl rfl (by simpa using Yv hf) rfl Zh,by rw [hb1];exact ⟨fun h=>⟨h.1,h.2,fun i hi=>absurd hi Zi⟩,fun h=>⟨h.1,h.2.1⟩⟩⟩ Zw Zb ?_
 rintro q σ fz' H' ⟨k,v,Hs,b',hk,rfl,rfl,rfl,rfl,hG,hb⟩
 obtain ⟨Av,cv,rfl,_,_⟩:=hG.form
 have h2:=h1.mono hle6
 refine zW ?_;intros
 refine zC (fun c1=>?_) (fun c1=>?_)
 ·obtain ⟨x,hx⟩:=Yg (l:=l) (k:=k) Zi
  have step:∀ b2:Bool,(b2=false↔b'=false∧YdA x)→(b2=false↔b=false∧Xk f0∧∀ i,i<k+1→∀ a,l[i]?=some a→YdA a):=fun b2 h=>by
   rw [h,hb]
   exact ⟨fun h0=>⟨h0.1.1,h0.1.2.1,YO h0.1.2.2 hx h0.2⟩,fun h0=>⟨⟨h0.1,h0.2.1,fun i hi=>h0.2.2 i Zi⟩,h0.2.2 k Zi x hx⟩⟩
  refine zW ?_;intros
  refine zI h2 hx (fun p hp=>?_)
  refine zH hp (fun ix=>?_)
  refine zWO ?_;intros
  refine Yp (Wp.mid (fun σ fz' H'=>∃ b2:Bool,σ=[(9,.string x),(17,.int .i64 k),(16,.int .i64 n),(15,.slice A n c),(7,.pointer (some ⟨g5,0,none⟩)),(6,.pointer (some ⟨g4,0,none⟩)),(0,.pointer (some ⟨g,0,none⟩))]∧fz6=fz'∧
   H'=(g5,.cells #[.int .i64 3,.int .i64 0,.int .i64 0,.int .i64 0,.string ⟨#[]⟩,.slice Av (k+1) cv] 74 (0,0))::(g4,.cells #[.int .i64 0,.int .i64 0,.int .i64 0,.int .i64 0,.string ⟨#[]⟩,.slice none 0 0] 74 (0,0))::(g,wrO b2)::Hs∧(b2=false↔b'=false∧YdA x)) ?_ ?_)
  ·cases b'
   ·refine zW ?_;intros
    refine zb (dterm_q ix) (fun f1=>?_) (fun f1=>?_)
    ·refine zW ?_;intros
     exact midN ⟨false,rfl,rfl,rfl,iff_of_true rfl ⟨rfl,Zt f1⟩⟩ Zw Zb
    ·refine zW ?_;intros
     exact midN ⟨true,rfl,rfl,rfl,iff_of_false (by simp) (fun h=>Zf f1 h.2)⟩ Zw Zb
   ·refine zW ?_;intros
    exact midN ⟨true,rfl,rfl,rfl,iff_of_false (by simp) (fun h=>by cases h.1)⟩ Zw Zb
  ·rintro σ fz' H' ⟨b2,rfl,rfl,rfl,hb2⟩
   refine Wp.drawK (Hq:=[_,_,_]) T.mixed Zj Zj Zb ?_
   refine zW ?_;intros
   refine Ye ?_
   refine Ye ?_
   refine Ye ?_
   refine zW ?_;intros
   refine Ye ?_
   refine YD ⟨by kernel_rfl,?_⟩
   refine Ch.qk (⟨Le.refl _,Zx⟩) (YB Zz Zz (WB (s:=x)) ?_)
   refine Yj (Yc T (cs:=Yr x) Zz Zz Zz Zz Zz Zz Zz Zz (fun gb=>⟨(⟨Le.refl _,Zx⟩),?_⟩))
   refine Yj (YK T (Hr:=[_,_,_,_]) Zz Zz Zz Zz Zz Zz Zz Zz (Zr _) hG Yu (.head _) (Yv ix) (by show _*72≤_;omega) Zi (fun v' Hs' hO'=>⟨(⟨Le.refl _,Zx⟩),?_⟩))
   obtain ⟨Av',cv',rfl,_,_⟩:=hO'.form
   refine Ch.hard0 Zj (YZ T Zz Zz Zz Zz Zz Zz ?_)
   refine Ch.done ?_
   refine zW ?_;intros
   exact YA ⟨k+1,_,Hs',b2,by omega,rfl,rfl,rfl,rfl,hO'.of (by rw [List.take_add_one,hx];simp) rfl,step b2 hb2⟩ Zi Zw Zb
 ·have hk1:k=n:=by omega
  subst hk1
  rw [Zl Zi] at hG
  refine zW ?_;intros
  refine YcC T (i:=1) (H':=[(g,wrO b')]) rfl Zz Zz Zz Zz Zz (@List.perm_middle _ _ [_,_] _).symm (fun fz3 hle3 hf3=>?_)
  obtain ⟨A',c',he,hsl⟩:=hG.sl hle3 (fun p hp=>hf3 p (by simp [hp])) Zi
  injection he with he1 he2 he3
  subst he1 he3
  exact ⟨hle6.trans hle3,b',_,rfl,Wu hsl,by rw [hb];exact ⟨fun h=>⟨h.1,h.2.1,Xf h.2.2 Zi⟩,fun h=>⟨h.1,h.2.1,fun i _ a ha=>h.2.2 a (Zm ha)⟩⟩,fun _=>rfl⟩
end Go.Proofs.YtbnpeechpebmeaaGreatDoor
