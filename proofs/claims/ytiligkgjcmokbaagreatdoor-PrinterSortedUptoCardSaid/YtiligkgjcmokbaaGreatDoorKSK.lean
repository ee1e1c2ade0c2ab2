/- The texts PCL, PCS, PCT, PCV, ShelfC, OpenA, PCQ, PCR, PVal, PGrd, PWalkK, PWalkL, laid together. Conditions: none. -/
import Derived.Test.YtiligkgjcmokbaaGreatDoorKSJ
import Derived.ChangeSame
import Derived.ProofKit
import Derived.Shelf.Strings.Search3
set_option linter.all false
set_option maxHeartbeats 8000000
noncomputable section
set_option maxRecDepth 20000
open Go.Lx Go.RowKit
attribute [local instance 10] Classical.propDecidable
open Go.Proofs.Tryz (prog)
namespace Go.Proofs.YtiligkgjcmokbaaGreatDoor
variable {α:Type} {fz:FZ} {va ve vk vp v u1 u2 u3 u4 u5 u6 u7 v1 v2 v3 v4 v5 v6:Value} {cs:List Value} {A:Option Addr} {c n g k:Nat} {all:List Param} {d:Domain} {m:List (Bs × Value)} {l:List α}
mutual
def LongP:Formula->Prop
 | .mk _ _ _ params _ kids=>6<params.length\/LongPL kids
def LongPL:List Formula->Prop
 | []=>False
 | k::r=>LongP k\/LongPL r
end
theorem Yin:∀ {l:List Formula},LongPL l↔∃ x∈l,LongP x
 | []=>by simp [LongPL]
 | k::r=>by rw [LongPL,Yin (l:=r)];simp
theorem Ygu (f:Formula):LongP f↔6<f.params.length\/∃ x∈f.kids,LongP x:=by cases f;rw [LongP,Yin];rfl
theorem long_f:∀ (s:Nat) {fz:FZ} {f:Formula} {va vp ve vk:Value},SizeOf.sizeOf f<=s->FormulaR fz f va vp ve vk->
 QFn prog 88 [.agg #[Zy f.op,Zy f.name,va,vp,ve,vk]] fz (Zo (decide (LongP f)))
 | 0,_,f,_,_,_,_,hse,_=>by cases f;simp at hse
 | s+1,fz,f,va,vp,ve,vk,hse,hR=>by
  obtain ⟨⟨B1,m1,d1,rfl,ia⟩,⟨B2,m2,d2,rfl,ip⟩,⟨B3,m3,d3,rfl,ie⟩,⟨B4,m4,d4,rfl,ik⟩⟩:=hR.sls;have l2:=ip.len;refine qF Tryz.func88 Tryz.ntmps88 (fun w0=>?_);refine pX (fun g0=>?_);refine vC ?_ ?_<;>intro x1
  ·exact vR (h:=by exact Yu ((Ygu f).2 (.inl Zi)))
  refine zV ?_
  ((refine zG ?_);refine YF (Ych (cap:=[]) (p:=LongP) ik (fun x hx cs hcs=>by
   obtain ⟨wa,wp,we,wk,rfl,hRx⟩:=Yv hcs;exact long_f s (by have:=Lx.Formula.kids_lt hx;omega) hRx)) ?_)
  refine zV ?_
  (exact ret1 rfl rfl Zb (by
   by_cases h:∃ x∈f.kids,LongP x
   ·rw [decide_eq_true h,decide_eq_true ((Ygu f).2 (.inr h))]
   rw [decide_eq_false h,decide_eq_false (fun h0=>((Ygu f).1 h0).elim (fun h1=>x1 Zi) h)]))
theorem Yim {f:Formula} (hR:FormulaR fz f va vp ve vk):
 QFn prog 88 [.agg #[Zy f.op,Zy f.name,va,vp,ve,vk]] fz (Zo (decide (LongP f))):=long_f _ (Zs _) hR
def YjS (c:Change):Prop:=6<c.params.length\/LongP c.when_
theorem longC_q {c:Change} (h:changeL.rep fz c cs):QFn prog 159 [.agg cs.toArray] fz (Zo (decide (YjS c))):=by
 obtain ⟨v1,v2,v3,v4,v5,v6,v7,v8,rfl,hR⟩:=Y8 h;obtain ⟨A1,n1,b1,rfl,ip⟩:=hR.params;have hw:=hR.when_;obtain ⟨⟨A2,n2,b2,rfl,iw1⟩,⟨A3,n3,b3,rfl,iw2⟩,⟨A4,n4,b4,rfl,iw3⟩,⟨A5,n5,b5,rfl,iw4⟩⟩:=hR.when_.sls;obtain ⟨A6,n6,b6,rfl,iw5⟩:=hR.args;obtain ⟨⟨A7,n7,b7,rfl,iw6⟩,⟨A8,n8,b8,rfl,iw7⟩⟩:=hR.value.sls;have l1:=ip.len;refine qF Tryz.func159 Tryz.ntmps159 (fun w0=>?_);refine pX (fun g0=>?_);refine vC ?_ ?_<;>intro x1
 ·exact vR (h:=by exact Yu (.inl Zi))
 refine vG ?_;refine Yc (vs:=[Zy c.when_.op,Zy c.when_.name,Zc A2 n2 b2,Zc A3 n3 b3,Zc A4 n4 b4,Zc A5 n5 b5]) 0 ?_;refine zc (Yim hw) ?_;refine zV ?_
 (exact ret1 rfl rfl Zb (by
  by_cases h:LongP c.when_
  ·rw [decide_eq_true h,decide_eq_true (show YjS c from .inr h)]
  rw [decide_eq_false h,decide_eq_false (show ¬YjS c from fun h0=>h0.elim (fun h1=>x1 Zi) h)]))
theorem Yc2 {l:List Change} (h:Sl changeL fz A n c l):
 QFn prog 95 [Zc A n c] fz (Zo (decide (∃ x∈l,YjS x))):=by
 refine qF Tryz.func95 Tryz.ntmps95 (fun w0=>?_);refine vG ?_;refine YF (YfP (cap:=[]) (p:=YjS) h (fun x hx cs hcs=>longC_q hcs)) ?_;exact vR (h:=rfl)
theorem Ygw:QFn prog 87 [Zc A n c] fz (Zo (decide (6<n))):=by
 refine qF Tryz.func87 Tryz.ntmps87 (fun w0=>?_);refine vC ?_ ?_<;>intro x1
 ·exact vR (h:=by exact Yu Zi)
 exact vR (h:=by exact Yl Zi)
def Ydg (fz:FZ) (g:Nat):Prop:=fz g=some (Zu #[.func (.func 87) #[] #[]] 158)
theorem large2_q (hg:Ydg fz g) {x:Predicate} (h:predicateL.rep fz x cs):
 QFn prog 90 [.agg cs.toArray,Zp g] fz (Zo (decide (6<x.params.length))):=by
 unfold Ydg at hg;obtain ⟨v1,rfl,hR⟩:=Xo h;obtain ⟨A1,n1,b1,rfl,ip⟩:=hR.params;have l1:=ip.len;refine qF Tryz.func90 Tryz.ntmps90 (fun w0=>?_);refine pX (fun g0=>?_);refine vv Ygw ?_;exact vR (h:=by rw [l1])
theorem large3_q (hg:Ydg fz g) {x:Function} (h:functionL.rep fz x cs):
 QFn prog 92 [.agg cs.toArray,Zp g] fz (Zo (decide (6<x.params.length))):=by
 unfold Ydg at hg;obtain ⟨v1,rfl,hR⟩:=YW h;obtain ⟨A1,n1,b1,rfl,ip⟩:=hR.params;have l1:=ip.len;refine qF Tryz.func92 Tryz.ntmps92 (fun w0=>?_);refine pX (fun g0=>?_);refine vv Ygw ?_;exact vR (h:=by rw [l1])
def LongA (a:Action):Prop:=6<a.params.length\/LongP a.pre\/∃ c∈a.changes,YjS c
theorem orNo {p q r:Prop} [Decidable q] [Decidable r] (h:¬p) (e:r↔p\/q):Value.bool (decide q)=Value.bool (decide r):=by
 by_cases hq:q
 ·rw [decide_eq_true hq,decide_eq_true (e.2 (.inr hq))]
 rw [decide_eq_false hq,decide_eq_false (fun h0=>(e.1 h0).elim h hq)]
theorem large4_q (hg:Ydg fz g) {x:Action} (h:actionL.rep fz x cs):
 QFn prog 94 [.agg cs.toArray,Zp g] fz (Zo (decide (LongA x))):=by
 unfold Ydg at hg;obtain ⟨v1,v2,v3,v4,v5,v6,rfl,hR⟩:=Xh h;obtain ⟨A1,n1,b1,rfl,ip⟩:=hR.params;have hw:=hR.pre;obtain ⟨⟨A2,n2,b2,rfl,iw1⟩,⟨A3,n3,b3,rfl,iw2⟩,⟨A4,n4,b4,rfl,iw3⟩,⟨A5,n5,b5,rfl,iw4⟩⟩:=hR.pre.sls;obtain ⟨A6,n6,b6,rfl,ic⟩:=hR.changes;have l1:=ip.len;refine qF Tryz.func94 Tryz.ntmps94 (fun w0=>?_);refine pX (fun g0=>?_);refine vG ?_;refine Yah Zz Zz Zz Ygw (fun f1=>?_) (fun f1=>?_)
 ·exact vR (h:=by exact Yu (.inl Zi))
 refine vG ?_;refine Yc (vs:=[Zy x.pre.op,Zy x.pre.name,Zc A2 n2 b2,Zc A3 n3 b3,Zc A4 n4 b4,Zc A5 n5 b5]) 0 ?_;refine zb (Yim hw) (fun f2=>?_) (fun f2=>?_)
 ·exact vR (h:=by exact Yu (.inr (.inl (Zt f2))))
 refine vc (Yc2 ic) ?_;exact vR (h:=by exact orNo (p:=6<x.params.length\/LongP x.pre) (fun h0=>h0.elim (fun h1=>f1 Zi) (Zf f2)) or_assoc.symm)
def YqY (a:Durative):Prop:=6<a.params.length\/LongP a.start\/LongP a.over\/LongP a.fin\/(∃ c∈a.atStart,YjS c)\/∃ c∈a.atEnd,YjS c
theorem large5_q (hg:Ydg fz g) {x:Durative} (h:durativeL.rep fz x cs):
 QFn prog 97 [.agg cs.toArray,Zp g] fz (Zo (decide (YqY x))):=by
 unfold Ydg at hg;obtain ⟨v1,v2,v3,v4,v5,v6,v7,v8,v9,v10,v11,v12,v13,v14,v15,rfl,hR⟩:=YZ h;obtain ⟨A1,n1,b1,rfl,ip⟩:=hR.params;have hw:=hR.start;have ho:=hR.over;have hf:=hR.fin;obtain ⟨⟨A2,n2,b2,rfl,_⟩,⟨A3,n3,b3,rfl,_⟩,⟨A4,n4,b4,rfl,_⟩,⟨A5,n5,b5,rfl,_⟩⟩:=hR.start.sls;obtain ⟨⟨C2,c2,e2,rfl,_⟩,⟨C3,c3,e3,rfl,_⟩,⟨C4,c4,e4,rfl,_⟩,⟨C5,c5,e5,rfl,_⟩⟩:=hR.over.sls;obtain ⟨⟨D2,d2,i2,rfl,_⟩,⟨D3,d3,i3,rfl,_⟩,⟨D4,d4,i4,rfl,_⟩,⟨D5,d5,i5,rfl,_⟩⟩:=hR.fin.sls;obtain ⟨A6,n6,b6,rfl,ic⟩:=hR.atStart;obtain ⟨A7,n7,b7,rfl,id⟩:=hR.atEnd;have l1:=ip.len;refine qF Tryz.func97 Tryz.ntmps97 (fun w0=>?_);refine pX (fun g0=>?_);refine vG ?_;refine Yah Zz Zz Zz Ygw (fun f1=>?_) (fun f1=>?_)
 ·exact vR (h:=by exact Yu (.inl Zi))
 refine vG ?_;refine Yc (vs:=[Zy x.start.op,Zy x.start.name,Zc A2 n2 b2,Zc A3 n3 b3,Zc A4 n4 b4,Zc A5 n5 b5]) 0 ?_;refine zb (Yim hw) (fun f2=>?_) (fun f2=>?_)
 ·exact vR (h:=by exact Yu (.inr (.inl (Zt f2))))
 refine vG ?_;refine Yc (vs:=[Zy x.over.op,Zy x.over.name,Zc C2 c2 e2,Zc C3 c3 e3,Zc C4 c4 e4,Zc C5 c5 e5]) 0 ?_;refine zb (Yim ho) (fun f3=>?_) (fun f3=>?_)
 ·exact vR (h:=by exact Yu (.inr (.inr (.inl (Zt f3)))))
 refine vG ?_;refine Yc (vs:=[Zy x.fin.op,Zy x.fin.name,Zc D2 d2 i2,Zc D3 d3 i3,Zc D4 d4 i4,Zc D5 d5 i5]) 0 ?_;refine zb (Yim hf) (fun f4=>?_) (fun f4=>?_)
 ·exact vR (h:=by exact Yu (.inr (.inr (.inr (.inl (Zt f4))))))
 refine vb (Yc2 ic) (fun f5=>?_) (fun f5=>?_)
 ·exact vR (h:=by exact Yu (.inr (.inr (.inr (.inr (.inl (Zt f5)))))))
 refine vc (Yc2 id) ?_;refine zV ?_
 (exact ret1 rfl rfl Zb (orNo (p:=6<x.params.length\/LongP x.start\/LongP x.over\/LongP x.fin\/∃ c∈x.atStart,YjS c) (fun h0=>by
  rcases h0 with h1 | h1 | h1 | h1 | h1
  ·exact f1 Zi
  ·exact Zf f2 h1
  ·exact Zf f3 h1
  ·exact Zf f4 h1
  exact Zf f5 h1) (by unfold YqY;simp only [or_assoc])))
def YcL (d:Domain) (p:Problem) (all:List Param):Prop:=64<all.length\/64<d.types.length\/64<d.predicates.length\/64<d.functions.length\/64<d.actions.length\/64<d.duratives.length\/LongP p.goal\/(∃ x∈d.predicates,6<x.params.length)\/(∃ x∈d.functions,6<x.params.length)\/(∃ x∈d.actions,LongA x)\/∃ x∈d.duratives,YqY x
theorem large_q {p:Problem} {vf vg vo:Value} (h:CkR fz v d p all vf vp vg vo):
 QFn prog 37 [v] fz (Zo (decide (YcL d p all))):=by
 obtain ⟨gc,v1,v2,v3,v4,v5,v6,u1,u2,u3,u4,u5,u6,u7,Aa,na,ca,rfl,hc,hD,hP,hall⟩:=h;obtain ⟨⟨A1,n1,b1,rfl,i1⟩,⟨A2,n2,b2,rfl,i2⟩,⟨A3,n3,b3,rfl,i3⟩,⟨A4,n4,b4,rfl,i4⟩,⟨A5,n5,b5,rfl,i5⟩,⟨A6,n6,b6,rfl,i6⟩⟩:=hD.sls;have hg:=hP.goal;obtain ⟨⟨B0,e0,q0,rfl,_⟩,⟨B1,e1,q1,rfl,_⟩,⟨B2,e2,q2,rfl,_⟩,⟨B3,e3,q3,rfl,_⟩⟩:=hP.goal.sls;have l1:=i1.len;have l3:=i3.len;have l4:=i4.len;have l5:=i5.len;have l6:=i6.len;have la:=hall.len;refine qF Tryz.func37 Tryz.ntmps37 (fun w0=>?_);refine vG ?_;refine YbF (vs:=[Zy d.name,Zc A1 n1 b1,Zc A2 n2 b2,Zc A3 n3 b3,Zc A4 n4 b4,Zc A5 n5 b5,Zc A6 n6 b6]) hc ?_;refine zV ?_;intros;refine zC ?_ ?_<;>intro x0
 ·exact vR (h:=by exact Yu (.inl Zi))
 refine vC ?_ ?_<;>intro x1
 ·exact vR (h:=by exact Yu (.inr (.inl Zi)))
 refine vC ?_ ?_<;>intro x2
 ·exact vR (h:=by exact Yu (.inr (.inr (.inl Zi))))
 refine vC ?_ ?_<;>intro x3
 ·exact vR (h:=by exact Yu (.inr (.inr (.inr (.inl Zi)))))
 refine vC ?_ ?_<;>intro x4
 ·exact vR (h:=by exact Yu (.inr (.inr (.inr (.inr (.inl Zi))))))
 refine vC ?_ ?_<;>intro x5
 ·exact vR (h:=by exact Yu (.inr (.inr (.inr (.inr (.inr (.inl Zi)))))))
 refine zVX ?_;refine Yr ?_;refine zVX ?_;intros;rename_i g3 g4
 first | refine Wp.freeze Zz (fun fz2 hl2 hb2=>?_) | refine Seq.freeze Zz (fun fz2 hl2 hb2=>?_)
 have hb:Ydg fz2 g4:=hb2;have hc2:=hl2 _ _ hc;have hg2:=hg.mono hl2;have j3:=i3.mono hl2;have j4:=i4.mono hl2;have j5:=i5.mono hl2;have j6:=i6.mono hl2;refine vG ?_;refine YbF (vs:=[Zy p.goal.op,Zy p.goal.name,Zc B0 e0 q0,Zc B1 e1 q1,Zc B2 e2 q2,Zc B3 e3 q3]) hc2 ?_;refine vb (Yim hg2) (fun f6=>?_) (fun f6=>?_)
 ·exact vR (h:=by exact Yu (.inr (.inr (.inr (.inr (.inr (.inr (.inl (Zt f6)))))))))
 refine vG ?_;refine Yao ?_;refine vG ?_;refine WJ (Yeb (cap:=[Zp g4]) (p:=(fun x:Predicate=>6<x.params.length)) j3 (fun x hx cs hcs=>large2_q hb hcs)) (fun f7=>?_) (fun f7=>?_)
 ·exact vR (h:=by exact Yu (.inr (.inr (.inr (.inr (.inr (.inr (.inr (.inl (Zt f7))))))))))
 refine vG ?_;refine Yao ?_;refine vG ?_;refine WJ (Yex (cap:=[Zp g4]) (p:=(fun x:Function=>6<x.params.length)) j4 (fun x hx cs hcs=>large3_q hb hcs)) (fun f8=>?_) (fun f8=>?_)
 ·exact vR (h:=by exact Yu (.inr (.inr (.inr (.inr (.inr (.inr (.inr (.inr (.inl (Zt f8)))))))))))
 refine vG ?_;refine Yao ?_;refine vG ?_;refine WJ (YfQ (cap:=[Zp g4]) (p:=LongA) j5 (fun x hx cs hcs=>large4_q hb hcs)) (fun f9=>?_) (fun f9=>?_)
 ·exact vR (h:=by exact Yu (.inr (.inr (.inr (.inr (.inr (.inr (.inr (.inr (.inr (.inl (Zt f9))))))))))))
 refine vG ?_;refine Yao ?_;refine vG ?_;refine YF (Yey (cap:=[Zp g4]) (p:=YqY) j6 (fun x hx cs hcs=>large5_q hb hcs)) ?_;refine zV ?_
 (exact ret1 rfl rfl Zb (by
  by_cases h9:∃ x∈d.duratives,YqY x
  ·rw [decide_eq_true h9,decide_eq_true (show YcL d p all from (.inr (.inr (.inr (.inr (.inr (.inr (.inr (.inr (.inr (.inr h9)))))))))))]
  rw [decide_eq_false h9,decide_eq_false (show ¬YcL d p all from fun h0=>by
   rcases h0 with h0 | h0 | h0 | h0 | h0 | h0 | h0 | h0 | h0 | h0 | h0
   ·exact x0 Zi
   ·exact x1 Zi
   ·exact x2 Zi
   ·exact x3 Zi
   ·exact x4 Zi
   ·exact x5 Zi
   ·exact Zf f6 h0
   ·exact Zf f7 h0
   ·exact Zf f8 h0
   ·exact Zf f9 h0
   exact h9 h0)]))
def Once {α:Type} (nm:α->Bs) (l:List α):Prop:=∀ (i j:Nat) (x y:α),i<j->l[i]?=some x->l[j]?=some y->nm x≠nm y
def MapH {α:Type} (nm:α->Bs) (V:α->Value->Prop) (m:List (Bs × Value)) (l:List α) (k:Nat):Prop:=∀ x,((∀ i y,i<k->l[i]?=some y->nm y≠x)->valS m x=none)/\∀ i y,i<k->l[i]?=some y->nm y=x->∃ v,valS m x=some v/\V y v
theorem MapH.zero {nm:α->Bs} {V:α->Value->Prop}:MapH nm V [] l 0:=fun x=>⟨fun _=>rfl,fun i y hi=>absurd hi Zi⟩
theorem MapH.add {nm:α->Bs} {V:α->Value->Prop} {y:α} (h:MapH nm V m l k) (ho:Once nm l) (hy:l[k]?=some y) (hv:V y v):MapH nm V (updS m (nm y) v) l (k+1):=fun x=>by
 constructor
 ·intro hn;have h1:nm y≠x:=hn k y Zi hy;rw [Ygm,if_neg (fun e=>h1 e.symm)];exact (h x).1 (fun i z hi hz=>hn i z Zi hz)
 intro i z hi hz he;by_cases hik:i=k
 ·subst hik;rw [hy] at hz;injection hz with hz;subst hz
  exact ⟨v,by rw [Ygm,if_pos he.symm],hv⟩
 have h2:=ho i k z y Zi hz hy;rw [Ygm,if_neg (fun e=>h2 (by rw [he,e]))];exact (h x).2 i z Zi hz he
theorem MapH.mono {nm:α->Bs} {V V':α->Value->Prop} (h:MapH nm V m l k) (hV:∀ y v,V y v->V' y v):MapH nm V' m l k:=fun x=>⟨(h x).1,fun i y hi hy he=>by obtain ⟨v,h1,h2⟩:=(h x).2 i y hi hy he;exact ⟨v,h1,hV y v h2⟩⟩
def VPred (fz:FZ) (y:Predicate) (v:Value):Prop:=∃ A n c,v=Zc A n c/\Sl paramL fz A n c y.params
def VFun (fz:FZ) (y:Function) (v:Value):Prop:=∃ A n c,v=.agg #[Zy y.name,Zc A n c,Zk y.lo,Zk y.hi]/\Sl paramL fz A n c y.params
def VObj (y:Param) (v:Value):Prop:=v=Zy y.typ
theorem Yk3 {nm:α->Bs} {x:Bs} (h:(l.find? fun p=>decide (nm p=x))=none):∀ i y,i<l.length->l[i]?=some y->nm y≠x:=fun i y _ hy he=>by
 have:=List.find?_eq_none.1 h y (Zm hy);simp [he] at this
theorem Yk2 {nm:α->Bs} {x:Bs} {y:α} (h:(l.find? fun p=>decide (nm p=x))=some y):∃ i,i<l.length/\l[i]?=some y/\nm y=x:=by
 obtain ⟨i,hi⟩:=List.getElem?_of_mem (List.mem_of_find?_eq_some h);exact ⟨i,(Zg hi).1,hi,by have:=List.find?_some h;simpa using this⟩
theorem prdR_of {l:List Predicate} (hg:fz g=some (mapS m)) (h:MapH (·.name) (VPred fz) m l l.length):PrdR fz (.map (some g)) l:=⟨g,m,rfl,hg,fun x=>⟨fun hn=>(h x).1 (Yk3 (nm:=fun p:Predicate=>p.name) hn),fun y hy=>by
 obtain ⟨i,h1,h2,h3⟩:=Yk2 (nm:=fun p:Predicate=>p.name) hy;obtain ⟨v,h4,A,n,c,rfl,h5⟩:=(h x).2 i y h1 h2 h3;exact ⟨A,n,c,h4,h5⟩⟩⟩
theorem funR_of {l:List Function} (hg:fz g=some (mapS m)) (h:MapH (·.name) (VFun fz) m l l.length):FunR fz (.map (some g)) l:=⟨g,m,rfl,hg,fun x=>⟨fun hn=>(h x).1 (Yk3 (nm:=fun p:Function=>p.name) hn),fun y hy=>by
 obtain ⟨i,h1,h2,h3⟩:=Yk2 (nm:=fun p:Function=>p.name) hy;obtain ⟨v,h4,A,n,c,rfl,h5⟩:=(h x).2 i y h1 h2 h3;exact ⟨A,n,c,h4,h5⟩⟩⟩
theorem tyF_none {l:List Param} {x:Bs} (h:tyF l x=none):∀ i y,i<l.length->l[i]?=some y->y.name≠x:=by
 induction l with
 | nil=>intro i y hi;simp at hi
 | cons p r ih=>
  rw [tyF] at h;by_cases h1:x=p.name
  ·rw [if_pos h1] at h;cases h
  rw [if_neg h1] at h;intro i y hi hy;cases i with
  | zero=>simp at hy;subst hy;exact fun e=>h1 e.symm
  | succ i=>exact ih h i y (by simpa using hi) (by simpa using hy)
theorem tyF_at {l:List Param} {x u:Bs} (h:tyF l x=some u):∃ i y,i<l.length/\l[i]?=some y/\y.name=x/\y.typ=u:=by
 induction l with
 | nil=>cases h
 | cons p r ih=>
  rw [tyF] at h;by_cases h1:x=p.name
  ·rw [if_pos h1] at h;injection h with h;exact ⟨0,p,by simp,rfl,h1.symm,h⟩
  rw [if_neg h1] at h;obtain ⟨i,y,h2,h3,h4,h5⟩:=ih h;exact ⟨i+1,y,by simpa using h2,by simpa using h3,h4,h5⟩
theorem objR_of {l:List Param} (hg:fz g=some (mapS m)) (h:MapH (·.name) VObj m l l.length):ObjR fz (.map (some g)) l:=⟨g,m,rfl,hg,fun x=>by
 cases hr:tyF l x with
 | none=>rw [(h x).1 (tyF_none hr)];rfl
 | some u=>
  obtain ⟨i,y,h1,h2,h3,h4⟩:=tyF_at hr;obtain ⟨v,h5,h6⟩:=(h x).2 i y h1 h2 h3;rw [h5,show v=Zy y.typ from h6,h4];rfl⟩
theorem Yqw {gc:Nat} {p:Problem} {vf:Value} {Aa:Option Addr} {na ca:Nat} (hD:DomainR fz d v1 v2 v3 v4 v5 v6) (hall:Sl paramL fz Aa na ca all)
 (op:Once (·.name) d.predicates) (of:Once (·.name) d.functions) (oo:Once (·.name) all):
 GFn prog 106 [Zp gc] fz [(gc,Zu #[Zy d.name,v1,v2,v3,v4,v5,v6,Zy p.name,Zy p.domain,u1,u2,u3,Zy p.goal.op,Zy p.goal.name,u4,u5,u6,u7,vf,.map none,.map none,.map none,Zc Aa na ca] 98)]
  (fun v fz' H'=>v=.tuple #[]/\fz=fz'/\∃ go gg gp m1 m2 m3,H'=[(go,mapS m3),(gg,mapS m2),(gp,mapS m1),(gc,Zu #[Zy d.name,v1,v2,v3,v4,v5,v6,Zy p.name,Zy p.domain,u1,u2,u3,Zy p.goal.op,Zy p.goal.name,u4,u5,u6,u7,vf,.map (some gp),.map (some gg),.map (some go),Zc Aa na ca] 98)]/\
   MapH (·.name) (VPred fz) m1 d.predicates d.predicates.length/\MapH (·.name) (VFun fz) m2 d.functions d.functions.length/\MapH (·.name) VObj m3 all all.length):=by
 obtain ⟨⟨A1,n1,b1,rfl,i1⟩,⟨A2,n2,b2,rfl,i2⟩,⟨A3,n3,b3,rfl,i3⟩,⟨A4,n4,b4,rfl,i4⟩,⟨A5,n5,b5,rfl,i5⟩,⟨A6,n6,b6,rfl,i6⟩⟩:=hD.sls;have l3:=i3.len;have l4:=i4.len;have la:=hall.len;have s3:=i3.short;have s4:=i4.short;have sa:=hall.short;refine zF Tryz.func106 Tryz.ntmps106 (fun w0=>?_);refine zV ?_;refine Ya (Ybp (fun gp=>?_));refine Ya (Ybp (fun gg=>?_));refine Ya (Ybp (fun go=>?_));refine zV ?_;refine Yi (fun q σ fz' H'=>∃ (k:Nat) (m:List (Bs × Value)),k<=n3/\q=n3 - k/\σ=[(26,Zk k),(25,Zk n3),(24,Zc A3 n3 b3),(0,Zp gc)]/\fz=fz'/\H'=[(go,mapS []),(gg,mapS []),(gp,mapS m),(gc,Zu #[Zy d.name,Zc A1 n1 b1,Zc A2 n2 b2,Zc A3 n3 b3,Zc A4 n4 b4,Zc A5 n5 b5,Zc A6 n6 b6,Zy p.name,Zy p.domain,u1,u2,u3,Zy p.goal.op,Zy p.goal.name,u4,u5,u6,u7,vf,.map (some gp),.map (some gg),.map (some go),Zc Aa na ca] 98)]/\MapH (·.name) (VPred fz) m d.predicates k) ⟨0,[],Z0 _,rfl,rfl,rfl,rfl,MapH.zero⟩ Zw Zb ?_;rintro q σ fz' H' ⟨k,m,hk,rfl,rfl,rfl,rfl,hm⟩;refine vC ?_ ?_<;>intro c24
 ·obtain ⟨x,hx⟩:=Ye (l:=d.predicates) (k:=k) Zi;refine vI i3 hx (fun p1 hp=>?_);refine zL hp ?_;intro cs hcs;obtain ⟨va,rfl,hR⟩:=Xo hcs;obtain ⟨Ap,np,cp,rfl,ip⟩:=hR.params;refine zWN ?_;intros;refine XF [_,_,_,_,_] ?_;refine zW ?_;refine pU ?_;refine Ch.hard0 (Wz (pre:=[_,_,_]) (Zr _) ?_);refine Ch.done ?_;exact vP (h:=by exact ⟨k+1,_,by omega,rfl,rfl,rfl,rfl,hm.add op hx ⟨_,_,_,rfl,ip⟩⟩)
 have hk3:k=d.predicates.length:=by omega
 subst hk3;obtain ⟨m1,rfl⟩:∃ z,z=m:=⟨_,rfl⟩;have hm1:=hm;refine zV ?_;refine Yi (fun q σ fz' H'=>∃ (k:Nat) (m:List (Bs × Value)),k<=n4/\q=n4 - k/\σ=[(45,Zk k),(44,Zk n4),(43,Zc A4 n4 b4),(0,Zp gc)]/\fz=fz'/\H'=[(go,mapS []),(gg,mapS m),(gp,mapS m1),(gc,Zu #[Zy d.name,Zc A1 n1 b1,Zc A2 n2 b2,Zc A3 n3 b3,Zc A4 n4 b4,Zc A5 n5 b5,Zc A6 n6 b6,Zy p.name,Zy p.domain,u1,u2,u3,Zy p.goal.op,Zy p.goal.name,u4,u5,u6,u7,vf,.map (some gp),.map (some gg),.map (some go),Zc Aa na ca] 98)]/\MapH (·.name) (VFun fz) m d.functions k) ⟨0,[],Z0 _,rfl,rfl,rfl,rfl,MapH.zero⟩ Zw Zb ?_;rintro q σ fz' H' ⟨k,m,hk,rfl,rfl,rfl,rfl,hm⟩;refine vC ?_ ?_<;>intro c43
 ·obtain ⟨x,hx⟩:=Ye (l:=d.functions) (k:=k) Zi;refine vI i4 hx (fun p1 hp=>?_);refine zL hp ?_;intro cs hcs;obtain ⟨va,rfl,hR⟩:=YW hcs;obtain ⟨Ap,np,cp,rfl,ip⟩:=hR.params;refine zWN ?_;intros;refine XF [_,_,_,_,_] ?_;refine zW ?_;refine pU ?_;refine Ch.hard0 (Wz (pre:=[_,_]) (Zr _) ?_);refine Ch.done ?_;exact vP (h:=by exact ⟨k+1,_,by omega,rfl,rfl,rfl,rfl,hm.add of hx ⟨_,_,_,rfl,ip⟩⟩)
 have hk4:k=d.functions.length:=by omega
 subst hk4;obtain ⟨m2,rfl⟩:∃ z,z=m:=⟨_,rfl⟩;have hm2:=hm;refine zV ?_;refine Yi (fun q σ fz' H'=>∃ (k:Nat) (m:List (Bs × Value)),k<=na/\q=na - k/\σ=[(62,Zk k),(61,Zk na),(60,Zc Aa na ca),(0,Zp gc)]/\fz=fz'/\H'=[(go,mapS m),(gg,mapS m2),(gp,mapS m1),(gc,Zu #[Zy d.name,Zc A1 n1 b1,Zc A2 n2 b2,Zc A3 n3 b3,Zc A4 n4 b4,Zc A5 n5 b5,Zc A6 n6 b6,Zy p.name,Zy p.domain,u1,u2,u3,Zy p.goal.op,Zy p.goal.name,u4,u5,u6,u7,vf,.map (some gp),.map (some gg),.map (some go),Zc Aa na ca] 98)]/\MapH (·.name) VObj m all k) ⟨0,[],Z0 _,rfl,rfl,rfl,rfl,MapH.zero⟩ Zw Zb ?_;rintro q σ fz' H' ⟨k,m,hk,rfl,rfl,rfl,rfl,hm⟩;refine vC ?_ ?_<;>intro c60
 ·obtain ⟨x,hx⟩:=Ye (l:=all) (k:=k) Zi;refine vI hall hx (fun p1 hp=>?_);refine zL hp ?_;intro cs hcs;obtain ⟨rfl,hR⟩:=YJ hcs;refine zWN ?_;intros;refine XF [_,_,_,_,_] ?_;refine zW ?_;refine pU ?_;refine Ch.hard0 (Wz (pre:=[_]) (Zr _) ?_);refine Ch.done ?_;exact vP (h:=by exact ⟨k+1,_,by omega,rfl,rfl,rfl,rfl,hm.add oo hx rfl⟩)
 have hk5:k=all.length:=by omega
 subst hk5;refine zV ?_;exact Ycc rfl Zb ⟨rfl,rfl,go,gg,gp,m1,m2,_,rfl,hm1,hm2,hm⟩
def Yaq (d:Domain) (p:Problem):List Param:=d.constants++p.objects
theorem Ypx {p:Problem} (hD:DomainR fz d v1 v2 v3 v4 v5 v6) (hP:ProblemR fz p u1 u2 u3 u4 u5 u6 u7) (hc:d.constants.length<=1000000000) (ho:p.objects.length<=1000000000):
 GFn prog 36 [ZD d v1 v2 v3 v4 v5 v6,ZP p u1 u2 u3 u4 u5 u6 u7] fz [] (fun v fz' H'=>Grow paramL 123 fz' v (d.constants.length+p.objects.length) H' (Yaq d p)):=by
 obtain ⟨⟨A1,n1,b1,rfl,i1⟩,⟨A2,n2,b2,rfl,i2⟩,⟨A3,n3,b3,rfl,i3⟩,⟨A4,n4,b4,rfl,i4⟩,⟨A5,n5,b5,rfl,i5⟩,⟨A6,n6,b6,rfl,i6⟩⟩:=hD.sls;obtain ⟨⟨B1,m1,d1,rfl,j1⟩,⟨B2,m2,d2,rfl,j2⟩,⟨B3,m3,d3,rfl,j3⟩⟩:=hP.sls;obtain ⟨⟨B4,m4,d4,rfl,_⟩,⟨B5,m5,d5,rfl,_⟩,⟨B6,m6,d6,rfl,_⟩,⟨B7,m7,d7,rfl,_⟩⟩:=hP.goal.sls;have l2:=i2.len;have l1:=j1.len;refine zF Tryz.func36 Tryz.ntmps36 (fun w0=>?_);refine pX (fun g2=>?_);refine pY (fun g3=>?_);refine zWO ?_;refine zWN ?_;refine XF [_,_] ?_;refine zW ?_;refine Yk ?_;refine zW ?_;refine pU ?_;refine Yj (Ym [] [_,_] Zz (Ybb i2 Zi) (fun v6 fz6 H6 hle6 hR6=>⟨⟨hle6,Zx⟩,?_⟩));obtain ⟨Av,cv,rfl,_,_⟩:=hR6.form;refine Yj (WZ T (Hr:=[_,_]) Zz Zz Zz Zz Zz Zz Zz Zz Zq hR6 WY (j1.mono hle6) (by show _*32<=_;omega) Zi (fun v7 H7 hO7=>⟨⟨hle6,Zx⟩,?_⟩));obtain ⟨Aw,cw,rfl,_,_⟩:=hO7.form;refine Ch.qk ⟨hle6,Zx⟩ (YV ?_);refine Ch.done ?_;refine zW ?_;exact Yel (H':=H7) (H2:=[_,_]) rfl rfl Zq (fun fz8 hle8 _=>(hO7.mono hle8).of rfl Zi)
def Wi (d:Domain) (all:List Param) (p:Problem):Nat->Bs × Int
 | 0=>match Yar d all with | some s=>(s,4) | none=>(⟨#[]⟩,0)
 | 1=>Xn (fun l=>if TwP [] (parN l) then 4 else 0) (Yby d [])
 | 2=>Xn (fun l=>if ExP d.types l then 0 else 3) (Yby d all)
 | 3=>YjG d
 | 4=>Xn (fun n=>n) (numsL d)
 | 5=>Xn idN (YaL d all)
 | 6=>WQ d all p
 | _=>Yh0 d all p
theorem step1_q {l:List Param} (h:Sl paramL fz A n c l):QFn prog 101 [Zc A n c] fz (errV (if TwP [] (parN l) then 4 else 0)):=by
 refine qF Tryz.func101 Tryz.ntmps101 (fun w0=>?_);refine vc (Ylx h (Sl.nil (A:=none) (c:=0))) ?_;exact vR (h:=rfl)
structure LenS (d:Domain) (all:List Param):Prop where
 p:d.predicates.length<=1000000
 f:d.functions.length<=1000000
 o:all.length<=1000000
 a:d.actions.length<=1000000
 u:d.duratives.length<=1000000
theorem stepA0_q {p:Problem} {vf vg vo:Value} (h:CkR fz v d p all vf vp vg vo) (hs:NmS d all) (hl:LenS d all):
 QFn prog 39 [v,Zk 0] fz (resV (Wi d all p 0)):=by
 have e0:(0:Int)=0:=rfl;have hr:repV (Yar d all)=resV (Wi d all p 0):=by unfold Wi;cases Yar d all<;>rfl
 refine qF Tryz.func39 Tryz.ntmps39 (fun w0=>?_);refine vG ?_;refine YF (names_q h hs ⟨hl.p,hl.f,hl.o,hl.a,hl.u⟩) ?_;rw [hr];exact vS (h:=rfl)
theorem stepA1_q {p:Problem} {vf vg vo:Value} (h:CkR fz v d p all vf vp vg vo) (hs:NmS d all):
 QFn prog 39 [v,Zk 1] fz (resV (Wi d all p 1)):=by
 have e0:¬(1:Int)=0:=by decide
 have e1:(1:Int)=1:=rfl;refine qF Tryz.func39 Tryz.ntmps39 (fun w0=>?_);refine vG ?_;refine YF (YpM (ob:=false) (first:=[]) (capt:=[]) (E:=fun l=>if TwP [] (parN l) then 4 else 0) h hs (fun hle hs'=>step1_q hs')) ?_;rw [show resV (Xn (fun l=>if TwP [] (parN l) then 4 else 0) (Yby d (if false=true then all else [])))=resV (Wi d all p 1) from rfl];exact vS (h:=rfl)
theorem stepA2_q {p:Problem} {vf vg vo:Value} (h:CkR fz v d p all vf vp vg vo) (hF:ForR fz vf d.types) (hs:NmS d all):
 QFn prog 39 [v,Zk 2] fz (resV (Wi d all p 2)):=by
 have e0:¬(2:Int)=0:=by decide
 have e1:¬(2:Int)=1:=by decide
 have e2:(2:Int)=2:=rfl;refine qF Tryz.func39 Tryz.ntmps39 (fun w0=>?_);refine vG ?_;refine Yao ?_;refine vG ?_;refine YF (YpM (ob:=true) (first:=[v]) (capt:=[]) (E:=fun l=>if ExP d.types l then 0 else 3) h hs (fun hle hs'=>Yma (h.mono hle) (hF.mono hle) hs')) ?_;rw [show resV (Xn (fun l=>if ExP d.types l then 0 else 3) (Yby d (if true=true then all else [])))=resV (Wi d all p 2) from rfl];exact vS (h:=rfl)
theorem stepA3_q {p:Problem} {vf vg vo:Value} (h:CkR fz v d p all vf vp vg vo) (hs:NmS d all):
 QFn prog 39 [v,Zk 3] fz (resV (Wi d all p 3)):=by
 have e0:¬(3:Int)=0:=by decide
 have e1:¬(3:Int)=1:=by decide
 have e2:¬(3:Int)=2:=by decide
 have e3:(3:Int)=3:=rfl;refine qF Tryz.func39 Tryz.ntmps39 (fun w0=>?_);refine vc (cknd_q h hs) ?_;rw [show resV (YjG d)=resV (Wi d all p 3) from rfl];exact vS (h:=rfl)
theorem stepA4_q {p:Problem} {vf vg vo:Value} (h:CkR fz v d p all vf vp vg vo) (hs:NmS d all) (hn:∀ f∈d.functions,Yca f.lo/\Yca f.hi):
 QFn prog 39 [v,Zk 4] fz (resV (Wi d all p 4)):=by
 have e0:¬(4:Int)=0:=by decide
 have e1:¬(4:Int)=1:=by decide
 have e2:¬(4:Int)=2:=by decide
 have e3:¬(4:Int)=3:=by decide
 have e4:(4:Int)=4:=rfl;refine qF Tryz.func39 Tryz.ntmps39 (fun w0=>?_);refine vc (Ypz h hs hn) ?_;rw [show resV (Xn (fun n=>n) (numsL d))=resV (Wi d all p 4) from rfl];exact vS (h:=rfl)
theorem stepA6_q {p:Problem} (h:CkG fz v d p all) (hs:NmS d all) (hpf:∀ f∈d.functions,f.params.length<=64) (hvs:∀ x∈p.values,x.fluent.name.size<=1000/\∀ a∈x.fluent.args,a.size<=1000) (hal:all.length<=1000000000):
 QFn prog 39 [v,Zk 6] fz (resV (Wi d all p 6)):=by
 have e0:¬(6:Int)=0:=by decide
 have e1:¬(6:Int)=1:=by decide
 have e2:¬(6:Int)=2:=by decide
 have e3:¬(6:Int)=3:=by decide
 have e4:¬(6:Int)=4:=by decide
 have e5:¬(6:Int)=5:=by decide
 have e6:(6:Int)=6:=rfl;refine qF Tryz.func39 Tryz.ntmps39 (fun w0=>?_);refine vc (Yoh h hs hpf hvs hal) ?_;rw [show resV (WQ d all p)=resV (Wi d all p 6) from rfl];exact vS (h:=rfl)
theorem stepA7_q {p:Problem} (h:CkG fz v d p all) (hW:fW p.goal<=1000000000):
 QFn prog 39 [v,Zk 7] fz (resV (Wi d all p 7)):=by
 have e0:¬(7:Int)=0:=by decide
 have e1:¬(7:Int)=1:=by decide
 have e2:¬(7:Int)=2:=by decide
 have e3:¬(7:Int)=3:=by decide
 have e4:¬(7:Int)=4:=by decide
 have e5:¬(7:Int)=5:=by decide
 have e6:¬(7:Int)=6:=by decide
 refine qF Tryz.func39 Tryz.ntmps39 (fun w0=>?_);refine vc (cgoal_q h hW) ?_;rw [show resV (Yh0 d all p)=resV (Wi d all p 7) from rfl];exact vS (h:=rfl)
def ckO (d:Domain) (p:Problem) (v1 v2 v3 v4 v5 v6 u1 u2 u3 u4 u5 u6 u7 vf vp vg vo va:Value):Obj:=Zu #[Zy d.name,v1,v2,v3,v4,v5,v6,Zy p.name,Zy p.domain,u1,u2,u3,Zy p.goal.op,Zy p.goal.name,u4,u5,u6,u7,vf,vp,vg,vo,va] 98
theorem stepA5_f {gc:Nat} {p:Problem} {vf:Value} {Aa:Option Addr} {na ca:Nat} (hD:DomainR fz d v1 v2 v3 v4 v5 v6) (hP:ProblemR fz p u1 u2 u3 u4 u5 u6 u7) (hall:Sl paramL fz Aa na ca all)
 (hF:ForR fz vf d.types) (hw:WFT d.types) (op:Once (·.name) d.predicates) (of:Once (·.name) d.functions) (oo:Once (·.name) all) (hs:NmS d all) (hWa:∀ a∈d.actions,actW a<=1000000000) (hWd:∀ a∈d.duratives,durW a<=1000000000):
 GFn prog 39 [Zp gc,Zk 5] fz [(gc,ckO d p v1 v2 v3 v4 v5 v6 u1 u2 u3 u4 u5 u6 u7 vf (.map none) (.map none) (.map none) (Zc Aa na ca))] (fun v fz' H'=>H'=[]/\v=resV (Wi d all p 5)/\CkG fz' (Zp gc) d p all):=by
 have e0:¬(5:Int)=0:=by decide
 have e1:¬(5:Int)=1:=by decide
 have e2:¬(5:Int)=2:=by decide
 have e3:¬(5:Int)=3:=by decide
 have e4:¬(5:Int)=4:=by decide
 have e5:(5:Int)=5:=rfl;unfold ckO;refine zF Tryz.func39 Tryz.ntmps39 (fun w0=>?_);refine zV ?_;refine Ya (Ym [_] [] Zz (Yqw hD hall op of oo) (fun v6' fz6 H6 hle6 hR6=>?_));obtain ⟨rfl,rfl,go,gg,gp,m1,m2,m3,rfl,h1,h2,h3⟩:=hR6;refine zVX ?_;refine Wp.freezeAll (H1:=[]) (Zr _) (fun fz8 hle8 hf8=>?_);have hG:CkG fz8 (Zp gc) d p all:=⟨⟨vf,.map (some gp),.map (some gg),.map (some go),⟨gc,v1,v2,v3,v4,v5,v6,u1,u2,u3,u4,u5,u6,u7,Aa,na,ca,rfl,hf8 (gc,_) (by simp),hD.mono hle8,hP.mono hle8,hall.mono hle8⟩,hF.mono hle8,
  prdR_of (hf8 (gp,mapS m1) (by simp)) (h1.mono fun y v hv=>by obtain ⟨A,n,c,e,h⟩:=hv;exact ⟨A,n,c,e,h.mono hle8⟩),
  funR_of (hf8 (gg,mapS m2) (by simp)) (h2.mono fun y v hv=>by obtain ⟨A,n,c,e,h⟩:=hv;exact ⟨A,n,c,e,h.mono hle8⟩),
  objR_of (hf8 (go,mapS m3) (by simp)) h3⟩,hw⟩
 refine vc (YqW hG hs hWa hWd) ?_;rw [show resV (Xn idN (YaL d all))=resV (Wi d all p 5) from rfl];exact vS (h:=by exact ⟨rfl,rfl,hG⟩)
end Go.Proofs.YtiligkgjcmokbaaGreatDoor
namespace Go.Proofs
open Go.Shelf
def Ygk:Go.Shelf.Ren:=⟨fun | 144=>271 | 143=>296 | 219=>321 | 217=>293 | 225=>328 | 224=>329 | 267=>330 | 266=>320 | 314=>331 | n=>n,fun | 9=>9 | 4=>4 | 3=>3 | 5=>5 | 46=>200 | 146=>348 | 51=>265 | n=>n,fun | 1=>0 | n=>n⟩
theorem Yll:Go.Proofs.Lays.n144 Tryz.prog Ygk:={
 mixed:=by kernel_rfl
 f143:=Tryz.func296.trans (congrArg some (by kernel_rfl))
 f144:=Tryz.func271.trans (congrArg some (by kernel_rfl))
 f217:=Tryz.func293.trans (congrArg some (by kernel_rfl))
 f219:=Tryz.func321.trans (congrArg some (by kernel_rfl))
 f224:=Tryz.func329.trans (congrArg some (by kernel_rfl))
 f225:=Tryz.func328.trans (congrArg some (by kernel_rfl))
 f266:=Tryz.func320.trans (congrArg some (by kernel_rfl))
 f267:=Tryz.func330.trans (congrArg some (by kernel_rfl))
 f314:=Tryz.func331.trans (congrArg some (by kernel_rfl))
 t3:=Tryz.underlying3
 a3:=Tryz.isAgg3
 z3:=Tryz.sizeOf3
 v3:=Tryz.zeroValue3
 t4:=Tryz.underlying4
 a4:=Tryz.isAgg4
 z4:=Tryz.sizeOf4
 v4:=Tryz.zeroValue4
 t5:=Tryz.underlying5
 a5:=Tryz.isAgg5
 z5:=Tryz.sizeOf5
 v5:=Tryz.zeroValue5
 t9:=Tryz.underlying9
 a9:=Tryz.isAgg9
 z9:=Tryz.sizeOf9
 v9:=Tryz.zeroValue9
 t46:=Tryz.underlying200
 a46:=Tryz.isAgg200
 z46:=Tryz.sizeOf200
 v46:=Tryz.zeroValue200
 t51:=Tryz.underlying265
 a51:=Tryz.isAgg265
 z51:=Tryz.sizeOf265
 v51:=Tryz.zeroValue265
 t146:=Tryz.underlying348
 a146:=Tryz.isAgg348
 z146:=Tryz.sizeOf348
 v146:=Tryz.zeroValue348
 g1:=by kernel_rfl}
open Go.RowKit Go.Lib in
/-- strings.Contains: "Contains reports whether substr is within s.": IT RETURNS 'Lib.contains s substr'; the world is as1 it was. (LAID: no walk: one application.) -/
theorem Tryz.strings_Contains (s sub:ByteArray) (m:Int) (w:World) (hs:s.size<4294967281) (hm:w.cell? ⟨0,0,none⟩=some (.int .i64 m)):
 Calls Tryz.prog 271 #[.string s,.string sub] w fun e w'=>e=.returned (.bool (Lib.contains s.data.toList sub.data.toList))/\w'=w:=Any.strings_Contains Yll s sub m w hs hm
end Go.Proofs
namespace Go.Lx
open Go.RowKit
variable {v:Value} {w w':World}
def fzOf (w:World):FZ:=fun g=>w.heap[g]?
theorem YnB {p:Addr} (h:w.cell? p=some v):YcG (fzOf w) p=some v:=by
 unfold World.cell? at h;unfold YcG fzOf;exact h
theorem hp_of (w:World):Hp (fzOf w) [] w:=⟨fun _ _ h=>h,by simp,by simp⟩
theorem below_of (h:Fr [] w w'):Below w.heap.size w w':=⟨h.os,h.tape,h.output,h.size,fun k hk=>h.block k hk (by simp)⟩
end Go.Lx
namespace Go.Lx
open Go
variable {j:Nat}
theorem YoQ {s:List UInt8} (h:(32:UInt8) ∉ s) (r:List UInt8):(s++32::r).takeWhile (fun b=>!(b==(32:UInt8)))=s:=by
 induction s with
 | nil=>rfl
 | cons a s ih=>
  have h1:a≠32:=fun e=>h (by simp [e])
  rw [List.cons_append,List.takeWhile_cons,if_pos (by simpa using h1),ih (fun e=>h (by simp [e]))]
theorem occ_word {R s:List UInt8} (h:(32:UInt8) ∉ s) (ho:Go.Lib.occAt R ([32]++s++ [32]) j=true):s=((R.drop j).drop 1).takeWhile (fun b=>!(b==(32:UInt8))):=by
 unfold Go.Lib.occAt at ho;obtain ⟨r,hr⟩:=List.isPrefixOf_iff_prefix.1 ho;rw [<- hr];have:((([32]:List UInt8)++s++ [32])++r).drop 1=s++32::r:=by simp
 rw [this,YoQ h]
theorem Ymj {R sub:List UInt8} (h:∀ j,j<=R.length->Go.Lib.occAt R sub j=false):Go.Lib.contains R sub=false:=by
 unfold Go.Lib.contains;rw [Go.Lib.index_none h];rfl
def resT:List UInt8:=[32,97,110,100,32,111,114,32,110,111,116,32,105,109,112,108,121,32,102,111,114,97,108,108,32,101,120,105,115,116,115,32,119,104,101,110,32,97,115,115,105,103,110,32,105,110,99,114,101,97,115,101,32,100,101,99,114,101,97,115,101,32,111,98,106,101,99,116,32]
end Go.Lx
namespace Go.Proofs.YtiligkgjcmokbaaGreatDoor
variable {s:Bs} {fz fz':FZ} {i k c n:Nat} {m:List (Bs × Value)} {A:Option Addr}
def resB:Bs:=⟨#[32,97,110,100,32,111,114,32,110,111,116,32,105,109,112,108,121,32,102,111,114,97,108,108,32,101,120,105,115,116,115,32,119,104,101,110,32,97,115,115,105,103,110,32,105,110,99,114,101,97,115,101,32,100,101,99,114,101,97,115,101,32,111,98,106,101,99,116,32]⟩
def YmQ:List (List UInt8):=[]::YbU.map (·.data.toList)
theorem res_all:(List.range 70).all (fun j=>!((resT.drop j).headD 0==32) || YmQ.contains (((resT.drop j).drop 1).takeWhile (fun b=>!(b==(32:UInt8)))))=true:=by kernel_rfl
theorem Yil (h:Xc s):(32:UInt8) ∉ s.data.toList:=by
 intro h0;obtain ⟨i,hi⟩:=List.getElem?_of_mem h0;have hlt:=(Zg hi).1;have hlt2:i<s.size:=by rw [Array.length_toList] at hlt;exact hlt
 have h1:=h.1 i hlt2;have h2:Yb8 s i=32:=by
  unfold Yb8;rw [getElem?_pos s i hlt2];have h3:s[i]=32:=by
   have:=(Zg hi).2;rw [Array.getElem_toList] at this;exact this
  rw [h3];rfl
 unfold Ycb LetP DigP at h1;rw [h2] at h1;omega
theorem res_no (h:Xc s):Lib.contains resT ([32]++s.data.toList++ [32])=false:=by
 refine Ymj fun j hj=>?_
 cases ho:Lib.occAt resT ([32]++s.data.toList++ [32]) j with
 | false=>rfl
 | true=>
  exfalso;have h1:=occ_word (Yil h) ho;have h2:(resT.drop j).headD 0=32:=by
   unfold Lib.occAt at ho;obtain ⟨r,hr⟩:=List.isPrefixOf_iff_prefix.1 ho;rw [<- hr];rfl
  have h3:=List.all_eq_true.1 res_all j (by rw [List.mem_range];exact Nat.lt_of_le_of_lt hj Zh);rw [h2,<- h1] at h3;simp only [beq_self_eq_true,Bool.not_true,Bool.false_or] at h3;have h4:s.data.toList∈YmQ:=by simpa using h3
  rcases List.mem_cons.1 h4 with h5 | h5
  ·refine h.2.1 (ByteArray.ext ?_);have:s.data=s.data.toList.toArray:=by simp
   rw [this,h5];rfl
  obtain ⟨y,hy,he⟩:=List.mem_map.1 h5;refine h.2.2.2 ?_;have:y=s:=ByteArray.ext (by
   have e1:y.data=y.data.toList.toArray:=by simp
   have e2:s.data=s.data.toList.toArray:=by simp
   rw [e1,e2,he])
  rw [<- this];exact hy
theorem YpY:∀ {l:List UInt8},(32:UInt8) ∉ l->Lib.indexByte l 32= -1
 | [],_=>rfl
 | a::l,h=>by
  have h1:(a==(32:UInt8))=false:=by simpa using fun e:a=32=>h (by simp [e])
  rw [Lib.indexByte,h1,YpY (fun e=>h (by simp [e]))];rfl
theorem blank_no (h:Xc s):Lib.contains s.data.toList [32]=false:=by
 unfold Lib.contains;rw [Lib.index_one,YpY (Yil h)];rfl
def MaxF (fz:FZ):Prop:=∃ m,YcG fz ⟨0,0,none⟩=some (Zk m)
theorem MaxF.mono (hle:Le fz fz') (h:MaxF fz):MaxF fz':=by obtain ⟨m,hm⟩:=h;exact ⟨m,Yiv hle hm⟩
theorem Yit {u:Bs} (hM:MaxF fz) (hs:s.size<=4000000000):QFn prog 271 [Zy s,Zy u] fz (Zo (Lib.contains s.data.toList u.data.toList)):=by
 obtain ⟨m,hm⟩:=hM;unfold QFn;refine ⟨⟨_,Tryz.func271,by decide,by decide⟩,fun w hw=>?_⟩;refine (Tryz.strings_Contains s u m w Zi (hw.cell hm)).mono fun e w' ⟨he,hb⟩=>⟨he,?_⟩
 subst hb;exact Fr.refl _ _
theorem tword_q (hM:MaxF fz) (h:Xc s):QFn prog 223 [Zy s] fz (Zo false):=by
 have hz:=h.2.2.1;have hne:¬s=⟨#[]⟩:=h.2.1;refine qF Tryz.func223 Tryz.ntmps223 (fun w0=>?_);refine wG ?_;refine YF (Yit (s:=s) (u:=⟨#[32]⟩) hM Zi) ?_;rw [show (⟨#[32]⟩:Bs).data.toList=[32] from rfl,blank_no h];refine wG ?_;refine Wa Zz Zz (by show 1+_<=_;omega) ?_;refine wG ?_;refine Wa Zz Zz (by rw [ByteArray.size_append];show 1+_+1<=_;omega) ?_;refine wG ?_;refine YF (Yit (s:=resB) (u:=(⟨#[32]⟩++s)++⟨#[32]⟩) hM Zh) ?_;rw [show resB.data.toList=resT from rfl,show ((⟨#[32]⟩++s)++⟨#[32]⟩:Bs).data.toList=[32]++s.data.toList++ [32] from by simp [ByteArray.data_append],res_no h];exact wR (h:=rfl)
theorem YmL {b:UInt8}:QFn prog 222 [.int .u8 b.toNat] fz (Zo (decide (LetP (b.toNat:Int)))):=by
 refine qF Tryz.func222 Tryz.ntmps222 (fun w0=>?_);refine wC ?_ ?_<;>intro x1
 ·refine wC ?_ ?_<;>intro x2
  ·exact wR (h:=by exact (Yu ⟨x1,x2⟩))
  exact wR (h:=by exact Yl (fun h=>x2 h.2))
 exact wR (h:=by exact Yl (fun h=>x1 h.1))
theorem YoK (hM:MaxF fz) (h:Xc s):QFn prog 161 [Zy s] fz (Zo true):=by
 have hz:=h.2.2.1;have hp:0<s.size:=Nat.pos_of_ne_zero (fun h0=>h.2.1 (ByteArray.ext (Array.eq_empty_of_size_eq_zero h0)));obtain ⟨b0,hb0,hb02⟩:=WC (s:=s) (k:=0) hp;have hlet:LetP (b0.toNat:Int):=by
  have:=h.1 0 hp;unfold Ycb at this;rw [hb02] at this;rcases this with h1 | ⟨h1,_⟩
  ·exact h1
  exact absurd rfl h1
 refine qF Tryz.func161 Tryz.ntmps161 (fun w0=>?_);refine wC ?_ ?_<;>intro x1
 ·omega
 refine wC ?_ ?_<;>intro x2
 ·omega
 refine wG ?_;refine Xq ?_ (hb:=by exact hb0);refine wc YmL ?_;rw [decide_eq_true hlet];refine wc (tword_q hM h) ?_;refine zW ?_;refine Yav (s.size) (fun k=>[(25,Zk k),(24,Zk s.size),(0,Zy s)]) [] (fun k=>True) trivial ?_;intro k hk hh;refine wC (fun hlt=>?_) (fun hge=>?_)
 ·refine zW ?_;obtain ⟨b,hb,hb2⟩:=WC (s:=s) (k:=k) Zi;have hN:=h.1 k Zi;unfold Ycb at hN;rw [hb2] at hN
  ((refine zG ?_);refine Xq ?_ (hb:=by rw [Int.toNat_natCast];exact hb));refine wb YmL (fun f1=>?_) (fun f1=>?_)
  ·exact wM (h:=by exact trivial)
  have h9:DigP (b.toNat:Int)\/(b.toNat:Int)=45\/(b.toNat:Int)=95:=by
   rcases hN with h1 | h1
   ·exact absurd h1 (Zf f1)
   exact h1.2
  unfold DigP at h9;refine wC ?_ ?_<;>intro x3
  ·refine wC ?_ ?_<;>intro x4
   ·omega
   exact wM (h:=by exact trivial)
  refine wC ?_ ?_<;>intro x5
  ·refine wC ?_ ?_<;>intro x4
   ·refine wC ?_ ?_<;>intro x6
    ·omega
    exact wM (h:=by exact trivial)
   omega
  exact wM (h:=by exact trivial)
 exact wR (h:=rfl)
def newM (l:List Param):Int:=
 if TwP [] (parN l) then 4 else if ¬(∀ p∈l,HasT l p.typ) then 3 else if ∃ p∈l,cycM l p.name l.length p.name=true then 21 else 0
def itU (l:List Param):Nat->Bs->Bs
 | 0,t=>t
 | n+1,t=>itU l n (upT l t)
theorem Yje {l:List Param}:∀ (i k:Nat) (t:Bs),itU l (i+k) t=itU l k (itU l i t)
 | 0,k,t=>by rw [Nat.zero_add];rfl
 | i+1,k,t=>by rw [show i+1+k=(i+k)+1 from by omega,itU,itU,Yje i k]
theorem cyc_no {l:List Param} {t:Bs}:∀ (n:Nat) {a:Bs},cycM l t n a=false->∀ j,1<=j->j<=n->(∀ i,1<=i->i<j->itU l i a≠WK)->itU l j a≠t
 | 0,_,_,j,h1,h2,_=>absurd h1 Zi
 | n+1,a,hc,j,h1,h2,hh=>by
  rw [cycM] at hc;by_cases hu:upT l a=t
  ·rw [if_pos hu] at hc;cases hc
  rw [if_neg hu] at hc;obtain ⟨j,rfl⟩:∃ i,j=i+1:=⟨j - 1,by omega⟩;cases j with
  | zero=>exact hu
  | succ j=>
   have h3:upT l a≠WK:=hh 1 Zi Zi;rw [if_neg h3] at hc;exact cyc_no n hc (j+1) Zi Zi (fun i hi hj=>hh (i+1) Zi Zi)
theorem pigeon {α:Type} [DecidableEq α]:∀ (n:Nat) (L:List α) (f:Nat->α),L.length=n->(∀ i,i<=n->f i∈L)->∃ i j,i<j/\j<=n/\f i=f j
 | 0,L,f,hL,hf=>by
  have:=hf 0 Zi;rw [List.eq_nil_of_length_eq_zero hL] at this;cases this
 | n+1,L,f,hL,hf=>by
  by_cases he:∃ i,i<=n/\f i=f (n+1)
  ·obtain ⟨i,hi,he⟩:=he;exact ⟨i,n+1,by omega,by omega,he⟩
  obtain ⟨i,j,h1,h2,h3⟩:=pigeon n (L.erase (f (n+1))) f (by rw [List.length_erase_of_mem (hf (n+1) Zi),hL];rfl)
   (fun i hi=>(List.mem_erase_of_ne (fun e=>he ⟨i,hi,e⟩)).2 (hf i Zi))
  exact ⟨i,j,h1,by omega,h3⟩
theorem upN_of {l:List Param}:∀ {n:Nat} {t:Bs},itU l n t=WK->(∀ i,i<n->itU l i t≠WK)->upN l n t
 | 0,_,h,_=>h
 | n+1,t,h,hh=>⟨hh 0 Zi,upN_of (n:=n) h (fun i hi=>hh (i+1) Zi)⟩
theorem Ygn {l:List Param} {t:Bs}:(tyF l t).isSome=true↔t∈parN l:=by
 induction l with
 | nil=>simp [tyF,parN]
 | cons p r ih=>
  rw [tyF];by_cases h:t=p.name
  ·rw [if_pos h];simp [parN,h]
  rw [if_neg h,ih];have:parN (p::r)=p.name::parN r:=rfl;rw [this,List.mem_cons];exact ⟨.inr,fun h1=>h1.elim (fun h2=>absurd h2 h) id⟩
theorem tyF_in:∀ {l:List Param} {t u:Bs},tyF l t=some u->∃ p∈l,p.typ=u
 | p::r,t,u,h=>by
  rw [tyF] at h;by_cases h1:t=p.name
  ·rw [if_pos h1] at h;injection h with h;exact ⟨p,by simp,h⟩
  rw [if_neg h1] at h;obtain ⟨q,hq,e⟩:=tyF_in h;exact ⟨q,by simp [hq],e⟩
theorem hasT_up {l:List Param} (h3:∀ p∈l,HasT l p.typ) {t:Bs} (h:HasT l t) (ho:t≠WK):HasT l (upT l t):=by
 rcases h with h | h
 ·exact absurd h ho
 obtain ⟨u,hu⟩:=Option.isSome_iff_exists.1 h;obtain ⟨p,hp,e⟩:=tyF_in hu;have:upT l t=p.typ:=by unfold upT;rw [hu,e];rfl
 rw [this];exact h3 p hp
theorem itU_succ {l:List Param} (n:Nat) (t:Bs):itU l (n+1) t=upT l (itU l n t):=by rw [Yje n 1 t];rfl
theorem wft_of {l:List Param} (hs:∀ p∈l,Short p.typ) (h3:∀ p∈l,HasT l p.typ) (h4:∀ p∈l,cycM l p.name l.length p.name=false) (hl:l.length<=64):WFT l:=by
 refine ⟨hs,fun t ht=>Classical.byContradiction fun hno=>?_⟩;have hob:∀ i,i<=l.length->itU l i t≠WK:=by
  intro i
  induction i using Nat.strongRecOn with
  | _ i ih=>
   intro hi he;exact hno ⟨i,by omega,upN_of he (fun k hk=>ih k hk Zi)⟩
 have hHas:∀ i,i<=l.length->HasT l (itU l i t):=by
  intro i
  induction i with
  | zero=>intro _;exact ht
  | succ i ih=>intro hi;rw [itU_succ];exact hasT_up h3 (ih Zi) (hob i Zi)
 have hmem:∀ i,i<=l.length->itU l i t∈parN l:=fun i hi=>by
  rcases hHas i hi with h | h
  ·exact absurd h (hob i hi)
  exact Ygn.1 h
 obtain ⟨i,j,hij,hj,he⟩:=pigeon l.length (parN l) (fun i=>itU l i t) Yi4 hmem;obtain ⟨p,hp,hpe⟩:=List.mem_map.1 (hmem i Zi);have hc:=h4 p hp;rw [hpe] at hc;refine cyc_no l.length hc (j - i) Zi Zi (fun k h1 h2=>?_) ?_
 ·rw [<- Yje];exact hob (i+k) Zi
 rw [<- Yje,show i+(j - i)=j from by omega];exact he.symm
theorem newM_wft {l:List Param} (h:newM l=0) (hs:∀ p∈l,Short p.typ) (hl:l.length<=64):WFT l:=by
 unfold newM at h;by_cases h1:TwP [] (parN l)
 ·rw [if_pos h1] at h;cases h
 rw [if_neg h1] at h;by_cases h2:∀ p∈l,HasT l p.typ
 ·rw [if_neg (by simpa using h2)] at h;by_cases h3:∃ p∈l,cycM l p.name l.length p.name=true
  ·rw [if_pos h3] at h;cases h
  exact wft_of hs h2 (fun p hp=>by
   cases hc:cycM l p.name l.length p.name with
   | false=>rfl
   | true=>exact absurd ⟨p,hp,hc⟩ h3) hl
 rw [if_pos h2] at h;cases h
theorem fndS_no {x:Bs} (h:(fndS m x i).isSome=false):fndS m x i=none:=by cases hf:fndS m x i with | none=>rfl | some p=>rw [hf] at h;cases h
theorem tyM_add {l:List Param} {x:Param} (hx:l[k]?=some x) (h:x.name ∉ parN (l.take k)):updS (tyM (l.take k)) x.name (Zy x.typ)=tyM (l.take (k+1)):=by
 have h1:fndS (tyM (l.take k)) x.name 0=none:=fndS_no (by
  rw [YoH];cases hc:(tyF (l.take k) x.name).isSome with
  | false=>rfl
  | true=>exact absurd (Ygn.1 hc) h)
 have h2:l.take (k+1)=l.take k++ [x]:=by rw [List.take_add_one,hx];rfl
 rw [updS,h1,h2];unfold tyM;rw [List.map_append];rfl
theorem tnew_q {l:List Param} (hM:MaxF fz) (h1:Sl paramL fz A n c l) (hl:l.length<=64) (hok:∀ p∈l,Xc p.name/\Yei p.typ):
 GFn prog 98 [Zc A n c] fz [] (fun v fz' H'=>H'=[]/\∃ (vf:Value) (z:Int),v=.tuple #[vf,Zk z,errV (newM l)]/\(newM l=0->ForR fz' vf l)):=by
 have ln:=h1.len;refine zF Tryz.func98 Tryz.ntmps98 (fun w0=>?_);refine wC ?_ ?_<;>intro c0
 ·omega
 refine zW ?_;refine Yav n (fun k=>[(22,Zk k),(21,Zk n),(20,Zc A n c),(0,Zc A n c)]) [] (fun k=>True) trivial ?_;intro k hk hh;refine wC ?_ ?_<;>intro c1
 ·obtain ⟨x,hx⟩:=Ye (l:=l) (k:=k) Zi;obtain ⟨hn,ht⟩:=hok x (Zm hx);refine wI h1 hx (fun p1 hp=>?_);refine zL hp ?_;intro cs hcs;obtain ⟨rfl,hR⟩:=YJ hcs;refine zW ?_;intros;refine zc (YoK hM hn) ?_;refine wC ?_ ?_<;>intro x1
  ·have hn2:Xc x.typ:=ht.elim id (fun h=>absurd h x1);refine wc (YoK hM hn2) ?_;exact wM (h:=by exact trivial)
  exact wM (h:=by exact trivial)
 refine zW ?_;refine Ya (Ybp (fun gm=>?_));refine zW ?_;intros;rename_i gf;refine loopJ n (fun k=>[(50,Zk k),(49,Zk n),(48,Zc A n c),(7,Zp gf),(0,Zc A n c)]) (fun k=>[(gf,Zu #[.map (some gm)] 220),(gm,mapS (tyM (l.take k)))]) (fun k=>(∀ i,i<k->∀ x,(parN l)[i]?=some x->x ∉ []++(parN l).take i)) (fun i hi=>absurd hi Zi) ?_;intro k hk hh;refine wC ?_ ?_<;>intro c2
 ·obtain ⟨x,hx⟩:=Ye (l:=l) (k:=k) Zi;have hxn:=Ym2 hx;refine wI h1 hx (fun p1 hp=>?_);refine zL hp ?_;intro cs hcs;obtain ⟨rfl,hR⟩:=YJ hcs;refine zW ?_;intros;refine zG ?_;refine Ygc 2 YoH ?_ (hv:=YiE);cases hb:(tyF (l.take k) x.name).isSome with
  | true=>
   have hin:=Ygn.1 hb;have e1:newM l=4:=if_pos ⟨k,x.name,hxn,by rw [<- YcB];exact hin⟩;refine zW ?_;refine retN T (vs:=[_,_,_]) ⟨rfl,rfl,rfl,trivial⟩ Zb ⟨rfl,.pointer none,k,by rw [e1];rfl,fun h=>by rw [e1] at h;cases h⟩
  | false=>
   have hnin:x.name ∉ parN (l.take k):=fun h=>by rw [Ygn.2 h] at hb;cases hb
   refine zWN ?_;refine XF [_,_,_] ?_;refine zW ?_;refine pU ?_;refine Ch.hard0 (Wz (pre:=[_,_]) (Zr _) ?_);refine Ch.done ?_;rw [tyM_add hx hnin];exact wM (h:=by exact Yb9 (p:=fun i x=>x ∉ []++(parN l).take i) hh hxn (by rw [<- YcB];exact hnin))
 have hno:¬TwP [] (parN l):=YmK hh (by rw [Yi4];omega);rw [Zl (show l.length<=k by omega)];refine zWX ?_;refine Wp.freezeAll (H1:=[]) (Zr _) (fun fz2 hl2 hf2=>?_);have hF:ForR fz2 (Zp gf) l:=⟨gf,gm,rfl,hf2 (gf,Zu #[.map (some gm)] 220) (by simp),hf2 (gm,mapS (tyM l)) (by simp)⟩;have h2:=h1.mono hl2;refine zW ?_;refine Yi (fun q σ fz' H'=>∃ k:Nat,k<=n/\q=n - k/\σ=[(79,Zk k),(78,Zk n),(77,Zc A n c),(7,Zp gf),(0,Zc A n c)]/\fz2=fz'/\H'=[]/\(∀ i,i<k->∀ x,l[i]?=some x->HasT l x.typ)) ⟨0,Z0 _,rfl,rfl,rfl,rfl,fun i hi=>absurd hi Zi⟩ Zw Zb ?_;rintro q σ fz' H' ⟨k,hk,rfl,rfl,rfl,rfl,hh3⟩;refine wC ?_ ?_<;>intro c3
 ·obtain ⟨x,hx⟩:=Ye (l:=l) (k:=k) Zi;refine wI h2 hx (fun p1 hp=>?_);refine zL hp ?_;intro cs hcs;obtain ⟨rfl,hR⟩:=YJ hcs;refine zW ?_;intros;refine zb (has_q hF) (fun f1=>?_) (fun f1=>?_)
  ·exact wM (h:=by exact YL (p:=fun x:Param=>HasT l x.typ) hh3 hx (Zt f1))
  have e1:newM l=3:=by rw [newM,if_neg hno,if_pos (fun h=>Zf f1 (h x (Zm hx)))]
  refine zW ?_;refine retN T (vs:=[_,_,_]) ⟨rfl,rfl,rfl,trivial⟩ Zb ⟨rfl,.pointer none,k,by rw [e1];rfl,fun h=>by rw [e1] at h;cases h⟩
 have hall:=Xu (p:=fun x:Param=>HasT l x.typ) hh3 Zi;refine zW ?_;refine Yi (fun q σ fz' H'=>∃ k:Nat,k<=n/\q=n - k/\σ=[(94,Zk k),(93,Zk n),(92,Zc A n c),(7,Zp gf)]/\fz2=fz'/\H'=[]/\(∀ i,i<k->∀ x,l[i]?=some x->cycM l x.name l.length x.name=false)) ⟨0,Z0 _,rfl,rfl,rfl,rfl,fun i hi=>absurd hi Zi⟩ Zw Zb ?_;rintro q σ fz' H' ⟨k,hk,rfl,rfl,rfl,rfl,hh4⟩;refine wC ?_ ?_<;>intro c4
 ·obtain ⟨x,hx⟩:=Ye (l:=l) (k:=k) Zi;refine wI h2 hx (fun p1 hp=>?_);refine zL hp ?_;intro cs hcs;obtain ⟨rfl,hR⟩:=YJ hcs;refine zW ?_;intros
  ((refine zG ?_);refine YF (cycle_q hF Zi) ?_);cases hcy:cycM l x.name l.length x.name with
  | true=>
   have e1:newM l=21:=by rw [newM,if_neg hno,if_neg (by simpa using hall),if_pos ⟨x,Zm hx,hcy⟩]
   refine zW ?_;refine retN T (vs:=[_,_,_]) ⟨rfl,rfl,rfl,trivial⟩ Zb ⟨rfl,.pointer none,k,by rw [e1];rfl,fun h=>by rw [e1] at h;cases h⟩
  | false=>
   exact wM (h:=by exact YL (p:=fun x:Param=>cycM l x.name l.length x.name=false) hh4 hx hcy)
 have hcn:=Xu (p:=fun x:Param=>cycM l x.name l.length x.name=false) hh4 Zi;have e1:newM l=0:=by
  rw [newM,if_neg hno,if_neg (by simpa using hall),if_neg];rintro ⟨x,hx,h9⟩;rw [hcn x hx] at h9;cases h9
 refine zW ?_;refine retN T (vs:=[_,_,_]) ⟨rfl,rfl,rfl,trivial⟩ Zb ⟨rfl,_,0,by rw [e1];rfl,fun _=>hF⟩
end Go.Proofs.YtiligkgjcmokbaaGreatDoor
namespace Go.Proofs.YtiligkgjcmokbaaGreatDoor
theorem YmC {x k:Sexpr} (h:XVal x) (hk:k∈x.kids):XVal k:=by
 refine ⟨(Xe.1 h.1).2 k hk,?_,?_⟩
 ·have h1:=h.2.1;rw [Ycs] at h1;have:=Wq.1 (Zs _) k hk;omega
 have h1:=h.2.2;rw [Xj] at h1;have:=Wg hk;omega
theorem YgB {l:List Sexpr} {k:Sexpr} (h:XVal (YM l)) (hk:k∈l):XVal k:=YmC h hk
theorem num_ok {n:Int} (h:XVal (numE n)):Yca n:=by
 have:=(Xe.1 h.1).1;rcases this with ⟨h1,_⟩ | ⟨_,_,_,h1⟩ | ⟨h1,_⟩
 ·exact absurd (show (2:Int)=1 from h1) Zh
 ·exact h1
 exact absurd (show (2:Int)=3 from h1) Zh
def GrdA (a:Atom):Prop:=Xc a.name/\∀ s∈a.args,Xc s
end Go.Proofs.YtiligkgjcmokbaaGreatDoor
namespace Go.Proofs.YtiligkgjcmokbaaGreatDoor
variable {b:Bool} {fz:FZ} {g c n:Nat} {s:Bs} {A:Option Addr} {va ve vk vp v1 v2 v3 v4 v5 v6 v7:Value}
def wrO (b:Bool):Obj:=Zu #[Zo b] 144
def MkR (g:Nat) (b:Bool) (P:Prop) (x:Sexpr) (fz:FZ) (v:Value) (fz':FZ) (H':HP):Prop:=Le fz fz'/\∃ (b':Bool) (y:Sexpr),H'=[(g,wrO b')]/\SxIs fz' v y/\(b'=false↔b=false/\P)/\(b'=false->y=x)
theorem YcM (hs:Short s):GFn prog 74 [Zp g,Zy s] fz [(g,wrO b)] (fun v fz' H'=>Le fz fz'/\v=sxV 1 0 s Zn/\∃ b':Bool,H'=[(g,wrO b')]/\(b'=false↔b=false/\Xc s)):=by
 unfold wrO;refine zF Tryz.func74 Tryz.ntmps74 (fun w0=>?_);cases b
 ·refine zW ?_;intros;refine zb (WN hs) (fun f1=>?_) (fun f1=>?_)
  ·refine wc (YaP (s:=s)) ?_;unfold sxV;refine zW ?_;refine YaX (i:=0) (H':=[(g,wrO false)]) rfl Zb ?_;exact ⟨Zd,rfl,false,rfl,iff_of_true rfl ⟨rfl,Zt f1⟩⟩
  refine wc (YaP (s:=s)) ?_;unfold sxV;refine zW ?_;refine YaX (i:=0) (H':=[(g,wrO true)]) rfl Zb ?_;exact ⟨Zd,rfl,true,rfl,iff_of_false (by simp) (fun h=>Zf f1 h.2)⟩
 refine zW ?_;intros;refine zc (YaP (s:=s)) ?_;unfold sxV;refine zW ?_;refine YaX (i:=0) (H':=[(g,wrO true)]) rfl Zb ?_;exact ⟨Zd,rfl,true,rfl,iff_of_false (by simp) (fun h=>by cases h.1)⟩
def Yag (vars:Bool) (p:Param):Prop:=(if vars=true then VarP p.name else Xc p.name)/\Yei p.typ
theorem YaW {vars:Bool} {l:List Param} (h1:Sl paramL fz A n c l) (hn:n<=1000000000):
 GFn prog 76 [Zp g,Zc A n c,Zo vars] fz [(g,wrO b)] (fun v fz' H'=>Le fz fz'/\(∃ B cc,v=Zc B (3*n) cc/\Sl YE fz' B (3*n) cc ((l.flatMap YaS).map Yp))/\∃ b':Bool,H'=[(g,wrO b')]/\(b'=false↔b=false/\∀ p∈l,Yag vars p)):=by
 have l1:=h1.len;refine zF Tryz.func76 Tryz.ntmps76 (fun w0=>?_);refine zW ?_;refine Yi (fun q σ fz' H'=>∃ (k:Nat) (b':Bool),k<=n/\q=n - k/\σ=[(12,Zk k),(11,Zk n),(10,Zc A n c),(2,Zo vars),(1,Zc A n c),(0,Zp g)]/\fz=fz'/\H'=[(g,wrO b')]/\(b'=false↔b=false/\∀ i,i<k->∀ p,l[i]?=some p->Yag vars p)) ⟨0,b,Z0 _,rfl,rfl,rfl,rfl,⟨fun h=>⟨h,fun i hi=>absurd hi Zi⟩,fun h=>h.1⟩⟩ Zw Zb ?_;rintro q σ fz' H' ⟨k,b',hk,rfl,rfl,rfl,rfl,hb⟩;refine wC ?_ ?_<;>intro c1
 ·obtain ⟨x,hx⟩:=Ye (l:=l) (k:=k) Zi;have step:∀ b2:Bool,(b2=false↔b'=false/\Yag vars x)->(b2=false↔b=false/\∀ i,i<k+1->∀ p,l[i]?=some p->Yag vars p):=fun b2 h=>by
   rw [h,hb];exact ⟨fun h0=>⟨h0.1.1,YL h0.1.2 hx h0.2⟩,fun h0=>⟨⟨h0.1,fun i hi=>h0.2 i Zi⟩,h0.2 k Zi x hx⟩⟩
  refine wI h1 hx (fun p hp=>?_);refine zL hp ?_;intro cs hcs;obtain ⟨rfl,hR⟩:=YJ hcs;cases vars
  ·refine zW ?_;intros;rename_i g5;refine zb (WN hR.name) (fun f1=>?_) (fun f1=>?_)
   ·refine zW ?_;cases b'
    ·refine wC ?_ ?_<;>intro e1
     ·refine wb (WN hR.typ) (fun f2=>?_) (fun f2=>?_)
      ·exact wP (h:=by exact ⟨k+1,false,by omega,rfl,rfl,rfl,rfl,step false (iff_of_true rfl ⟨rfl,Zt f1,.inl (Zt f2)⟩)⟩)
      exact wP (h:=by exact ⟨k+1,true,by omega,rfl,rfl,rfl,rfl,step true (iff_of_false (by simp) (fun h=>h.2.2.elim (Zf f2) e1))⟩)
     exact wP (h:=by exact ⟨k+1,false,by omega,rfl,rfl,rfl,rfl,step false (iff_of_true rfl ⟨rfl,Zt f1,.inr e1⟩)⟩)
    exact wP (h:=by exact ⟨k+1,true,by omega,rfl,rfl,rfl,rfl,step true (iff_of_false (by simp) (fun h=>by cases h.1))⟩)
   refine zW ?_;cases b'
   ·exact wP (h:=by exact ⟨k+1,true,by omega,rfl,rfl,rfl,rfl,step true (iff_of_false (by simp) (fun h=>Zf f1 h.2.1))⟩)
   exact wP (h:=by exact ⟨k+1,true,by omega,rfl,rfl,rfl,rfl,step true (iff_of_false (by simp) (fun h=>by cases h.1))⟩)
  refine zW ?_;intros;rename_i g5;refine zc (WN hR.name) ?_;refine wb (Ycu hR.name) (fun f1=>?_) (fun f1=>?_)
  ·refine zW ?_;cases b'
   ·refine wC ?_ ?_<;>intro e1
    ·refine wb (WN hR.typ) (fun f2=>?_) (fun f2=>?_)
     ·exact wP (h:=by exact ⟨k+1,false,by omega,rfl,rfl,rfl,rfl,step false (iff_of_true rfl ⟨rfl,Zt f1,.inl (Zt f2)⟩)⟩)
     exact wP (h:=by exact ⟨k+1,true,by omega,rfl,rfl,rfl,rfl,step true (iff_of_false (by simp) (fun h=>h.2.2.elim (Zf f2) e1))⟩)
    exact wP (h:=by exact ⟨k+1,false,by omega,rfl,rfl,rfl,rfl,step false (iff_of_true rfl ⟨rfl,Zt f1,.inr e1⟩)⟩)
   exact wP (h:=by exact ⟨k+1,true,by omega,rfl,rfl,rfl,rfl,step true (iff_of_false (by simp) (fun h=>by cases h.1))⟩)
  refine zW ?_;cases b'
  ·exact wP (h:=by exact ⟨k+1,true,by omega,rfl,rfl,rfl,rfl,step true (iff_of_false (by simp) (fun h=>Zf f1 h.2.1))⟩)
  exact wP (h:=by exact ⟨k+1,true,by omega,rfl,rfl,rfl,rfl,step true (iff_of_false (by simp) (fun h=>by cases h.1))⟩)
 have hk1:k=n:=by omega
 subst hk1;refine wK (q:=Ygr h1 hn) (h:=fun v2 fz2 H2 hle2 hR2=>?_);obtain ⟨rfl,B2,cc2,rfl,hsl2⟩:=hR2;exact wR (h:=by exact ⟨hle2,⟨B2,cc2,rfl,hsl2⟩,b',rfl,by rw [hb];exact ⟨fun h=>⟨h.1,Xu h.2 Zi⟩,fun h=>⟨h.1,fun i _ p hp=>h.2 p (Zm hp)⟩⟩⟩)
theorem Yct {f:Formula} (h:FormulaR fz f va vp ve vk) (hs:FSm f):GFn prog 145 [Zp g,.agg #[Zy f.op,Zy f.name,va,vp,ve,vk]] fz [(g,wrO b)] (MkR g b (FVal f) (Xm f) fz):=by
 obtain ⟨⟨A,n,ca,rfl,ha⟩,⟨B,m,cb,rfl,hp⟩,⟨C,r,cr,rfl,he⟩,⟨D,q,cq,rfl,hk⟩⟩:=h.sls;refine zF Tryz.func145 Tryz.ntmps145 (fun w0=>?_);refine pX (fun g0=>?_);refine zW ?_;intros;rename_i g1;refine wK (q:=Ynt h hs) (h:=fun v6 fz6 H6 hle6 hR6=>?_);obtain ⟨rfl,u,y,rfl,⟨cs,rfl,hr⟩,hyx⟩:=hR6;obtain ⟨vk6,rfl,hX⟩:=Yf hr;obtain ⟨A6,n6,b6,rfl,_⟩:=hX.kids;by_cases hP:FVal f
 ·rw [if_pos hP];cases b
  ·refine zW ?_;intros;refine YaX (i:=1) (H':=[(g,wrO false)]) rfl Zb ?_;exact ⟨hle6,false,y,rfl,⟨_,rfl,Ys hX⟩,iff_of_true rfl ⟨rfl,hP⟩,fun _=>hyx hP⟩
  refine zW ?_;intros;refine YaX (i:=1) (H':=[(g,wrO true)]) rfl Zb ?_;exact ⟨hle6,true,y,rfl,⟨_,rfl,Ys hX⟩,iff_of_false (by simp) (fun h0=>by cases h0.1),fun h0=>by cases h0⟩
 rw [if_neg hP];cases b
 ·refine zW ?_;intros;refine YaX (i:=1) (H':=[(g,wrO true)]) rfl Zb ?_;exact ⟨hle6,true,y,rfl,⟨_,rfl,Ys hX⟩,iff_of_false (by simp) (fun h0=>hP h0.2),fun h0=>by cases h0⟩
 refine zW ?_;intros;refine YaX (i:=1) (H':=[(g,wrO true)]) rfl Zb ?_;exact ⟨hle6,true,y,rfl,⟨_,rfl,Ys hX⟩,iff_of_false (by simp) (fun h0=>by cases h0.1),fun h0=>by cases h0⟩
def Yiy (name:Bs) (args:List Bs):Prop:=Xc name/\∀ a∈args,YfW a
theorem watom_q {f0:Bs} {l:List Bs} (hf:Short f0) (h1:Sl strL fz A n c l) (hn:n<=1000000000):
 GFn prog 260 [Zp g,Zy f0,Zc A n c] fz [(g,wrO b)] (MkR g b (Yiy f0 l) (YaR f0 l) fz):=by
 have l1:=h1.len;refine zF Tryz.func260 Tryz.ntmps260 (fun w0=>?_);refine zW ?_;intros;rename_i g4
 first | refine Wp.perm (List.Perm.swap _ _ _) ?_ | refine Seq.perm (List.Perm.swap _ _ _) ?_
 refine Ya (Ym [_] [_] Zz (YcM hf) (fun v6 fz6 H6 hle6 hR6=>?_));obtain ⟨_,rfl,b1,rfl,hb1⟩:=hR6;unfold sxV;refine Ya (Yb (cs:=YH f0) (fun gb=>?_));refine zc YaC ?_;unfold sxV;refine zW ?_;intros;rename_i g5;refine Wp.perm (List.Perm.cons _ (List.reverse_perm [_,_,_])) ?_;refine Yi (fun q σ fz' H'=>∃ (k:Nat) (v:Value) (Hs:HP) (b':Bool),k<=n/\q=n - k/\σ=[(17,Zk k),(16,Zk n),(15,Zc A n c),(7,Zp g5),(6,Zp g4),(0,Zp g)]/\fz6=fz'/\
  H'=(g5,Zu #[Zk 3,Zk 0,Zk 0,Zk 0,Ze,v] 86)::(g4,Zu #[Zk 0,Zk 0,Zk 0,Zk 0,Ze,Zn] 86)::(g,wrO b')::Hs/\Grow YE 86 fz' v (k+1) Hs (Yp f0::(l.take k).map Yp)/\(b'=false↔b=false/\Xc f0/\∀ i,i<k->∀ a,l[i]?=some a->YfW a))
  ⟨0,_,[_],b1,Z0 _,rfl,rfl,rfl,rfl,Grow.block (ys:=[(Yp f0,YH f0)]) rfl rfl (by simpa using YO hf) rfl,by rw [hb1];exact ⟨fun h=>⟨h.1,h.2,fun i hi=>absurd hi Zi⟩,fun h=>⟨h.1,h.2.1⟩⟩⟩ Zw Zb ?_
 rintro q σ fz' H' ⟨k,v,Hs,b',hk,rfl,rfl,rfl,rfl,hG,hb⟩;obtain ⟨Av,cv,rfl,_,_⟩:=hG.form;have h2:=h1.mono hle6;refine wC ?_ ?_<;>intro c1
 ·obtain ⟨x,hx⟩:=Ye (l:=l) (k:=k) Zi;have step:∀ b2:Bool,(b2=false↔b'=false/\YfW x)->(b2=false↔b=false/\Xc f0/\∀ i,i<k+1->∀ a,l[i]?=some a->YfW a):=fun b2 h=>by
   rw [h,hb];exact ⟨fun h0=>⟨h0.1.1,h0.1.2.1,YL h0.1.2.2 hx h0.2⟩,fun h0=>⟨⟨h0.1,h0.2.1,fun i hi=>h0.2.2 i Zi⟩,h0.2.2 k Zi x hx⟩⟩
  refine wI h2 hx (fun p hp=>?_);refine zH hp (fun ix=>?_);refine zWO ?_;refine Yr (YY (fun σ fz' H'=>∃ b2:Bool,σ=[(9,Zy x),(17,Zk k),(16,Zk n),(15,Zc A n c),(7,Zp g5),(6,Zp g4),(0,Zp g)]/\fz6=fz'/\
   H'=(g5,Zu #[Zk 3,Zk 0,Zk 0,Zk 0,Ze,Zc Av (k+1) cv] 86)::(g4,Zu #[Zk 0,Zk 0,Zk 0,Zk 0,Ze,Zn] 86)::(g,wrO b2)::Hs/\(b2=false↔b'=false/\YfW x)) ?_ ?_)
  ·cases b'
   ·refine wb (Yqt ix) (fun f1=>?_) (fun f1=>?_)
    ·exact wN (h:=by exact ⟨false,rfl,rfl,rfl,iff_of_true rfl ⟨rfl,Zt f1⟩⟩)
    exact wN (h:=by exact ⟨true,rfl,rfl,rfl,iff_of_false (by simp) (fun h=>Zf f1 h.2)⟩)
   exact wN (h:=by exact ⟨true,rfl,rfl,rfl,iff_of_false (by simp) (fun h=>by cases h.1)⟩)
  rintro σ fz' H' ⟨b2,rfl,rfl,rfl,hb2⟩;refine XF [_,_,_] ?_;refine zW ?_;refine Yk (Yk (Yk ?_));refine zW ?_;refine pU ?_;refine Ch.qk ⟨Zd,Zx⟩ (YF (YaP (s:=x)) ?_);refine Yj (Yb (cs:=YH x) (fun gb=>⟨⟨Zd,Zx⟩,?_⟩));refine Yj (YN (Hr:=[_,_,_,_]) (Zr _) hG YP (.head _) (YO ix) (fun v' Hs' hO'=>⟨⟨Zd,Zx⟩,?_⟩));obtain ⟨Av',cv',rfl,_,_⟩:=hO'.form;refine Ch.hard0 (Y9 ?_);refine Ch.done ?_;exact wP (h:=by exact ⟨k+1,_,Hs',b2,by omega,rfl,rfl,rfl,rfl,hO'.of (by rw [List.take_add_one,hx];simp) rfl,step b2 hb2⟩)
 have hk1:k=n:=by omega
 subst hk1;rw [Zl Zi] at hG;refine zW ?_;refine YeM (i:=1) (H':=[(g,wrO b')]) rfl (@List.perm_middle _ _ [_,_] _).symm (fun fz3 hle3 hf3=>?_);obtain ⟨A',c',he,hsl⟩:=hG.sl hle3 (fun p hp=>hf3 p (by simp [hp])) Zi;injection he with he1 he2 he3
 subst he1 he3;exact ⟨hle6.trans hle3,b',_,rfl,YaJ hsl,by rw [hb];exact ⟨fun h=>⟨h.1,h.2.1,Xu h.2.2 Zi⟩,fun h=>⟨h.1,h.2.1,fun i _ a ha=>h.2.2 a (Zm ha)⟩⟩,fun _=>rfl⟩
def Yeq:Bs:=⟨#[97,115,115,105,103,110]⟩
def Yb2:Bs:=⟨#[105,110,99,114,101,97,115,101]⟩
def Yb3:Bs:=⟨#[100,101,99,114,101,97,115,101]⟩
def YkO:Bs:=⟨#[119,104,101,110]⟩
def nilE:Lx.Expr:=.mk ⟨#[]⟩ ⟨#[]⟩ 0 [] []
def Num5 (k:Int):Prop:=k=3\/k=4\/k=5
def YkL (k:Int):Bs:=if k=3 then Yeq else if k=4 then Yb2 else Yb3
def Yfb (c:Change):Prop:=((c.kind=1\/c.kind=2)/\c.value=nilE)\/(Num5 c.kind/\EVal c.value)
def WhenOk (c:Change):Prop:=c.when_=XV\/FVal c.when_
def ChOk (c:Change):Prop:=Yiy c.name c.args/\Yfb c/\WhenOk c/\∀ p∈c.params,Yag true p
def ChSm (c:Change):Prop:=c.params.length<=1000000000/\c.args.length<=1000000000/\FSm c.when_/\ESm c.value
def chX1 (c:Change):Sexpr:=if c.kind=2 then YM [Yp kNot,YaR c.name c.args] else if Num5 c.kind then YM [Yp (YkL c.kind),YaR c.name c.args,Ws c.value] else YaR c.name c.args
def chX2 (c:Change):Sexpr:=if c.when_=XV then chX1 c else YM [Yp YkO,Xm c.when_,chX1 c]
def chX (c:Change):Sexpr:=if c.params=[] then chX2 c else YM [Yp kForall,YM ((c.params.flatMap YaS).map Yp),chX2 c]
theorem Yqv {fz3:FZ} {gb:Nat} {o:Bs} {X:Sexpr} {vk3:Value} (ho:Short o) (hg:fz3 gb=some (.cells (YH o++ [Zk X.kind,Zk X.value,Zk X.line,Zk X.column,Zy X.text,vk3]).toArray 86 (0,0))) (hX:YT fz3 X vk3):
 YT fz3 (YM [Yp o,X]) (Zv gb 2 2):=
 ⟨YkQ,Yae,Yae,Yae,XI,(Wb (ys:=[(Yp o,YH o),(X,[Zk X.kind,Zk X.value,Zk X.line,Zk X.column,Zy X.text,vk3])]) hg rfl rfl (by
  intro p hp;simp only [List.mem_cons,List.not_mem_nil,or_false] at hp;rcases hp with rfl | rfl
  ·exact YO ho
  exact Ys hX) rfl (by simp)).is⟩
theorem Yfh {fz3:FZ} {gb:Nat} {o:Bs} {X Y:Sexpr} {vk3 vk5:Value} (ho:Short o) (hg:fz3 gb=some (.cells (YH o++ [Zk X.kind,Zk X.value,Zk X.line,Zk X.column,Zy X.text,vk3]++ [Zk Y.kind,Zk Y.value,Zk Y.line,Zk Y.column,Zy Y.text,vk5]).toArray 86 (0,0))) (hX:YT fz3 X vk3) (hY:YT fz3 Y vk5):
 YT fz3 (YM [Yp o,X,Y]) (Zv gb 3 3):=
 ⟨YkQ,Yae,Yae,Yae,XI,(Wb (ys:=[(Yp o,YH o),(X,[Zk X.kind,Zk X.value,Zk X.line,Zk X.column,Zy X.text,vk3]),(Y,[Zk Y.kind,Zk Y.value,Zk Y.line,Zk Y.column,Zy Y.text,vk5])]) hg rfl rfl (by
  intro p hp;simp only [List.mem_cons,List.not_mem_nil,or_false] at hp;rcases hp with rfl | rfl | rfl
  ·exact YO ho
  ·exact Ys hX
  exact Ys hY) rfl (by simp)).is⟩
theorem YcO {o:Bs} (h:o=kNot\/o=Yeq\/o=Yb2\/o=Yb3\/o=YkO\/o=kForall):Short o:=by
 rcases h with rfl | rfl | rfl | rfl | rfl | rfl<;>(unfold Short;decide)
theorem Yoy {c:Change} {v8:Value} (h:ChangeR fz c v1 v2 v3 v4 v5 v6 v7 v8) (hs:ChSm c):
 GFn prog 210 [Zp g,.agg #[Zk c.kind,v1,Zy c.when_.op,Zy c.when_.name,v2,v3,v4,v5,Zy c.name,v6,Zy c.value.op,Zy c.value.name,Zk c.value.n,v7,v8]] fz [(g,wrO b)] (MkR g b (ChOk c) (chX c) fz):=by
 obtain ⟨A1,n1,b1,rfl,ip⟩:=h.params;obtain ⟨⟨A2,n2,b2,rfl,iw1⟩,⟨A3,n3,b3,rfl,iw2⟩,⟨A4,n4,b4,rfl,iw3⟩,⟨A5,n5,b5,rfl,iw4⟩⟩:=h.when_.sls;obtain ⟨A6,n6,b6,rfl,ia⟩:=h.args;obtain ⟨⟨A7,n7,b7,rfl,iv1⟩,⟨A8,n8,b8,rfl,iv2⟩⟩:=h.value.sls;refine zF Tryz.func210 Tryz.ntmps210 (fun w0=>?_);refine pX (fun g3=>?_);refine zW ?_;intros;rename_i g4;refine Seq.perm (@List.perm_middle _ _ [_,_] []).symm ?_;refine Ya (Ym [_] _ Zz (watom_q h.name ia (by rw [<- ia.len];exact hs.2.1)) (fun v9 fz1 H1 hle1 hR1=>?_));obtain ⟨_,ba,y0,rfl,⟨cs0,rfl,hr0⟩,hba,hya⟩:=hR1;obtain ⟨vy0,rfl,hY0⟩:=Yf hr0;obtain ⟨Ay0,ny0,by0,rfl,_⟩:=hY0.kids;refine zWO ?_;intros;rename_i g5;refine Wp.perm (List.Perm.swap _ _ _) ?_;refine Yr (YY (fun σ fz' H'=>∃ (bb:Bool) (y:Sexpr) (Ay:Option Addr) (ny by_:Nat),σ=[(5,Zp g5),(4,Zp g4),(3,Zp g3),(0,Zp g)]/\Le fz1 fz'/\H'=[(g,wrO bb),(g5,Zu #[Zk y.kind,Zk y.value,Zk y.line,Zk y.column,Zy y.text,Zc Ay ny by_] 86),(g4,Zu #[Zk 0,Zk 0,Zk 0,Zk 0,Ze,Zn] 86),(g3,Zu #[Zk c.kind,Zc A1 n1 b1,Zy c.when_.op,Zy c.when_.name,Zc A2 n2 b2,Zc A3 n3 b3,Zc A4 n4 b4,Zc A5 n5 b5,Zy c.name,Zc A6 n6 b6,Zy c.value.op,Zy c.value.name,Zk c.value.n,Zc A7 n7 b7,Zc A8 n8 b8] 114)]/\YT fz' y (Zc Ay ny by_)/\(bb=false↔b=false/\Yiy c.name c.args/\Yfb c)/\(bb=false->y=chX1 c)) ?_ ?_)
 ·have hM:∀ {fz':FZ},Le fz1 fz'->ExprR fz' c.value (Zc A7 n7 b7) (Zc A8 n8 b8):=fun hle=>h.value.mono (hle1.trans hle)
  refine wC ?_ ?_<;>intro k1
  ·have k2:¬c.kind=2:=by omega
   have hx1:chX1 c=YaR c.name c.args:=by unfold chX1 Num5;rw [if_neg k2,if_neg Zi]
   have hk0:Yfb c↔c.value=nilE:=⟨fun h0=>h0.elim (fun h0=>h0.2) (fun h0=>by have:=h0.1;unfold Num5 at this;omega),fun h0=>.inl ⟨.inl k1,h0⟩⟩;refine zW ?_;cases ba
   ·refine wG ?_;refine Yc (vs:=[Zy c.value.op,Zy c.value.name,Zk c.value.n,Zc A7 n7 b7,Zc A8 n8 b8]) 3 ?_;refine wG ?_;refine WJ (Yhv (b:=nilE) (hM Zd) Yk5) (fun f1=>?_) (fun f1=>?_)
    ·exact wN (h:=by exact ⟨false,y0,Ay0,ny0,by0,rfl,Zd,rfl,hY0,iff_of_true rfl ⟨(hba.1 rfl).1,(hba.1 rfl).2,hk0.2 (Zt f1)⟩,fun _=>by rw [hx1];exact hya rfl⟩)
    exact wN (h:=by exact ⟨true,y0,Ay0,ny0,by0,rfl,Zd,rfl,hY0,iff_of_false (by simp) (fun h0=>Zf f1 (hk0.1 h0.2.2)),fun h0=>by cases h0⟩)
   exact wN (h:=by exact ⟨true,y0,Ay0,ny0,by0,rfl,Zd,rfl,hY0,iff_of_false (by simp) (fun h0=>by simpa using hba.2 ⟨h0.1,h0.2.1⟩),fun h0=>by cases h0⟩)
  refine wC ?_ ?_<;>intro k2
  ·have hx1:chX1 c=YM [Yp kNot,YaR c.name c.args]:=by unfold chX1;rw [if_pos k2]
   have hk0:Yfb c↔c.value=nilE:=⟨fun h0=>h0.elim (fun h0=>h0.2) (fun h0=>by have:=h0.1;unfold Num5 at this;omega),fun h0=>.inl ⟨.inr k2,h0⟩⟩;refine zWO ?_;refine WD ?_;refine Yr (YY (fun σ fz' H'=>∃ bb:Bool,σ=[(5,Zp g5),(4,Zp g4),(3,Zp g3),(0,Zp g)]/\fz1=fz'/\H'=[(g,wrO bb),(g5,Zu #[Zk y0.kind,Zk y0.value,Zk y0.line,Zk y0.column,Zy y0.text,Zc Ay0 ny0 by0] 86),(g4,Zu #[Zk 0,Zk 0,Zk 0,Zk 0,Ze,Zn] 86),(g3,Zu #[Zk c.kind,Zc A1 n1 b1,Zy c.when_.op,Zy c.when_.name,Zc A2 n2 b2,Zc A3 n3 b3,Zc A4 n4 b4,Zc A5 n5 b5,Zy c.name,Zc A6 n6 b6,Zy c.value.op,Zy c.value.name,Zk c.value.n,Zc A7 n7 b7,Zc A8 n8 b8] 114)]/\(bb=false↔b=false/\Yiy c.name c.args/\Yfb c)) ?_ ?_)
   ·cases ba
    ·refine wG ?_;refine Yc (vs:=[Zy c.value.op,Zy c.value.name,Zk c.value.n,Zc A7 n7 b7,Zc A8 n8 b8]) 3 ?_;refine wG ?_;refine WJ (Yhv (b:=nilE) (hM Zd) Yk5) (fun f1=>?_) (fun f1=>?_)
     ·exact wN (h:=by exact ⟨false,rfl,rfl,rfl,iff_of_true rfl ⟨(hba.1 rfl).1,(hba.1 rfl).2,hk0.2 (Zt f1)⟩⟩)
     exact wN (h:=by exact ⟨true,rfl,rfl,rfl,iff_of_false (by simp) (fun h0=>Zf f1 (hk0.1 h0.2.2))⟩)
    exact wN (h:=by exact ⟨true,rfl,rfl,rfl,iff_of_false (by simp) (fun h0=>by simpa using hba.2 ⟨h0.1,h0.2.1⟩)⟩)
   rintro σ fz' H' ⟨bb,rfl,rfl,rfl,hbb⟩;refine zW ?_;refine XF [_,_,_,_] ?_;refine zc (YaP (s:=kNot)) ?_;refine zW ?_;refine pU ?_;refine Yj (Yb (cs:=YH kNot++ [Zk y0.kind,Zk y0.value,Zk y0.line,Zk y0.column,Zy y0.text,Zc Ay0 ny0 by0]) (fun gb=>⟨⟨Zd,Zx⟩,?_⟩));refine Ch.qk ⟨Zd,Zx⟩ (YF YaC ?_);unfold sxV;refine Ch.hard0 (WT ?_);refine Ch.done ?_;refine zW ?_;refine midF (H':=[(g,wrO bb),(g5,_),(g4,_),(g3,_)]) (H2:=[(gb,_)]) Zq (fun fz2 hl2 hf2=>⟨bb,YM [Yp kNot,y0],_,_,_,rfl,hl2,rfl,Yqv (YcO (.inl rfl)) (hf2 _ (.head _)) (hY0.mono hl2),hbb,fun h0=>?_⟩) Zw;rw [hx1,hya (hba.2 ⟨(hbb.1 h0).1,(hbb.1 h0).2.1⟩)]
  refine zWO ?_;refine WE ?_;refine Yr (YY (fun σ fz' H'=>∃ bq:Bool,σ=(43,Zo bq):: [(5,Zp g5),(4,Zp g4),(3,Zp g3),(0,Zp g)]/\fz1=fz'/\H'=[(g,wrO ba),(g5,Zu #[Zk y0.kind,Zk y0.value,Zk y0.line,Zk y0.column,Zy y0.text,Zc Ay0 ny0 by0] 86),(g4,Zu #[Zk 0,Zk 0,Zk 0,Zk 0,Ze,Zn] 86),(g3,Zu #[Zk c.kind,Zc A1 n1 b1,Zy c.when_.op,Zy c.when_.name,Zc A2 n2 b2,Zc A3 n3 b3,Zc A4 n4 b4,Zc A5 n5 b5,Zy c.name,Zc A6 n6 b6,Zy c.value.op,Zy c.value.name,Zk c.value.n,Zc A7 n7 b7,Zc A8 n8 b8] 114)]/\(bq=true↔Num5 c.kind)) ?_ ?_)
  ·refine wC ?_ ?_<;>intro k3
   ·exact wN (h:=by exact ⟨true,rfl,rfl,rfl,iff_of_true rfl (.inl k3)⟩)
   refine wC ?_ ?_<;>intro k4
   ·exact wN (h:=by exact ⟨true,rfl,rfl,rfl,iff_of_true rfl (.inr (.inl k4))⟩)
   refine wC ?_ ?_<;>intro k5
   ·exact wN (h:=by exact ⟨true,rfl,rfl,rfl,iff_of_true rfl (.inr (.inr k5))⟩)
   exact wN (h:=by exact ⟨false,rfl,rfl,rfl,iff_of_false (by simp) (fun h0=>h0.elim k3 (fun h0=>h0.elim k4 k5))⟩)
  rintro σ fz' H' ⟨bq,rfl,rfl,rfl,hb5⟩;cases bq
  ·have hk0:¬Yfb c:=fun h0=>h0.elim (fun h0=>h0.1.elim k1 k2) (fun h0=>by simpa using hb5.2 h0.1)
   exact wN (h:=by exact ⟨true,y0,Ay0,ny0,by0,rfl,Zd,rfl,hY0,iff_of_false (by simp) (fun h0=>hk0 h0.2.2),fun h0=>by cases h0⟩)
  have hn5:=hb5.1 rfl;have hk0:Yfb c↔EVal c.value:=⟨fun h0=>h0.elim (fun h0=>(h0.1.elim k1 k2).elim) (fun h0=>h0.2),fun h0=>.inr ⟨hn5,h0⟩⟩;have hx1:chX1 c=YM [Yp (YkL c.kind),YaR c.name c.args,Ws c.value]:=by unfold chX1;rw [if_neg k2,if_pos hn5]
  have hw:([Zy Yeq,Zy Yb2,Zy Yb3]:List Value)[(c.kind - 3).toNat]?=some (Zy (YkL c.kind)):=by
   rcases hn5 with h0 | h0 | h0<;>rw [h0]<;>rfl
  have hsw:Short (YkL c.kind):=by
   refine YcO ?_;unfold YkL;split
   ·exact .inr (.inl rfl)
   split
   ·exact .inr (.inr (.inl rfl))
   exact .inr (.inr (.inr (.inl rfl)))
  have hn6:3<=c.kind/\c.kind<=5:=by unfold Num5 at hn5;omega
  refine WD ?_;refine wG ?_;refine Yc (vs:=[Zy c.value.op,Zy c.value.name,Zk c.value.n,Zc A7 n7 b7,Zc A8 n8 b8]) 3 ?_;refine wK (q:=eWrite_q (hM Zd) hs.2.2.2) (h:=fun v8 fz2 H2 hle2 hR2=>?_);obtain ⟨rfl,u,ye,rfl,⟨cse,rfl,hre⟩,hye⟩:=hR2;obtain ⟨vke,rfl,hE⟩:=Yf hre;obtain ⟨Ae,ne,be,rfl,_⟩:=hE.kids;refine zWO ?_;intros;rename_i g6;refine Yr (YY (fun σ fz' H'=>∃ bb:Bool,σ=(6,Zp g6):: [(5,Zp g5),(4,Zp g4),(3,Zp g3),(0,Zp g)]/\fz2=fz'/\H'=[(g,wrO bb),(g6,Zu #[Zk ye.kind,Zk ye.value,Zk ye.line,Zk ye.column,Zy ye.text,Zc Ae ne be] 86),(g5,Zu #[Zk y0.kind,Zk y0.value,Zk y0.line,Zk y0.column,Zy y0.text,Zc Ay0 ny0 by0] 86),(g4,Zu #[Zk 0,Zk 0,Zk 0,Zk 0,Ze,Zn] 86),(g3,Zu #[Zk c.kind,Zc A1 n1 b1,Zy c.when_.op,Zy c.when_.name,Zc A2 n2 b2,Zc A3 n3 b3,Zc A4 n4 b4,Zc A5 n5 b5,Zy c.name,Zc A6 n6 b6,Zy c.value.op,Zy c.value.name,Zk c.value.n,Zc A7 n7 b7,Zc A8 n8 b8] 114)]/\(bb=false↔b=false/\Yiy c.name c.args/\Yfb c)) ?_ ?_)
  ·by_cases hP:EVal c.value
   ·rw [if_pos hP];cases ba
    ·refine zW ?_;exact midP (List.Perm.swap _ _ _) ⟨false,rfl,rfl,rfl,iff_of_true rfl ⟨(hba.1 rfl).1,(hba.1 rfl).2,hk0.2 hP⟩⟩ Zw Zb
    refine zW ?_;exact midP (List.Perm.swap _ _ _) ⟨true,rfl,rfl,rfl,iff_of_false (by simp) (fun h0=>by simpa using hba.2 ⟨h0.1,h0.2.1⟩)⟩ Zw Zb
   rw [if_neg hP];cases ba
   ·refine zW ?_;exact midP (List.Perm.swap _ _ _) ⟨true,rfl,rfl,rfl,iff_of_false (by simp) (fun h0=>hP (hk0.1 h0.2.2))⟩ Zw Zb
   refine zW ?_;exact midP (List.Perm.swap _ _ _) ⟨true,rfl,rfl,rfl,iff_of_false (by simp) (fun h0=>by simpa using hba.2 ⟨h0.1,h0.2.1⟩)⟩ Zw Zb
  rintro σ fz' H' ⟨bb,rfl,rfl,rfl,hbb⟩;refine XF [_,_,_,_,_] ?_;refine Yk ?_;refine zW ?_;refine Yk (Yk (Yk ?_));refine zW ?_;refine pU ?_;refine Yj (Yb (cs:=[Zy Yeq,Zy Yb2,Zy Yb3]) (fun gs=>⟨⟨Zd,Zx⟩,?_⟩));refine Ch.qk ⟨Zd,Zx⟩ (XK T Zz Zz Zz Zz Zz Zz Zi Zi ?_);refine Ch.qk ⟨Zd,Zx⟩ (Yx 0 ?_ (hv:=hw));refine Ch.qk ⟨Zd,Zx⟩ (YF (YaP (s:=YkL c.kind)) ?_);refine Yj (Yb (cs:=YH (YkL c.kind)++ [Zk y0.kind,Zk y0.value,Zk y0.line,Zk y0.column,Zy y0.text,Zc Ay0 ny0 by0]++ [Zk ye.kind,Zk ye.value,Zk ye.line,Zk ye.column,Zy ye.text,Zc Ae ne be]) (fun gb=>⟨⟨Zd,Zx⟩,?_⟩));refine Ch.qk ⟨Zd,Zx⟩ (YF YaC ?_);unfold sxV;refine Ch.hard0 (Yaz (pre:=[_,_,_,_]) rfl ?_);refine Ch.done ?_;refine zW ?_;refine midF (H':=[(g,wrO bb),(g5,_),(g4,_),(g3,_)]) (H2:=[(gb,_),(gs,_),(g6,_)]) (YbY [2,4,5,6,0,1,3]) (fun fz3 hl3 hf3=>⟨bb,YM [Yp (YkL c.kind),y0,ye],_,_,_,rfl,hle2.trans hl3,rfl,Yfh hsw (hf3 _ (.head _)) (hY0.mono (hle2.trans hl3)) (hE.mono hl3),hbb,fun h0=>?_⟩) Zw;rw [hx1,hya (hba.2 ⟨(hbb.1 h0).1,(hbb.1 h0).2.1⟩),hye (hk0.1 (hbb.1 h0).2.2)]
 rintro σ fz9 H' ⟨bb,y,Ay,ny,by_,rfl,hle2,rfl,hY,hbb,hyb⟩;refine Yr (YY (fun σ fz' H'=>∃ (bb:Bool) (y:Sexpr) (Ay:Option Addr) (ny by_:Nat),σ=[(5,Zp g5),(4,Zp g4),(3,Zp g3),(0,Zp g)]/\Le fz9 fz'/\H'=[(g,wrO bb),(g5,Zu #[Zk y.kind,Zk y.value,Zk y.line,Zk y.column,Zy y.text,Zc Ay ny by_] 86),(g4,Zu #[Zk 0,Zk 0,Zk 0,Zk 0,Ze,Zn] 86),(g3,Zu #[Zk c.kind,Zc A1 n1 b1,Zy c.when_.op,Zy c.when_.name,Zc A2 n2 b2,Zc A3 n3 b3,Zc A4 n4 b4,Zc A5 n5 b5,Zy c.name,Zc A6 n6 b6,Zy c.value.op,Zy c.value.name,Zk c.value.n,Zc A7 n7 b7,Zc A8 n8 b8] 114)]/\YT fz' y (Zc Ay ny by_)/\(bb=false↔b=false/\Yiy c.name c.args/\Yfb c/\WhenOk c)/\(bb=false->y=chX2 c)) ?_ ?_)
 ·refine Yr ?_;refine XF [(g,_),(g5,_),(g4,_),(g3,_)] ?_;refine wG ?_;refine Yc (vs:=[Zy c.when_.op,Zy c.when_.name,Zc A2 n2 b2,Zc A3 n3 b3,Zc A4 n4 b4,Zc A5 n5 b5]) 3 ?_;refine zc YaK ?_;unfold Yd7;refine zb (YgK (b:=XV) ((h.when_.mono hle1).mono hle2) Ydr) (fun f1=>?_) (fun f1=>?_)
  ·have hw:=Zt f1;refine zW ?_;refine YjR ⟨by kernel_rfl,Ch.done ?_⟩;exact wN (h:=by exact ⟨bb,y,Ay,ny,by_,rfl,Zd,rfl,hY,by rw [hbb];exact ⟨fun h0=>⟨h0.1,h0.2.1,h0.2.2,.inl hw⟩,fun h0=>⟨h0.1,h0.2.1,h0.2.2.1⟩⟩,fun h0=>by rw [chX2,if_pos hw];exact hyb h0⟩)
  have hw:=Zf f1;refine zW ?_;refine YjR ⟨by kernel_rfl,Ch.done ?_⟩;refine zW ?_;refine XF [(g5,_),(g4,_),(g3,_)] ?_;refine zc (YaP (s:=YkO)) ?_;refine wG ?_;refine Yc (vs:=[Zy c.when_.op,Zy c.when_.name,Zc A2 n2 b2,Zc A3 n3 b3,Zc A4 n4 b4,Zc A5 n5 b5]) 2 ?_;refine Yk ?_;refine zW ?_;refine pU ?_;refine Yj (Ym [_] _ Zz (Yct ((h.when_.mono hle1).mono hle2) hs.2.2.1) (fun v6 fz6 H6 hle6 hR6=>?_));obtain ⟨_,b9,y6,rfl,⟨cs6,rfl,hr6⟩,hb6,hy6⟩:=hR6;obtain ⟨vk6,rfl,hX6⟩:=Yf hr6;obtain ⟨Ae,ne,be,rfl,_⟩:=hX6.kids;refine ⟨⟨hle6,Zx⟩,?_⟩;refine Yj (Yb (cs:=YH YkO++ [Zk y6.kind,Zk y6.value,Zk y6.line,Zk y6.column,Zy y6.text,Zc Ae ne be]++ [Zk y.kind,Zk y.value,Zk y.line,Zk y.column,Zy y.text,Zc Ay ny by_]) (fun gb=>⟨⟨hle6,Zx⟩,?_⟩));refine Ch.qk ⟨hle6,Zx⟩ (YF YaC ?_);unfold sxV;refine Ch.hard0 (WT ?_);refine Ch.done ?_;refine zW ?_;refine midF (H':=[(g,wrO b9),(g5,_),(g4,_),(g3,_)]) (H2:=[(gb,_)]) Zq (fun fz3 hl3 hf3=>⟨b9,YM [Yp YkO,y6,y],_,_,_,rfl,hle6.trans hl3,rfl,Yfh (YcO (.inr (.inr (.inr (.inr (.inl rfl)))))) (hf3 _ (.head _)) (hX6.mono hl3) ((hY.mono hle6).mono hl3),?_,fun h0=>?_⟩) Zw
  ·rw [hb6,hbb];exact ⟨fun h0=>⟨h0.1.1,h0.1.2.1,h0.1.2.2,.inr h0.2⟩,fun h0=>⟨⟨h0.1,h0.2.1,h0.2.2.1⟩,h0.2.2.2.resolve_left hw⟩⟩
  rw [chX2,if_neg hw,hy6 h0,hyb (hb6.1 h0).1]
 rintro σ fz7 H' ⟨bb,y,Ay,ny,by_,rfl,hle7,rfl,hY,hbb,hyb⟩;have hip:=((ip.mono hle1).mono hle2).mono hle7;refine Yr (YY (fun σ fz' H'=>∃ (bb:Bool) (y:Sexpr) (Ay:Option Addr) (ny by_:Nat),σ=[(5,Zp g5),(4,Zp g4),(3,Zp g3),(0,Zp g)]/\Le fz7 fz'/\H'=[(g,wrO bb),(g5,Zu #[Zk y.kind,Zk y.value,Zk y.line,Zk y.column,Zy y.text,Zc Ay ny by_] 86),(g4,Zu #[Zk 0,Zk 0,Zk 0,Zk 0,Ze,Zn] 86),(g3,Zu #[Zk c.kind,Zc A1 n1 b1,Zy c.when_.op,Zy c.when_.name,Zc A2 n2 b2,Zc A3 n3 b3,Zc A4 n4 b4,Zc A5 n5 b5,Zy c.name,Zc A6 n6 b6,Zy c.value.op,Zy c.value.name,Zk c.value.n,Zc A7 n7 b7,Zc A8 n8 b8] 114)]/\YT fz' y (Zc Ay ny by_)/\(bb=false↔b=false/\ChOk c)/\(bb=false->y=chX c)) ?_ ?_)
 ·refine wC ?_ ?_<;>intro p1
  ·have hp0:=(Ya7 ip.len).1 p1;refine zW ?_;refine XF [(g5,_),(g4,_),(g3,_)] ?_;refine zc (YaP (s:=kForall)) ?_;refine zW ?_;refine Yk (Yk ?_);refine zW ?_;refine pU ?_;refine Yj (Ym [_] _ Zz (YaW (vars:=true) hip (by rw [<- ip.len];exact hs.1)) (fun v6 fz6 H6 hle6 hR6=>?_));obtain ⟨_,⟨Ae,ce,rfl,hsl6⟩,b9,rfl,hb6⟩:=hR6;refine ⟨⟨hle6,Zx⟩,?_⟩;refine Ch.qk ⟨hle6,Zx⟩ (YF YaC ?_);unfold sxV;refine Yj (Yb (cs:=YH kForall++ [Zk 3,Zk 0,Zk 0,Zk 0,Ze,Zc Ae (3*n1) ce]++ [Zk y.kind,Zk y.value,Zk y.line,Zk y.column,Zy y.text,Zc Ay ny by_]) (fun gb=>⟨⟨hle6,Zx⟩,?_⟩));refine Ch.qk ⟨hle6,Zx⟩ (YF YaC ?_);unfold sxV;refine Ch.hard0 (WT ?_);refine Ch.done ?_;refine zW ?_;refine midF (H':=[(g,wrO b9),(g5,_),(g4,_),(g3,_)]) (H2:=[(gb,_)]) Zq (fun fz3 hl3 hf3=>⟨b9,YM [Yp kForall,YM ((c.params.flatMap YaS).map Yp),y],_,_,_,rfl,hle6.trans hl3,rfl,Yfh (X:=YM ((c.params.flatMap YaS).map Yp)) (YcO (.inr (.inr (.inr (.inr (.inr rfl)))))) (hf3 _ (.head _)) ⟨YkQ,Yae,Yae,Yae,XI,(hsl6.mono hl3).is⟩ ((hY.mono hle6).mono hl3),?_,fun h0=>?_⟩) Zw
   ·rw [hb6,hbb];exact ⟨fun h0=>⟨h0.1.1,h0.1.2.1,h0.1.2.2.1,h0.1.2.2.2,h0.2⟩,fun h0=>⟨⟨h0.1,h0.2.1,h0.2.2.1,h0.2.2.2.1⟩,h0.2.2.2.2⟩⟩
   rw [chX,if_neg hp0,hyb (hb6.1 h0).1]
  have hp0:c.params=[]:=Classical.byContradiction fun h0=>p1 ((Ya7 ip.len).2 h0)
  exact wN (h:=by exact ⟨bb,y,Ay,ny,by_,rfl,Zd,rfl,hY,by rw [hbb];exact ⟨fun h0=>⟨h0.1,h0.2.1,h0.2.2.1,h0.2.2.2,by rw [hp0];simp⟩,fun h0=>⟨h0.1,h0.2.1,h0.2.2.1,h0.2.2.2.1⟩⟩,fun h0=>by rw [chX,if_pos hp0];exact hyb h0⟩)
 rintro σ fz8 H' ⟨bb,y,Ay,ny,by_,rfl,hle8,rfl,hY,hbb,hyb⟩;refine zW ?_;refine YaX (i:=2) (H':=[(g,wrO bb)]) rfl Zb ?_;exact ⟨hle1.trans (hle2.trans (hle7.trans hle8)),bb,y,rfl,⟨_,rfl,Ys hY⟩,hbb,hyb⟩
end Go.Proofs.YtiligkgjcmokbaaGreatDoor
