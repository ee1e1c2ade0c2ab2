/- The texts YL, YA, YB, YC, YD, YE, PCnt, YW, laid together. Conditions: none. -/
import Derived.Test.YtfjopfinkdhmaaaGreatDoorRZS
set_option linter.all false
noncomputable section
set_option maxRecDepth 20000
namespace Go.Proofs.YtfjopfinkdhmaaaGreatDoor
open Go.Lx Go.RowKit
attribute [local instance 10] Classical.propDecidable
theorem rsv_when:Ygj∈XQ:=.tail _ (.tail _ (.tail _ (.tail _ (.tail _ (.tail _ (.head _))))))
theorem rsv_asg:YcI∈XQ:=.tail _ (.tail _ (.tail _ (.tail _ (.tail _ (.tail _ (.tail _ (.head _)))))))
theorem rsv_inc:YaR∈XQ:=.tail _ (.tail _ (.tail _ (.tail _ (.tail _ (.tail _ (.tail _ (.tail _ (.head _))))))))
theorem rsv_dec:YaS∈XQ:=.tail _ (.tail _ (.tail _ (.tail _ (.tail _ (.tail _ (.tail _ (.tail _ (.tail _ (.head _)))))))))
theorem Yod {x:Sexpr} {w:Bs} {a:List Bs} (h:nopl x=nopl (W5 w a)) (hn:YX w) (ha:∀ s∈a,Ydx s):Ybg x=.ok (w,a):=by
 obtain ⟨r',h1,h2,_⟩:=XB h;rw [Ybg,h1];simp only;rw [if_pos hn,Yib h2 ha]
theorem Yly {w:Bs} (h:YX w):WW w=0:=by
 rw [WW,if_neg (Wj h rsv_asg),if_neg (Wj h rsv_inc),if_neg (Wj h rsv_dec)]
theorem kinds_of {k:Int} (h:Num5 k):WW (YeT k)=k:=by
 rcases h with rfl | rfl | rfl
 ·rw [YeT,if_pos rfl,WW,if_pos rfl]
 ·rw [YeT,if_neg Zh,if_pos rfl,WW,if_neg Zh,if_pos rfl]
 rw [YeT,if_neg Zh,if_neg Zh,WW,if_neg Zh,if_neg Zh,if_pos rfl]
theorem YbX {d:Nat} {ps:List Param} {ws:List Formula} {x:Sexpr} {w:Bs} {r:List Sexpr} (hk:x.kids≠ []) (h:Xw x=some (w,r)):effD (d+1) ps ws x=effB (effD d) ps ws w r x:=by
 rw [effD,if_neg (fun h=>hk h.2),h]
theorem ch1_p {d:Nat} {ps:List Param} {ws:List Formula} {x:Sexpr} {c:Change} (h:nopl x=nopl (chX1 c)) (ha:YeM c.name c.args) (hk:YcU c):effD (d+1) ps ws x=.ok [⟨c.kind,ps,whenM ws,c.name,c.args,c.value⟩]:=by
 unfold chX1 at h;by_cases c2:c.kind=2
 ·rw [if_pos c2] at h;obtain ⟨r',h1,h2,h3,h4,_⟩:=XB h;obtain ⟨y,m,rfl,e1,h2⟩:=YG h2;obtain rfl:=XA h2;have hv:c.value=nilE:=by
   rcases hk with ⟨_,h⟩ | ⟨h,_⟩
   ·exact h
   rw [c2] at h;rcases h with h | h | h<;>exact absurd h Zh
  rw [YbX h4 h1,effB.eq_def,if_neg (by rw [show WW kNot=0 by rw [WW,if_neg Zh,if_neg Zh,if_neg Zh]];decide),if_neg Zh,if_neg Zh,if_neg Zh,if_pos rfl];simp only;rw [Yod e1 ha.1 ha.2,c2,hv];rfl
 rw [if_neg c2] at h;by_cases c5:Num5 c.kind
 ·rw [if_pos c5] at h;obtain ⟨r',h1,h2,h3,h4,_⟩:=XB h;obtain ⟨y,m,rfl,e1,h2⟩:=YG h2;obtain ⟨z,m,rfl,e2,h2⟩:=YG h2;obtain rfl:=XA h2;have hv:EVal c.value:=by
   rcases hk with ⟨h,_⟩ | ⟨_,h⟩
   ·rcases c5 with h5 | h5 | h5<;>rcases h with h | h<;>omega
   exact h
  rw [YbX h4 h1,effB.eq_def,kinds_of c5,if_pos (by rcases c5 with h | h | h<;>omega),numM,Yod e1 ha.1 ha.2];simp only;rw [parseE_p e2 hv];rfl
 rw [if_neg c5] at h;obtain ⟨r',h1,h2,h3,h4,_⟩:=XB h;have hn:=ha.1;have hkk:c.kind=1/\c.value=nilE:=by
  rcases hk with ⟨h,h2⟩ | ⟨h,_⟩
  ·exact ⟨h.resolve_right c2,h2⟩
  exact absurd h c5
 rw [YbX h4 h1,effB.eq_def,Yly hn,if_neg Zh,if_neg (Wj hn rsv_when),if_neg (Wj hn YjB),if_neg (Wj hn Ymx),if_neg (Wj hn YjA)];rw [Yod h hn ha.2,hkk.1,hkk.2];rfl
theorem ch2_p {d:Nat} {ps:List Param} {x:Sexpr} {c:Change} (h:nopl x=nopl (chX2 c)) (ha:YeM c.name c.args) (hk:YcU c) (hw:Yof c):effD (d+2) ps [] x=.ok [⟨c.kind,ps,c.when_,c.name,c.args,c.value⟩]:=by
 unfold chX2 at h;by_cases c1:c.when_=Y5
 ·rw [if_pos c1] at h;rw [ch1_p h ha hk,c1];rfl
 rw [if_neg c1] at h;obtain ⟨r',h1,h2,h3,h4,_⟩:=XB h;obtain ⟨y,m,rfl,e1,h2⟩:=YG h2;obtain ⟨z,m,rfl,e2,h2⟩:=YG h2;obtain rfl:=XA h2;rw [YbX h4 h1,effB.eq_def,if_neg (by rw [show WW Ygj=0 by rw [WW,if_neg Zh,if_neg Zh,if_neg Zh]];decide),if_pos rfl,whnM,Yc0 e1 (hw.resolve_left c1)];simp only;rw [ch1_p e2 ha hk];rfl
theorem ch_p {d:Nat} {x:Sexpr} {c:Change} (h:nopl x=nopl (chX c)) (hc:ChOk c) (hv:XVal x):effD (d+3) [] [] x=.ok [c]:=by
 obtain ⟨ha,hk,hw,hp⟩:=hc;unfold chX at h;by_cases c1:c.params=[]
 ·rw [if_pos c1] at h;rw [show d+3=(d+1)+2 from rfl,ch2_p h ha hk hw,<- c1]
 rw [if_neg c1] at h;obtain ⟨r',h1,h2,h3,h4,h5⟩:=XB h;obtain ⟨y,m,rfl,e1,h2⟩:=YG h2;obtain ⟨z,m,rfl,e2,h2⟩:=YG h2;obtain rfl:=XA h2;obtain ⟨k3,kp⟩:=Yjz e1;have hvy:=Wb hv (h5 y (by simp));rw [YbX h4 h1,effB.eq_def,if_neg (by rw [show WW XL=0 by rw [WW,if_neg Zh,if_neg Zh,if_neg Zh]];decide),if_neg Zh,if_pos rfl,allM,if_neg (by rw [k3];simp),
  Yhn (b:=true) (l:=c.params) (done:=[]) kp hp (fun k hk=>Wb hvy hk)]
 simp only;rw [ch2_p e2 ha hk hw];rfl
theorem mapC_p {α:Type} {f:Sexpr->Except Int (List α)} {w:α->Sexpr}:∀ {a:List α} {l:List Sexpr},l.map nopl=(a.map w).map nopl->(∀ k∈l,∀ y∈a,nopl k=nopl (w y)->f k=.ok [y])->mapC f l=.ok a
 | [],l,h,_=>by rw [XA h,mapC]
 | y::a,l,h,hf=>by
  rw [List.map_cons] at h;obtain ⟨k,m,rfl,h1,h2⟩:=YG h;rw [mapC,hf k (by simp) y (by simp) h1,mapC_p h2 (fun k hk y hy=>hf k (by simp [hk]) y (by simp [hy]))];rfl
theorem sx_size (x:Sexpr):3<=SizeOf.sizeOf x:=by
 cases x with
 | mk k v l c t ks=>
  have h1:1<=SizeOf.sizeOf ks:=by cases ks with
   | nil=>simp
   | cons a r=>simp;omega
  have h2:1<=SizeOf.sizeOf k:=by cases k with
   | ofNat n=>rw [Int.ofNat.sizeOf_spec];omega
   | negSucc n=>rw [Int.negSucc.sizeOf_spec];omega
  simp only [Sexpr.mk.sizeOf_spec];omega
theorem size_ge (x:Sexpr) {k:Sexpr} (hk:k∈x.kids):4<=SizeOf.sizeOf x:=by
 have h1:=Sexpr.kids_lt hk;have h2:=sx_size k;omega
theorem YnO:∀ {d:Nat} {x:Sexpr} {c:Change},nopl x=nopl (chX c)->ChOk c->XVal x->3<=d->effD d [] [] x=.ok [c]:=by
 intro d x c h hc hv hd;obtain ⟨k,rfl⟩:∃ k,d=k+3:=⟨d - 3,by omega⟩;exact ch_p h hc hv
theorem eff_p {x:Sexpr} {l:List Change} (h:nopl x=nopl (effX l)) (hl:Ybq l) (hv:XVal x):WI x=.ok l:=by
 have hx:XVal (effX l):=YdA h.symm hv;have hE:effD (SizeOf.sizeOf x) [] [] x=.ok l:=by
  unfold effX at h;by_cases c1:l=[]
  ·rw [if_pos c1] at h;obtain ⟨a1,a2⟩:=Yjz h;obtain ⟨d,hd⟩:∃ d,SizeOf.sizeOf x=d+1:=⟨SizeOf.sizeOf x - 1,by cases x;simp;omega⟩;rw [hd,effD,if_pos ⟨a1,XA a2⟩,c1]
  rw [if_neg c1] at h;obtain ⟨r',h1,h2,h3,h4,h5⟩:=XB h;obtain ⟨k0,m0,hk0⟩:∃ k m,x.kids=k::m:=by cases hx:x.kids with
   | nil=>exact absurd hx h4
   | cons k m=>exact ⟨k,m,rfl⟩
  have h6:=size_ge x (k:=k0) (by rw [hk0];simp);obtain ⟨d,hd⟩:∃ d,SizeOf.sizeOf x=d+1:=⟨SizeOf.sizeOf x - 1,by omega⟩;rw [hd,YbX h4 h1,effB.eq_def,if_neg (by rw [show WW kAnd=0 by rw [WW,if_neg Zh,if_neg Zh,if_neg Zh]];decide),if_neg Zh,if_neg Zh,if_pos rfl];exact mapC_p h2 (fun k hk y hy hky=>YnO hky (hl y hy) (Wb hv (h5 k hk)) Zi)
 rw [WI,if_pos hv,hE];simp only;rw [if_pos ⟨hl,hx⟩]
def finL {α:Type} (S:α->Bs->Sexpr->Except Int α) (kw:List Bs) (a:α) (l:List Sexpr):Except Int α:=match Yda S a (prtM kw l).1 with
 | .error c=>.error c
 | .ok b=>if (prtM kw l).2 then .ok b else .error 2
theorem finS_L {α:Type} {S:α->Bs->Sexpr->Except Int α} {kw:List Bs} {a:α} {x:Sexpr}:finS S kw a x=finL S kw a (x.kids.drop 2):=rfl
theorem Yk8 {α:Type} {S:α->Bs->Sexpr->Except Int α} {kw:List Bs} {a:α}:finL S kw a []=.ok a:=by
 rw [finL,prtM,Yda];rfl
theorem YgM {p:Bs->Prop} {k:Bs} {r:List Bs} (hk:p k):∀ {pre:List Bs} {i:Int},(∀ y∈pre,¬p y)->Wn p (pre++k::r) i=i+pre.length
 | [],i,_=>by rw [List.nil_append,Wn,if_pos hk];simp
 | y::pre,i,h=>by
  rw [List.cons_append,Wn,if_neg (h y (by simp)),YgM hk (fun z hz=>h z (by simp [hz])),List.length_cons];push_cast;omega
def KwQ (kw ks:List Bs):Prop:=∃ pre,kw=pre++ks/\∀ k∈ks,k ∉ pre
theorem KwQ.self {ks:List Bs}:KwQ ks ks:=⟨[],rfl,fun _ _ h=>by cases h⟩
theorem KwQ.skip {kw ks:List Bs} {k:Bs} (h:KwQ kw (k::ks)) (hn:k ∉ ks):KwQ kw ks:=by
 obtain ⟨pre,rfl,h2⟩:=h;refine ⟨pre++ [k],by simp,fun j hj h3=>?_⟩;rcases List.mem_append.1 h3 with h3 | h3
 ·exact h2 j (by simp [hj]) h3
 rw [List.mem_singleton] at h3;exact hn (h3 ▸ hj)
theorem KwQ.take {kw ks:List Bs} {k:Bs} (h:KwQ kw (k::ks)):0<=kwI kw k/\kw.drop ((kwI kw k).toNat+1)=ks:=by
 obtain ⟨pre,rfl,h2⟩:=h;have h3:kwI (pre++k::ks) k=pre.length:=by
  rw [kwI,YgM (p:=fun y=>k=y) rfl (fun y hy h=>h2 k (by simp) (h ▸ hy))];omega
 rw [h3];refine ⟨by omega,?_⟩;rw [Int.toNat_natCast,<- List.drop_drop,List.drop_left];rfl
theorem Ybm {α:Type} {S:α->Bs->Sexpr->Except Int α} {k:Bs} {ks kw:List Bs} {c:Prop} {X:Sexpr} {R l:List Sexpr} {a b z:α} (hq:KwQ kw (k::ks)) (hn0:k.data.toList ∉ ks.map (·.data.toList))
 (h:l.map nopl=(opt c k X++R).map nopl) (hv:∀ v∈l,XVal v) (h1:c->a=b) (h2:¬c->∀ v,XVal v->nopl v=nopl X->S a k v=.ok b)
 (h3:∀ kw' r,KwQ kw' ks->r.map nopl=R.map nopl->(∀ v∈r,XVal v)->finL S kw' b r=.ok z):finL S kw a l=.ok z:=by
 have hn:k ∉ ks:=fun h=>hn0 (List.mem_map.2 ⟨k,h,rfl⟩)
 unfold opt at h;by_cases hc:c
 ·rw [if_pos hc,List.nil_append] at h;rw [h1 hc];exact h3 kw l (hq.skip hn) h hv
 rw [if_neg hc] at h;obtain ⟨w,m,rfl,e1,h⟩:=YG h;obtain ⟨v,m,rfl,e2,h⟩:=YG h;obtain ⟨g1,g2⟩:=Yd9 e1;obtain ⟨q1,q2⟩:=hq.take;have h5:=h3 ks m KwQ.self h (fun v hv'=>hv v (by simp [hv']));rw [finL,prtM,g2,if_pos ⟨g1,q1⟩,q2];simp only;rw [Yda];simp only;rw [h2 hc v (hv v (by simp)) e2];exact h5
theorem hdr_p {x:Sexpr} {k nm:Bs} {r:List Sexpr} (h:nopl x=nopl (YD ([Yg k,Yg nm]++r))) (hn:YX nm):hdrM x=.ok nm/\∃ r',x.kids.drop 2=r'/\r'.map nopl=r.map nopl/\Xw x=some (k,x.kids.drop 1):=by
 obtain ⟨h0,h⟩:=Yjz h;obtain ⟨y,m,h1,e1,h⟩:=YG h;obtain ⟨z,m,rfl,e2,h⟩:=YG h;obtain ⟨g1,g2⟩:=Yd9 e1;obtain ⟨g3,g4⟩:=Yd9 e2;refine ⟨?_,m,by rw [h1];rfl,h,?_⟩
 ·rw [hdrM,h1];simp only;rw [if_pos g3,g4,if_pos hn]
 rw [Xw,h1];simp only;rw [if_pos ⟨h0,g1⟩,g2];rfl
theorem dpar_p {v:Sexpr} {l:List Param} (h:nopl v=nopl (Ya2 l)) (hp:∀ p∈l,WG true p) (hv:XVal v):Yeu v=.ok l:=by
 obtain ⟨h1,h2⟩:=Yjz h;rw [Yeu,if_pos h1,Yhn (b:=true) (l:=l) (done:=[]) h2 hp (fun k hk=>Wb hv hk)];rfl
theorem numb_p {v:Sexpr} {n:Int} (h:nopl v=nopl (numE n)):Ydn v=.ok n:=by
 obtain ⟨h1,h2⟩:=Ymo h;rw [Ydn,if_pos h1,h2]
theorem act_p {x:Sexpr} {a:Action} (h:nopl x=nopl (actX a)) (ha:Yjk a) (hv:XVal x):actM x=.ok a:=by
 obtain ⟨h1,h2,h3,h4,h5⟩:=ha;unfold actX at h;simp only [List.append_assoc] at h;obtain ⟨g1,r',g2,g3,_⟩:=hdr_p h h1;rw [actM,g1];simp only;rw [finS_L,g2];have hv':∀ v∈r',XVal v:=fun v hv'=>Wb hv (List.mem_of_mem_drop (g2 ▸ hv'))
 obtain ⟨nm,ps,cost,pre,chs⟩:=a;refine Ybm (b:=⟨nm,ps,1,Y5,[]⟩) KwQ.self Zh g3 hv' (fun h=>by rw [act0];exact congrArg (fun p=>Action.mk nm p 1 Y5 []) h.symm) (fun _ v hv e=>by rw [setA,if_pos rfl,dpar_p e h3 hv];rfl) fun kw r hq g3 hv'=>?_
 refine Ybm (b:=⟨nm,ps,cost,Y5,[]⟩) hq Zh g3 hv' (fun h=>congrArg (fun c=>Action.mk nm ps c Y5 []) h.symm) (fun _ v hv e=>by rw [setA,if_neg Zh,if_pos rfl,numb_p e];exact if_neg (by have h2:0<=cost:=h2;omega)) fun kw r hq g3 hv'=>?_
 refine Ybm (b:=⟨nm,ps,cost,pre,[]⟩) hq Zh g3 hv' (fun h=>congrArg (fun c=>Action.mk nm ps cost c []) h.symm) (fun _ v hv e=>by rw [setA,if_neg Zh,if_neg Zh,if_pos rfl,Yc0 e h4]) fun kw r hq g3 hv'=>?_
 refine Ybm (c:=chs=[]) (X:=effX chs) (R:=[]) (b:=⟨nm,ps,cost,pre,chs⟩) hq Zh (by rw [List.append_nil];exact g3) hv' (fun h=>congrArg (fun c=>Action.mk nm ps cost pre c) h.symm) (fun _ v hv e=>by rw [setA,if_neg Zh,if_neg Zh,if_neg Zh,eff_p e h5 hv]) fun kw r hq g3 hv'=>?_
 rw [XA g3,Yk8]
theorem dur_p {x:Sexpr} {a:Durative} (h:nopl x=nopl (durX a)) (ha:Yi8 a) (hv:XVal x):durM x=.ok a:=by
 obtain ⟨h1,h3,h4,h5,h6,h7,h8⟩:=ha;unfold durX at h;simp only [List.append_assoc] at h;obtain ⟨g1,r',g2,g3,_⟩:=hdr_p h h1;rw [durM,g1];simp only;rw [finS_L,g2];have hv':∀ v∈r',XVal v:=fun v hv'=>Wb hv (List.mem_of_mem_drop (g2 ▸ hv'))
 obtain ⟨nm,ps,dn,st,ov,fn,sa,ae⟩:=a;refine Ybm (b:=⟨nm,ps,1,Y5,Y5,Y5,[],[]⟩) KwQ.self Zh g3 hv' (fun h=>by rw [dur0];exact congrArg (fun p=>Durative.mk nm p 1 Y5 Y5 Y5 [] []) h.symm) (fun _ v hv e=>by rw [setD,if_pos rfl,dpar_p e h3 hv];rfl) fun kw r hq g3 hv'=>?_
 refine Ybm (b:=⟨nm,ps,dn,Y5,Y5,Y5,[],[]⟩) hq Zh g3 hv' (fun h=>congrArg (fun c=>Durative.mk nm ps c Y5 Y5 Y5 [] []) h.symm) (fun _ v hv e=>by rw [setD,if_neg Zh,if_pos rfl,numb_p e]) fun kw r hq g3 hv'=>?_
 refine Ybm (b:=⟨nm,ps,dn,st,Y5,Y5,[],[]⟩) hq Zh g3 hv' (fun h=>congrArg (fun c=>Durative.mk nm ps dn c Y5 Y5 [] []) h.symm) (fun _ v hv e=>by rw [setD,if_neg Zh,if_neg Zh,if_pos rfl,Yc0 e h4]) fun kw r hq g3 hv'=>?_
 refine Ybm (b:=⟨nm,ps,dn,st,ov,Y5,[],[]⟩) hq Zh g3 hv' (fun h=>congrArg (fun c=>Durative.mk nm ps dn st c Y5 [] []) h.symm) (fun _ v hv e=>by rw [setD,if_neg Zh,if_neg Zh,if_neg Zh,if_pos rfl,Yc0 e h5]) fun kw r hq g3 hv'=>?_
 refine Ybm (b:=⟨nm,ps,dn,st,ov,fn,[],[]⟩) hq Zh g3 hv' (fun h=>congrArg (fun c=>Durative.mk nm ps dn st ov c [] []) h.symm) (fun _ v hv e=>by rw [setD,if_neg Zh,if_neg Zh,if_neg Zh,if_neg Zh,if_pos rfl,Yc0 e h6]) fun kw r hq g3 hv'=>?_
 refine Ybm (b:=⟨nm,ps,dn,st,ov,fn,sa,[]⟩) hq Zh g3 hv' (fun h=>congrArg (fun c=>Durative.mk nm ps dn st ov fn c []) h.symm) (fun _ v hv e=>by rw [setD,if_neg Zh,if_neg Zh,if_neg Zh,if_neg Zh,if_neg Zh,if_pos rfl,eff_p e h7 hv]) fun kw r hq g3 hv'=>?_
 refine Ybm (c:=ae=[]) (X:=effX ae) (R:=[]) (b:=⟨nm,ps,dn,st,ov,fn,sa,ae⟩) hq Zh (by rw [List.append_nil];exact g3) hv' (fun h=>congrArg (fun c=>Durative.mk nm ps dn st ov fn sa c) h.symm) (fun _ v hv e=>by rw [setD,if_neg Zh,if_neg Zh,if_neg Zh,if_neg Zh,if_neg Zh,if_neg Zh,eff_p e h8 hv]) fun kw r hq g3 hv'=>?_
 rw [XA g3,Yk8]
theorem pred_p {x:Sexpr} {p:Predicate} (h:nopl x=nopl (YeO p)) (hp:Yjm p) (hv:XVal x):Yhk x=.ok p:=by
 obtain ⟨r',h1,h2,h3,h4,h5⟩:=XB h;rw [Yhk,h1];simp only;rw [if_pos hp.1,Yhn (b:=true) (l:=p.params) (done:=[]) h2 hp.2 (fun k hk=>Wb hv (h5 k hk))];rfl
theorem fun_p {x:Sexpr} {f:Function} (h:nopl x=nopl (funX f)) (hp:YlO f) (hv:XVal x):funM x=.ok f:=by
 obtain ⟨r',h1,h2,h3,h4,h5⟩:=XB (r:=WD f.params++ [numE f.lo,numE f.hi]) h;obtain ⟨l,m,rfl,e1,e2⟩:=sims_app h2;obtain ⟨u,m,rfl,e3,e2⟩:=YG e2;obtain ⟨v,m,rfl,e4,e2⟩:=YG e2;obtain rfl:=XA e2;obtain ⟨a1,a2⟩:=Ymo e3;obtain ⟨b1,b2⟩:=Ymo e4;rw [funM,h1];simp only [List.reverse_append,List.reverse_cons,List.reverse_nil,List.nil_append,List.cons_append];rw [funB,if_pos ⟨a1,b1⟩,if_pos hp.1,show (l++ [u,v]).length - 2=l.length by simp,List.take_left,Yhn (b:=true) (l:=f.params) (done:=[]) e1 hp.2 (fun k hk=>Wb hv (h5 k (by simp [hk]))),a2,b2];rfl
end Go.Proofs.YtfjopfinkdhmaaaGreatDoor
namespace Go.Proofs.YtfjopfinkdhmaaaGreatDoor
open Go.Lx Go.RowKit
attribute [local instance 10] Classical.propDecidable
open Go.Proofs.Tryz (prog)
def nmdM (want:Bs) (x:Sexpr):Except Int Bs:=match Xw x with
 | none=>.error 2
 | some (w,r)=>match r with
  | [y]=>if w=want/\y.kind=1 then (if YX y.text then .ok y.text else .error 8) else .error 2
  | _=>.error 2
theorem YkQ {x:Sexpr} {c:Int} {want:Bs} (h:nmdM want x=.error c):c≠0:=by
 unfold nmdM at h;split at h
 ·injection h with h;omega
 split at h
 ·split at h
  ·split at h
   ·cases h
   injection h with h;omega
  injection h with h;omega
 injection h with h;omega
theorem Ym4 {x:Sexpr} {s want:Bs} (h:nmdM want x=.ok s):Short s:=by
 unfold nmdM at h;split at h
 ·cases h
 split at h
 ·split at h
  ·split at h
   ·rename_i hn;injection h with h
    subst h;have:=hn.2.2.1;unfold Short;omega
   cases h
  cases h
 cases h
variable {fz:FZ} {vk:Value}
theorem Ym5 {x:Sexpr} {want:Bs} (h:YS fz x vk):QFn prog 98 [.agg #[Zk x.kind,Zk x.value,Zk x.line,Zk x.column,.string x.text,vk],.string want] fz (strV (nmdM want x)):=by
 have hM:nmdM want x=match Xw x with
 | none=>.error 2
 | some (w,r)=>match r with
  | [y]=>if w=want/\y.kind=1 then (if YX y.text then .ok y.text else .error 8) else .error 2
  | _=>.error 2:=rfl
 have hRx:=h;obtain ⟨A,n,c,rfl,ik⟩:=h.kids;refine GFn.quiet ?_;refine zF Tryz.func98 Tryz.ntmps98 (fun w0=>?_);refine zW ?_;intros;refine wK (q:=Yft hRx) (h:=fun r1 fz1 H1 hle1 hR1=>?_);obtain ⟨rfl,rfl,hR1⟩:=hR1;unfold Ydy at hR1;cases hh:Xw x with
 | none=>
  rw [hh] at hM hR1;subst hR1;rw [hM];exact wS (h:=rfl)
 | some wr=>
  obtain ⟨w,r⟩:=wr;rw [hh] at hM hR1;obtain ⟨A',n',c',rfl,ir,hw⟩:=hR1;simp only at hM;have hrl:=ir.len;refine wC (fun c2=>?_) (fun c2=>?_)
  ·have hM2:nmdM want x=.error 2:=by
    rw [hM];split
    ·rw [if_neg (fun h=>c2 h.1)]
    rfl
   rw [hM2];exact wS (h:=rfl)
  refine wC (fun c3=>?_) (fun c3=>?_)
  ·have hM2:nmdM want x=.error 2:=by
    rw [hM];split
    ·simp at hrl;omega
    rfl
   rw [hM2];exact wS (h:=rfl)
  obtain ⟨y,rfl⟩:∃ y,r=[y]:=by
   have h3:r.length=1:=by omega
   match r,h3 with
   | [y],_=>exact ⟨y,rfl⟩
  simp only at hM;have hy: [y][0]?=some y:=rfl;refine wI ir hy (fun p hp=>?_);refine wG ?_;refine XG T Zz Zz Zz hp.Sexpr_kind (fun i1=>?_);refine zC (fun c4=>?_) (fun c4=>?_)
  ·rw [if_neg (fun h=>c4 h.2)] at hM;rw [hM];exact wS (h:=rfl)
  rw [if_pos ⟨c2,c4⟩] at hM;refine wI ir hy (fun p2 hp2=>?_);refine wH hp2.Sexpr_text (fun hst=>?_);refine wb (Ww hst) (fun f1=>?_) (fun f1=>?_)
  ·rw [if_pos (Zt f1)] at hM;rw [hM];refine wI ir hy (fun p3 hp3=>?_);refine wH hp3.Sexpr_text (fun hst3=>?_);exact wS (h:=rfl)
  rw [if_neg (Zf f1)] at hM;rw [hM];exact wS (h:=rfl)
def Ydw:List Sexpr->Except Int (List Bs)
 | []=>.ok []
 | x::r=>if x.kind≠1 then .error 2 else if ¬YX x.text then .error 8 else exA [x.text] (Ydw r)
def patM (w:Bs) (r:List Sexpr):Except Int Atom:=if YX w then (match Ydw r with
 | .error c=>.error c
 | .ok a=>.ok ⟨w,a⟩) else .error 8
def zeroAt:Atom:=⟨⟨#[]⟩,[]⟩
theorem Yd5:atomL.rep fz zeroAt [Ze,Zn]:=Yez (x:=zeroAt) ⟨XV,IsSl.nil⟩
theorem Ylj:∀ {l:List Sexpr} {a:List Bs},Ydw l=.ok a->a.length=l.length
 | [],a,h=>by rw [Ydw] at h;injection h with h;subst h;rfl
 | x::r,a,h=>by
  rw [Ydw] at h;split at h
  ·cases h
  split at h
  ·cases h
  obtain ⟨b,h1,rfl⟩:=Yi4 h;rw [List.length_append,Ylj h1,List.length_cons,List.length_cons,List.length_nil];omega
variable {A:Option Addr} {c n:Nat}
set_option maxHeartbeats 4000000 in
theorem YmS {r:List Sexpr} {w:Bs} (hw:Short w) (h:Sl Yz fz A n c r) (hn:n<=1000000):
 GFn prog 188 [.string w,.slice A n c] fz [] (fun v fz' H'=>H'=[]/\ResL atomL fz' (patM w r) v):=by
 have hM:patM w r=if YX w then (match Ydw r with
 | .error c=>.error c
 | .ok a=>.ok ⟨w,a⟩) else .error 8:=rfl
 have hl:=h.len;refine zF Tryz.func188 Tryz.ntmps188 (fun w0=>?_);refine zW ?_;intros;refine zb (Ww hw) (fun f1=>?_) (fun f1=>?_)
 ·rw [if_pos (Zt f1)] at hM;refine zW ?_;intros;rename_i g4 g6;refine Ym (fun q σ fz' H'=>∃ (k:Nat) (v:Value) (Hs:HP) (out:List Bs),k<=n/\q=n - k/\σ=[(18,Zk k),(17,Zk n),(16,.slice A n c),(6,Zp g6),(4,Zp g4)]/\fz=fz'/\H'=(g6,.cells #[.string w,v] 114 (0,0))::(g4,.cells #[Ze,Zn] 114 (0,0))::Hs/\Grow strL 9 fz v k Hs out/\Ydw r=exA out (Ydw (r.drop k))) ⟨0,_,[],[],Z0 _,rfl,rfl,rfl,rfl,Grow.nil _ _ _,by rw [YcL];rfl⟩ Zw Zb ?_;rintro q σ fz' H' ⟨k,v,Hs,out,hk,rfl,rfl,rfl,rfl,hG,hT⟩;obtain ⟨Av,cv,rfl,_,_⟩:=hG.form;refine wC (fun c1=>?_) (fun c1=>?_)
  ·obtain ⟨z,hz⟩:=Yl (l:=r) (k:=k) Zi;rw [YbG hz,Ydw] at hT;refine wI h hz (fun p2 hp2=>?_);refine zL hp2 ?_;intro cs hcs;obtain ⟨vz,rfl,hRz⟩:=Yi hcs;obtain ⟨Az,nz,cz,rfl,iz⟩:=hRz.kids;refine zW ?_;intros;rename_i g8;refine zC (fun c2=>?_) (fun c2=>?_)
   ·rw [if_pos c2] at hT;rw [show Ydw r=.error 2 from hT] at hM;refine zW ?_;exact YN T (vs:=[.agg #[Ze,Zn],.iface 65 (Zk 2)]) Zz ⟨⟨_,_,2,_,_,_,rfl,rfl,rfl,rfl,rfl,rfl⟩,rfl,trivial⟩ (fun fz3 hle3 hf3=>⟨rfl,ResL.err hM Zh Yd5⟩)
   rw [if_neg (Classical.not_not.2 c2)] at hT;refine wb (Ww hRz.text) (fun f2=>?_) (fun f2=>?_)
   ·rw [if_neg (Classical.not_not.2 (Zt f2)),YfU] at hT;refine zW ?_;refine Ya Zz (Yb T (cs:=[.string z.text]) Zz Zz Zz Zz Zz Zz Zz Zz (fun gb=>?_));refine Ya Zz (YP T (d:=z.text) (cs:=[.string z.text]) (Hr:=[(gb,_),(g8,_),(g6,_),(g4,_)]) Zz Zz Zz Zz Zz Zz Zz Zz (Zr _) hG YcX (.head _) ⟨rfl,hRz.text⟩ (by show _*16<=_;omega) Zi (fun v' Hs' hG'=>?_));obtain ⟨Av',cv',rfl,_,_⟩:=hG'.form;refine zW ?_;exact WO (H':=(g6,_)::(g4,_)::Hs') ⟨k+1,_,Hs',out++ [z.text],by omega,rfl,rfl,rfl,rfl,hG',hT⟩ Zi Zw Zb
   rw [if_pos (Zf f2)] at hT;rw [show Ydw r=.error 8 from hT] at hM;refine zW ?_;exact YN T (vs:=[.agg #[Ze,Zn],.iface 65 (Zk 8)]) Zz ⟨⟨_,_,2,_,_,_,rfl,rfl,rfl,rfl,rfl,rfl⟩,rfl,trivial⟩ (fun fz3 hle3 hf3=>⟨rfl,ResL.err hM Zh Yd5⟩)
  rw [List.drop_eq_nil_of_le Zi,Ydw,exA,List.append_nil] at hT;rw [hT] at hM;refine zW ?_;refine YN T (vs:=[.agg #[.string w,.slice Av k cv],.nilIface]) Zz ⟨⟨_,_,1,_,_,_,rfl,rfl,rfl,rfl,rfl,rfl⟩,rfl,trivial⟩ (fun fz3 hle3 hf3=>⟨rfl,ResL.fine hM (Yez (x:=⟨w,out⟩) ⟨hw,?_⟩)⟩);obtain ⟨A1,c1',hv1,hS1⟩:=hG.sl hle3 (fun p hp=>hf3 p (List.mem_cons_of_mem _ (List.mem_cons_of_mem _ hp))) Zi;exact ⟨_,_,_,hv1,hS1⟩
 rw [if_neg (Zf f1)] at hM;refine zW ?_;exact YN T (vs:=[.agg #[Ze,Zn],.iface 65 (Zk 8)]) Zz ⟨⟨_,_,0,_,_,_,rfl,rfl,rfl,rfl,rfl,rfl⟩,rfl,trivial⟩ (fun fz3 hle3 hf3=>⟨rfl,ResL.err hM Zh Yd5⟩)
theorem at_one:OneC atomL:=by
 intro fz d cs h u hu;obtain ⟨v1,rfl,hR⟩:=WF h;obtain ⟨A1,n1,c1,rfl,_⟩:=hR.args;simp at hu;rcases hu with rfl | rfl<;>rfl
theorem val_one:OneC valueL:=by
 intro fz d cs h u hu;obtain ⟨v1,rfl,hR⟩:=Yav h;obtain ⟨A1,n1,c1,rfl,_⟩:=hR.fluent.args;simp at hu;rcases hu with rfl | rfl | rfl<;>rfl
def PrbS (fz:FZ) (g:Nat) (p:Problem) (H:HP):Prop:=
 ∃ vo vi vv a1 a2 a3 a4 Hi Hv,H.Perm ((g,.cells #[.string p.name,.string p.domain,vo,vi,vv,.string p.goal.op,.string p.goal.name,a1,a2,a3,a4] 40 (0,0))::(Hi++Hv))/\Short p.name/\Short p.domain/\IsSl paramL fz vo p.objects/\
  Grow atomL 114 fz vi p.init.length Hi p.init/\Grow valueL 116 fz vv p.values.length Hv p.values/\FormulaR fz p.goal a1 a2 a3 a4
variable {H:HP} {fz':FZ} {p:Problem}
theorem PrbS.mono {g:Nat} (h:PrbS fz g p H) (hle:Le fz fz'):PrbS fz' g p H:=by
 obtain ⟨vo,vi,vv,a1,a2,a3,a4,Hi,Hv,hp,h1,h2,h3,h4,h5,h6⟩:=h;exact ⟨vo,vi,vv,a1,a2,a3,a4,Hi,Hv,hp,h1,h2,h3.mono hle,h4.mono hle,h5.mono hle,h6.mono hle⟩
def ElmR (g:Nat) (m:Except Int Problem) (v:Value) (fz:FZ) (H:HP):Prop:=match m with
 | .error c=>v=errV c/\c≠0/\∃ p,PrbS fz g p H/\p.init.length<=200000000/\p.values.length<=200000000
 | .ok p=>v=.nilIface/\PrbS fz g p H
theorem YaH {g:Nat} {m:Except Int Problem} {c:Int} (h:m=.error c) (hc:c≠0) (hp:PrbS fz g p H) (b1:p.init.length<=200000000) (b2:p.values.length<=200000000):ElmR g m (.iface 65 (Zk c)) fz H:=by rw [h];exact ⟨(Yk hc).symm,hc,p,hp,b1,b2⟩
def elmB (p:Problem) (w:Bs) (r:List Sexpr):Except Int Problem:=if w=kEq then (match r with
 | [y,z]=>if z.kind=2 then (match Xw y with
  | none=>.error 2
  | some (nm,l)=>match patM nm l with
   | .error c=>.error c
   | .ok a=>.ok {p with values:=p.values++ [⟨a,z.value⟩]}) else .error 2
 | _=>.error 2) else (match patM w r with
 | .error c=>.error c
 | .ok a=>.ok {p with init:=p.init++ [a]})
def elmM (p:Problem) (x:Sexpr):Except Int Problem:=match Xw x with
 | none=>.error 2
 | some (w,r)=>elmB p w r
set_option maxHeartbeats 16000000 in
theorem YnM {g:Nat} {x:Sexpr} (hs:XSm x) (hD:PrbS fz g p H) (hR:YS fz x vk) (b1:p.init.length<=100000000) (b2:p.values.length<=100000000):
 GFn prog 147 [Zp g,.agg #[Zk x.kind,Zk x.value,Zk x.line,Zk x.column,.string x.text,vk]] fz H (fun v fz' H'=>Le fz fz'/\ElmR g (elmM p x) v fz' H'):=by
 obtain ⟨vo,vi,vv,a1,a2,a3,a4,Hi,Hv,hperm,hn1,hn2,ho,hgi,hgv,hgo⟩:=hD;have hRx:=hR;obtain ⟨A,n,c,rfl,ik⟩:=hR.kids;have hl:=ik.len;obtain ⟨Xi,xi,rfl,_,_⟩:=hgi.form;obtain ⟨Xv,xv,rfl,_,_⟩:=hgv.form;generalize hM:elmM p x=M;unfold elmM at hM;have keep:∀ fz',Le fz fz'->PrbS fz' g p ((g,.cells #[.string p.name,.string p.domain,vo,.slice Xi p.init.length xi,.slice Xv p.values.length xv,.string p.goal.op,.string p.goal.name,a1,a2,a3,a4] 40 (0,0))::(Hi++Hv)):=fun fz' hle=>⟨vo,_,_,a1,a2,a3,a4,Hi,Hv,Zr _,hn1,hn2,ho.mono hle,hgi.mono hle,hgv.mono hle,hgo.mono hle⟩
 refine zF Tryz.func147 Tryz.ntmps147 (fun w0=>?_);refine Wp.perm hperm.symm ?_;refine zW ?_;intros;rename_i g3;refine wK (q:=Yft hRx) (h:=fun r1 fz1 H1 hle1 hR1=>?_);obtain ⟨rfl,rfl,hR1⟩:=hR1;unfold Ydy at hR1;rw [List.nil_append];cases hh:Xw x with
 | none=>
  rw [hh] at hM hR1;subst hR1;subst hM;refine zW ?_;exact ret1 (H':=(g,_)::(Hi++Hv)) rfl rfl Zb ⟨Le.refl _,YaH rfl Zh (keep _ (Le.refl _)) Zi Zi⟩
 | some wr=>
  obtain ⟨w,r⟩:=wr;rw [hh] at hM hR1;obtain ⟨A',n',c',rfl,ir,hw⟩:=hR1;simp only at hM;unfold elmB at hM;have hrl:=ir.len;have hrs:=WA hs hh;refine wC (fun c2=>?_) (fun c2=>?_)
  ·rw [if_neg (show ¬w=kEq from c2)] at hM;refine wK (q:=YmS hw ir Zi) (h:=fun r5 fz5 H5 hle5 hR5=>?_);obtain ⟨rfl,y,cs5,hy5,hR5⟩:=hR5;rw [List.nil_append];obtain ⟨x1,rfl,hY⟩:=WF hy5;obtain ⟨E1,e1,q1,rfl,_⟩:=hY.args;cases hx:patM w r with
   | error c=>
    rw [hx] at hM hR5;obtain ⟨rfl,hc⟩:=hR5;subst hM;rw [Yk hc];refine zW ?_;intros;exact ret1 (H':=(g,_)::(Hi++Hv)) rfl rfl Zb ⟨hle5,YaH rfl hc (keep _ hle5) Zi Zi⟩
   | ok y2=>
    rw [hx] at hM hR5;obtain ⟨rfl,rfl⟩:=hR5;subst hM;have hG:=hgi.mono hle5;refine zWN ?_;intros;rename_i g8;refine Wp.perm (List.Perm.cons _ (List.Perm.cons _ (List.Perm.cons _ (Zq (l₁:=Hv) (l₂:=Hi))))) ?_;refine Wp.drawP [8,9] (Hq:=[_,_,_]) T.mixed Zj Zj Zb ?_;refine zW ?_;refine Ye ?_;refine Ye ?_;refine PK.p Zz (fun fz'=>by first | exact WH Zz rfl | exact XE Zz rfl | exact YT T Zz Zz Zz Zz Zz Zz rfl | exact Yaz Zz Zz (XD Zi) rfl | exact YQ T Zz Zz Zz rfl) ?_;refine PK.p Zz (fun fz'=>by first | exact WH Zz rfl | exact XE Zz rfl | exact YT T Zz Zz Zz Zz Zz Zz rfl | exact Yaz Zz Zz (XD Zi) rfl | exact YQ T Zz Zz Zz rfl) ?_;refine Ye ?_;refine PK.done ⟨by kernel_rfl,?_⟩;refine Yc Zz Zz ?_;refine Yd (Yb T (cs:=[.string y2.name,.slice E1 e1 q1]) Zz Zz Zz Zz Zz Zz Zz Zz (fun gb=>⟨(⟨(Le.refl _),Zx⟩),?_⟩));refine Yc Zz Zz ?_;refine Yd (YP T (d:=y2) (cs:=[.string y2.name,.slice E1 e1 q1]) (Hr:=(gb,_)::(g8,_)::(g3,_)::(g,_)::Hv) Zz Zz Zz Zz Zz Zz Zz Zz (Zr _) hG at_one (.head _) hy5 (by show _*40<=_;omega) Zi (fun v' Hs' hG'=>⟨(⟨(Le.refl _),Zx⟩),?_⟩));obtain ⟨Av',cv',rfl,_,_⟩:=hG'.form;refine Yc Zz Zz ?_;refine PoS.hard0 Zj (Wz T Zz Zz Zz Zz Zz Zz ?_);refine Po.done ?_;refine zW ?_;have hlen:=hG'.len;rw [<- hlen] at hG' ⊢;exact ret1 (H':=(g,_)::(Hv++Hs')) rfl rfl Zb ⟨hle5,rfl,vo,_,_,a1,a2,a3,a4,Hs',Hv,List.Perm.cons _ Zq,hn1,hn2,ho.mono hle5,hG',hgv.mono hle5,hgo.mono hle5⟩
  rw [if_pos (show w=kEq from c2)] at hM;refine wC (fun c3=>?_) (fun c3=>?_)
  ·have hM2:M=.error 2:=by
    rw [<- hM];split
    ·simp at hrl;omega
    rfl
   refine zW ?_;exact ret1 (H':=(g,_)::(Hi++Hv)) rfl rfl Zb ⟨Le.refl _,YaH hM2 Zh (keep _ (Le.refl _)) Zi Zi⟩
  obtain ⟨y,z,rfl⟩:∃ y z,r=[y,z]:=by
   have h3:r.length=2:=by omega
   match r,h3 with
   | [y,z],_=>exact ⟨y,z,rfl⟩
  simp only at hM;have hy: [y,z][0]?=some y:=rfl;have hz: [y,z][1]?=some z:=rfl;have hsy:=Wf hs hh (y:=y) (by simp);refine wI ir hz (fun p1 hp1=>?_);refine wG ?_;refine XG T Zz Zz Zz hp1.Sexpr_kind (fun i1=>?_);refine zC (fun c4=>?_) (fun c4=>?_)
  ·rw [if_neg c4] at hM;refine zW ?_;exact ret1 (H':=(g,_)::(Hi++Hv)) rfl rfl Zb ⟨Le.refl _,YaH hM.symm Zh (keep _ (Le.refl _)) Zi Zi⟩
  rw [if_pos c4] at hM;refine wI ir hy (fun p2 hp2=>?_);refine zL hp2 ?_;intro cs2 hcs2;obtain ⟨vy,rfl,hRy⟩:=Yi hcs2;refine wK (q:=Yft hRy) (h:=fun r6 fz6 H6 hle6 hR6=>?_);obtain ⟨rfl,rfl,hR6⟩:=hR6;unfold Ydy at hR6;rw [List.nil_append];cases hhy:Xw y with
  | none=>
   rw [hhy] at hM hR6;subst hR6;refine zW ?_;exact ret1 (H':=(g,_)::(Hi++Hv)) rfl rfl Zb ⟨Le.refl _,YaH hM.symm Zh (keep _ (Le.refl _)) Zi Zi⟩
  | some nl=>
   obtain ⟨nm,l⟩:=nl;rw [hhy] at hM hR6;obtain ⟨A7,n7,c7,rfl,il,hnm⟩:=hR6;simp only at hM;have hll:=il.len;have hls:=WA hsy hhy;refine wK (q:=YmS hnm il Zi) (h:=fun r5 fz5 H5 hle5 hR5=>?_);obtain ⟨rfl,y2,cs5,hy5,hR5⟩:=hR5;rw [List.nil_append];obtain ⟨x1,rfl,hY⟩:=WF hy5;have hY':=hY;obtain ⟨E1,e1,q1,rfl,_⟩:=hY.args;cases hx:patM nm l with
   | error c=>
    rw [hx] at hM hR5;obtain ⟨rfl,hc⟩:=hR5;rw [Yk hc];refine zW ?_;intros;exact ret1 (H':=(g,_)::(Hi++Hv)) rfl rfl Zb ⟨hle5,YaH hM.symm hc (keep _ hle5) Zi Zi⟩
   | ok y3=>
    rw [hx] at hM hR5;obtain ⟨rfl,rfl⟩:=hR5;subst hM;have hG:=hgv.mono hle5;refine zWN ?_;intros;rename_i g12;refine Wp.drawP [13,14] (Hq:=[_,_,_]) T.mixed Zj Zj Zb ?_;refine wI (ir.mono hle5) hz (fun p8 hp8=>?_);refine wG ?_;refine XG T Zz Zz Zz hp8.Sexpr_value (fun i8=>?_);refine zW ?_;refine Ye ?_;refine Ye ?_;refine PK.p Zz (fun fz'=>by first | exact WH Zz rfl | exact XE Zz rfl | exact YT T Zz Zz Zz Zz Zz Zz rfl | exact Yaz Zz Zz (XD Zi) rfl | exact YQ T Zz Zz Zz rfl) ?_;refine PK.p Zz (fun fz'=>by first | exact WH Zz rfl | exact XE Zz rfl | exact YT T Zz Zz Zz Zz Zz Zz rfl | exact Yaz Zz Zz (XD Zi) rfl | exact YQ T Zz Zz Zz rfl) ?_;refine Ye ?_;refine PK.done ⟨by kernel_rfl,?_⟩;refine Yc Zz Zz ?_;refine Yd (Yb T (cs:=[.string y3.name,.slice E1 e1 q1,Zk z.value]) Zz Zz Zz Zz Zz Zz Zz Zz (fun gb=>⟨(⟨(Le.refl _),Zx⟩),?_⟩));refine Yc Zz Zz ?_;refine Yd (YP T (d:=⟨y3,z.value⟩) (cs:=[.string y3.name,.slice E1 e1 q1,Zk z.value]) (Hr:=(gb,_)::(g12,_)::(g3,_)::(g,_)::Hi) Zz Zz Zz Zz Zz Zz Zz Zz (Zr _) hG val_one (.head _) (Yjr (x:=⟨y3,z.value⟩) ⟨hY',i8⟩) (by show _*48<=_;omega) Zi (fun v' Hs' hG'=>⟨(⟨(Le.refl _),Zx⟩),?_⟩));obtain ⟨Av',cv',rfl,_,_⟩:=hG'.form;refine Yc Zz Zz ?_;refine PoS.hard0 Zj (Wz T Zz Zz Zz Zz Zz Zz ?_);refine Po.done ?_;refine zW ?_;have hlen:=hG'.len;rw [<- hlen] at hG' ⊢;exact ret1 (H':=(g,_)::(Hi++Hs')) rfl rfl Zb ⟨hle5,rfl,vo,_,_,a1,a2,a3,a4,Hi,Hs',Zr _,hn1,hn2,ho.mono hle5,hgi.mono hle5,hG',hgo.mono hle5⟩
def YdU {α:Type} (S:α->Sexpr->Except Int α):α->List Sexpr->Except Int α
 | a,[]=>.ok a
 | a,x::r=>match S a x with
  | .error c=>.error c
  | .ok b=>YdU S b r
def Yef (p:Problem) (w:Bs) (r:List Sexpr):Except Int Problem:=
 if w=XP then (match parM false r [] [] with | .error c=>.error c | .ok l=>.ok {p with objects:=l})
 else if w=YcH then YdU elmM p r
 else match r with
  | [y]=>(match WU y with | .error c=>.error c | .ok f=>.ok {p with goal:=f})
  | _=>.error 2
theorem YnL {p':Problem} {x:Sexpr} (h:elmM p x=.ok p'):p'.init.length<=p.init.length+1/\p'.values.length<=p.values.length+1:=by
 unfold elmM at h;split at h
 ·cases h
 unfold elmB at h;split at h
 ·split at h
  ·split at h
   ·split at h
    ·cases h
    split at h
    ·cases h
    injection h with h;subst h;exact ⟨Nat.le_succ _,by show (p.values++_).length<=_;rw [List.length_append];exact Zs _⟩
   cases h
  cases h
 split at h
 ·cases h
 injection h with h;subst h;exact ⟨by show (p.init++_).length<=_;rw [List.length_append];exact Zs _,Nat.le_succ _⟩
set_option maxHeartbeats 16000000 in
theorem Ylw {g:Nat} {r:List Sexpr} {w:Bs} (hs:∀ y∈r,XSm y) (hD:PrbS fz g p H) (ir:Sl Yz fz A n c r) (hn:n<=1000000) (b1:p.init.length+n<=100000000) (b2:p.values.length+n<=100000000):
 GFn prog 99 [Zp g,.string w,.slice A n c] fz H (fun v fz' H'=>Le fz fz'/\ElmR g (Yef p w r) v fz' H'):=by
 generalize hM:Yef p w r=M;unfold Yef at hM;have hrl:=ir.len;refine zF Tryz.func99 Tryz.ntmps99 (fun w0=>?_);refine wC (fun c1=>?_) (fun c1=>?_)
 ·rw [if_pos (show w=XP from c1)] at hM;obtain ⟨vo,vi,vv,a1,a2,a3,a4,Hi,Hv,hperm,hn1,hn2,ho,hgi,hgv,hgo⟩:=hD;refine Seq.perm hperm.symm ?_;refine wK (q:=YaN (b:=false) ir Zi) (h:=fun r5 fz5 H5 hle5 hR5=>?_);obtain ⟨rfl,hR5⟩:=hR5;rw [List.nil_append];cases hps:parM false r [] [] with
  | error c=>
   rw [hps] at hM hR5;obtain ⟨rfl,hc⟩:=hR5;rw [Yk hc];refine zW ?_;exact ret1 (H':=(g,_)::(Hi++Hv)) rfl rfl Zb ⟨hle5,YaH (p:={p with objects:=[]}) hM.symm hc ⟨_,vi,vv,a1,a2,a3,a4,Hi,Hv,Zr _,hn1,hn2,IsSl.nil,hgi.mono hle5,hgv.mono hle5,hgo.mono hle5⟩ (by show p.init.length<=_;omega) (by show p.values.length<=_;omega)⟩
  | ok l=>
   rw [hps] at hM hR5;obtain ⟨A5,n5,c5,rfl,il⟩:=hR5;subst hM;refine zW ?_;exact ret1 (H':=(g,_)::(Hi++Hv)) rfl rfl Zb ⟨hle5,rfl,_,vi,vv,a1,a2,a3,a4,Hi,Hv,Zr _,hn1,hn2,⟨_,_,_,rfl,il⟩,hgi.mono hle5,hgv.mono hle5,hgo.mono hle5⟩
 rw [if_neg (show ¬w=XP from c1)] at hM;refine wC (fun c2=>?_) (fun c2=>?_)
 ·rw [if_pos (show w=YcH from c2)] at hM;refine zW ?_;refine Ym (fun q σ fz' H'=>∃ (k:Nat) (p2:Problem),k<=n/\q=n - k/\σ=[(40,Zk k),(39,Zk n),(38,.slice A n c),(7,.nilIface),(0,Zp g)]/\Le fz fz'/\PrbS fz' g p2 H'/\p2.init.length<=p.init.length+k/\p2.values.length<=p.values.length+k/\M=YdU elmM p2 (r.drop k)) ⟨0,p,Z0 _,rfl,rfl,Le.refl _,hD,Zs _,Zs _,hM.symm⟩ Zw (List.Sublist.refl _) ?_;rintro q σ fz' H' ⟨k,p2,hk,rfl,rfl,hle,hD2,hl1,hl2,hF⟩;refine wC (fun c3=>?_) (fun c3=>?_)
  ·obtain ⟨z,hz⟩:=Yl (l:=r) (k:=k) Zi;have hsz:=hs z (Zm hz);rw [YbG hz,YdU] at hF;refine wI (ir.mono hle) hz (fun p1 hp1=>?_);refine zL hp1 ?_;intro cs hcs;obtain ⟨vz,rfl,hRz⟩:=Yi hcs;have hRz':=hRz;obtain ⟨Az,nz,cz,rfl,iz⟩:=hRz.kids;refine zW ?_;intros;rename_i g9;refine Ya Zz (Does.perm (Zq (l₁:=H') (l₂:=[(g9,_)])) (Yx H' [(g9,_)] Zz Zz Zz (YnM hsz hD2 hRz' Zi Zi) (fun v6 fz6 H6 hle6 hR6=>?_)));obtain ⟨_,hR6⟩:=hR6;refine Seq.perm (H':=[(g9,_)]++H6) Zq ?_;cases hx:elmM p2 z with
   | error c'=>
    rw [hx] at hR6 hF;obtain ⟨rfl,hc,p3,hp3,hb3,hb4⟩:=hR6;rw [Yk hc];refine zW ?_;exact ret1 (H':=H6) rfl rfl (List.Sublist.cons _ (List.Sublist.refl _)) ⟨hle.trans hle6,YaH hF hc hp3 hb3 hb4⟩
   | ok d2=>
    rw [hx] at hR6 hF;obtain ⟨rfl,hD6⟩:=hR6;have hel:=YnL hx;refine zW ?_;exact WO (H':=H6) ⟨k+1,d2,by omega,rfl,rfl,hle.trans hle6,hD6,by omega,by omega,hF⟩ Zi Zw (List.Sublist.cons _ (List.Sublist.refl _))
  rw [List.drop_eq_nil_of_le Zi,YdU] at hF;refine zW ?_;exact ret1 (H':=H') rfl rfl (List.Sublist.refl _) ⟨hle,by rw [hF];exact ⟨rfl,hD2⟩⟩
 rw [if_neg (show ¬w=YcH from c2)] at hM;refine wC (fun c3=>?_) (fun c3=>?_)
 ·have hM2:M=.error 2:=by
   rw [<- hM];split
   ·simp at hrl;omega
   rfl
  refine zW ?_;exact ret1 (H':=H) rfl rfl (List.Sublist.refl _) ⟨Le.refl _,YaH hM2 Zh hD Zi Zi⟩
 obtain ⟨y,rfl⟩:∃ y,r=[y]:=by
  have h3:r.length=1:=by omega
  match r,h3 with
  | [y],_=>exact ⟨y,rfl⟩
 simp only at hM;have hy: [y][0]?=some y:=rfl;obtain ⟨vo,vi,vv,a1,a2,a3,a4,Hi,Hv,hperm,hn1,hn2,ho,hgi,hgv,hgo⟩:=hD;refine Seq.perm hperm.symm ?_;refine wI ir hy (fun p1 hp1=>?_);refine zL hp1 ?_;intro cs hcs;obtain ⟨vy,rfl,hRy⟩:=Yi hcs;refine wK (q:=Yc3 hRy) (h:=fun r5 fz5 H5 hle5 hR5=>?_);obtain ⟨rfl,f5,cs5,hr5,hR5⟩:=hR5;rw [List.nil_append];obtain ⟨y1,y2,y3,y4,rfl,hE5⟩:=YA hr5;have hE6:=hE5;obtain ⟨B1,m1,d1,rfl,_⟩:=hE5.args;obtain ⟨B2,m2,d2,rfl,_⟩:=hE5.params;obtain ⟨B3,m3,d3,rfl,_⟩:=hE5.exprs;obtain ⟨B4,m4,d4,rfl,_⟩:=hE5.kids;cases hx:WU y with
 | error c=>
  rw [hx] at hM hR5;obtain ⟨rfl,hc⟩:=hR5;rw [Yk hc];refine zW ?_;exact ret1 (H':=(g,_)::(Hi++Hv)) rfl rfl Zb ⟨hle5,YaH (p:={p with goal:=f5}) hM.symm hc ⟨_,vi,vv,_,_,_,_,Hi,Hv,Zr _,hn1,hn2,ho.mono hle5,hgi.mono hle5,hgv.mono hle5,hE6⟩ (by show p.init.length<=_;omega) (by show p.values.length<=_;omega)⟩
 | ok f=>
  rw [hx] at hM hR5;obtain ⟨rfl,rfl⟩:=hR5;subst hM;refine zW ?_;exact ret1 (H':=(g,_)::(Hi++Hv)) rfl rfl Zb ⟨hle5,rfl,_,vi,vv,_,_,_,_,Hi,Hv,Zr _,hn1,hn2,ho.mono hle5,hgi.mono hle5,hgv.mono hle5,hE6⟩
def Yc8:List Bs->Problem->List Sexpr->Except Int Problem
 | _,p,[]=>.ok p
 | kw,p,s::r=>match Xw s with
  | none=>.error 2
  | some (w,l)=>if 0<=kwI kw w then (match Yef p w l with
   | .error c=>.error c
   | .ok p'=>Yc8 (kw.drop ((kwI kw w).toNat+1)) p' r) else .error 2
def kwP3:List Bs:=[XP,YcH,YbT]
def pPar (x:Sexpr):Except Int Problem:=match Xw x with
 | none=>.error 2
 | some (w,r)=>if w=YB then (match r with
  | []=>.error 2
  | y::r1=>match nmdM Xk y with
   | .error c=>.error c
   | .ok nm=>match r1 with
    | []=>.error 2
    | z::r2=>match nmdM YH z with
     | .error c=>.error c
     | .ok dm=>Yc8 kwP3 ⟨nm,dm,[],[],[],Y5⟩ r2) else .error 2
def Ycr (x:Sexpr):Except Int Problem:=if XVal x then (match pPar x with
 | .error c=>.error c
 | .ok p=>if FVal p.goal/\Ybs p/\XVal (prbX p) then .ok p else .error 5) else .error 2
structure PrbT (k:Nat) (p:Problem):Prop where
 o:p.objects.length<=1000000
 i:p.init.length<=k*4096
 ii:∀ a∈p.init,a.args.length<=1000000
 v:p.values.length<=k*4096
 vv:∀ a∈p.values,a.fluent.args.length<=1000000
 g:FSm p.goal
theorem pat_sm {w:Bs} {l:List Sexpr} {a:Atom} (hl:l.length<=1000000) (h:patM w l=.ok a):a.args.length<=1000000:=by
 unfold patM at h;split at h
 ·split at h
  ·cases h
  rename_i b hb;injection h with h;subst h
  show b.length<=_;rw [Ylj hb];exact hl
 cases h
theorem Yn9 {α:Type} {q:α->Prop} {l m:List α} (h1:∀ x∈l,q x) (h2:∀ x∈m,q x):∀ x∈l++m,q x:=fun x hx=>by
 rcases List.mem_append.1 hx with hx | hx
 ·exact h1 x hx
 exact h2 x hx
def PrbU (p:Problem):Prop:=p.objects.length<=1000000/\(∀ a∈p.init,a.args.length<=1000000)/\(∀ a∈p.values,a.fluent.args.length<=1000000)/\FSm p.goal
theorem elm_sm {p':Problem} {x:Sexpr} (hs:XSm x) (h:elmM p x=.ok p') (hp:PrbU p):PrbU p':=by
 obtain ⟨h1,h2,h3,h4⟩:=hp;unfold elmM at h;split at h
 ·cases h
 rename_i w r hh;have hr:=WA hs hh;unfold elmB at h;split at h
 ·split at h
  ·rename_i y z;split at h
   ·split at h
    ·cases h
    rename_i nm l hhy;have:=WA (Wf hs hh (y:=y) (by simp)) hhy;split at h
    ·cases h
    rename_i a ha;injection h with h;subst h
    exact ⟨h1,h2,Yn9 h3 (by intro u hu;simp at hu;subst hu;exact pat_sm this ha),h4⟩
   cases h
  cases h
 split at h
 ·cases h
 rename_i a ha;injection h with h;subst h
 exact ⟨h1,Yn9 h2 (by intro u hu;simp at hu;subst hu;exact pat_sm hr ha),h3,h4⟩
theorem YnK:∀ {r:List Sexpr} {p p':Problem},(∀ y∈r,XSm y)->YdU elmM p r=.ok p'->PrbU p->PrbU p'/\p'.init.length<=p.init.length+r.length/\p'.values.length<=p.values.length+r.length
 | [],p,p',_,h,hp=>by rw [YdU] at h;injection h with h;subst h;exact ⟨hp,Zs _,Zs _⟩
 | x::r,p,p',hs,h,hp=>by
  rw [YdU] at h;split at h
  ·cases h
  rename_i q hq;have h1:=YnL hq;have h2:=elm_sm (hs x (by simp)) hq hp;obtain ⟨h3,h4,h5⟩:=YnK (fun y hy=>hs y (List.mem_cons_of_mem _ hy)) h h2;rw [List.length_cons];exact ⟨h3,by omega,by omega⟩
variable {k:Nat}
theorem PrbT.step {p':Problem} {w:Bs} {r:List Sexpr} (h:PrbT k p) (hr:∀ y∈r,XSm y) (hl:r.length<=4096) (e:Yef p w r=.ok p'):PrbT (k+1) p':=by
 have h1:k*4096+4096=(k+1)*4096:=(Nat.succ_mul _ _).symm;obtain ⟨o,i,ii,v,vv,g⟩:=h;unfold Yef at e;split at e
 ·split at e
  ·cases e
  rename_i l hl2;have:=Yei hl2;injection e with e;subst e
  exact ⟨by show l.length<=_;omega,by show p.init.length<=_;omega,ii,by show p.values.length<=_;omega,vv,g⟩
 split at e
 ·obtain ⟨⟨o2,ii2,vv2,g2⟩,h4,h5⟩:=YnK hr e ⟨o,ii,vv,g⟩;exact ⟨o2,by omega,ii2,by omega,vv2,g2⟩
 split at e
 ·split at e
  ·cases e
  rename_i f hf;injection e with e;subst e
  exact ⟨o,by show p.init.length<=_;omega,ii,by show p.values.length<=_;omega,vv,YbP hf⟩
 cases e
theorem PrbT.sm (h:PrbT k p) (hk:k<=5000):PrbSm p:=by
 obtain ⟨o,i,ii,v,vv,g⟩:=h;have:k*4096<=5000*4096:=Nat.mul_le_mul_right _ hk;exact ⟨by omega,by omega,fun x hx=>Nat.le_trans (ii x hx) Zh,by omega,fun x hx=>Nat.le_trans (vv x hx) Zh,g⟩
theorem Yhl {fz3:FZ} {vo vi vv a1 a2 a3 a4:Value} {Hi Hv:HP} (hn1:Short p.name) (hn2:Short p.domain) (ho:IsSl paramL fz vo p.objects) (hgi:Grow atomL 114 fz vi p.init.length Hi p.init) (hgv:Grow valueL 116 fz vv p.values.length Hv p.values) (hgo:FormulaR fz p.goal a1 a2 a3 a4)
 (hle:Le fz fz3) (hf:∀ q∈Hi++Hv,fz3 q.1=some q.2) (b1:p.init.length<=200000000) (b2:p.values.length<=200000000):ProblemR fz3 p vo vi vv a1 a2 a3 a4:=
 ⟨hn1,hn2,ho.mono hle,Grow.fzv hgi hle (fun q hq=>hf q (List.mem_append_left _ hq)) Zi,Grow.fzv hgv hle (fun q hq=>hf q (List.mem_append_right _ hq)) Zi,hgo.mono hle⟩
theorem PrbS.new {g:Nat} {nm dm:Bs} (h:Short nm) (h2:Short dm):PrbS fz g ⟨nm,dm,[],[],[],Y5⟩ [(g,.cells #[.string nm,.string dm,Zn,Zn,Zn,.string kAnd,Ze,Zn,Zn,Zn,Zn] 40 (0,0))]:=
 ⟨_,_,_,_,_,_,_,[],[],Zr _,h,h2,IsSl.nil,Grow.nil _ _ _,Grow.nil _ _ _,YcW⟩
theorem Yel {nm dm:Bs} (h:Short nm) (h2:Short dm):YaE.rep fz ⟨nm,dm,[],[],[],Y5⟩ [.string nm,.string dm,Zn,Zn,Zn,.string kAnd,Ze,Zn,Zn,Zn,Zn]:=Wi (x:=⟨nm,dm,[],[],[],Y5⟩) ⟨h,h2,IsSl.nil,IsSl.nil,IsSl.nil,YcW⟩
set_option maxHeartbeats 16000000 in
theorem pparse_f {x:Sexpr} (hv:XVal x) (hR:YS fz x vk):
 GFn prog 40 [.agg #[Zk x.kind,Zk x.value,Zk x.line,Zk x.column,.string x.text,vk]] fz [] (fun r fz' H'=>H'=[]/\ResL YaE fz' (pPar x) r/\∀ p,pPar x=.ok p->PrbSm p):=by
 have hRx:=hR;have hcx:=hv.2.2;have hsx:=hv.sm;obtain ⟨A,n,c,rfl,ik⟩:=hR.kids;have hP:pPar x=match Xw x with
 | none=>.error 2
 | some (w,r)=>if w=YB then (match r with
  | []=>.error 2
  | y::r1=>match nmdM Xk y with
   | .error c=>.error c
   | .ok nm=>match r1 with
    | []=>.error 2
    | z::r2=>match nmdM YH z with
     | .error c=>.error c
     | .ok dm=>Yc8 kwP3 ⟨nm,dm,[],[],[],Y5⟩ r2) else .error 2:=rfl
 have bad:∀ {c:Int} {fz':FZ} {v:Value},pPar x=.error c->ResL YaE fz' (pPar x) v->([]:HP)=[]/\ResL YaE fz' (pPar x) v/\∀ p,pPar x=.ok p->PrbSm p:=fun e h=>⟨rfl,h,fun p hp=>by rw [e] at hp;cases hp⟩
 refine zF Tryz.func40 Tryz.ntmps40 (fun w0=>?_);refine zW ?_;intros;rename_i g1 g2 g4;refine wK (q:=Yft hRx) (h:=fun r1 fz1 H1 hle1 hR1=>?_);obtain ⟨rfl,rfl,hR1⟩:=hR1;rw [List.nil_append];unfold Ydy at hR1;cases hh:Xw x with
 | none=>
  rw [hh] at hP hR1;subst hR1;refine zW ?_;exact YN T (vs:=[.agg #[Ze,Ze,Zn,Zn,Zn,.string kAnd,Ze,Zn,Zn,Zn,Zn],.iface 65 (Zk 2)]) Zz ⟨⟨_,_,1,_,_,_,rfl,rfl,rfl,rfl,rfl,rfl⟩,rfl,trivial⟩ (fun fz3 hle3 hf3=>bad hP (ResL.err hP Zh (Yel XV XV)))
 | some wr=>
  obtain ⟨w,r⟩:=wr;rw [hh] at hP hR1;obtain ⟨A',n',c',rfl,ir,hw⟩:=hR1;simp only at hP;obtain ⟨y0,hk,rfl,hk3,hk1⟩:=XR hh;have hrl:=ir.len;have hcx2:=Y4 x;rw [hk,xcountL] at hcx2;have hrc:=X9 (l:=r);have hn4:n'<=4096:=by omega
  have hrs:∀ y∈r,XSm y:=fun y hy=>Wf hsx hh hy
  refine wC (fun c2=>?_) (fun c2=>?_)
  ·rw [if_neg (show ¬y0.text=YB from c2)] at hP;refine zW ?_;exact YN T (vs:=[.agg #[Ze,Ze,Zn,Zn,Zn,.string kAnd,Ze,Zn,Zn,Zn,Zn],.iface 65 (Zk 2)]) Zz ⟨⟨_,_,1,_,_,_,rfl,rfl,rfl,rfl,rfl,rfl⟩,rfl,trivial⟩ (fun fz3 hle3 hf3=>bad hP (ResL.err hP Zh (Yel XV XV)))
  rw [if_pos (show y0.text=YB from c2)] at hP;refine wC (fun c3=>?_) (fun c3=>?_)
  ·have hr0:r=[]:=List.eq_nil_of_length_eq_zero Zi;rw [hr0] at hP;refine zW ?_;exact YN T (vs:=[.agg #[Ze,Ze,Zn,Zn,Zn,.string kAnd,Ze,Zn,Zn,Zn,Zn],.iface 65 (Zk 2)]) Zz ⟨⟨_,_,1,_,_,_,rfl,rfl,rfl,rfl,rfl,rfl⟩,rfl,trivial⟩ (fun fz3 hle3 hf3=>bad hP (ResL.err hP Zh (Yel XV XV)))
  obtain ⟨y,r1,rfl⟩:∃ y r1,r=y::r1:=by
   cases r with
   | nil=>simp at hrl;omega
   | cons y r1=>exact ⟨y,r1,rfl⟩
  simp only at hP;have hy:(y::r1)[0]?=some y:=rfl;rw [List.length_cons] at hrl;refine wI ir hy (fun p2 hp2=>?_);refine zL hp2 ?_;intro cs hcs;obtain ⟨vy,rfl,hRy⟩:=Yi hcs;have hnq:=Ym5 (want:=Xk) hRy;cases hn:nmdM Xk y with
  | error c'=>
   rw [hn] at hP hnq;have hc:=YkQ hn;refine zc hnq ?_;unfold strV;refine zW ?_;exact YN T (vs:=[.agg #[Ze,Ze,Zn,Zn,Zn,.string kAnd,Ze,Zn,Zn,Zn,Zn],.iface 65 (Zk c')]) Zz ⟨⟨_,_,1,_,_,_,rfl,rfl,rfl,rfl,rfl,rfl⟩,rfl,trivial⟩ (fun fz3 hle3 hf3=>bad hP (ResL.err hP hc (Yel XV XV)))
  | ok nm=>
   rw [hn] at hP hnq;have hnm:=Ym4 hn;simp only at hP;refine zc hnq ?_;unfold strV;refine wC (fun c4=>?_) (fun c4=>?_)
   ·have hr0:r1=[]:=List.eq_nil_of_length_eq_zero Zi;rw [hr0] at hP;refine zW ?_;exact YN T (vs:=[.agg #[.string nm,Ze,Zn,Zn,Zn,.string kAnd,Ze,Zn,Zn,Zn,Zn],.iface 65 (Zk 2)]) Zz ⟨⟨_,_,1,_,_,_,rfl,rfl,rfl,rfl,rfl,rfl⟩,rfl,trivial⟩ (fun fz3 hle3 hf3=>bad hP (ResL.err hP Zh (Yel hnm XV)))
   obtain ⟨z,r2,rfl⟩:∃ z r2,r1=z::r2:=by
    cases r1 with
    | nil=>simp at hrl;omega
    | cons y r1=>exact ⟨y,r1,rfl⟩
   simp only at hP;have hz:(y::z::r2)[1]?=some z:=rfl;rw [List.length_cons] at hrl;refine wI ir hz (fun p3 hp3=>?_);refine zL hp3 ?_;intro cs3 hcs3;obtain ⟨vz,rfl,hRz⟩:=Yi hcs3;have hnq2:=Ym5 (want:=YH) hRz;cases hn2:nmdM YH z with
   | error c'=>
    rw [hn2] at hP hnq2;have hc:=YkQ hn2;refine zc hnq2 ?_;unfold strV;refine zW ?_;exact YN T (vs:=[.agg #[.string nm,Ze,Zn,Zn,Zn,.string kAnd,Ze,Zn,Zn,Zn,Zn],.iface 65 (Zk c')]) Zz ⟨⟨_,_,1,_,_,_,rfl,rfl,rfl,rfl,rfl,rfl⟩,rfl,trivial⟩ (fun fz3 hle3 hf3=>bad hP (ResL.err hP hc (Yel hnm XV)))
   | ok dm=>
    rw [hn2] at hP hnq2;have hdm:=Ym4 hn2;simp only at hP;refine zc hnq2 ?_;unfold strV;refine zW ?_;refine Ya Zz (Yb T (cs:=[.string XP,.string YcH,.string YbT]) Zz Zz Zz Zz Zz Zz Zz Zz (fun gb=>?_))
    first | refine Wp.freeze Zz (fun fz2 hle2 hg2=>?_) | refine Seq.freeze Zz (fun fz2 hle2 hg2=>?_)
    have hkw:Sl strL fz2 (some ⟨gb,0,none⟩) 3 3 kwP3:=Xz (ys:=[(XP,[.string XP]),(YcH,[.string YcH]),(YbT,[.string YbT])]) hg2 rfl rfl (by intro p hp;simp only [List.mem_cons,List.not_mem_nil,_root_.or_false] at hp;rcases hp with rfl | rfl | rfl<;>exact ⟨rfl,by show _<=_;decide⟩) rfl Zh;refine wG ?_;refine XC (j:=2) T Zz Zz Zz Zz Zz Zz (ir.mono hle2) Zi (fun A2 hA2=>?_);rw [List.drop_succ_cons,List.drop_succ_cons,List.drop_zero] at hA2;refine zW ?_;refine Wp.perm (List.Perm.swap _ _ _) ?_;refine Ym (fun q σ fz' H'=>∃ (k:Nat) (p:Problem) (HD:HP) (K:Option Addr) (kn kc:Nat) (kw:List Bs),k<=n' - 2/\q=n' - 2 - k/\σ=[(71,Zk k),(70,Zk (n' - 2:Nat)),(69,.slice A2 (n' - 2) (c' - 2)),(9,.slice K kn kc),(4,Zp g4),(2,Zp g2)]/\Le fz2 fz'/\H'=(g2,.cells #[Ze,Ze,Zn,Zn,Zn,Ze,Ze,Zn,Zn,Zn,Zn] 40 (0,0))::HD/\PrbS fz' g4 p HD/\Sl strL fz' K kn kc kw/\PrbT k p/\pPar x=Yc8 kw p (r2.drop k)) ⟨0,_,_,_,_,_,kwP3,Z0 _,rfl,rfl,Le.refl _,rfl,PrbS.new hnm hdm,hkw,⟨by show 0<=_;omega,by show 0<=_;omega,by simp,by show 0<=_;omega,by simp,YcV⟩,hP⟩ Zw Zb ?_;rintro q σ fz' H' ⟨k,p,HD,K,kn,kc,kw,hkn,rfl,rfl,hle,rfl,⟨vo,vi,vv,a1,a2,a3,a4,Hi,Hv,hperm,hn1,hn2,ho,hgi,hgv,hgo⟩,hK,hT,hF⟩;have ho':=ho;have hgo':=hgo;have hbi:p.init.length<=20000000:=by have:=hT.i;have:k*4096<=4096*4096:=Nat.mul_le_mul_right _ Zi;omega
    have hbv:p.values.length<=20000000:=by have:=hT.v;have:k*4096<=4096*4096:=Nat.mul_le_mul_right _ Zi;omega
    have hD':PrbS fz' g4 p ((g4,.cells #[.string p.name,.string p.domain,vo,vi,vv,.string p.goal.op,.string p.goal.name,a1,a2,a3,a4] 40 (0,0))::(Hi++Hv)):=⟨_,_,_,_,_,_,_,Hi,Hv,Zr _,hn1,hn2,ho,hgi,hgv,hgo⟩;obtain ⟨O1,o1,z1,rfl,_⟩:=ho;obtain ⟨Xi,xi,rfl,_,_⟩:=hgi.form;obtain ⟨Xv,xv,rfl,_,_⟩:=hgv.form;obtain ⟨B1,m1,d1,rfl,_⟩:=hgo.args;obtain ⟨B2,m2,d2,rfl,_⟩:=hgo.params;obtain ⟨B3,m3,d3,rfl,_⟩:=hgo.exprs;obtain ⟨B4,m4,d4,rfl,_⟩:=hgo.kids;refine Wp.perm (List.Perm.cons _ hperm.symm) ?_;have hKl:=hK.len;have hKs:=hK.short;refine wC (fun c5=>?_) (fun c5=>?_)
    ·obtain ⟨s,hs⟩:=Yl (l:=r2) (k:=k) Zi;have hsm:=Zm hs;have hss:XSm s:=hrs s (by simp [hsm]);have hcs2:=XX hsm;simp only [xcountL] at hcx2;rw [YbG hs,Yc8] at hF;refine wI (hA2.mono hle) hs (fun p5 hp5=>?_);refine zL hp5 ?_;intro cs5 hcs5;obtain ⟨vs,rfl,hRs⟩:=Yi hcs5;have hRs':=hRs;obtain ⟨As,ns,cs,rfl,is⟩:=hRs.kids;refine zW ?_;intros;rename_i g11;refine wK (q:=Yft hRs') (h:=fun r6 fz6 H6 hle6 hR6=>?_);obtain ⟨rfl,rfl,hR6⟩:=hR6;rw [List.nil_append];unfold Ydy at hR6;cases hhs:Xw s with
     | none=>
      rw [hhs] at hF hR6;subst hR6;refine wG ?_;refine Yv Zz Zz (Ye6 (x:=⟨#[]⟩) hK) ?_;refine zW ?_;exact YN T (vs:=[.agg #[.string p.name,.string p.domain,.slice O1 o1 z1,.slice Xi p.init.length xi,.slice Xv p.values.length xv,.string p.goal.op,.string p.goal.name,.slice B1 m1 d1,.slice B2 m2 d2,.slice B3 m3 d3,.slice B4 m4 d4],.iface 65 (Zk 2)]) Zz ⟨⟨_,_,1,_,_,_,rfl,rfl,rfl,rfl,rfl,rfl⟩,rfl,trivial⟩ (fun fz3 hle3 hf3=>bad (hF) (ResL.err (hF) Zh (Wi (Yhl hn1 hn2 ho' hgi hgv hgo' hle3 (fun q hq=>hf3 q (by simp only [List.mem_cons];simp only [List.mem_append] at hq ⊢;simp [hq])) Zi Zi))))
     | some wl=>
      obtain ⟨w,l⟩:=wl;rw [hhs] at hF hR6;obtain ⟨A6,n6,c6,rfl,il,hw6⟩:=hR6;simp only at hF;obtain ⟨y6,hk6,rfl,hk7,hk8⟩:=XR hhs;have htl:l.length<=4096:=by
       have h1:=Y4 s;have h2:=X9 (l:=s.kids);rw [hk6,List.length_cons] at h2;rw [hk6] at h1;omega
      have hll:=il.len;have hkI:=kwI_lt (kw:=kw) (s:=y6.text);refine wc (Ye6 (x:=y6.text) hK) ?_;refine wC (fun c6=>?_) (fun c6=>?_)
      ·rw [if_neg (fun h=>absurd (show kwI kw y6.text<0 from c6) Zi)] at hF;refine zW ?_;exact YN T (vs:=[.agg #[.string p.name,.string p.domain,.slice O1 o1 z1,.slice Xi p.init.length xi,.slice Xv p.values.length xv,.string p.goal.op,.string p.goal.name,.slice B1 m1 d1,.slice B2 m2 d2,.slice B3 m3 d3,.slice B4 m4 d4],.iface 65 (Zk 2)]) Zz ⟨⟨_,_,1,_,_,_,rfl,rfl,rfl,rfl,rfl,rfl⟩,rfl,trivial⟩ (fun fz3 hle3 hf3=>bad (hF) (ResL.err (hF) Zh (Wi (Yhl hn1 hn2 ho' hgi hgv hgo' hle3 (fun q hq=>hf3 q (by simp only [List.mem_cons];simp only [List.mem_append] at hq ⊢;simp [hq])) Zi Zi))))
      have c6':0<=kwI kw y6.text:=by have:¬kwI kw y6.text<0:=c6;omega
      rw [if_pos c6'] at hF;obtain ⟨kk,hkk⟩:=Int.eq_ofNat_of_zero_le c6';rw [hkk,Int.toNat_natCast] at hF;rw [hkk] at hkI;have hkk2:Wn (fun y=>y6.text=y) kw 0=(kk:Int):=hkk;rw [hkk2];refine wG ?_;refine XC (j:=kk+1) T Zz Zz Zz Zz Zz Zz hK Zi (fun K2 hK2=>?_);refine zW ?_;refine Ya Zz (Does.perm (Zq (l₁:=(g4,_)::(Hi++Hv)) (l₂:=[(g11,_),(g2,_)])) (Yx ((g4,_)::(Hi++Hv)) [(g11,_),(g2,_)] Zz Zz Zz (Ylw (fun y hy=>Wf hss hhs hy) hD' il Zi Zi Zi) (fun v7 fz7 H7 hle7 hR7=>?_)));obtain ⟨_,hR7⟩:=hR7;refine Seq.perm (H':=[(g11,_),(g2,_)]++H7) Zq ?_;cases hx:Yef p y6.text l with
      | error c'=>
       rw [hx] at hR7 hF;obtain ⟨rfl,hc,p3,⟨vo3,vi3,vv3,a13,a23,a33,a43,Hi3,Hv3,hperm3,hn13,hn23,ho3,hgi3,hgv3,hgo3⟩,hb3,hb4⟩:=hR7;have ho'3:=ho3;have hgo'3:=hgo3;obtain ⟨O13,o13,z13,rfl,_⟩:=ho3;obtain ⟨Xi3,xi3,rfl,_,_⟩:=hgi3.form;obtain ⟨Xv3,xv3,rfl,_,_⟩:=hgv3.form;obtain ⟨B13,m13,d13,rfl,_⟩:=hgo3.args;obtain ⟨B23,m23,d23,rfl,_⟩:=hgo3.params;obtain ⟨B33,m33,d33,rfl,_⟩:=hgo3.exprs;obtain ⟨B43,m43,d43,rfl,_⟩:=hgo3.kids;refine Seq.perm (List.Perm.cons _ (List.Perm.cons _ hperm3.symm)) ?_;rw [Yk hc];refine zW ?_;exact YN T (vs:=[.agg #[.string p3.name,.string p3.domain,.slice O13 o13 z13,.slice Xi3 p3.init.length xi3,.slice Xv3 p3.values.length xv3,.string p3.goal.op,.string p3.goal.name,.slice B13 m13 d13,.slice B23 m23 d23,.slice B33 m33 d33,.slice B43 m43 d43],.iface 65 (Zk c')]) Zz ⟨⟨_,_,1,_,_,_,rfl,rfl,rfl,rfl,rfl,rfl⟩,rfl,trivial⟩ (fun fz3 hle3 hf3=>bad (hF) (ResL.err (hF) hc (Wi (Yhl hn13 hn23 ho'3 hgi3 hgv3 hgo'3 hle3 (fun q hq=>hf3 q (by simp only [List.mem_cons];simp only [List.mem_append] at hq ⊢;simp [hq])) hb3 hb4))))
      | ok d2=>
       rw [hx] at hR7 hF;obtain ⟨rfl,hD7⟩:=hR7;have hT2:=hT.step (fun y hy=>Wf hss hhs hy) htl hx;refine zW ?_;exact WO (H':=(g2,_)::H7) ⟨k+1,d2,H7,_,_,_,_,by omega,rfl,rfl,hle.trans hle7,rfl,hD7,hK2.mono hle7,hT2,hF⟩ Zi Zw Zb
    rw [List.drop_eq_nil_of_le Zi,Yc8] at hF;refine zW ?_;exact YN T (vs:=[.agg #[.string p.name,.string p.domain,.slice O1 o1 z1,.slice Xi p.init.length xi,.slice Xv p.values.length xv,.string p.goal.op,.string p.goal.name,.slice B1 m1 d1,.slice B2 m2 d2,.slice B3 m3 d3,.slice B4 m4 d4],.nilIface]) Zz ⟨⟨_,_,0,_,_,_,rfl,rfl,rfl,rfl,rfl,rfl⟩,rfl,trivial⟩ (fun fz3 hle3 hf3=>⟨rfl,ResL.fine hF (Wi (Yhl hn1 hn2 ho' hgi hgv hgo' hle3 (fun q hq=>hf3 q (by simp only [List.mem_cons];simp only [List.mem_append] at hq ⊢;simp [hq])) Zi Zi)),fun p' hp'=>by rw [hF] at hp';injection hp' with hp';subst hp';exact hT.sm Zi⟩)
def zeroP:Problem:=⟨⟨#[]⟩,⟨#[]⟩,[],[],[],.mk ⟨#[]⟩ ⟨#[]⟩ [] [] [] []⟩
theorem Ydz:YaE.rep fz zeroP [Ze,Ze,Zn,Zn,Zn,Ze,Ze,Zn,Zn,Zn,Zn]:=Wi (x:=zeroP) ⟨XV,XV,IsSl.nil,IsSl.nil,IsSl.nil,⟨XV,XV,IsSl.nil,IsSl.nil,IsSl.nil,IsSl.nil⟩⟩
set_option maxHeartbeats 4000000 in
theorem pParse_f {x:Sexpr} (hR:YS fz x vk):
 GFn prog 17 [.agg #[Zk x.kind,Zk x.value,Zk x.line,Zk x.column,.string x.text,vk]] fz [] (fun r fz' H'=>H'=[]/\ResL YaE fz' (Ycr x) r):=by
 have hRx:=hR;obtain ⟨A,n,c,rfl,ik⟩:=hR.kids;have hM:Ycr x=if XVal x then (match pPar x with
 | .error c=>.error c
 | .ok p=>if FVal p.goal/\Ybs p/\XVal (prbX p) then .ok p else .error 5) else .error 2:=rfl
 refine zF Tryz.func17 Tryz.ntmps17 (fun w0=>?_);refine zW ?_;intros;refine zb (WZ hRx) (fun f1=>?_) (fun f1=>?_)
 ·have hv:=Zt f1;rw [if_pos hv] at hM;refine wK (q:=pparse_f hv hRx) (h:=fun r4 fz4 H4 hle4 hR4=>?_);obtain ⟨rfl,⟨p,cs4,hr4,hR4⟩,hsm⟩:=hR4;obtain ⟨vo,vi,vv,a1,a2,a3,a4,rfl,hPR⟩:=Ya1 hr4;have hPR':=hPR;obtain ⟨O1,o1,z1,rfl,_⟩:=hPR.objects;obtain ⟨O2,o2,z2,rfl,_⟩:=hPR.init;obtain ⟨O3,o3,z3,rfl,_⟩:=hPR.values;obtain ⟨O4,o4,z4,rfl,_⟩:=hPR.goal.args;obtain ⟨O5,o5,z5,rfl,_⟩:=hPR.goal.params;obtain ⟨O6,o6,z6,rfl,_⟩:=hPR.goal.exprs;obtain ⟨O7,o7,z7,rfl,_⟩:=hPR.goal.kids;cases hx:pPar x with
  | error c'=>
   rw [hx] at hM hR4;obtain ⟨rfl,hc⟩:=hR4;rw [Yk hc];refine zW ?_;intros;exact YN T (vs:=[.agg #[Ze,Ze,Zn,Zn,Zn,Ze,Ze,Zn,Zn,Zn,Zn],.iface 65 (Zk c')]) Zz ⟨⟨_,_,1,_,_,_,rfl,rfl,rfl,rfl,rfl,rfl⟩,rfl,trivial⟩ (fun fz3 hle3 hf3=>⟨rfl,ResL.err hM hc Ydz⟩)
  | ok p2=>
   rw [hx] at hM hR4;obtain ⟨rfl,rfl⟩:=hR4;simp only at hM;have hsm:=hsm p2 hx;refine zW ?_;intros;refine wK (q:=Yhp hPR' hsm) (h:=fun r6 fz6 H6 hle6 hR6=>?_);obtain ⟨rfl,u6,y6,rfl,⟨cs6,rfl,hr6⟩,hy6⟩:=hR6;obtain ⟨vk6,rfl,hX6⟩:=Yi hr6;obtain ⟨A6,n6,c6,rfl,_⟩:=hX6.kids;by_cases hOk:FVal p2.goal/\Ybs p2/\XVal (prbX p2)
   ·rw [if_pos hOk] at hM ⊢;rw [show errV 0=.nilIface from rfl];refine zW ?_;intros;exact YN T (vs:=[.agg #[.string p2.name,.string p2.domain,.slice O1 o1 z1,.slice O2 o2 z2,.slice O3 o3 z3,.string p2.goal.op,.string p2.goal.name,.slice O4 o4 z4,.slice O5 o5 z5,.slice O6 o6 z6,.slice O7 o7 z7],.nilIface]) Zz ⟨⟨_,_,2,_,_,_,rfl,rfl,rfl,rfl,rfl,rfl⟩,rfl,trivial⟩ (fun fz3 hle3 hf3=>⟨rfl,ResL.fine hM (Wi (hPR'.mono (hle6.trans hle3)))⟩)
   rw [if_neg hOk] at hM ⊢;rw [Yk Zh];refine zW ?_;intros;exact YN T (vs:=[.agg #[Ze,Ze,Zn,Zn,Zn,Ze,Ze,Zn,Zn,Zn,Zn],.iface 65 (Zk 5)]) Zz ⟨⟨_,_,2,_,_,_,rfl,rfl,rfl,rfl,rfl,rfl⟩,rfl,trivial⟩ (fun fz3 hle3 hf3=>⟨rfl,ResL.err hM Zh Ydz⟩)
 rw [if_neg (Zf f1)] at hM;refine zW ?_;exact YN T (vs:=[.agg #[Ze,Ze,Zn,Zn,Zn,Ze,Ze,Zn,Zn,Zn,Zn],.iface 65 (Zk 2)]) Zz ⟨⟨_,_,0,_,_,_,rfl,rfl,rfl,rfl,rfl,rfl⟩,rfl,trivial⟩ (fun fz3 hle3 hf3=>⟨rfl,ResL.err hM Zh Ydz⟩)
def PlcB (p q:Int):Prop:=0<=p/\0<=q/\p<=100000/\q<=100000
theorem YmQ {t:Bs} (ht:t.size<=65536) (a:Nat):PlcB (posA t a).1 (posA t a).2:=by
 have:=Yfr t a;unfold PlcB;omega
theorem next_pl {t:Bs} {a a' n':Nat} {st st':List Lev} (ht:t.size<=65536) (h:YcF t a n st=.ok (a',n',st')) (hs:∀ e∈st,PlcB e.l e.c):∀ e∈st',PlcB e.l e.c:=by
 unfold YcF at h;split at h
 ·cases h
 split at h
 ·split at h
  ·cases h
  injection h with h
  injection h with h2 h3
  injection h3 with h3 h4
  subst h4;intro e he;rcases List.mem_cons.1 he with rfl | he
  ·exact YmQ ht a
  exact hs e he
 split at h
 ·split at h
  ·rename_i e1 e2 r;injection h with h
   injection h with h2 h3
   injection h3 with h3 h4
   subst h4;intro e he;rcases List.mem_cons.1 he with rfl | he
   ·exact hs e2 (by simp)
   exact hs e (by simp [he])
  cases h
 unfold tokM at h;split at h
 ·cases h
 split at h
 ·cases h
 unfold addM at h;split at h
 ·cases h
 rename_i e1 r;injection h with h
 injection h with h2 h3
 injection h3 with h3 h4
 subst h4;intro e he;rcases List.mem_cons.1 he with rfl | he
 ·exact hs e1 (by simp)
 exact hs e (by simp [he])
theorem YkF {t:Bs} (ht:t.size<=65536):∀ (f a n:Nat) (st:List Lev) {l c e:Int},(∀ e∈st,PlcB e.l e.c)->YaM t f a n st=.error (l,c,e)->PlcB l c
 | 0,a,n,st,l,c,e,_,h=>by rw [YaM] at h;injection h with h;injection h with h1 h2;injection h2 with h2 h3;subst h1 h2;unfold PlcB;omega
 | f+1,a,n,st,l,c,e,hs,h=>by
  rw [Yay] at h;split at h
  ·unfold endM at h;split at h
   ·injection h with h;injection h with h1 h2;injection h2 with h2 h3;subst h1 h2;unfold PlcB;omega
   ·cases h
   injection h with h;injection h with h1 h2;injection h2 with h2 h3;subst h1 h2;exact hs _ (by simp)
  split at h
  ·injection h with h;injection h with h1 h2;injection h2 with h2 h3;subst h1 h2;exact YmQ ht _
  rename_i a' n' st' hn;exact YkF ht f a' n' st' (next_pl ht hn hs) h
theorem readM_pl {t:Bs} {l c e:Int} (h:YdH t=.error (l,c,e)):PlcB l c:=by
 unfold YdH at h;split at h
 ·injection h with h;injection h with h1 h2;injection h2 with h2 h3;subst h1 h2;unfold PlcB;omega
 exact YkF Zi _ _ _ _ (by intro e he;simp at he;subst he;unfold PlcB;decide) h
def prdM (t:Bs):Except Int Sexpr:=match YdH t with
 | .error (_,_,e)=>.error e
 | .ok l=>match l with
  | [x]=>.ok x
  | _=>.error 2
def PrdX (fz:FZ) (m:Except Int Sexpr) (v:Value):Prop:=∃ x cs pl,Yz.rep fz x cs/\match m with
 | .error c=>v=.tuple #[.agg cs.toArray,.string pl,errV c]/\c≠0
 | .ok y=>y=x/\v=.tuple #[.agg cs.toArray,.string ⟨#[]⟩,.nilIface]
theorem YkJ {m:Except Int Sexpr} {c:Int} {pl:Bs} (h:m=.error c) (hc:c≠0):PrdX fz m (.tuple #[.agg #[Zk 0,Zk 0,Zk 0,Zk 0,Ze,Zn],.string pl,.iface 65 (Zk c)]):=by
 rw [h];exact ⟨zroX,zroC,pl,Ykh,by rw [Yk hc];rfl,hc⟩
set_option maxHeartbeats 4000000 in
theorem YmL {k t:Bs} (hT:TabF fz) (hk:k.size<=100):
 GFn prog 15 [.string k,.string t] fz [] (fun r fz' H'=>H'=[]/\PrdX fz' (prdM t) r):=by
 have hM:prdM t=match YdH t with
 | .error (_,_,e)=>.error e
 | .ok l=>match l with
  | [x]=>.ok x
  | _=>.error 2:=rfl
 refine zF Tryz.func15 Tryz.ntmps15 (fun w0=>?_);refine zW ?_;intros;refine wK (q:=read_f (t:=t)) (h:=fun r4 fz4 H4 hle4 hR4=>?_);obtain ⟨rfl,hR4⟩:=hR4;cases hx:YdH t with
 | error lce=>
  obtain ⟨l,c,e⟩:=lce;have hp:=readM_pl hx;unfold PlcB at hp;rw [hx] at hM hR4;obtain ⟨rfl,he,hi1,hi2⟩:=hR4;rw [Yk he];have z1:=itoa_len (n:=l) (by unfold NumOk;omega);have z2:=itoa_len (n:=c) (by unfold NumOk;omega);refine wG ?_;refine XT Zz Zz (by show k.size+1<=_;omega) ?_;refine wG ?_;refine Yv Zz Zz (Ynk (hT.mono hle4) (by unfold NumOk;omega)) ?_;refine zG ?_;refine XT Zz Zz (by rw [ByteArray.size_append,XF];show k.size+1+_<=_;omega) ?_;refine zG ?_;refine XT Zz Zz (by rw [ByteArray.size_append,ByteArray.size_append,XF];show k.size+1+_+1<=_;omega) ?_;refine wG ?_;refine Yv Zz Zz (Ynk (hT.mono hle4) (by unfold NumOk;omega)) ?_;refine zG ?_;refine XT Zz Zz (by rw [ByteArray.size_append,ByteArray.size_append,ByteArray.size_append,XF,XF];show k.size+1+_+1+_<=_;omega) ?_;refine zW ?_;refine YN T (vs:=[.agg #[Zk 0,Zk 0,Zk 0,Zk 0,Ze,Zn],_,.iface 65 (Zk e)]) Zz ⟨⟨_,_,0,_,_,_,rfl,rfl,rfl,rfl,rfl,rfl⟩,rfl,rfl,trivial⟩ (fun fz3 hle3 hf3=>⟨rfl,YkJ hM he⟩)
 | ok l=>
  rw [hx] at hM hR4;obtain ⟨A,n,c,rfl,il⟩:=hR4;simp only at hM;have hl:=il.len;refine wC (fun c1=>?_) (fun c1=>?_)
  ·have hM2:prdM t=.error 2:=by
    rw [hM];split
    ·simp at hl;omega
    rfl
   refine zW ?_;refine YN T (vs:=[.agg #[Zk 0,Zk 0,Zk 0,Zk 0,Ze,Zn],.string k,.iface 65 (Zk 2)]) Zz ⟨⟨_,_,0,_,_,_,rfl,rfl,rfl,rfl,rfl,rfl⟩,rfl,rfl,trivial⟩ (fun fz3 hle3 hf3=>⟨rfl,YkJ hM2 Zh⟩)
  obtain ⟨y,rfl⟩:∃ y,l=[y]:=by
   have h3:l.length=1:=by omega
   match l,h3 with
   | [y],_=>exact ⟨y,rfl⟩
  simp only at hM;have hy: [y][0]?=some y:=rfl;refine wI il hy (fun p hp=>?_);refine zL hp ?_;intro cs hcs;obtain ⟨vy,rfl,hRy⟩:=Yi hcs;obtain ⟨Ay,ny,cy,rfl,iy⟩:=hRy.kids;refine zW ?_;refine YN T (vs:=[.agg #[Zk y.kind,Zk y.value,Zk y.line,Zk y.column,.string y.text,.slice Ay ny cy],Ze,.nilIface]) Zz ⟨⟨_,_,0,_,_,_,rfl,rfl,rfl,rfl,rfl,rfl⟩,rfl,rfl,trivial⟩ (fun fz3 hle3 hf3=>⟨rfl,y,_,⟨#[]⟩,Yz.mono hle3 hcs,?_⟩);rw [hM];exact ⟨rfl,rfl⟩
end Go.Proofs.YtfjopfinkdhmaaaGreatDoor
namespace Go.Proofs.YtfjopfinkdhmaaaGreatDoor
open Go.Lx Go.RowKit
attribute [local instance 10] Classical.propDecidable
theorem Ya5 (s:Bs):xcount (Yg s)=1:=by simp [Yg,xcount,xcountL]
theorem cnt_num (n:Int):xcount (numE n)=1:=by simp [numE,xcount,xcountL]
theorem WR (l:List Sexpr):xcount (YD l)=1+xcountL l:=by simp [YD,xcount]
theorem Yjb {α:Type} (f:α->Bs) (l:List α):xcountL (l.map fun x=>Yg (f x))=l.length:=by
 induction l with
 | nil=>rfl
 | cons a r ih=>simp only [List.map_cons,xcountL,Ya5,ih,List.length_cons];omega
theorem YaB (f:Bs) (l:List Bs):xcount (W5 f l)=2+l.length:=by
 have:=Yjb id l;simp only [id] at this;rw [W5,WR,xcountL,Ya5];rw [show l.map Yg=l.map fun x=>Yg x from rfl,this];omega
theorem YhT (l:List Param):xcountL (WD l)=3*l.length:=by
 have:=Yjb id (l.flatMap W1);simp only [id,Yc1] at this;exact this
theorem Yfj {α:Type} {w:α->Nat} {f:α->Sexpr} {m:Nat}:∀ {l:List α},(∀ c∈l,w c<=m*xcount (f c))->(l.map w).sum<=m*xcountL (l.map f)
 | [],_=>Z0 _
 | a::r,h=>by
  have h1:=h a (by simp);have h2:=Yfj (w:=w) (f:=f) (m:=m) (l:=r) (fun c hc=>h c (List.mem_cons_of_mem _ hc));simp only [List.map_cons,List.sum_cons,xcountL,Nat.mul_add];omega
theorem ew_le:∀ (s:Nat) {e:Lx.Expr},SizeOf.sizeOf e<=s->EOk e->eW e<=xcount (XU e)
 | 0,e,h,_=>by cases e;simp at h
 | s+1,e,h,h1=>by
  have h3:=W0.1 h1;rw [Ye9,eW_eq];split
  ·rename_i h0;obtain ⟨_,ha,hk,_⟩:=(YdX h0).1 h3.1;rw [ha,hk,cnt_num];exact Zs _
  split
  ·rename_i h0;rw [((YdY h0).1 h3.1).2.1,YaB];simp<;>omega
  rename_i k1 k2;have h5:=(YdZ k1 k2).1 h3.1;have:=Yfj (w:=eW) (f:=XU) (m:=1) (l:=e.kids) (fun c hc=>by rw [Nat.one_mul];exact ew_le s (by have:=Lx.Expr.kids_lt hc;omega) (h3.2 c hc));rw [h5.2.2.2.1,WR,xcountL,Ya5];simp<;>omega
variable {f:Formula}
theorem Yk6 {k:Nat × Bool × Nat} (hk:YcK f=some k) (h:¬(f.op=XL\/f.op=WJ)):k.2.1=false:=by
 rw [YcK,if_neg h] at hk;split at hk
 ·cases hk;rfl
 split at hk
 ·cases hk;rfl
 split at hk
 ·cases hk;rfl
 split at hk
 ·cases hk;rfl
 split at hk
 ·cases hk;rfl
 cases hk
theorem fk_zero {k:Nat × Bool × Nat} (hk:YcK f=some k) (k1:¬(f.op=kAtom\/f.op=kSame)) (k3:¬CmpOp f.op):k.1=0:=by
 rw [YcK,if_neg k1,if_neg k3] at hk;split at hk
 ·cases hk;rfl
 split at hk
 ·cases hk;rfl
 split at hk
 ·cases hk;rfl
 split at hk
 ·cases hk;rfl
 cases hk
theorem fw_le:∀ (s:Nat) {f:Formula},SizeOf.sizeOf f<=s->FOk f->fW f<=xcount (Xc f)
 | 0,f,h,_=>by cases f;simp at h
 | s+1,f,h,h1=>by
  have h3:=Wc.1 h1;obtain ⟨_,⟨k,hk,hr⟩,_⟩:=h3.1;rw [Ye8,YlG];by_cases k1:f.op=kAtom\/f.op=kSame
  ·have hp:=hr.2.2.2 (Yk6 hk (by rintro (h0 | h0)<;>rcases k1 with h5 | h5<;>exact absurd (h5.symm.trans h0) Zh));rw [YcK,if_pos k1] at hk;cases hk;rw [List.eq_nil_of_length_eq_zero hr.2.1,List.eq_nil_of_length_eq_zero hr.2.2.1,hp];split
   ·rw [YaB];simp<;>omega
   rename_i h5;rw [if_pos (k1.resolve_left h5),YaB];simp<;>omega
  have k2:=not_or.1 k1;have ha:=(hr.1 k2.1 k2.2).2;rw [if_neg k2.1,if_neg k2.2,ha];by_cases k3:CmpOp f.op
  ·rw [if_pos k3];rw [YcK,if_neg k1,if_pos k3] at hk;cases hk;have:=Yfj (w:=eW) (f:=XU) (m:=1) (l:=f.exprs) (fun c hc=>by rw [Nat.one_mul];exact ew_le _ (Zs _) (h3.2.1 c hc));rw [List.eq_nil_of_length_eq_zero hr.2.2.1,hr.2.2.2 rfl,WR,xcountL,Ya5];simp<;>omega
  rw [if_neg k3];have he:f.exprs=[]:=List.eq_nil_of_length_eq_zero (by rw [hr.2.1,fk_zero hk k1 k3]);have hs:=Yfj (w:=fW) (f:=Xc) (m:=1) (l:=f.kids) (fun c hc=>by rw [Nat.one_mul];exact fw_le s (by have:=Formula.kids_lt hc;omega) (h3.2.2 c hc));have hp:f.params.length<=xcountL (if f.op=XL\/f.op=WJ then [YD ((f.params.flatMap W1).map Yg)] else []):=by
   split
   ·have:=YhT f.params;rw [WD] at this;rw [xcountL,WR,this];omega
   rename_i h5;rw [hr.2.2.2 (Yk6 hk h5)];simp
  rw [he,WR,Wo,Wo];simp only [List.length_nil,List.map_nil,List.sum_nil];omega
theorem eval_w {e:Lx.Expr} (h:EVal e):eW e<=xcount (XU e):=ew_le _ (Zs _) h.1
theorem Ynu (h:FVal f):fW f<=xcount (Xc f):=fw_le _ (Zs _) h.1
theorem Ylk (x:Sexpr):1<=xcount x:=by rw [Y4];omega
theorem change_w {c:Change} (h:ChOk c):XS c<=3*xcount (chX c):=by
 obtain ⟨_,hk,hw,_⟩:=h;have h1:c.args.length+eW c.value+1<=xcount (chX1 c):=by
  unfold chX1;rcases hk with ⟨h2,h3⟩ | ⟨h2,h3⟩
  ·have hn:¬Num5 c.kind:=by unfold Num5;omega
   have he:eW c.value=1:=by rw [h3];rfl
   rw [he];split
   ·simp only [WR,xcountL,Ya5,YaB];omega
   first
   | (rw [if_neg hn,YaB];omega)
   | (rw [YaB];omega)
  have hn:¬c.kind=2:=by unfold Num5 at h2;omega
  have:=eval_w h3;rw [if_neg hn,if_pos h2];simp only [WR,xcountL,Ya5,YaB];omega
 have h2:c.args.length+eW c.value+fW c.when_<=xcount (chX2 c):=by
  unfold chX2;by_cases h0:c.when_=Y5
  ·have he:fW c.when_=1:=by rw [h0];rfl
   rw [if_pos h0];omega
  have:=Ynu (hw.resolve_left h0);rw [if_neg h0];simp only [WR,xcountL,Ya5];omega
 have h4:=Ylk (chX2 c);unfold chX XS;split
 ·rename_i h0;rw [h0];simp<;>omega
 have:=YhT c.params;rw [WD] at this;simp only [WR,xcountL,Ya5,this];omega
theorem eff_w {l:List Change} (h:Ybq l):(l.map XS).sum<=3*xcount (effX l):=by
 have:=Yfj (w:=XS) (f:=chX) (m:=3) (fun c hc=>change_w (h c hc));unfold effX;split
 ·rename_i h0;rw [h0];simp
 rw [WR,xcountL];omega
variable {n:Nat}
theorem YmZ {p:Prop} {kw:Bs} {x:Sexpr} {m:Nat} (h:¬p->m<=n*xcount x) (h2:p->m<=1) (hn:1<=n):m<=1+n*xcountL (opt p kw x):=by
 unfold opt;split
 ·rename_i h0;have:=h2 h0;omega
 rename_i h0;have:=h h0;simp only [xcountL,Ya5,Nat.mul_add];omega
theorem YmV {l:List Param} {kw:Bs}:l.length<=1+3*xcountL (opt (l=[]) kw (Ya2 l)):=YmZ (fun _=>by
 have:=YhT l;rw [WD] at this;rw [Ya2,WR,this];omega) (fun h=>by rw [h];simp) Zh
theorem YhE {kw:Bs} (h:FVal f):fW f<=1+3*xcountL (opt (f=Y5) kw (Xc f)):=YmZ (fun _=>by have:=Ynu h;omega) (fun h=>by rw [h];exact Zs _) Zh
theorem Yj6 {l:List Change} {kw:Bs} (h:Ybq l):(l.map XS).sum<=1+3*xcountL (opt (l=[]) kw (effX l)):=YmZ (fun _=>eff_w h) (fun h=>by rw [h];simp) Zh
theorem act_w {a:Action} (h:Yjk a):actW a<=10*xcount (actX a):=by
 have h1:=YmV (l:=a.params) (kw:=YE);have h2:=YhE (kw:=Xl) h.2.2.2.1;have h3:=Yj6 (kw:=Yck) h.2.2.2.2;unfold actX actW;simp only [WR,Wo];omega
theorem dur_w {a:Durative} (h:Yi8 a):durW a<=10*xcount (durX a):=by
 have h1:=YmV (l:=a.params) (kw:=YE);have h2:=YhE (kw:=YaQ) h.2.2.1;have h3:=YhE (kw:=Yc9) h.2.2.2.1;have h4:=YhE (kw:=kEnd) h.2.2.2.2.1;have h5:=Yj6 (kw:=WQ) h.2.2.2.2.2.1;have h6:=Yj6 (kw:=YdQ) h.2.2.2.2.2.2;unfold durX durW;simp only [WR,Wo];omega
theorem Ymu:∀ {r:List Sexpr} {k:Nat} {s:List Bs} {d d':Domain},(∀ y∈r,XSm y/\xcount y<=4096)->DomT k d->secL s d r=.ok d'->∃ k',k'<=k+r.length/\DomT k' d'
 | [],k,s,d,d',_,hd,h=>by rw [secL] at h;injection h with h;subst h;exact ⟨k,Zs _,hd⟩
 | x::r,k,s,d,d',hs,hd,h=>by
  rw [secL] at h;split at h
  ·cases h
  rename_i w t hh;split at h
  ·cases h
  split at h
  ·cases h
  rename_i d2 hd2;obtain ⟨y,hk,_⟩:=XR hh;have h1:=Y4 x;have h2:=X9 (l:=x.kids);have h3:=(hs x (by simp)).2;rw [hk,List.length_cons] at h2;rw [hk] at h1;obtain ⟨k',h4,h5⟩:=Ymu (fun y hy=>hs y (List.mem_cons_of_mem _ hy)) (hd.step (hs x (by simp)).1 (fun y hy=>Wf (hs x (by simp)).1 hh hy) Zi hd2) h;exact ⟨k',by rw [List.length_cons];omega,h5⟩
theorem Ygt {x:Sexpr} (hv:XVal x) {w:Bs} {r:List Sexpr} (hh:Xw x=some (w,r)):(∀ y∈r,XSm y/\xcount y<=4096)/\r.length<=4095:=by
 obtain ⟨y,hk,_⟩:=XR hh;have h1:=Y4 x;have h2:=X9 (l:=x.kids);have h3:=hv.2.2;rw [hk,List.length_cons] at h2;rw [hk] at h1;refine ⟨fun z hz=>⟨Wf hv.sm hh hz,?_⟩,by omega⟩;have:=XX (l:=y::r) (List.mem_cons_of_mem _ hz);omega
variable {d:Domain}
theorem YnX {x:Sexpr} (h:Yby x=.ok d):DomSm d/\Ybt d/\XVal (domX d):=by
 unfold Yby at h;split at h
 ·rename_i hv;split at h
  ·cases h
  rename_i d2 hd;split at h
  ·rename_i hok;injection h with h;subst h
   refine ⟨?_,hok⟩;unfold dPar at hd;split at hd
   ·cases hd
   rename_i w r hh;obtain ⟨hs,hl⟩:=Ygt hv hh;split at hd
   ·split at hd
    ·cases hd
    rename_i y r';split at hd
    ·cases hd
    obtain ⟨k',h4,h5⟩:=Ymu (k:=0) (fun y hy=>hs y (List.mem_cons_of_mem _ hy)) ⟨by show 0<=_;omega,by show 0<=_;omega,by show 0<=_;omega,by simp,by show 0<=_;omega,by simp,by show 0<=_;omega,by simp,by show 0<=_;omega,by simp⟩ hd;rw [List.length_cons] at hl;exact h5.sm Zi
   cases hd
  cases h
 cases h
theorem YkH:∀ {r:List Sexpr} {k:Nat} {s:List Bs} {d d':Problem},(∀ y∈r,XSm y/\xcount y<=4096)->PrbT k d->Yc8 s d r=.ok d'->∃ k',k'<=k+r.length/\PrbT k' d'
 | [],k,s,d,d',_,hd,h=>by rw [Yc8] at h;injection h with h;subst h;exact ⟨k,Zs _,hd⟩
 | x::r,k,s,d,d',hs,hd,h=>by
  rw [Yc8] at h;split at h
  ·cases h
  rename_i w t hh;split at h
  ·split at h
   ·cases h
   rename_i d2 hd2;obtain ⟨y,hk,_⟩:=XR hh;have h1:=Y4 x;have h2:=X9 (l:=x.kids);have h3:=(hs x (by simp)).2;rw [hk,List.length_cons] at h2;rw [hk] at h1;obtain ⟨k',h4,h5⟩:=YkH (fun y hy=>hs y (List.mem_cons_of_mem _ hy)) (hd.step (fun y hy=>Wf (hs x (by simp)).1 hh hy) Zi hd2) h;exact ⟨k',by rw [List.length_cons];omega,h5⟩
  cases h
variable {p:Problem}
theorem YmX {x:Sexpr} (h:Ycr x=.ok p):PrbSm p/\FVal p.goal/\Ybs p/\XVal (prbX p):=by
 unfold Ycr at h;split at h
 ·rename_i hv;split at h
  ·cases h
  rename_i d2 hd;split at h
  ·rename_i hok;injection h with h;subst h
   refine ⟨?_,hok⟩;unfold pPar at hd;split at hd
   ·cases hd
   rename_i w r hh;obtain ⟨hs,hl⟩:=Ygt hv hh;split at hd
   ·split at hd
    ·cases hd
    split at hd
    ·cases hd
    split at hd
    ·cases hd
    split at hd
    ·cases hd
    obtain ⟨k',h4,h5⟩:=YkH (k:=0) (fun y hy=>hs y (List.mem_cons_of_mem _ (List.mem_cons_of_mem _ hy))) ⟨by show 0<=_;omega,by show 0<=_;omega,by simp,by show 0<=_;omega,by simp,YcV⟩ hd;simp only [List.length_cons] at hl;exact h5.sm Zi
   cases hd
  cases h
 cases h
theorem chkS_of {x y:Sexpr} (h1:Yby x=.ok d) (h2:Ycr y=.ok p):ChkS d p:=by
 obtain ⟨a1,a2,a3⟩:=YnX h1;obtain ⟨b1,b2,b3,b4⟩:=YmX h2;have hc:=a3.2.2;have hX:xcount (domX d)=1+xcountL ([Yg YB,YD [Yg Y7,Yg d.name]]++grp W7 (WD d.types)++grp Xn (WD d.constants)++grp Xe (d.predicates.map YeO)++grp Xm (d.functions.map funX)++d.actions.map actX++d.duratives.map durX):=by rw [domX,WR]
 simp only [Wo] at hX;refine ⟨a1,b1,fun a ha=>?_,fun a ha=>?_,?_⟩
 ·have h3:=act_w (a2.2.2.2.2.2.1 a ha);have h4:=XX (l:=d.actions.map actX) (List.mem_map.2 ⟨a,ha,rfl⟩);omega
 ·have h3:=dur_w (a2.2.2.2.2.2.2 a ha);have h4:=XX (l:=d.duratives.map durX) (List.mem_map.2 ⟨a,ha,rfl⟩);omega
 have h3:=Ynu b2;have:=b2.2.2.2;omega
end Go.Proofs.YtfjopfinkdhmaaaGreatDoor
