/- The texts U7, PCE, PCP, PCL, PCS, PCT, PCV, ShelfC, OpenA, PCQ, laid together. Conditions: none. -/
import Derived.Test.YtbdpaoikccabhaaGreatDoorEAL
import Derived.ChangeSame
import Derived.ProofKit
import Derived.Shelf.Strings.Search3
set_option linter.all false
set_option maxHeartbeats 16000000
noncomputable section
set_option maxRecDepth 20000
open Go.Lx Go.RowKit
attribute [local instance 10] Classical.propDecidable
open Go.Proofs.Tryz (prog)
namespace Go.Proofs.YtbdpaoikccabhaaGreatDoor
theorem WSh.join {op:Bs} {ns:List Formula} (hop:op=kAnd\/op=kOr) (h:∀ n∈ns,WSh n):WSh (joinF op ns):=by
 have a1:¬op=kSame:=by rcases hop with rfl | rfl<;>decide+kernel
 have a2:¬(op=kNot\/QuF op):=by rcases hop with rfl | rfl<;>(unfold QuF;decide+kernel)
 refine .mk (fun e=>absurd e a1) (fun e=>absurd e a2) (hop.elim (fun h=>.inr (.inr (.inr (.inl h)))) (fun h=>.inr (.inr (.inr (.inr (.inl h)))))) (fun k hk=>?_);have hk:k∈joinL op ns:=hk;unfold joinL at hk;obtain ⟨n,hn,hkn⟩:=List.mem_flatMap.1 hk;split at hkn
 ·exact (h n hn).kid hkn
 rw [List.mem_singleton] at hkn;subst hkn;exact h k hn
theorem WSh.cmp {op:Bs} {a b:Lx.Expr} (hop:op=kLt\/op=kLe\/op=kEq) (ha:VSh a) (hb:VSh b):WSh (cmpF op a b):=by
 have a1:¬op=kSame:=by rcases hop with rfl | rfl | rfl<;>decide+kernel
 have a2:¬(op=kNot\/QuF op):=by rcases hop with rfl | rfl | rfl<;>(unfold QuF;decide+kernel)
 exact .mk (fun e=>absurd e a1) (fun e=>absurd e a2) (.inr (.inr (.inr (.inr (.inr (.inr ⟨Zs 2,fun e he=>by
  have he:e∈ [a,b]:=he;rcases List.mem_cons.1 he with rfl | he
  ·exact ha
  rw [List.mem_singleton] at he;subst he;exact hb⟩)))))) (fun k hk=>by cases hk)
theorem Ymt:∀ (n:Nat) {f:Formula} (sg:Bool),SizeOf.sizeOf f<=n->FOk f->WSh (normM sg f)
 | 0,f,_,h,_=>by cases f;simp at h
 | n+1,f,sg,hsz,hok=>by
  have hall:=WQ.1 hok;obtain ⟨⟨f1,f2,f3⟩,⟨k,hk,r1,r2,r3,r4⟩,hpar⟩:=hall.1;have ih:∀ (sg':Bool) (x:Formula),x∈f.kids->WSh (normM sg' x):=fun sg' x hx=>Ymt n sg' (by have:=Formula.kids_lt hx;omega) (hall.2.2 x hx)
  have hone:∀ sg':Bool,f.kids.length=1->WSh (headN (f.kids.map (normM sg'))):=fun sg' h1=>by
   obtain ⟨x,hx⟩:=List.length_eq_one_iff.1 h1;rw [hx];exact ih sg' x (by rw [hx];simp)
  have hmap:∀ sg':Bool,∀ x∈f.kids.map (normM sg'),WSh x:=fun sg' x hx=>by
   obtain ⟨y,hy,rfl⟩:=List.mem_map.1 hx;exact ih sg' y hy
  have hex:CmpOp f.op->VSh (exprAt f.exprs 0)/\VSh (exprAt f.exprs 1):=fun hc=>by
   have e:WW f=some (2,false,0):=by
    unfold WW;unfold CmpOp at hc;rcases hc with hc | hc | hc<;>rw [hc,if_neg (by decide+kernel),if_pos (by unfold CmpOp;simp)]
   rw [e] at hk;injection hk with hk
   subst hk;have hl:f.exprs.length=2:=r2;have hve:∀ e∈f.exprs,VSh e:=fun e he=>Yoa _ (Zs _) (hall.2.1 e he)
   obtain ⟨x,y,hxy⟩:∃ x y,f.exprs=[x,y]:=by
    match hf:f.exprs,hl with
    | [x,y],_=>exact ⟨x,y,rfl⟩
   rw [hxy] at hve ⊢;exact ⟨hve x (by simp),hve y (by simp)⟩
  rw [WG];by_cases w1:f.op=kNot
  ·rw [if_pos w1];have e:WW f=some (0,false,1):=by
    unfold WW;rw [w1,if_neg (by decide+kernel),if_neg (by unfold CmpOp;decide+kernel),if_neg (by decide+kernel),if_pos rfl]
   rw [e] at hk;injection hk with hk
   subst hk;exact hone _ r3
  rw [if_neg w1];by_cases w2:f.op=kImply
  ·rw [if_pos w2];have e:WW f=some (0,false,2):=by
    unfold WW;rw [w2,if_neg (by decide+kernel),if_neg (by unfold CmpOp;decide+kernel),if_neg (by decide+kernel),if_neg (by decide+kernel),if_pos rfl]
   rw [e] at hk;injection hk with hk
   subst hk;have hl:f.kids.length=2:=r3;obtain ⟨x,y,hxy⟩:∃ x y,f.kids=[x,y]:=by
    match hf:f.kids,hl with
    | [x,y],_=>exact ⟨x,y,rfl⟩
   rw [hxy];refine WSh.join (by split<;>simp) (fun z hz=>?_);rcases List.mem_cons.1 hz with rfl | hz
   ·exact ih _ x (by rw [hxy];simp)
   rw [List.mem_singleton] at hz;subst hz;exact ih _ y (by rw [hxy];simp)
  rw [if_neg w2];by_cases w3:f.op=kAnd
  ·rw [if_pos w3];exact WSh.join (by split<;>simp) (hmap sg)
  rw [if_neg w3];by_cases w4:f.op=kOr
  ·rw [if_pos w4];exact WSh.join (by split<;>simp) (hmap sg)
  rw [if_neg w4];by_cases w5:QuF f.op
  ·rw [if_pos w5];have e:WW f=some (0,true,1):=by
    unfold WW;rcases w5 with w5 | w5
    ·rw [w5,if_neg (by decide+kernel),if_neg (by unfold CmpOp;decide+kernel),if_neg (by decide+kernel),if_neg (by decide+kernel),if_neg (by decide+kernel),if_pos (by simp)]
    rw [w5,if_neg (by decide+kernel),if_neg (by unfold CmpOp;decide+kernel),if_neg (by decide+kernel),if_neg (by decide+kernel),if_neg (by decide+kernel),if_pos (by simp)]
   rw [e] at hk;injection hk with hk
   subst hk;have hq:∀ op,op=kForall\/op=kExists->¬op=kSame/\¬op=kAtom/\¬op=kNot:=by
    rintro op (rfl | rfl)<;>decide+kernel
   have hop:QuF (if sg=true then f.op else if f.op=kForall then kExists else kForall):=by
    split
    ·exact w5
    split
    ·exact .inr rfl
    exact .inl rfl
   obtain ⟨q1,q2,q3⟩:=hq _ hop;refine .mk (fun e=>absurd e q1) (fun _ h=>by cases h) (.inr (.inr (.inr (.inr (.inr (.inl hop)))))) (fun x hx=>?_);have hx:x∈ [headN (f.kids.map (normM sg))]:=hx;rw [List.mem_singleton] at hx;subst hx;exact hone _ r3
  rw [if_neg w5];by_cases w6:f.op=kLt
  ·rw [if_pos w6];split
   ·exact WSh.cmp (.inl rfl) (hex (.inl w6)).1 (hex (.inl w6)).2
   exact WSh.cmp (.inr (.inl rfl)) (hex (.inl w6)).2 (hex (.inl w6)).1
  rw [if_neg w6];by_cases w7:f.op=kLe
  ·rw [if_pos w7];split
   ·exact WSh.cmp (.inr (.inl rfl)) (hex (.inr (.inl w7))).1 (hex (.inr (.inl w7))).2
   exact WSh.cmp (.inl rfl) (hex (.inr (.inl w7))).2 (hex (.inr (.inl w7))).1
  rw [if_neg w7];by_cases w8:f.op=kEq
  ·rw [if_pos w8];split
   ·exact WSh.cmp (.inr (.inr rfl)) (hex (.inr (.inr w8))).1 (hex (.inr (.inr w8))).2
   have a1:¬kOr=kSame:=by decide+kernel
   have a2:¬(kOr=kNot\/QuF kOr):=by unfold QuF;decide+kernel
   have a3:¬kOr=kAtom:=by decide+kernel
   refine .mk (fun e=>absurd e a1) (fun e=>absurd e a2) (.inr (.inr (.inr (.inr (.inl rfl))))) (fun x hx=>?_);rcases List.mem_cons.1 hx with rfl | hx
   ·exact WSh.cmp (.inl rfl) (hex (.inr (.inr w8))).1 (hex (.inr (.inr w8))).2
   rw [List.mem_singleton] at hx;subst hx;exact WSh.cmp (.inl rfl) (hex (.inr (.inr w8))).2 (hex (.inr (.inr w8))).1
  rw [if_neg w8];have hao:f.op=kAtom\/f.op=kSame:=by
   unfold WW at hk;by_cases h0:f.op=kAtom\/f.op=kSame
   ·exact h0
   rw [if_neg h0,if_neg (fun h=>by unfold CmpOp at h;rcases h with h | h | h;exact w6 h;exact w7 h;exact w8 h),if_neg (fun h=>h.elim w3 w4),if_neg w1,if_neg w2,if_neg (show ¬(f.op=kForall\/f.op=kExists) from w5)] at hk;cases hk
  have e:k=(0,false,0):=by
   unfold WW at hk;rw [if_pos hao] at hk;injection hk with hk
   exact hk.symm
  subst e;have hk0:f.kids=[]:=List.eq_nil_of_length_eq_zero r3;have hn1:¬(f.op=kNot\/QuF f.op):=fun h=>h.elim w1 w5
  have hf:WSh f:=by
   exact .mk (fun e=>Nat.le_of_eq (f2 e).2.symm) (fun e=>absurd e hn1) (hao.elim .inl (fun h=>.inr (.inl h))) (fun x hx=>by rw [hk0] at hx;cases hx)
  cases sg with
  | true=>rw [if_pos rfl];exact hf
  | false=>
   rw [if_neg Zh];have a1:¬kNot=kSame:=by decide+kernel
   have a3:¬kNot=kAtom:=by decide+kernel
   refine .mk (fun e=>absurd e a1) (fun _ h=>by cases h) (.inr (.inr (.inl rfl))) (fun x hx=>?_);have hx:x∈ [f]:=hx;rw [List.mem_singleton] at hx;subst hx;exact hf
theorem Yo9 {f:Formula} (h:FVal f):WSh (normV f):=by
 unfold normV;rw [if_pos h];exact Ymt _ true (Zs _) h.1
theorem eW_at (l:List Lx.Expr):eW (exprAt l 0)+eW (exprAt l 1)<=2+(l.map eW).sum:=by
 have hz:eW Yn0=1:=by rw [YnN];rfl
 match l with
 | []=>show eW Yn0+eW Yn0<=_;omega
 | [x]=>show eW x+eW Yn0<=_;simp only [List.map_cons,List.map_nil,List.sum_cons,List.sum_nil];omega
 | x::y::r=>show eW x+eW y<=_;simp only [List.map_cons,List.sum_cons];omega
theorem fW_cmp (op:Bs) (a b:Lx.Expr):fW (cmpF op a b)=1+eW a+eW b:=by
 rw [Ybu];show 1+0+0+(eW a+(eW b+0))+0=_;omega
theorem YpX {op:Bs}:∀ (ns:List Formula),((joinL op ns).map fW).sum<=(ns.map fW).sum
 | []=>Zs _
 | n::r=>by
  have ih:=YpX (op:=op) r;have e:joinL op (n::r)=(if n.op=op then n.kids else [n])++joinL op r:=rfl;have hn:=Ybu n;rw [e,List.map_append,List.sum_append,List.map_cons,List.sum_cons];split
  ·omega
  simp only [List.map_cons,List.map_nil,List.sum_cons,List.sum_nil];omega
theorem Yi5 {op:Bs} (ns:List Formula):fW (joinF op ns)<=1+(ns.map fW).sum:=by
 have h:=YpX (op:=op) ns;rw [Ybu];show 1+0+0+0+((joinL op ns).map fW).sum<=_;omega
theorem YpY (l:List Formula):fW (headN l)<=1+(l.map fW).sum:=by
 have hz:fW Yds=1:=by rw [Ybu];rfl
 match l with
 | []=>show fW Yds<=_;omega
 | x::r=>show fW x<=_;simp only [List.map_cons,List.sum_cons];omega
theorem YpW:∀ (n:Nat) {f:Formula} (sg:Bool),SizeOf.sizeOf f<=n->FOk f->fW (normM sg f)<=8*fW f
 | 0,f,_,h,_=>by cases f;simp at h
 | n+1,f,sg,hsz,hok=>by
  have hall:=WQ.1 hok;have ih:∀ (sg':Bool) (x:Formula),x∈f.kids->fW (normM sg' x)<=8*fW x:=fun sg' x hx=>YpW n sg' (by have:=Formula.kids_lt hx;omega) (hall.2.2 x hx)
  have hm:∀ sg':Bool,((f.kids.map (normM sg')).map fW).sum<=8*(f.kids.map fW).sum:=fun sg'=>by
   rw [List.map_map];exact YeN (n:=fW ∘ normM sg') (fun x hx=>ih sg' x hx)
  have he:=eW_at f.exprs;have hf:=Ybu f;rw [WG];by_cases w1:f.op=kNot
  ·rw [if_pos w1];have:=YpY (f.kids.map (normM (!sg)));have:=hm (!sg);omega
  rw [if_neg w1];by_cases w2:f.op=kImply
  ·rw [if_pos w2];obtain ⟨_,⟨k,hk,r1,r2,r3,r4⟩,_⟩:=hall.1;have e:WW f=some (0,false,2):=by
    unfold WW;rw [w2,if_neg (by decide+kernel),if_neg (by unfold CmpOp;decide+kernel),if_neg (by decide+kernel),if_neg (by decide+kernel),if_pos rfl]
   rw [e] at hk;injection hk with hk
   subst hk;have hl:f.kids.length=2:=r3;obtain ⟨x,y,hxy⟩:∃ x y,f.kids=[x,y]:=by
    match hf:f.kids,hl with
    | [x,y],_=>exact ⟨x,y,rfl⟩
   have hx:=ih (!sg) x (by rw [hxy];simp);have hy:=ih sg y (by rw [hxy];simp);rw [hxy] at hf ⊢;refine Nat.le_trans (Yi5 _) ?_;show 1+(fW (normM (!sg) x)+(fW (normM sg y)+0))<=_;simp only [List.map_cons,List.map_nil,List.sum_cons,List.sum_nil] at hf;omega
  rw [if_neg w2];by_cases w3:f.op=kAnd
  ·rw [if_pos w3];have:=Yi5 (op:=if sg=true then kAnd else kOr) (f.kids.map (normM sg));have:=hm sg;omega
  rw [if_neg w3];by_cases w4:f.op=kOr
  ·rw [if_pos w4];have:=Yi5 (op:=if sg=true then kOr else kAnd) (f.kids.map (normM sg));have:=hm sg;omega
  rw [if_neg w4];by_cases w5:QuF f.op
  ·rw [if_pos w5,Ybu];have h1:=YpY (f.kids.map (normM sg));have h2:=hm sg;show 1+0+f.params.length+0+(fW (headN (f.kids.map (normM sg)))+0)<=_;omega
  rw [if_neg w5];have c1:=fun op=>fW_cmp op (exprAt f.exprs 0) (exprAt f.exprs 1)
  have c2:=fun op=>fW_cmp op (exprAt f.exprs 1) (exprAt f.exprs 0)
  by_cases w6:f.op=kLt
  ·rw [if_pos w6];split<;>simp only [c1,c2]<;>omega
  rw [if_neg w6];by_cases w7:f.op=kLe
  ·rw [if_pos w7];split<;>simp only [c1,c2]<;>omega
  rw [if_neg w7];by_cases w8:f.op=kEq
  ·rw [if_pos w8];split
   ·rw [c1];omega
   rw [Ybu];show 1+0+0+0+(fW (cmpF kLt (exprAt f.exprs 0) (exprAt f.exprs 1))+(fW (cmpF kLt (exprAt f.exprs 1) (exprAt f.exprs 0))+0))<=_;rw [c1,c2];omega
  rw [if_neg w8];split
  ·omega
  rw [Ybu (.mk kNot ⟨#[]⟩ [] [] [] [f])];show 1+0+0+0+(fW f+0)<=_;omega
theorem normV_w {f:Formula} (h:FVal f):fW (normV f)<=8*fW f:=by
 unfold normV;rw [if_pos h];exact YpW _ true (Zs _) h.1
end Go.Proofs.YtbdpaoikccabhaaGreatDoor
namespace Go.Proofs.YtbdpaoikccabhaaGreatDoor
variable {α:Type} {all vars:List Param} {d:Domain} {fz:FZ} {v vp va ve vk u1 u2 u3 u4 u5 u6 u7 v1 v2 v3 v4 v5 v6:Value} {cs:List Value} {A:Option Addr} {c n g k:Nat} {m:List (Bs × Value)} {l:List α}
def nmd (w n:Bs):Param:=⟨n,w++n⟩
def YgA (d:Domain):List Param:=d.predicates.map (fun x=>nmd XY x.name)++d.functions.map (fun x=>nmd XA x.name)
def Yfw (all:List Param):List Param:=all.map (fun x=>nmd Ycn x.name)
def Yfv (d:Domain):List Param:=d.actions.map (fun x=>nmd Ww x.name)++d.duratives.map (fun x=>nmd XB x.name)
def YaX (d:Domain) (all:List Param):Option Bs:=match repM [] (YgA d) with
 | some p=>some p
 | none=>match repM [] (Yfw all) with
  | some p=>some p
  | none=>repM [] (Yfv d)
theorem Ygz {fz:FZ} {w n:Bs} (hn:Short n) (hs:n.size<=1000) (hw:w.size<=1000:=by decide):paramL.rep fz (nmd w n) [Zy n,Zy (w++n)]:=
 Ygq (x:=nmd w n) ⟨hn,by show (w++n).size<=_;rw [ByteArray.size_append];omega⟩
theorem names_q {p:Problem} {vf vg vo:Value} (h:CkR fz v d p all vf vp vg vo) (hs:NmS d all)
 (hm:d.predicates.length<=1000000/\d.functions.length<=1000000/\all.length<=1000000/\d.actions.length<=1000000/\d.duratives.length<=1000000):
 QFn prog 140 [v] fz (repV (YaX d all)):=by
 obtain ⟨gc,v1,v2,v3,v4,v5,v6,u1,u2,u3,u4,u5,u6,u7,Aa,na,ca,rfl,hc,hD,hP,hall⟩:=h;obtain ⟨⟨A1,n1,b1,rfl,i1⟩,⟨A2,n2,b2,rfl,i2⟩,⟨A3,n3,b3,rfl,i3⟩,⟨A4,n4,b4,rfl,i4⟩,⟨A5,n5,b5,rfl,i5⟩,⟨A6,n6,b6,rfl,i6⟩⟩:=hD.sls;have l3:=i3.len;have l4:=i4.len;have l5:=i5.len;have l6:=i6.len;have la:=hall.len;have s3:=i3.short;have s4:=i4.short;have s5:=i5.short;have s6:=i6.short;have sa:=hall.short;obtain ⟨m3,m4,ma,m5,m6⟩:=hm;refine qF Tryz.func140 Tryz.ntmps140 (fun w0=>?_);refine zV ?_;intros;rename_i gs;refine zV ?_;refine Yn (fun q σ fz' H'=>∃ (k:Nat) (v':Value) (Ho:HP),k<=n3/\q=n3 - k/\σ=[(25,Zk k),(24,Zk n3),(23,Zc A3 n3 b3),(4,Zp gs),(0,Zp gc)]/\fz=fz'/\H'=(gs,Zu #[v',Zn,Zn] 274)::Ho/\Grow paramL 276 fz v' (k) Ho ((d.predicates.take k).map (fun x=>nmd XY x.name))) ⟨0,_,[],Z0 _,rfl,rfl,rfl,rfl,Grow.nil _ _ _⟩ Zw Zb ?_;rintro q σ fz' H' ⟨k,v',Ho,hk,rfl,rfl,rfl,rfl,hG⟩;obtain ⟨Ao,co,rfl,_,_⟩:=hG.form;refine vC ?_ ?_<;>intro c1
 ·obtain ⟨x,hx⟩:=Yf (l:=d.predicates) (k:=k) Zi;have hxs:=hs.p x (Zm hx);refine vI i3 hx (fun p1 hp=>?_);refine zL hp ?_;intro cs hcs;obtain ⟨w1,rfl,hR⟩:=Wz hcs;obtain ⟨Ap,np,cp,rfl,ip⟩:=hR.params;have hxn:Short x.name:=by unfold Short;omega
  refine zV ?_;intros
  ((refine zG ?_);refine Wk T Zz Zz Zz Zz Zz Zh Zh ?_);refine vG ?_;refine XX Zz Zz (by show _+_<=_;exact Nat.le_trans (Nat.add_le_add_left hxs _) Zh) ?_;refine zV ?_;refine Yd (Yc (cs:=[Zy x.name,Zy (XY++x.name)]) (fun gb=>?_));refine Yd (YG (Hr:=[_,_,_]) (d:=nmd XY x.name) (Zr _) hG Yaq (.head _) (Ygz hxn hxs) (fun v2 Hs' hO'=>?_));obtain ⟨Av',cv',rfl,_,_⟩:=hO'.form;refine vG ?_;refine Wk T Zz Zz Zz Zz Zz Zh Zh ?_;exact vP (h:=by exact ⟨k+1,_,Hs',by omega,rfl,rfl,rfl,rfl,hO'.of (by rw [List.take_add_one,hx];simp) Zi⟩)
 have hk1:n3=k:=by omega
 subst hk1;rw [show d.predicates.take n3=d.predicates from Zl Zi] at hG;refine zV ?_;refine Yn (fun q σ fz' H'=>∃ (k:Nat) (v':Value) (Ho:HP),k<=n4/\q=n4 - k/\σ=[(47,Zk k),(46,Zk n4),(45,Zc A4 n4 b4),(4,Zp gs),(0,Zp gc)]/\fz=fz'/\H'=(gs,Zu #[v',Zn,Zn] 274)::Ho/\Grow paramL 276 fz v' (n3+k) Ho (d.predicates.map (fun x=>nmd XY x.name)++(d.functions.take k).map (fun x=>nmd XA x.name))) ⟨0,_,Ho,Z0 _,rfl,rfl,rfl,rfl,hG.of (by simp) rfl⟩ Zw Zb ?_;rintro q σ fz' H' ⟨k,v',Ho,hk,rfl,rfl,rfl,rfl,hG⟩;obtain ⟨Ao,co,rfl,_,_⟩:=hG.form;refine vC ?_ ?_<;>intro c1
 ·obtain ⟨x,hx⟩:=Yf (l:=d.functions) (k:=k) Zi;have hxs:=hs.f x (Zm hx);refine vI i4 hx (fun p1 hp=>?_);refine zL hp ?_;intro cs hcs;obtain ⟨w1,rfl,hR⟩:=Xt hcs;obtain ⟨Ap,np,cp,rfl,ip⟩:=hR.params;have hxn:Short x.name:=by unfold Short;omega
  refine zV ?_;intros
  ((refine zG ?_);refine Wk T Zz Zz Zz Zz Zz Zh Zh ?_);refine vG ?_;refine XX Zz Zz (by show _+_<=_;exact Nat.le_trans (Nat.add_le_add_left hxs _) Zh) ?_;refine zV ?_;refine Yd (Yc (cs:=[Zy x.name,Zy (XA++x.name)]) (fun gb=>?_));refine Yd (YG (Hr:=[_,_,_]) (d:=nmd XA x.name) (Zr _) hG Yaq (.head _) (Ygz hxn hxs) (fun v2 Hs' hO'=>?_));obtain ⟨Av',cv',rfl,_,_⟩:=hO'.form;refine vG ?_;refine Wk T Zz Zz Zz Zz Zz Zh Zh ?_;exact vP (h:=by exact ⟨k+1,_,Hs',by omega,rfl,rfl,rfl,rfl,hO'.of (by rw [List.take_add_one,hx];simp) Zi⟩)
 have hk1:n4=k:=by omega
 subst hk1;rw [show d.functions.take n4=d.functions from Zl Zi] at hG;have hG0:Grow paramL 276 fz _ (n3+n4) Ho (YgA d):=hG;clear hG;refine zV ?_;refine Yn (fun q σ fz' H'=>∃ (k:Nat) (v':Value) (H1:HP),k<=na/\q=na - k/\σ=[(68,Zk k),(67,Zk na),(66,Zc Aa na ca),(4,Zp gs),(0,Zp gc)]/\fz=fz'/\H'=(gs,Zu #[Zc Ao (n3+n4) co,v',Zn] 274)::(Ho++H1)/\Grow paramL 276 fz v' (k) H1 ((all.take k).map (fun x=>nmd Ycn x.name))) ⟨0,_,[],Z0 _,rfl,rfl,rfl,(by rw [List.append_nil]),Grow.nil _ _ _⟩ Zw Zb ?_;rintro q σ fz' H' ⟨k,v',H1,hk,rfl,rfl,rfl,rfl,hG⟩;obtain ⟨A1',c1',rfl,_,_⟩:=hG.form;refine vC ?_ ?_<;>intro c1
 ·obtain ⟨x,hx⟩:=Yf (l:=all) (k:=k) Zi;have hxs:=hs.o x (Zm hx);refine vI hall hx (fun p1 hp=>?_);refine zL hp ?_;intro cs hcs;obtain ⟨rfl,hR⟩:=YM hcs;have hxn:Short x.name:=by unfold Short;omega
  refine zV ?_;intros
  ((refine zG ?_);refine Wk T Zz Zz Zz Zz Zz Zh Zh ?_);refine vG ?_;refine XX Zz Zz (by show _+_<=_;exact Nat.le_trans (Nat.add_le_add_left hxs _) Zh) ?_;refine zV ?_;refine Yd (Yc (cs:=[Zy x.name,Zy (Ycn++x.name)]) (fun gb=>?_));refine Yd (YG (Hr:=_::_::_::Ho) (d:=nmd Ycn x.name) (Zr _) hG Yaq (.head _) (Ygz hxn hxs) (fun v2 Hs' hO'=>?_));obtain ⟨Av',cv',rfl,_,_⟩:=hO'.form;refine vG ?_;refine Wk T Zz Zz Zz Zz Zz Zh Zh ?_;exact vP (h:=by exact ⟨k+1,_,Hs',by omega,rfl,rfl,rfl,rfl,hO'.of (by rw [List.take_add_one,hx];simp) Zi⟩)
 have hk1:na=k:=by omega
 subst hk1;rw [show all.take na=all from Zl Zi] at hG;have hG1:Grow paramL 276 fz _ na H1 (Yfw all):=hG;clear hG;refine zV ?_;refine Yn (fun q σ fz' H'=>∃ (k:Nat) (v':Value) (H2:HP),k<=n5/\q=n5 - k/\σ=[(90,Zk k),(89,Zk n5),(88,Zc A5 n5 b5),(4,Zp gs),(0,Zp gc)]/\fz=fz'/\H'=(gs,Zu #[Zc Ao (n3+n4) co,Zc A1' na c1',v'] 274)::((Ho++H1)++H2)/\Grow paramL 276 fz v' (k) H2 ((d.actions.take k).map (fun x=>nmd Ww x.name))) ⟨0,_,[],Z0 _,rfl,rfl,rfl,(by rw [List.append_nil]),Grow.nil _ _ _⟩ Zw Zb ?_;rintro q σ fz' H' ⟨k,v',H2,hk,rfl,rfl,rfl,rfl,hG⟩;obtain ⟨A2',c2',rfl,_,_⟩:=hG.form;refine vC ?_ ?_<;>intro c1
 ·obtain ⟨x,hx⟩:=Yf (l:=d.actions) (k:=k) Zi;have hxs:=hs.a x (Zm hx);refine vI i5 hx (fun p1 hp=>?_);refine zL hp ?_;intro cs hcs;obtain ⟨w1,w2,w3,w4,w5,w6,rfl,hR⟩:=Xd hcs;obtain ⟨Ap,np,cp,rfl,ip⟩:=hR.params;obtain ⟨⟨B0,e0,j0,rfl,_⟩,⟨B1,e1,j1,rfl,_⟩,⟨B2,e2,j2,rfl,_⟩,⟨B3,e3,j3,rfl,_⟩⟩:=hR.pre.sls;obtain ⟨B4,e4,j4,rfl,_⟩:=hR.changes;have hxn:Short x.name:=by unfold Short;omega
  refine zV ?_;intros
  ((refine zG ?_);refine Wk T Zz Zz Zz Zz Zz Zh Zh ?_);refine vG ?_;refine XX Zz Zz (by show _+_<=_;exact Nat.le_trans (Nat.add_le_add_left hxs _) Zh) ?_;refine zV ?_;refine Yd (Yc (cs:=[Zy x.name,Zy (Ww++x.name)]) (fun gb=>?_));refine Yd (YG (Hr:=_::_::_::(Ho++H1)) (d:=nmd Ww x.name) (Zr _) hG Yaq (.head _) (Ygz hxn hxs) (fun v2 Hs' hO'=>?_));obtain ⟨Av',cv',rfl,_,_⟩:=hO'.form;refine vG ?_;refine Wk T Zz Zz Zz Zz Zz Zh Zh ?_;exact vP (h:=by exact ⟨k+1,_,Hs',by omega,rfl,rfl,rfl,rfl,hO'.of (by rw [List.take_add_one,hx];simp) Zi⟩)
 have hk1:n5=k:=by omega
 subst hk1;rw [show d.actions.take n5=d.actions from Zl Zi] at hG;refine zV ?_;refine Yn (fun q σ fz' H'=>∃ (k:Nat) (v':Value) (H2:HP),k<=n6/\q=n6 - k/\σ=[(112,Zk k),(111,Zk n6),(110,Zc A6 n6 b6),(4,Zp gs)]/\fz=fz'/\H'=(gs,Zu #[Zc Ao (n3+n4) co,Zc A1' na c1',v'] 274)::((Ho++H1)++H2)/\Grow paramL 276 fz v' (n5+k) H2 (d.actions.map (fun x=>nmd Ww x.name)++(d.duratives.take k).map (fun x=>nmd XB x.name))) ⟨0,_,H2,Z0 _,rfl,rfl,rfl,rfl,hG.of (by simp) rfl⟩ Zw Zb ?_;rintro q σ fz' H' ⟨k,v',H2,hk,rfl,rfl,rfl,rfl,hG⟩;obtain ⟨A2',c2',rfl,_,_⟩:=hG.form;refine vC ?_ ?_<;>intro c1
 ·obtain ⟨x,hx⟩:=Yf (l:=d.duratives) (k:=k) Zi;have hxs:=hs.u x (Zm hx);refine vI i6 hx (fun p1 hp=>?_);refine zL hp ?_;intro cs hcs;obtain ⟨w0,w1,w2,w3,w4,w5,w6,w7,w8,w9,w10,w11,w12,w13,w14,rfl,hR⟩:=XJ hcs;obtain ⟨Ap,np,cp,rfl,ip⟩:=hR.params;obtain ⟨⟨B0,e0,j0,rfl,_⟩,⟨B1,e1,j1,rfl,_⟩,⟨B2,e2,j2,rfl,_⟩,⟨B3,e3,j3,rfl,_⟩⟩:=hR.start.sls;obtain ⟨⟨B4,e4,j4,rfl,_⟩,⟨B5,e5,j5,rfl,_⟩,⟨B6,e6,j6,rfl,_⟩,⟨B7,e7,j7,rfl,_⟩⟩:=hR.over.sls;obtain ⟨⟨B8,e8,j8,rfl,_⟩,⟨B9,e9,j9,rfl,_⟩,⟨B10,e10,j10,rfl,_⟩,⟨B11,e11,j11,rfl,_⟩⟩:=hR.fin.sls;obtain ⟨B12,e12,j12,rfl,_⟩:=hR.atStart;obtain ⟨B13,e13,j13,rfl,_⟩:=hR.atEnd;have hxn:Short x.name:=by unfold Short;omega
  refine zV ?_;intros
  ((refine zG ?_);refine Wk T Zz Zz Zz Zz Zz Zh Zh ?_);refine vG ?_;refine XX Zz Zz (by show _+_<=_;exact Nat.le_trans (Nat.add_le_add_left hxs _) Zh) ?_;refine zV ?_;refine Yd (Yc (cs:=[Zy x.name,Zy (XB++x.name)]) (fun gb=>?_));refine Yd (YG (Hr:=_::_::_::(Ho++H1)) (d:=nmd XB x.name) (Zr _) hG Yaq (.head _) (Ygz hxn hxs) (fun v2 Hs' hO'=>?_));obtain ⟨Av',cv',rfl,_,_⟩:=hO'.form;refine vG ?_;refine Wk T Zz Zz Zz Zz Zz Zh Zh ?_;exact vP (h:=by exact ⟨k+1,_,Hs',by omega,rfl,rfl,rfl,rfl,hO'.of (by rw [List.take_add_one,hx];simp) Zi⟩)
 have hk1:n6=k:=by omega
 subst hk1;rw [show d.duratives.take n6=d.duratives from Zl Zi] at hG;have hG2:Grow paramL 276 fz _ (n5+n6) H2 (Yfv d):=hG;clear hG;refine zV ?_;refine Yn (fun q σ fz' H'=>∃ k:Nat,k<=3/\q=3 - k/\σ=[(129,Zk k),(128,.agg #[Zc Ao (n3+n4) co,Zc A1' na c1',Zc A2' (n5+n6) c2'])]/\fz=fz'/\H'=(gs,Zu #[Zc Ao (n3+n4) co,Zc A1' na c1',Zc A2' (n5+n6) c2'] 274)::((Ho++H1)++H2)/\(0<k->repM [] (YgA d)=none)/\(1<k->repM [] (Yfw all)=none)/\(2<k->repM [] (Yfv d)=none)) ⟨0,by omega,rfl,rfl,rfl,rfl,fun h0=>by omega,fun h0=>by omega,fun h0=>by omega⟩ Zw Zb ?_;rintro q σ fz' H' ⟨k,hk,rfl,rfl,rfl,rfl,z0,z1,z2⟩;refine vC ?_ ?_<;>intro c1
 ·have hk3:k=0\/k=1\/k=2:=by omega
  rcases hk3 with rfl | rfl | rfl
  ·refine vG ?_;refine YiD ?_;refine zV ?_
   (refine zG ?_);refine WF (v:=repV (repM [] (YgA d))) (fun fz' hl hf=>by
    obtain ⟨A',c',he,hsl⟩:=hG0.sl hl (fun p hp=>hf p (by simp [hp])) Zi;injection he with x1 x2 x3
    subst x1 x3;exact YeP hsl) ?_
   cases hr:repM [] (YgA d) with
   | some pl=>
    rw [show repV (some pl)=.tuple #[Zy pl,.iface 88 (Zk 4)] from rfl];exact vS (h:=by exact (by rw [YaX,hr];rfl))
   | none=>
    rw [show repV none=.tuple #[Ze,.nilIface] from rfl];exact vP (h:=by exact ⟨1,by omega,rfl,rfl,rfl,rfl,fun _=>rfl,fun h0=>by omega,fun h0=>by omega⟩)
  ·refine vG ?_;refine YiD ?_;refine zV ?_
   (refine zG ?_);refine WF (v:=repV (repM [] (Yfw all))) (fun fz' hl hf=>by
    obtain ⟨A',c',he,hsl⟩:=hG1.sl hl (fun p hp=>hf p (by simp [hp])) Zi;injection he with x1 x2 x3
    subst x1 x3;exact YeP hsl) ?_
   cases hr:repM [] (Yfw all) with
   | some pl=>
    rw [show repV (some pl)=.tuple #[Zy pl,.iface 88 (Zk 4)] from rfl];exact vS (h:=by exact (by rw [YaX,z0 Zi,hr];rfl))
   | none=>
    rw [show repV none=.tuple #[Ze,.nilIface] from rfl];exact vP (h:=by exact ⟨2,by omega,rfl,rfl,rfl,rfl,fun _=>z0 Zi,fun _=>rfl,fun h0=>by omega⟩)
  refine vG ?_;refine YiD ?_;refine zV ?_
  (refine zG ?_);refine WF (v:=repV (repM [] (Yfv d))) (fun fz' hl hf=>by
   obtain ⟨A',c',he,hsl⟩:=hG2.sl hl (fun p hp=>hf p (by simp [hp])) Zi;injection he with x1 x2 x3
   subst x1 x3;exact YeP hsl) ?_
  cases hr:repM [] (Yfv d) with
  | some pl=>
   rw [show repV (some pl)=.tuple #[Zy pl,.iface 88 (Zk 4)] from rfl];exact vS (h:=by exact (by rw [YaX,z0 Zi,z1 Zi,hr];rfl))
  | none=>
   rw [show repV none=.tuple #[Ze,.nilIface] from rfl];exact vP (h:=by exact ⟨3,by omega,rfl,rfl,rfl,rfl,fun _=>z0 Zi,fun _=>z1 Zi,fun _=>rfl⟩)
 exact vS (h:=by exact (by rw [YaX,z0 Zi,z1 Zi,z2 Zi];rfl))
def wDomainP:Bs:=⟨#[100,111,109,97,105,110]⟩
def YjB:Bs:=⟨#[112,114,111,98,108,101,109]⟩
def wInitP:Bs:=⟨#[105,110,105,116]⟩
def Yl3:Bs:=⟨#[118,97,108,117,101,115]⟩
def wGoalP:Bs:=⟨#[103,111,97,108]⟩
def wLimitsP:Bs:=⟨#[108,105,109,105,116,115]⟩
def wTypesP:Bs:=⟨#[116,121,112,101,115]⟩
def txtV (v:Value_):Bs:=YoA v.fluent.name v.fluent.args
def OutV (d:Domain) (v:Value_):Prop:=∃ f,fstF d.functions v.fluent.name=some f/\(v.n<f.lo\/f.hi<v.n)
def Yih (d:Domain) (all:List Param):List Bs->List Value_->Int
 | _,[]=>0
 | ks,v::r=>
  if fluM d all [] v.fluent.name v.fluent.args≠0 then fluM d all [] v.fluent.name v.fluent.args
  else if OutV d v then 14
  else if txtV v∈ks then 4
  else Yih d all (ks++ [txtV v]) r
def W8 (d:Domain) (all:List Param) (p:Problem):Bs × Int:=
 if p.domain≠d.name then (YjB,8)
 else if Yav (fun a=>atomM d all [] a.name a.args) p.init≠0 then (wInitP,Yav (fun a=>atomM d all [] a.name a.args) p.init)
 else if Yih d all [] p.values≠0 then (Yl3,Yih d all [] p.values)
 else if ∃ f∈d.functions,Yfn d.types all (p.values.map txtV) f.name f.params [] then (Yl3,3)
 else (⟨#[]⟩,0)
theorem YpL {name:Bs} {args:List Bs} (h:fluM d all vars name args=0):∃ f,fstF d.functions name=some f/\args.length=f.params.length:=by
 unfold fluM at h;cases hf:fstF d.functions name with
 | none=>rw [hf] at h;cases h
 | some f=>
  rw [hf] at h;refine ⟨f,rfl,Classical.byContradiction fun h0=>?_⟩;simp only [YlS] at h;rw [if_pos h0] at h;cases h
theorem fstF_mem {l:List Function} {x:Bs} {f:Function} (h:fstF l x=some f):f∈l:=List.mem_of_find?_eq_some h
theorem YnP {p:Problem} (h:CkG fz v d p all) (hs:NmS d all) (hpf:∀ f∈d.functions,f.params.length<=64) (hvs:∀ x∈p.values,x.fluent.name.size<=1000/\∀ a∈x.fluent.args,a.size<=1000) (hal:all.length<=1000000000):
 QFn prog 149 [v] fz (resV (W8 d all p)):=by
 have h0:=h;obtain ⟨⟨vf,vpp,vg,vo,hck,hF,hPr,hFu,hO⟩,hw⟩:=h;obtain ⟨gc,v1,v2,v3,v4,v5,v6,u1,u2,u3,u4,u5,u6,u7,Aa,na,ca,rfl,hc,hD,hP,hall⟩:=hck;obtain ⟨A4,n4,b4,rfl,i4⟩:=hD.functions;obtain ⟨B2,m2,d2,rfl,i2⟩:=hP.init;obtain ⟨B3,m3,d3,rfl,i3⟩:=hP.values;obtain ⟨gf,mf,rfl,hgf,hmf⟩:=hFu;have l4:=i4.len;have l2:=i2.len;have l3:=i3.len;have s4:=i4.short;have s2:=i2.short;have s3:=i3.short;refine qF Tryz.func149 Tryz.ntmps149 (fun w0=>?_);refine vC ?_ ?_<;>intro x1
 ·exact vS (h:=by exact (by rw [W8,if_pos x1];rfl))
 have hdn:¬p.domain≠d.name:=fun h=>h x1
 refine zV ?_;refine WD m2 (fun k=>[(32,Zk k),(31,Zk m2),(30,Zc B2 m2 d2),(0,Zp gc)]) [] (fun k=>(∀ i,i<k->∀ a,p.init[i]?=some a->atomM d all [] a.name a.args=0)) (fun i hi=>absurd hi Zi) ?_;intro k hk hh;refine vC ?_ ?_<;>intro c1
 ·obtain ⟨x,hx⟩:=Yf (l:=p.init) (k:=k) Zi;refine vI i2 hx (fun p1 hp=>?_);refine zL hp ?_;intro cs hcs;obtain ⟨va,rfl,hR⟩:=Xy hcs;obtain ⟨Ap,np,cp,rfl,ia⟩:=hR.args;refine zV ?_;intros;refine zc (YlQ h0 (Sl.nil (A:=none) (c:=0)) ia) ?_;by_cases hz:atomM d all [] x.name x.args=0
  ·rw [hz,show errV 0=.nilIface from rfl];exact vM (h:=by exact YH (p:=fun a:Atom=>atomM d all [] a.name a.args=0) hh hx hz)
  rw [YD hz];have e1:Yav (fun a:Atom=>atomM d all [] a.name a.args) p.init=atomM d all [] x.name x.args:=YgZ (E:=fun a:Atom=>atomM d all [] a.name a.args) hx hh hz;exact vS (h:=by exact (by rw [W8,if_neg hdn,e1,if_pos hz,resV,YD hz];rfl))
 have hA:=Xc hh Zi;have e1:Yav (fun a:Atom=>atomM d all [] a.name a.args) p.init=0:=YdQ hA;refine zV ?_;refine Yd (Xx (fun gm=>?_));refine zV ?_;refine Yn (fun q σ fz' H'=>∃ (k:Nat) (ms:List (Bs × Value)),k<=m3/\q=m3 - k/\σ=[(53,Zk k),(52,Zk m3),(51,Zc B3 m3 d3),(7,.map (some gm)),(0,Zp gc)]/\fz=fz'/\H'=[(gm,mapS ms)]/\YdV ms ((p.values.take k).map txtV)/\Yih d all [] p.values=Yih d all ((p.values.take k).map txtV) (p.values.drop k)) ⟨0,[],Z0 _,rfl,rfl,rfl,rfl,YdV.nil,rfl⟩ Zw Zb ?_;rintro q σ fz' H' ⟨k,ms,hk,rfl,rfl,rfl,rfl,hS,hV⟩;refine vC ?_ ?_<;>intro c2
 ·obtain ⟨x,hx⟩:=Yf (l:=p.values) (k:=k) Zi;have hxm:=Zm hx;obtain ⟨hx1,hx2⟩:=hvs x hxm;have hdr:p.values.drop k=x::p.values.drop (k+1):=by
   rw [List.drop_eq_getElem_cons Zi,(Zg hx).2]
  rw [hdr,Yih] at hV;refine vI i3 hx (fun p1 hp=>?_);refine zL hp ?_;intro cs hcs;obtain ⟨va,rfl,hR⟩:=XM hcs;obtain ⟨Ap,np,cp,rfl,ia⟩:=hR.fluent.args;have la:=ia.len;refine zV ?_;intros;refine zc (Yhb h0 (Sl.nil (A:=none) (c:=0)) ia) ?_;by_cases hz:fluM d all [] x.fluent.name x.fluent.args=0
  ·obtain ⟨f,hf,hfl⟩:=YpL hz;have hfp:=hpf f (fstF_mem hf);have hag:NmsS x.fluent.args:=⟨by omega,hx2⟩;obtain ⟨C,n5,c5,hv5,h5⟩:=(hmf x.fluent.name).2 f hf;rw [hz,show errV 0=.nilIface from rfl];rw [hz,if_neg Zh] at hV;refine zWN ?_;refine Y6 [_,_] ?_;refine wG ?_;refine WU (v:=.agg #[Zy f.name,Zc C n5 c5,Zk f.lo,Zk f.hi]) hgf ?_ (hv:=by rw [Yht,hv5];rfl);refine pU ?_;refine Yg (YU (fun gv=>⟨⟨Zd,Zx⟩,?_⟩));refine Ch.hard0 (Yy ?_);refine Ch.done ?_;have hout:∀ {z:Int},OutV d x->Yih d all [] p.values=14:=fun ho=>by rw [hV,if_pos ho]
   have hnz:(14:Int)≠0:=by decide
   refine wC ?_ ?_<;>intro c3
   ·have e3:=hout (z:=0) ⟨f,hf,.inl c3⟩;exact vS (h:=by exact (by rw [W8,if_neg hdn,e1,if_neg Zh,e3,if_pos Zh];rfl))
   refine wC ?_ ?_<;>intro c4
   ·have e3:=hout (z:=0) ⟨f,hf,.inr c4⟩;exact vS (h:=by exact (by rw [W8,if_neg hdn,e1,if_neg Zh,e3,if_pos Zh];rfl))
   have hno:¬OutV d x:=by
    rintro ⟨f',hf',h9⟩;rw [hf] at hf';injection hf' with hf'
    subst hf';exact h9.elim c3 c4
   rw [if_neg hno] at hV;refine vc (Yoz ia hx1 hag) ?_;refine vG ?_;refine YbR (v:=Zo (decide (txtV x∈(p.values.take k).map txtV))) 2 hS.get ?_;by_cases hm:txtV x∈(p.values.take k).map txtV
   ·rw [if_pos hm] at hV;rw [decide_eq_true hm];exact vS (h:=by exact (by rw [W8,if_neg hdn,e1,if_neg Zh,hV,if_pos Zh];rfl))
   rw [if_neg hm] at hV;rw [decide_eq_false hm];refine vc (Yoz ia hx1 hag) ?_;refine zV ?_;refine YI (XG (pre:=[_,_]) (Zr _) ?_);refine zV ?_;have htk:(p.values.take (k+1)).map txtV=(p.values.take k).map txtV++ [txtV x]:=by rw [List.take_add_one,hx];simp
   exact wP (h:=by exact ⟨k+1,_,by omega,rfl,rfl,rfl,rfl,by rw [htk];exact hS.add (txtV x),by rw [htk];exact hV⟩)
  rw [YD hz];rw [if_pos hz] at hV;exact vS (h:=by exact (by rw [W8,if_neg hdn,e1,if_neg Zh,hV,if_pos hz,resV,YD hz];rfl))
 have hk3:k=m3:=by omega
 rw [List.drop_eq_nil_of_le Zi,Yih] at hV;rw [Zl Zi] at hS;refine zVX ?_
 first | refine Wp.freeze Zz (fun fz2 hl2 hm2=>?_) | refine Seq.freeze Zz (fun fz2 hl2 hm2=>?_)
 have h2:=h0.mono hl2;have i42:=i4.mono hl2;have hc2:=hl2 _ _ hc;refine zV ?_;refine Yn (fun q σ fz' H'=>∃ k:Nat,k<=n4/\q=n4 - k/\σ=[(114,Zk k),(113,Zk n4),(112,Zc A4 n4 b4),(7,.map (some gm)),(0,Zp gc)]/\fz2=fz'/\H'=[]/\(∀ i,i<k->∀ f,d.functions[i]?=some f->¬Yfn d.types all (p.values.map txtV) f.name f.params [])) ⟨0,Z0 _,rfl,rfl,rfl,rfl,fun i hi=>absurd hi Zi⟩ Zw Zb ?_;rintro q σ fz' H' ⟨k,hk,rfl,rfl,rfl,rfl,hh⟩;refine vC ?_ ?_<;>intro c3
 ·obtain ⟨x,hx⟩:=Yf (l:=d.functions) (k:=k) Zi;have hxm:=Zm hx;refine vI i42 hx (fun p1 hp=>?_);refine zL hp ?_;intro cs hcs;obtain ⟨va,rfl,hR⟩:=Xt hcs;obtain ⟨Ap,np,cp,rfl,ia⟩:=hR.params;have la:=ia.len;have hfp:=hpf x hxm;refine zV ?_;intros
  ((refine zG ?_);refine XS (Ykb x.params h2 hm2 hS ia (Sl.nil (A:=none) (c:=0)) rfl Zi Zi (hs.f x hxm) ⟨by simp,by simp⟩ hs.o hal) (fun f1=>?_) (fun f1=>?_))
  ·exact vS (h:=by exact (by rw [W8,if_neg hdn,e1,if_neg Zh,hV,if_neg Zh,if_pos ⟨x,hxm,Zt f1⟩];rfl))
  exact vM (h:=by exact YH (p:=fun f:Function=>¬Yfn d.types all (p.values.map txtV) f.name f.params []) hh hx (Zf f1))
 have hM:=Xc (p:=fun f:Function=>¬Yfn d.types all (p.values.map txtV) f.name f.params []) hh Zi;exact vS (h:=by exact (by rw [W8,if_neg hdn,e1,if_neg Zh,hV,if_neg Zh,if_neg (fun ⟨f,hf,h9⟩=>hM f hf h9)];rfl))
def Ykp (d:Domain) (all:List Param) (p:Problem):Bs × Int:=
 let e:=if d.duratives=[] then formM d all [] p.goal else YaB d all [] p.goal
 if e≠0 then (wGoalP,e) else (⟨#[]⟩,0)
theorem YmI {p:Problem} {e:Int} (he:(if d.duratives=[] then formM d all [] p.goal else YaB d all [] p.goal)=e) (h:e≠0):resV (Ykp d all p)=.tuple #[Zy wGoalP,errV e]:=by
 simp only [Ykp,he];rw [if_pos h];rfl
theorem YmJ {p:Problem} {e:Int} (he:(if d.duratives=[] then formM d all [] p.goal else YaB d all [] p.goal)=e) (h:e=0):resV (Ykp d all p)=.tuple #[Ze,.nilIface]:=by
 simp only [Ykp,he];rw [if_neg (by rw [h];decide)];rfl
theorem cgoal_q {p:Problem} (h:CkG fz v d p all) (hW:fW p.goal<=1000000000):
 QFn prog 150 [v] fz (resV (Ykp d all p)):=by
 have h0:=h;obtain ⟨⟨vf,vpp,vg,vo,hck,hF,hPr,hFu,hO⟩,hw⟩:=h;obtain ⟨gc,v1,v2,v3,v4,v5,v6,u1,u2,u3,u4,u5,u6,u7,Aa,na,ca,rfl,hc,hD,hP,hall⟩:=hck;obtain ⟨A6,n6,b6,rfl,i6⟩:=hD.duratives;have hg:=hP.goal;obtain ⟨⟨B0,e0,j0,rfl,_⟩,⟨B1,e1,j1,rfl,_⟩,⟨B2,e2,j2,rfl,_⟩,⟨B3,e3,j3,rfl,_⟩⟩:=hP.goal.sls;have l6:=i6.len;refine qF Tryz.func150 Tryz.ntmps150 (fun w0=>?_);refine vG ?_;refine Y0 ?_;refine vC ?_ ?_<;>intro x1
 ·have e5:(if d.duratives=[] then formM d all [] p.goal else YaB d all [] p.goal)=YaB d all [] p.goal:=if_neg (by intro h9;rw [h9] at l6;simp at l6;omega);refine vG ?_;refine Y0 ?_;refine vG ?_;refine WV (vs:=[Zy p.goal.op,Zy p.goal.name,Zc B0 e0 j0,Zc B1 e1 j1,Zc B2 e2 j2,Zc B3 e3 j3]) hc ?_;refine vG ?_;refine Ybn (Yg8 h0 (Sl.nil (A:=none) (c:=0)) hg Zi) ?_;by_cases hz:YaB d all [] p.goal=0
  ·rw [hz,show errV 0=.nilIface from rfl];exact vS (h:=by rw [YmJ e5 hz])
  rw [YD hz];exact vS (h:=by exact (by rw [YmI e5 hz,YD hz];rfl))
 have e5:(if d.duratives=[] then formM d all [] p.goal else YaB d all [] p.goal)=formM d all [] p.goal:=if_pos (List.eq_nil_of_length_eq_zero Zi);refine vG ?_;refine WV (vs:=[Zy p.goal.op,Zy p.goal.name,Zc B0 e0 j0,Zc B1 e1 j1,Zc B2 e2 j2,Zc B3 e3 j3]) hc ?_;refine vG ?_;refine Ybn (Yjj h0 (Sl.nil (A:=none) (c:=0)) hg Zi) ?_;by_cases hz:formM d all [] p.goal=0
 ·rw [hz,show errV 0=.nilIface from rfl];exact vS (h:=by rw [YmJ e5 hz])
 rw [YD hz];exact vS (h:=by exact (by rw [YmI e5 hz,YD hz];rfl))
mutual
def LongP:Formula->Prop
 | .mk _ _ _ params _ kids=>6<params.length\/LongPL kids
def LongPL:List Formula->Prop
 | []=>False
 | k::r=>LongP k\/LongPL r
end
theorem YhV:∀ {l:List Formula},LongPL l↔∃ x∈l,LongP x
 | []=>by simp [LongPL]
 | k::r=>by rw [LongPL,YhV (l:=r)];simp
theorem Yed (f:Formula):LongP f↔6<f.params.length\/∃ x∈f.kids,LongP x:=by cases f;rw [LongP,YhV];rfl
theorem long_f:∀ (s:Nat) {fz:FZ} {f:Formula} {va vp ve vk:Value},SizeOf.sizeOf f<=s->FormulaR fz f va vp ve vk->
 QFn prog 132 [.agg #[Zy f.op,Zy f.name,va,vp,ve,vk]] fz (Zo (decide (LongP f)))
 | 0,_,f,_,_,_,_,hse,_=>by cases f;simp at hse
 | s+1,fz,f,va,vp,ve,vk,hse,hR=>by
  obtain ⟨⟨B1,m1,d1,rfl,ia⟩,⟨B2,m2,d2,rfl,ip⟩,⟨B3,m3,d3,rfl,ie⟩,⟨B4,m4,d4,rfl,ik⟩⟩:=hR.sls;have l2:=ip.len;refine qF Tryz.func132 Tryz.ntmps132 (fun w0=>?_);refine pX (fun g0=>?_);refine vC ?_ ?_<;>intro x1
  ·exact vR (h:=by exact Ys ((Yed f).2 (.inl Zi)))
  refine zV ?_
  ((refine zG ?_);refine Yt (XL (cap:=[]) (p:=LongP) ik (fun x hx cs hcs=>by
   obtain ⟨wa,wp,we,wk,rfl,hRx⟩:=Yu hcs;exact long_f s (by have:=Lx.Formula.kids_lt hx;omega) hRx)) ?_)
  refine zV ?_
  (exact ret1 rfl rfl Zb (by
   by_cases h:∃ x∈f.kids,LongP x
   ·rw [decide_eq_true h,decide_eq_true ((Yed f).2 (.inr h))]
   rw [decide_eq_false h,decide_eq_false (fun h0=>((Yed f).1 h0).elim (fun h1=>x1 Zi) h)]))
theorem YhU {f:Formula} (hR:FormulaR fz f va vp ve vk):
 QFn prog 132 [.agg #[Zy f.op,Zy f.name,va,vp,ve,vk]] fz (Zo (decide (LongP f))):=long_f _ (Zs _) hR
def Yhy (c:Change):Prop:=6<c.params.length\/LongP c.when_
theorem longC_q {c:Change} (h:changeL.rep fz c cs):QFn prog 204 [.agg cs.toArray] fz (Zo (decide (Yhy c))):=by
 obtain ⟨v1,v2,v3,v4,v5,v6,v7,v8,rfl,hR⟩:=Xb h;obtain ⟨A1,n1,b1,rfl,ip⟩:=hR.params;have hw:=hR.when_;obtain ⟨⟨A2,n2,b2,rfl,iw1⟩,⟨A3,n3,b3,rfl,iw2⟩,⟨A4,n4,b4,rfl,iw3⟩,⟨A5,n5,b5,rfl,iw4⟩⟩:=hR.when_.sls;obtain ⟨A6,n6,b6,rfl,iw5⟩:=hR.args;obtain ⟨⟨A7,n7,b7,rfl,iw6⟩,⟨A8,n8,b8,rfl,iw7⟩⟩:=hR.value.sls;have l1:=ip.len;refine qF Tryz.func204 Tryz.ntmps204 (fun w0=>?_);refine pX (fun g0=>?_);refine vC ?_ ?_<;>intro x1
 ·exact vR (h:=by exact Ys (.inl Zi))
 refine vG ?_;refine Yh (vs:=[Zy c.when_.op,Zy c.when_.name,Zc A2 n2 b2,Zc A3 n3 b3,Zc A4 n4 b4,Zc A5 n5 b5]) 0 ?_;refine zc (YhU hw) ?_;refine zV ?_
 (exact ret1 rfl rfl Zb (by
  by_cases h:LongP c.when_
  ·rw [decide_eq_true h,decide_eq_true (show Yhy c from .inr h)]
  rw [decide_eq_false h,decide_eq_false (show ¬Yhy c from fun h0=>h0.elim (fun h1=>x1 Zi) h)]))
theorem Ycy {l:List Change} (h:Sl changeL fz A n c l):
 QFn prog 138 [Zc A n c] fz (Zo (decide (∃ x∈l,Yhy x))):=by
 refine qF Tryz.func138 Tryz.ntmps138 (fun w0=>?_);refine vG ?_;refine Yt (YaN (cap:=[]) (p:=Yhy) h (fun x hx cs hcs=>longC_q hcs)) ?_;exact vR (h:=rfl)
theorem YfW:QFn prog 131 [Zc A n c] fz (Zo (decide (6<n))):=by
 refine qF Tryz.func131 Tryz.ntmps131 (fun w0=>?_);refine vC ?_ ?_<;>intro x1
 ·exact vR (h:=by exact Ys Zi)
 exact vR (h:=by exact Yj Zi)
def YcH (fz:FZ) (g:Nat):Prop:=fz g=some (Zu #[.func (.func 131) #[] #[]] 222)
theorem large2_q (hg:YcH fz g) {x:Predicate} (h:predicateL.rep fz x cs):
 QFn prog 134 [.agg cs.toArray,Zp g] fz (Zo (decide (6<x.params.length))):=by
 unfold YcH at hg;obtain ⟨v1,rfl,hR⟩:=Wz h;obtain ⟨A1,n1,b1,rfl,ip⟩:=hR.params;have l1:=ip.len;refine qF Tryz.func134 Tryz.ntmps134 (fun w0=>?_);refine pX (fun g0=>?_);refine vv YfW ?_;exact vR (h:=by rw [l1])
theorem large3_q (hg:YcH fz g) {x:Function} (h:functionL.rep fz x cs):
 QFn prog 136 [.agg cs.toArray,Zp g] fz (Zo (decide (6<x.params.length))):=by
 unfold YcH at hg;obtain ⟨v1,rfl,hR⟩:=Xt h;obtain ⟨A1,n1,b1,rfl,ip⟩:=hR.params;have l1:=ip.len;refine qF Tryz.func136 Tryz.ntmps136 (fun w0=>?_);refine pX (fun g0=>?_);refine vv YfW ?_;exact vR (h:=by rw [l1])
def LongA (a:Action):Prop:=6<a.params.length\/LongP a.pre\/∃ c∈a.changes,Yhy c
theorem orNo {p q r:Prop} [Decidable q] [Decidable r] (h:¬p) (e:r↔p\/q):Value.bool (decide q)=Value.bool (decide r):=by
 by_cases hq:q
 ·rw [decide_eq_true hq,decide_eq_true (e.2 (.inr hq))]
 rw [decide_eq_false hq,decide_eq_false (fun h0=>(e.1 h0).elim h hq)]
theorem large4_q (hg:YcH fz g) {x:Action} (h:actionL.rep fz x cs):
 QFn prog 137 [.agg cs.toArray,Zp g] fz (Zo (decide (LongA x))):=by
 unfold YcH at hg;obtain ⟨v1,v2,v3,v4,v5,v6,rfl,hR⟩:=Xd h;obtain ⟨A1,n1,b1,rfl,ip⟩:=hR.params;have hw:=hR.pre;obtain ⟨⟨A2,n2,b2,rfl,iw1⟩,⟨A3,n3,b3,rfl,iw2⟩,⟨A4,n4,b4,rfl,iw3⟩,⟨A5,n5,b5,rfl,iw4⟩⟩:=hR.pre.sls;obtain ⟨A6,n6,b6,rfl,ic⟩:=hR.changes;have l1:=ip.len;refine qF Tryz.func137 Tryz.ntmps137 (fun w0=>?_);refine pX (fun g0=>?_);refine vG ?_;refine Wb Zz Zz Zz YfW (fun f1=>?_) (fun f1=>?_)
 ·exact vR (h:=by exact Ys (.inl Zi))
 refine vG ?_;refine Yh (vs:=[Zy x.pre.op,Zy x.pre.name,Zc A2 n2 b2,Zc A3 n3 b3,Zc A4 n4 b4,Zc A5 n5 b5]) 0 ?_;refine zb (YhU hw) (fun f2=>?_) (fun f2=>?_)
 ·exact vR (h:=by exact Ys (.inr (.inl (Zt f2))))
 refine vc (Ycy ic) ?_;exact vR (h:=by exact orNo (p:=6<x.params.length\/LongP x.pre) (fun h0=>h0.elim (fun h1=>f1 Zi) (Zf f2)) or_assoc.symm)
def YnZ (a:Durative):Prop:=6<a.params.length\/LongP a.start\/LongP a.over\/LongP a.fin\/(∃ c∈a.atStart,Yhy c)\/∃ c∈a.atEnd,Yhy c
theorem large5_q (hg:YcH fz g) {x:Durative} (h:durativeL.rep fz x cs):
 QFn prog 139 [.agg cs.toArray,Zp g] fz (Zo (decide (YnZ x))):=by
 unfold YcH at hg;obtain ⟨v1,v2,v3,v4,v5,v6,v7,v8,v9,v10,v11,v12,v13,v14,v15,rfl,hR⟩:=XJ h;obtain ⟨A1,n1,b1,rfl,ip⟩:=hR.params;have hw:=hR.start;have ho:=hR.over;have hf:=hR.fin;obtain ⟨⟨A2,n2,b2,rfl,_⟩,⟨A3,n3,b3,rfl,_⟩,⟨A4,n4,b4,rfl,_⟩,⟨A5,n5,b5,rfl,_⟩⟩:=hR.start.sls;obtain ⟨⟨C2,c2,e2,rfl,_⟩,⟨C3,c3,e3,rfl,_⟩,⟨C4,c4,e4,rfl,_⟩,⟨C5,c5,e5,rfl,_⟩⟩:=hR.over.sls;obtain ⟨⟨D2,d2,i2,rfl,_⟩,⟨D3,d3,i3,rfl,_⟩,⟨D4,d4,i4,rfl,_⟩,⟨D5,d5,i5,rfl,_⟩⟩:=hR.fin.sls;obtain ⟨A6,n6,b6,rfl,ic⟩:=hR.atStart;obtain ⟨A7,n7,b7,rfl,id⟩:=hR.atEnd;have l1:=ip.len;refine qF Tryz.func139 Tryz.ntmps139 (fun w0=>?_);refine pX (fun g0=>?_);refine vG ?_;refine Wb Zz Zz Zz YfW (fun f1=>?_) (fun f1=>?_)
 ·exact vR (h:=by exact Ys (.inl Zi))
 refine vG ?_;refine Yh (vs:=[Zy x.start.op,Zy x.start.name,Zc A2 n2 b2,Zc A3 n3 b3,Zc A4 n4 b4,Zc A5 n5 b5]) 0 ?_;refine zb (YhU hw) (fun f2=>?_) (fun f2=>?_)
 ·exact vR (h:=by exact Ys (.inr (.inl (Zt f2))))
 refine vG ?_;refine Yh (vs:=[Zy x.over.op,Zy x.over.name,Zc C2 c2 e2,Zc C3 c3 e3,Zc C4 c4 e4,Zc C5 c5 e5]) 0 ?_;refine zb (YhU ho) (fun f3=>?_) (fun f3=>?_)
 ·exact vR (h:=by exact Ys (.inr (.inr (.inl (Zt f3)))))
 refine vG ?_;refine Yh (vs:=[Zy x.fin.op,Zy x.fin.name,Zc D2 d2 i2,Zc D3 d3 i3,Zc D4 d4 i4,Zc D5 d5 i5]) 0 ?_;refine zb (YhU hf) (fun f4=>?_) (fun f4=>?_)
 ·exact vR (h:=by exact Ys (.inr (.inr (.inr (.inl (Zt f4))))))
 refine vb (Ycy ic) (fun f5=>?_) (fun f5=>?_)
 ·exact vR (h:=by exact Ys (.inr (.inr (.inr (.inr (.inl (Zt f5)))))))
 refine vc (Ycy id) ?_;refine zV ?_
 (exact ret1 rfl rfl Zb (orNo (p:=6<x.params.length\/LongP x.start\/LongP x.over\/LongP x.fin\/∃ c∈x.atStart,Yhy c) (fun h0=>by
  rcases h0 with h1 | h1 | h1 | h1 | h1
  ·exact f1 Zi
  ·exact Zf f2 h1
  ·exact Zf f3 h1
  ·exact Zf f4 h1
  exact Zf f5 h1) (by unfold YnZ;simp only [or_assoc])))
def LargeM (d:Domain) (p:Problem) (all:List Param):Prop:=64<all.length\/64<d.types.length\/64<d.predicates.length\/64<d.functions.length\/64<d.actions.length\/64<d.duratives.length\/LongP p.goal\/(∃ x∈d.predicates,6<x.params.length)\/(∃ x∈d.functions,6<x.params.length)\/(∃ x∈d.actions,LongA x)\/∃ x∈d.duratives,YnZ x
theorem large_q {p:Problem} {vf vg vo:Value} (h:CkR fz v d p all vf vp vg vo):
 QFn prog 65 [v] fz (Zo (decide (LargeM d p all))):=by
 obtain ⟨gc,v1,v2,v3,v4,v5,v6,u1,u2,u3,u4,u5,u6,u7,Aa,na,ca,rfl,hc,hD,hP,hall⟩:=h;obtain ⟨⟨A1,n1,b1,rfl,i1⟩,⟨A2,n2,b2,rfl,i2⟩,⟨A3,n3,b3,rfl,i3⟩,⟨A4,n4,b4,rfl,i4⟩,⟨A5,n5,b5,rfl,i5⟩,⟨A6,n6,b6,rfl,i6⟩⟩:=hD.sls;have hg:=hP.goal;obtain ⟨⟨B0,e0,q0,rfl,_⟩,⟨B1,e1,q1,rfl,_⟩,⟨B2,e2,q2,rfl,_⟩,⟨B3,e3,q3,rfl,_⟩⟩:=hP.goal.sls;have l1:=i1.len;have l3:=i3.len;have l4:=i4.len;have l5:=i5.len;have l6:=i6.len;have la:=hall.len;refine qF Tryz.func65 Tryz.ntmps65 (fun w0=>?_);refine vG ?_;refine WV (vs:=[Zy d.name,Zc A1 n1 b1,Zc A2 n2 b2,Zc A3 n3 b3,Zc A4 n4 b4,Zc A5 n5 b5,Zc A6 n6 b6]) hc ?_;refine zV ?_;intros;refine zC ?_ ?_<;>intro x0
 ·exact vR (h:=by exact Ys (.inl Zi))
 refine vC ?_ ?_<;>intro x1
 ·exact vR (h:=by exact Ys (.inr (.inl Zi)))
 refine vC ?_ ?_<;>intro x2
 ·exact vR (h:=by exact Ys (.inr (.inr (.inl Zi))))
 refine vC ?_ ?_<;>intro x3
 ·exact vR (h:=by exact Ys (.inr (.inr (.inr (.inl Zi)))))
 refine vC ?_ ?_<;>intro x4
 ·exact vR (h:=by exact Ys (.inr (.inr (.inr (.inr (.inl Zi))))))
 refine vC ?_ ?_<;>intro x5
 ·exact vR (h:=by exact Ys (.inr (.inr (.inr (.inr (.inr (.inl Zi)))))))
 refine zVX ?_;refine YN ?_;refine zVX ?_;intros;rename_i g3 g4
 first | refine Wp.freeze Zz (fun fz2 hl2 hb2=>?_) | refine Seq.freeze Zz (fun fz2 hl2 hb2=>?_)
 have hb:YcH fz2 g4:=hb2;have hc2:=hl2 _ _ hc;have hg2:=hg.mono hl2;have j3:=i3.mono hl2;have j4:=i4.mono hl2;have j5:=i5.mono hl2;have j6:=i6.mono hl2;refine vG ?_;refine WV (vs:=[Zy p.goal.op,Zy p.goal.name,Zc B0 e0 q0,Zc B1 e1 q1,Zc B2 e2 q2,Zc B3 e3 q3]) hc2 ?_;refine vb (YhU hg2) (fun f6=>?_) (fun f6=>?_)
 ·exact vR (h:=by exact Ys (.inr (.inr (.inr (.inr (.inr (.inr (.inl (Zt f6)))))))))
 refine vG ?_;refine Y0 ?_;refine vG ?_;refine XS (Ydx (cap:=[Zp g4]) (p:=(fun x:Predicate=>6<x.params.length)) j3 (fun x hx cs hcs=>large2_q hb hcs)) (fun f7=>?_) (fun f7=>?_)
 ·exact vR (h:=by exact Ys (.inr (.inr (.inr (.inr (.inr (.inr (.inr (.inl (Zt f7))))))))))
 refine vG ?_;refine Y0 ?_;refine vG ?_;refine XS (YdU (cap:=[Zp g4]) (p:=(fun x:Function=>6<x.params.length)) j4 (fun x hx cs hcs=>large3_q hb hcs)) (fun f8=>?_) (fun f8=>?_)
 ·exact vR (h:=by exact Ys (.inr (.inr (.inr (.inr (.inr (.inr (.inr (.inr (.inl (Zt f8)))))))))))
 refine vG ?_;refine Y0 ?_;refine vG ?_;refine XS (Ycb (cap:=[Zp g4]) (p:=LongA) j5 (fun x hx cs hcs=>large4_q hb hcs)) (fun f9=>?_) (fun f9=>?_)
 ·exact vR (h:=by exact Ys (.inr (.inr (.inr (.inr (.inr (.inr (.inr (.inr (.inr (.inl (Zt f9))))))))))))
 refine vG ?_;refine Y0 ?_;refine vG ?_;refine Yt (Ybw (cap:=[Zp g4]) (p:=YnZ) j6 (fun x hx cs hcs=>large5_q hb hcs)) ?_;refine zV ?_
 (exact ret1 rfl rfl Zb (by
  by_cases h9:∃ x∈d.duratives,YnZ x
  ·rw [decide_eq_true h9,decide_eq_true (show LargeM d p all from (.inr (.inr (.inr (.inr (.inr (.inr (.inr (.inr (.inr (.inr h9)))))))))))]
  rw [decide_eq_false h9,decide_eq_false (show ¬LargeM d p all from fun h0=>by
   rcases h0 with h0 | h0 | h0 | h0 | h0 | h0 | h0 | h0 | h0 | h0 | h0
   ·exact x0 Zi
   ·exact x1 Zi
   ·exact x2 Zi
   ·exact x3 Zi
   ·exact x4 Zi
   ·exact x5 Zi
   ·exact Zf f6 h0
   ·exact Zf f7 h0
   ·exact Zf f8 h0
   ·exact Zf f9 h0
   exact h9 h0)]))
def Once {α:Type} (nm:α->Bs) (l:List α):Prop:=∀ (i j:Nat) (x y:α),i<j->l[i]?=some x->l[j]?=some y->nm x≠nm y
def MapH {α:Type} (nm:α->Bs) (V:α->Value->Prop) (m:List (Bs × Value)) (l:List α) (k:Nat):Prop:=∀ x,((∀ i y,i<k->l[i]?=some y->nm y≠x)->valS m x=none)/\∀ i y,i<k->l[i]?=some y->nm y=x->∃ v,valS m x=some v/\V y v
theorem MapH.zero {nm:α->Bs} {V:α->Value->Prop}:MapH nm V [] l 0:=fun x=>⟨fun _=>rfl,fun i y hi=>absurd hi Zi⟩
theorem MapH.add {nm:α->Bs} {V:α->Value->Prop} {y:α} (h:MapH nm V m l k) (ho:Once nm l) (hy:l[k]?=some y) (hv:V y v):MapH nm V (updS m (nm y) v) l (k+1):=fun x=>by
 constructor
 ·intro hn;have h1:nm y≠x:=hn k y Zi hy;rw [Yco,if_neg (fun e=>h1 e.symm)];exact (h x).1 (fun i z hi hz=>hn i z Zi hz)
 intro i z hi hz he;by_cases hik:i=k
 ·subst hik;rw [hy] at hz;injection hz with hz;subst hz
  exact ⟨v,by rw [Yco,if_pos he.symm],hv⟩
 have h2:=ho i k z y Zi hz hy;rw [Yco,if_neg (fun e=>h2 (by rw [he,e]))];exact (h x).2 i z Zi hz he
theorem MapH.mono {nm:α->Bs} {V V':α->Value->Prop} (h:MapH nm V m l k) (hV:∀ y v,V y v->V' y v):MapH nm V' m l k:=fun x=>⟨(h x).1,fun i y hi hy he=>by obtain ⟨v,h1,h2⟩:=(h x).2 i y hi hy he;exact ⟨v,h1,hV y v h2⟩⟩
def VPred (fz:FZ) (y:Predicate) (v:Value):Prop:=∃ A n c,v=Zc A n c/\Sl paramL fz A n c y.params
def VFun (fz:FZ) (y:Function) (v:Value):Prop:=∃ A n c,v=.agg #[Zy y.name,Zc A n c,Zk y.lo,Zk y.hi]/\Sl paramL fz A n c y.params
def VObj (y:Param) (v:Value):Prop:=v=Zy y.typ
theorem Yky {nm:α->Bs} {x:Bs} (h:(l.find? fun p=>decide (nm p=x))=none):∀ i y,i<l.length->l[i]?=some y->nm y≠x:=fun i y _ hy he=>by
 have:=List.find?_eq_none.1 h y (Zm hy);simp [he] at this
theorem Ykx {nm:α->Bs} {x:Bs} {y:α} (h:(l.find? fun p=>decide (nm p=x))=some y):∃ i,i<l.length/\l[i]?=some y/\nm y=x:=by
 obtain ⟨i,hi⟩:=List.getElem?_of_mem (List.mem_of_find?_eq_some h);exact ⟨i,(Zg hi).1,hi,by have:=List.find?_some h;simpa using this⟩
theorem prdR_of {l:List Predicate} (hg:fz g=some (mapS m)) (h:MapH (·.name) (VPred fz) m l l.length):PrdR fz (.map (some g)) l:=⟨g,m,rfl,hg,fun x=>⟨fun hn=>(h x).1 (Yky (nm:=fun p:Predicate=>p.name) hn),fun y hy=>by
 obtain ⟨i,h1,h2,h3⟩:=Ykx (nm:=fun p:Predicate=>p.name) hy;obtain ⟨v,h4,A,n,c,rfl,h5⟩:=(h x).2 i y h1 h2 h3;exact ⟨A,n,c,h4,h5⟩⟩⟩
theorem funR_of {l:List Function} (hg:fz g=some (mapS m)) (h:MapH (·.name) (VFun fz) m l l.length):FunR fz (.map (some g)) l:=⟨g,m,rfl,hg,fun x=>⟨fun hn=>(h x).1 (Yky (nm:=fun p:Function=>p.name) hn),fun y hy=>by
 obtain ⟨i,h1,h2,h3⟩:=Ykx (nm:=fun p:Function=>p.name) hy;obtain ⟨v,h4,A,n,c,rfl,h5⟩:=(h x).2 i y h1 h2 h3;exact ⟨A,n,c,h4,h5⟩⟩⟩
theorem tyF_none {l:List Param} {x:Bs} (h:tyF l x=none):∀ i y,i<l.length->l[i]?=some y->y.name≠x:=by
 induction l with
 | nil=>intro i y hi;simp at hi
 | cons p r ih=>
  rw [tyF] at h;by_cases h1:x=p.name
  ·rw [if_pos h1] at h;cases h
  rw [if_neg h1] at h;intro i y hi hy;cases i with
  | zero=>simp at hy;subst hy;exact fun e=>h1 e.symm
  | succ i=>exact ih h i y (by simpa using hi) (by simpa using hy)
theorem tyF_at {l:List Param} {x u:Bs} (h:tyF l x=some u):∃ i y,i<l.length/\l[i]?=some y/\y.name=x/\y.typ=u:=by
 induction l with
 | nil=>cases h
 | cons p r ih=>
  rw [tyF] at h;by_cases h1:x=p.name
  ·rw [if_pos h1] at h;injection h with h;exact ⟨0,p,by simp,rfl,h1.symm,h⟩
  rw [if_neg h1] at h;obtain ⟨i,y,h2,h3,h4,h5⟩:=ih h;exact ⟨i+1,y,by simpa using h2,by simpa using h3,h4,h5⟩
theorem objR_of {l:List Param} (hg:fz g=some (mapS m)) (h:MapH (·.name) VObj m l l.length):ObjR fz (.map (some g)) l:=⟨g,m,rfl,hg,fun x=>by
 cases hr:tyF l x with
 | none=>rw [(h x).1 (tyF_none hr)];rfl
 | some u=>
  obtain ⟨i,y,h1,h2,h3,h4⟩:=tyF_at hr;obtain ⟨v,h5,h6⟩:=(h x).2 i y h1 h2 h3;rw [h5,show v=Zy y.typ from h6,h4];rfl⟩
theorem Yqb {gc:Nat} {p:Problem} {vf:Value} {Aa:Option Addr} {na ca:Nat} (hD:DomainR fz d v1 v2 v3 v4 v5 v6) (hall:Sl paramL fz Aa na ca all)
 (op:Once (·.name) d.predicates) (of:Once (·.name) d.functions) (oo:Once (·.name) all):
 GFn prog 147 [Zp gc] fz [(gc,Zu #[Zy d.name,v1,v2,v3,v4,v5,v6,Zy p.name,Zy p.domain,u1,u2,u3,Zy p.goal.op,Zy p.goal.name,u4,u5,u6,u7,vf,.map none,.map none,.map none,Zc Aa na ca] 157)]
  (fun v fz' H'=>v=.tuple #[]/\fz=fz'/\∃ go gg gp m1 m2 m3,H'=[(go,mapS m3),(gg,mapS m2),(gp,mapS m1),(gc,Zu #[Zy d.name,v1,v2,v3,v4,v5,v6,Zy p.name,Zy p.domain,u1,u2,u3,Zy p.goal.op,Zy p.goal.name,u4,u5,u6,u7,vf,.map (some gp),.map (some gg),.map (some go),Zc Aa na ca] 157)]/\
   MapH (·.name) (VPred fz) m1 d.predicates d.predicates.length/\MapH (·.name) (VFun fz) m2 d.functions d.functions.length/\MapH (·.name) VObj m3 all all.length):=by
 obtain ⟨⟨A1,n1,b1,rfl,i1⟩,⟨A2,n2,b2,rfl,i2⟩,⟨A3,n3,b3,rfl,i3⟩,⟨A4,n4,b4,rfl,i4⟩,⟨A5,n5,b5,rfl,i5⟩,⟨A6,n6,b6,rfl,i6⟩⟩:=hD.sls;have l3:=i3.len;have l4:=i4.len;have la:=hall.len;have s3:=i3.short;have s4:=i4.short;have sa:=hall.short;refine zF Tryz.func147 Tryz.ntmps147 (fun w0=>?_);refine zV ?_;refine Yd (Xx (fun gp=>?_));refine Yd (Xx (fun gg=>?_));refine Yd (Xx (fun go=>?_));refine zV ?_;refine Yn (fun q σ fz' H'=>∃ (k:Nat) (m:List (Bs × Value)),k<=n3/\q=n3 - k/\σ=[(26,Zk k),(25,Zk n3),(24,Zc A3 n3 b3),(0,Zp gc)]/\fz=fz'/\H'=[(go,mapS []),(gg,mapS []),(gp,mapS m),(gc,Zu #[Zy d.name,Zc A1 n1 b1,Zc A2 n2 b2,Zc A3 n3 b3,Zc A4 n4 b4,Zc A5 n5 b5,Zc A6 n6 b6,Zy p.name,Zy p.domain,u1,u2,u3,Zy p.goal.op,Zy p.goal.name,u4,u5,u6,u7,vf,.map (some gp),.map (some gg),.map (some go),Zc Aa na ca] 157)]/\MapH (·.name) (VPred fz) m d.predicates k) ⟨0,[],Z0 _,rfl,rfl,rfl,rfl,MapH.zero⟩ Zw Zb ?_;rintro q σ fz' H' ⟨k,m,hk,rfl,rfl,rfl,rfl,hm⟩;refine vC ?_ ?_<;>intro c24
 ·obtain ⟨x,hx⟩:=Yf (l:=d.predicates) (k:=k) Zi;refine vI i3 hx (fun p1 hp=>?_);refine zL hp ?_;intro cs hcs;obtain ⟨va,rfl,hR⟩:=Wz hcs;obtain ⟨Ap,np,cp,rfl,ip⟩:=hR.params;refine zWN ?_;intros;refine Y6 [_,_,_,_,_] ?_;refine zW ?_;refine pU ?_;refine Ch.hard0 (XG (pre:=[_,_,_]) (Zr _) ?_);refine Ch.done ?_;exact vP (h:=by exact ⟨k+1,_,by omega,rfl,rfl,rfl,rfl,hm.add op hx ⟨_,_,_,rfl,ip⟩⟩)
 have hk3:k=d.predicates.length:=by omega
 subst hk3;obtain ⟨m1,rfl⟩:∃ z,z=m:=⟨_,rfl⟩;have hm1:=hm;refine zV ?_;refine Yn (fun q σ fz' H'=>∃ (k:Nat) (m:List (Bs × Value)),k<=n4/\q=n4 - k/\σ=[(45,Zk k),(44,Zk n4),(43,Zc A4 n4 b4),(0,Zp gc)]/\fz=fz'/\H'=[(go,mapS []),(gg,mapS m),(gp,mapS m1),(gc,Zu #[Zy d.name,Zc A1 n1 b1,Zc A2 n2 b2,Zc A3 n3 b3,Zc A4 n4 b4,Zc A5 n5 b5,Zc A6 n6 b6,Zy p.name,Zy p.domain,u1,u2,u3,Zy p.goal.op,Zy p.goal.name,u4,u5,u6,u7,vf,.map (some gp),.map (some gg),.map (some go),Zc Aa na ca] 157)]/\MapH (·.name) (VFun fz) m d.functions k) ⟨0,[],Z0 _,rfl,rfl,rfl,rfl,MapH.zero⟩ Zw Zb ?_;rintro q σ fz' H' ⟨k,m,hk,rfl,rfl,rfl,rfl,hm⟩;refine vC ?_ ?_<;>intro c43
 ·obtain ⟨x,hx⟩:=Yf (l:=d.functions) (k:=k) Zi;refine vI i4 hx (fun p1 hp=>?_);refine zL hp ?_;intro cs hcs;obtain ⟨va,rfl,hR⟩:=Xt hcs;obtain ⟨Ap,np,cp,rfl,ip⟩:=hR.params;refine zWN ?_;intros;refine Y6 [_,_,_,_,_] ?_;refine zW ?_;refine pU ?_;refine Ch.hard0 (XG (pre:=[_,_]) (Zr _) ?_);refine Ch.done ?_;exact vP (h:=by exact ⟨k+1,_,by omega,rfl,rfl,rfl,rfl,hm.add of hx ⟨_,_,_,rfl,ip⟩⟩)
 have hk4:k=d.functions.length:=by omega
 subst hk4;obtain ⟨m2,rfl⟩:∃ z,z=m:=⟨_,rfl⟩;have hm2:=hm;refine zV ?_;refine Yn (fun q σ fz' H'=>∃ (k:Nat) (m:List (Bs × Value)),k<=na/\q=na - k/\σ=[(62,Zk k),(61,Zk na),(60,Zc Aa na ca),(0,Zp gc)]/\fz=fz'/\H'=[(go,mapS m),(gg,mapS m2),(gp,mapS m1),(gc,Zu #[Zy d.name,Zc A1 n1 b1,Zc A2 n2 b2,Zc A3 n3 b3,Zc A4 n4 b4,Zc A5 n5 b5,Zc A6 n6 b6,Zy p.name,Zy p.domain,u1,u2,u3,Zy p.goal.op,Zy p.goal.name,u4,u5,u6,u7,vf,.map (some gp),.map (some gg),.map (some go),Zc Aa na ca] 157)]/\MapH (·.name) VObj m all k) ⟨0,[],Z0 _,rfl,rfl,rfl,rfl,MapH.zero⟩ Zw Zb ?_;rintro q σ fz' H' ⟨k,m,hk,rfl,rfl,rfl,rfl,hm⟩;refine vC ?_ ?_<;>intro c60
 ·obtain ⟨x,hx⟩:=Yf (l:=all) (k:=k) Zi;refine vI hall hx (fun p1 hp=>?_);refine zL hp ?_;intro cs hcs;obtain ⟨rfl,hR⟩:=YM hcs;refine zWN ?_;intros;refine Y6 [_,_,_,_,_] ?_;refine zW ?_;refine pU ?_;refine Ch.hard0 (XG (pre:=[_]) (Zr _) ?_);refine Ch.done ?_;exact vP (h:=by exact ⟨k+1,_,by omega,rfl,rfl,rfl,rfl,hm.add oo hx rfl⟩)
 have hk5:k=all.length:=by omega
 subst hk5;refine zV ?_;exact Yb2 rfl Zb ⟨rfl,rfl,go,gg,gp,m1,m2,_,rfl,hm1,hm2,hm⟩
def objsM (d:Domain) (p:Problem):List Param:=d.constants++p.objects
theorem Ybp {p:Problem} (hD:DomainR fz d v1 v2 v3 v4 v5 v6) (hP:ProblemR fz p u1 u2 u3 u4 u5 u6 u7) (hc:d.constants.length<=1000000000) (ho:p.objects.length<=1000000000):
 GFn prog 35 [ZD d v1 v2 v3 v4 v5 v6,ZP p u1 u2 u3 u4 u5 u6 u7] fz [] (fun v fz' H'=>Grow paramL 86 fz' v (d.constants.length+p.objects.length) H' (objsM d p)):=by
 obtain ⟨⟨A1,n1,b1,rfl,i1⟩,⟨A2,n2,b2,rfl,i2⟩,⟨A3,n3,b3,rfl,i3⟩,⟨A4,n4,b4,rfl,i4⟩,⟨A5,n5,b5,rfl,i5⟩,⟨A6,n6,b6,rfl,i6⟩⟩:=hD.sls;obtain ⟨⟨B1,m1,d1,rfl,j1⟩,⟨B2,m2,d2,rfl,j2⟩,⟨B3,m3,d3,rfl,j3⟩⟩:=hP.sls;obtain ⟨⟨B4,m4,d4,rfl,_⟩,⟨B5,m5,d5,rfl,_⟩,⟨B6,m6,d6,rfl,_⟩,⟨B7,m7,d7,rfl,_⟩⟩:=hP.goal.sls;have l2:=i2.len;have l1:=j1.len;refine zF Tryz.func35 Tryz.ntmps35 (fun w0=>?_);refine pX (fun g2=>?_);refine pY (fun g3=>?_);refine zWO ?_;refine zWN ?_;refine Y6 [_,_] ?_;refine zW ?_;refine Yl ?_;refine zW ?_;refine pU ?_;refine Yg (Yk [] [_,_] Zz (Ybg i2 Zi) (fun v6 fz6 H6 hle6 hR6=>⟨⟨hle6,Zx⟩,?_⟩));obtain ⟨Av,cv,rfl,_,_⟩:=hR6.form;refine Yg (XW T (Hr:=[_,_]) Zz Zz Zz Zz Zz Zz Zz Zz Zq hR6 Yaq (j1.mono hle6) (by show _*32<=_;omega) Zi (fun v7 H7 hO7=>⟨⟨hle6,Zx⟩,?_⟩));obtain ⟨Aw,cw,rfl,_,_⟩:=hO7.form;refine Ch.qk ⟨hle6,Zx⟩ (YR ?_);refine Ch.done ?_;refine zW ?_;exact Yd5 (H':=H7) (H2:=[_,_]) rfl rfl Zq (fun fz8 hle8 _=>(hO7.mono hle8).of rfl Zi)
def stepM (d:Domain) (all:List Param) (p:Problem):Nat->Bs × Int
 | 0=>match YaX d all with | some s=>(s,4) | none=>(⟨#[]⟩,0)
 | 1=>Y9 (fun l=>if TwP [] (parN l) then 4 else 0) (YbE d [])
 | 2=>Y9 (fun l=>if ExP d.types l then 0 else 3) (YbE d all)
 | 3=>YlO d
 | 4=>Y9 (fun n=>n) (numsL d)
 | 5=>Y9 idN (YaR d all)
 | 6=>W8 d all p
 | _=>Ykp d all p
theorem step1_q {l:List Param} (h:Sl paramL fz A n c l):QFn prog 142 [Zc A n c] fz (errV (if TwP [] (parN l) then 4 else 0)):=by
 refine qF Tryz.func142 Tryz.ntmps142 (fun w0=>?_);refine vc (Yk9 h (Sl.nil (A:=none) (c:=0))) ?_;exact vR (h:=rfl)
structure LenS (d:Domain) (all:List Param):Prop where
 p:d.predicates.length<=1000000
 f:d.functions.length<=1000000
 o:all.length<=1000000
 a:d.actions.length<=1000000
 u:d.duratives.length<=1000000
theorem stepA0_q {p:Problem} {vf vg vo:Value} (h:CkR fz v d p all vf vp vg vo) (hs:NmS d all) (hl:LenS d all):
 QFn prog 66 [v,Zk 0] fz (resV (stepM d all p 0)):=by
 have e0:(0:Int)=0:=rfl;have hr:repV (YaX d all)=resV (stepM d all p 0):=by unfold stepM;cases YaX d all<;>rfl
 refine qF Tryz.func66 Tryz.ntmps66 (fun w0=>?_);refine vG ?_;refine Yt (names_q h hs ⟨hl.p,hl.f,hl.o,hl.a,hl.u⟩) ?_;rw [hr];exact vS (h:=rfl)
theorem stepA1_q {p:Problem} {vf vg vo:Value} (h:CkR fz v d p all vf vp vg vo) (hs:NmS d all):
 QFn prog 66 [v,Zk 1] fz (resV (stepM d all p 1)):=by
 have e0:¬(1:Int)=0:=by decide
 have e1:(1:Int)=1:=rfl;refine qF Tryz.func66 Tryz.ntmps66 (fun w0=>?_);refine vG ?_;refine Yt (Ypk (ob:=false) (first:=[]) (capt:=[]) (E:=fun l=>if TwP [] (parN l) then 4 else 0) h hs (fun hle hs'=>step1_q hs')) ?_;rw [show resV (Y9 (fun l=>if TwP [] (parN l) then 4 else 0) (YbE d (if false=true then all else [])))=resV (stepM d all p 1) from rfl];exact vS (h:=rfl)
theorem stepA2_q {p:Problem} {vf vg vo:Value} (h:CkR fz v d p all vf vp vg vo) (hF:ForR fz vf d.types) (hs:NmS d all):
 QFn prog 66 [v,Zk 2] fz (resV (stepM d all p 2)):=by
 have e0:¬(2:Int)=0:=by decide
 have e1:¬(2:Int)=1:=by decide
 have e2:(2:Int)=2:=rfl;refine qF Tryz.func66 Tryz.ntmps66 (fun w0=>?_);refine vG ?_;refine Y0 ?_;refine vG ?_;refine Yt (Ypk (ob:=true) (first:=[v]) (capt:=[]) (E:=fun l=>if ExP d.types l then 0 else 3) h hs (fun hle hs'=>YlH (h.mono hle) (hF.mono hle) hs')) ?_;rw [show resV (Y9 (fun l=>if ExP d.types l then 0 else 3) (YbE d (if true=true then all else [])))=resV (stepM d all p 2) from rfl];exact vS (h:=rfl)
theorem stepA3_q {p:Problem} {vf vg vo:Value} (h:CkR fz v d p all vf vp vg vo) (hs:NmS d all):
 QFn prog 66 [v,Zk 3] fz (resV (stepM d all p 3)):=by
 have e0:¬(3:Int)=0:=by decide
 have e1:¬(3:Int)=1:=by decide
 have e2:¬(3:Int)=2:=by decide
 have e3:(3:Int)=3:=rfl;refine qF Tryz.func66 Tryz.ntmps66 (fun w0=>?_);refine vc (cknd_q h hs) ?_;rw [show resV (YlO d)=resV (stepM d all p 3) from rfl];exact vS (h:=rfl)
theorem stepA4_q {p:Problem} {vf vg vo:Value} (h:CkR fz v d p all vf vp vg vo) (hs:NmS d all) (hn:∀ f∈d.functions,YeC f.lo/\YeC f.hi):
 QFn prog 66 [v,Zk 4] fz (resV (stepM d all p 4)):=by
 have e0:¬(4:Int)=0:=by decide
 have e1:¬(4:Int)=1:=by decide
 have e2:¬(4:Int)=2:=by decide
 have e3:¬(4:Int)=3:=by decide
 have e4:(4:Int)=4:=rfl;refine qF Tryz.func66 Tryz.ntmps66 (fun w0=>?_);refine vc (Yo7 h hs hn) ?_;rw [show resV (Y9 (fun n=>n) (numsL d))=resV (stepM d all p 4) from rfl];exact vS (h:=rfl)
theorem stepA6_q {p:Problem} (h:CkG fz v d p all) (hs:NmS d all) (hpf:∀ f∈d.functions,f.params.length<=64) (hvs:∀ x∈p.values,x.fluent.name.size<=1000/\∀ a∈x.fluent.args,a.size<=1000) (hal:all.length<=1000000000):
 QFn prog 66 [v,Zk 6] fz (resV (stepM d all p 6)):=by
 have e0:¬(6:Int)=0:=by decide
 have e1:¬(6:Int)=1:=by decide
 have e2:¬(6:Int)=2:=by decide
 have e3:¬(6:Int)=3:=by decide
 have e4:¬(6:Int)=4:=by decide
 have e5:¬(6:Int)=5:=by decide
 have e6:(6:Int)=6:=rfl;refine qF Tryz.func66 Tryz.ntmps66 (fun w0=>?_);refine vc (YnP h hs hpf hvs hal) ?_;rw [show resV (W8 d all p)=resV (stepM d all p 6) from rfl];exact vS (h:=rfl)
theorem stepA7_q {p:Problem} (h:CkG fz v d p all) (hW:fW p.goal<=1000000000):
 QFn prog 66 [v,Zk 7] fz (resV (stepM d all p 7)):=by
 have e0:¬(7:Int)=0:=by decide
 have e1:¬(7:Int)=1:=by decide
 have e2:¬(7:Int)=2:=by decide
 have e3:¬(7:Int)=3:=by decide
 have e4:¬(7:Int)=4:=by decide
 have e5:¬(7:Int)=5:=by decide
 have e6:¬(7:Int)=6:=by decide
 refine qF Tryz.func66 Tryz.ntmps66 (fun w0=>?_);refine vc (cgoal_q h hW) ?_;rw [show resV (Ykp d all p)=resV (stepM d all p 7) from rfl];exact vS (h:=rfl)
def ckO (d:Domain) (p:Problem) (v1 v2 v3 v4 v5 v6 u1 u2 u3 u4 u5 u6 u7 vf vp vg vo va:Value):Obj:=Zu #[Zy d.name,v1,v2,v3,v4,v5,v6,Zy p.name,Zy p.domain,u1,u2,u3,Zy p.goal.op,Zy p.goal.name,u4,u5,u6,u7,vf,vp,vg,vo,va] 157
theorem stepA5_f {gc:Nat} {p:Problem} {vf:Value} {Aa:Option Addr} {na ca:Nat} (hD:DomainR fz d v1 v2 v3 v4 v5 v6) (hP:ProblemR fz p u1 u2 u3 u4 u5 u6 u7) (hall:Sl paramL fz Aa na ca all)
 (hF:ForR fz vf d.types) (hw:WFT d.types) (op:Once (·.name) d.predicates) (of:Once (·.name) d.functions) (oo:Once (·.name) all) (hs:NmS d all) (hWa:∀ a∈d.actions,actW a<=1000000000) (hWd:∀ a∈d.duratives,durW a<=1000000000):
 GFn prog 66 [Zp gc,Zk 5] fz [(gc,ckO d p v1 v2 v3 v4 v5 v6 u1 u2 u3 u4 u5 u6 u7 vf (.map none) (.map none) (.map none) (Zc Aa na ca))] (fun v fz' H'=>H'=[]/\v=resV (stepM d all p 5)/\CkG fz' (Zp gc) d p all):=by
 have e0:¬(5:Int)=0:=by decide
 have e1:¬(5:Int)=1:=by decide
 have e2:¬(5:Int)=2:=by decide
 have e3:¬(5:Int)=3:=by decide
 have e4:¬(5:Int)=4:=by decide
 have e5:(5:Int)=5:=rfl;unfold ckO;refine zF Tryz.func66 Tryz.ntmps66 (fun w0=>?_);refine zV ?_;refine Yd (Yk [_] [] Zz (Yqb hD hall op of oo) (fun v6' fz6 H6 hle6 hR6=>?_));obtain ⟨rfl,rfl,go,gg,gp,m1,m2,m3,rfl,h1,h2,h3⟩:=hR6;refine zVX ?_;refine Wp.freezeAll (H1:=[]) (Zr _) (fun fz8 hle8 hf8=>?_);have hG:CkG fz8 (Zp gc) d p all:=⟨⟨vf,.map (some gp),.map (some gg),.map (some go),⟨gc,v1,v2,v3,v4,v5,v6,u1,u2,u3,u4,u5,u6,u7,Aa,na,ca,rfl,hf8 (gc,_) (by simp),hD.mono hle8,hP.mono hle8,hall.mono hle8⟩,hF.mono hle8,
  prdR_of (hf8 (gp,mapS m1) (by simp)) (h1.mono fun y v hv=>by obtain ⟨A,n,c,e,h⟩:=hv;exact ⟨A,n,c,e,h.mono hle8⟩),
  funR_of (hf8 (gg,mapS m2) (by simp)) (h2.mono fun y v hv=>by obtain ⟨A,n,c,e,h⟩:=hv;exact ⟨A,n,c,e,h.mono hle8⟩),
  objR_of (hf8 (go,mapS m3) (by simp)) h3⟩,hw⟩
 refine vc (Yqz hG hs hWa hWd) ?_;rw [show resV (Y9 idN (YaR d all))=resV (stepM d all p 5) from rfl];exact vS (h:=by exact ⟨rfl,rfl,hG⟩)
end Go.Proofs.YtbdpaoikccabhaaGreatDoor
namespace Go.Proofs
open Go.Shelf
def YfO:Go.Shelf.Ren:=⟨fun | 144=>253 | 143=>271 | 219=>281 | 217=>276 | 225=>290 | 224=>291 | 267=>292 | 266=>287 | 314=>296 | n=>n,fun | 9=>9 | 4=>4 | 3=>3 | 5=>5 | 46=>167 | 146=>354 | 51=>242 | n=>n,fun | 1=>0 | n=>n⟩
theorem YkV:Go.Proofs.Lays.n144 Tryz.prog YfO:={
 mixed:=by kernel_rfl
 f143:=Tryz.func271.trans (congrArg some (by kernel_rfl))
 f144:=Tryz.func253.trans (congrArg some (by kernel_rfl))
 f217:=Tryz.func276.trans (congrArg some (by kernel_rfl))
 f219:=Tryz.func281.trans (congrArg some (by kernel_rfl))
 f224:=Tryz.func291.trans (congrArg some (by kernel_rfl))
 f225:=Tryz.func290.trans (congrArg some (by kernel_rfl))
 f266:=Tryz.func287.trans (congrArg some (by kernel_rfl))
 f267:=Tryz.func292.trans (congrArg some (by kernel_rfl))
 f314:=Tryz.func296.trans (congrArg some (by kernel_rfl))
 t3:=Tryz.underlying3
 a3:=Tryz.isAgg3
 z3:=Tryz.sizeOf3
 v3:=Tryz.zeroValue3
 t4:=Tryz.underlying4
 a4:=Tryz.isAgg4
 z4:=Tryz.sizeOf4
 v4:=Tryz.zeroValue4
 t5:=Tryz.underlying5
 a5:=Tryz.isAgg5
 z5:=Tryz.sizeOf5
 v5:=Tryz.zeroValue5
 t9:=Tryz.underlying9
 a9:=Tryz.isAgg9
 z9:=Tryz.sizeOf9
 v9:=Tryz.zeroValue9
 t46:=Tryz.underlying167
 a46:=Tryz.isAgg167
 z46:=Tryz.sizeOf167
 v46:=Tryz.zeroValue167
 t51:=Tryz.underlying242
 a51:=Tryz.isAgg242
 z51:=Tryz.sizeOf242
 v51:=Tryz.zeroValue242
 t146:=Tryz.underlying354
 a146:=Tryz.isAgg354
 z146:=Tryz.sizeOf354
 v146:=Tryz.zeroValue354
 g1:=by kernel_rfl}
open Go.RowKit Go.Lib in
/-- strings.Contains: "Contains reports whether substr is within s.": IT RETURNS 'Lib.contains s substr'; the world is as1 it was. (LAID: no walk: one application.) -/
theorem Tryz.strings_Contains (s sub:ByteArray) (m:Int) (w:World) (hs:s.size<4294967281) (hm:w.cell? ⟨0,0,none⟩=some (.int .i64 m)):
 Calls Tryz.prog 253 #[.string s,.string sub] w fun e w'=>e=.returned (.bool (Lib.contains s.data.toList sub.data.toList))/\w'=w:=Any.strings_Contains YkV s sub m w hs hm
end Go.Proofs
namespace Go.Lx
open Go.RowKit
variable {v:Value} {w w':World} {fz:FZ}
def fzOf (w:World):FZ:=fun g=>w.heap[g]?
theorem Ym1 {p:Addr} (h:w.cell? p=some v):Ycd (fzOf w) p=some v:=by
 unfold World.cell? at h;unfold Ycd fzOf;exact h
theorem hp_of (w:World):Hp (fzOf w) [] w:=⟨fun _ _ h=>h,by simp,by simp⟩
theorem below_of (h:Fr [] w w'):Below w.heap.size w w':=⟨h.os,h.tape,h.output,h.size,fun k hk=>h.block k hk (by simp)⟩
theorem QFn.calls {P:Program} {f:FuncId} {args:List Value} (h:QFn P f args fz v) (hw:Hp fz [] w):Calls P f args.toArray w fun e w'=>e=.returned v/\Fr [] w w':=by
 unfold QFn at h;exact h.2 w hw
end Go.Lx
namespace Go.Lx
open Go
variable {j:Nat}
theorem YoC {s:List UInt8} (h:(32:UInt8) ∉ s) (r:List UInt8):(s++32::r).takeWhile (fun b=>!(b==(32:UInt8)))=s:=by
 induction s with
 | nil=>rfl
 | cons a s ih=>
  have h1:a≠32:=fun e=>h (by simp [e])
  rw [List.cons_append,List.takeWhile_cons,if_pos (by simpa using h1),ih (fun e=>h (by simp [e]))]
theorem occ_word {R s:List UInt8} (h:(32:UInt8) ∉ s) (ho:Go.Lib.occAt R ([32]++s++ [32]) j=true):s=((R.drop j).drop 1).takeWhile (fun b=>!(b==(32:UInt8))):=by
 unfold Go.Lib.occAt at ho;obtain ⟨r,hr⟩:=List.isPrefixOf_iff_prefix.1 ho;rw [<- hr];have:((([32]:List UInt8)++s++ [32])++r).drop 1=s++32::r:=by simp
 rw [this,YoC h]
theorem YlK {R sub:List UInt8} (h:∀ j,j<=R.length->Go.Lib.occAt R sub j=false):Go.Lib.contains R sub=false:=by
 unfold Go.Lib.contains;rw [Go.Lib.index_none h];rfl
def resT:List UInt8:=[32,97,110,100,32,111,114,32,110,111,116,32,105,109,112,108,121,32,102,111,114,97,108,108,32,101,120,105,115,116,115,32,119,104,101,110,32,97,115,115,105,103,110,32,105,110,99,114,101,97,115,101,32,100,101,99,114,101,97,115,101,32,111,98,106,101,99,116,32]
end Go.Lx
namespace Go.Proofs.YtbdpaoikccabhaaGreatDoor
variable {s:Bs} {fz fz':FZ}
def resB:Bs:=⟨#[32,97,110,100,32,111,114,32,110,111,116,32,105,109,112,108,121,32,102,111,114,97,108,108,32,101,120,105,115,116,115,32,119,104,101,110,32,97,115,115,105,103,110,32,105,110,99,114,101,97,115,101,32,100,101,99,114,101,97,115,101,32,111,98,106,101,99,116,32]⟩
def Ymj:List (List UInt8):=[]::Ybl.map (·.data.toList)
theorem res_all:(List.range 70).all (fun j=>!((resT.drop j).headD 0==32) || Ymj.contains (((resT.drop j).drop 1).takeWhile (fun b=>!(b==(32:UInt8)))))=true:=by kernel_rfl
theorem YhT (h:Xk s):(32:UInt8) ∉ s.data.toList:=by
 intro h0;obtain ⟨i,hi⟩:=List.getElem?_of_mem h0;have hlt:=(Zg hi).1;have hlt2:i<s.size:=by rw [Array.length_toList] at hlt;exact hlt
 have h1:=h.1 i hlt2;have h2:Ya2 s i=32:=by
  unfold Ya2;rw [getElem?_pos s i hlt2];have h3:s[i]=32:=by
   have:=(Zg hi).2;rw [Array.getElem_toList] at this;exact this
  rw [h3];rfl
 unfold Yba LetP DigP at h1;rw [h2] at h1;omega
theorem res_no (h:Xk s):Lib.contains resT ([32]++s.data.toList++ [32])=false:=by
 refine YlK fun j hj=>?_
 cases ho:Lib.occAt resT ([32]++s.data.toList++ [32]) j with
 | false=>rfl
 | true=>
  exfalso;have h1:=occ_word (YhT h) ho;have h2:(resT.drop j).headD 0=32:=by
   unfold Lib.occAt at ho;obtain ⟨r,hr⟩:=List.isPrefixOf_iff_prefix.1 ho;rw [<- hr];rfl
  have h3:=List.all_eq_true.1 res_all j (by rw [List.mem_range];exact Nat.lt_of_le_of_lt hj Zh);rw [h2,<- h1] at h3;simp only [beq_self_eq_true,Bool.not_true,Bool.false_or] at h3;have h4:s.data.toList∈Ymj:=by simpa using h3
  rcases List.mem_cons.1 h4 with h5 | h5
  ·refine h.2.1 (ByteArray.ext ?_);have:s.data=s.data.toList.toArray:=by simp
   rw [this,h5];rfl
  obtain ⟨y,hy,he⟩:=List.mem_map.1 h5;refine h.2.2.2 ?_;have:y=s:=ByteArray.ext (by
   have e1:y.data=y.data.toList.toArray:=by simp
   have e2:s.data=s.data.toList.toArray:=by simp
   rw [e1,e2,he])
  rw [<- this];exact hy
theorem YpH:∀ {l:List UInt8},(32:UInt8) ∉ l->Lib.indexByte l 32= -1
 | [],_=>rfl
 | a::l,h=>by
  have h1:(a==(32:UInt8))=false:=by simpa using fun e:a=32=>h (by simp [e])
  rw [Lib.indexByte,h1,YpH (fun e=>h (by simp [e]))];rfl
theorem blank_no (h:Xk s):Lib.contains s.data.toList [32]=false:=by
 unfold Lib.contains;rw [Lib.index_one,YpH (YhT h)];rfl
def MaxF (fz:FZ):Prop:=∃ m,Ycd fz ⟨0,0,none⟩=some (Zk m)
theorem MaxF.mono (hle:Le fz fz') (h:MaxF fz):MaxF fz':=by obtain ⟨m,hm⟩:=h;exact ⟨m,Yh6 hle hm⟩
theorem Yh4 {u:Bs} (hM:MaxF fz) (hs:s.size<=4000000000):QFn prog 253 [Zy s,Zy u] fz (Zo (Lib.contains s.data.toList u.data.toList)):=by
 obtain ⟨m,hm⟩:=hM;unfold QFn;refine ⟨⟨_,Tryz.func253,by decide,by decide⟩,fun w hw=>?_⟩;refine (Tryz.strings_Contains s u m w Zi (hw.cell hm)).mono fun e w' ⟨he,hb⟩=>⟨he,?_⟩
 subst hb;exact Fr.refl _ _
theorem tword_q (hM:MaxF fz) (h:Xk s):QFn prog 214 [Zy s] fz (Zo false):=by
 have hz:=h.2.2.1;have hne:¬s=⟨#[]⟩:=h.2.1;refine qF Tryz.func214 Tryz.ntmps214 (fun w0=>?_);refine wG ?_;refine Yt (Yh4 (s:=s) (u:=⟨#[32]⟩) hM Zi) ?_;rw [show (⟨#[32]⟩:Bs).data.toList=[32] from rfl,blank_no h];refine wG ?_;refine XX Zz Zz (by show 1+_<=_;omega) ?_;refine wG ?_;refine XX Zz Zz (by rw [ByteArray.size_append];show 1+_+1<=_;omega) ?_;refine wG ?_;refine Yt (Yh4 (s:=resB) (u:=(⟨#[32]⟩++s)++⟨#[32]⟩) hM Zh) ?_;rw [show resB.data.toList=resT from rfl,show ((⟨#[32]⟩++s)++⟨#[32]⟩:Bs).data.toList=[32]++s.data.toList++ [32] from by simp [ByteArray.data_append],res_no h];exact wR (h:=rfl)
theorem Ymb {b:UInt8}:QFn prog 213 [.int .u8 b.toNat] fz (Zo (decide (LetP (b.toNat:Int)))):=by
 refine qF Tryz.func213 Tryz.ntmps213 (fun w0=>?_);refine wC ?_ ?_<;>intro x1
 ·refine wC ?_ ?_<;>intro x2
  ·exact wR (h:=by exact (Ys ⟨x1,x2⟩))
  exact wR (h:=by exact Yj (fun h=>x2 h.2))
 exact wR (h:=by exact Yj (fun h=>x1 h.1))
theorem Yow (hM:MaxF fz) (h:Xk s):QFn prog 151 [Zy s] fz (Zo true):=by
 have hz:=h.2.2.1;have hp:0<s.size:=Nat.pos_of_ne_zero (fun h0=>h.2.1 (ByteArray.ext (Array.eq_empty_of_size_eq_zero h0)));obtain ⟨b0,hb0,hb02⟩:=Ybx (s:=s) (k:=0) hp;have hlet:LetP (b0.toNat:Int):=by
  have:=h.1 0 hp;unfold Yba at this;rw [hb02] at this;rcases this with h1 | ⟨h1,_⟩
  ·exact h1
  exact absurd rfl h1
 refine qF Tryz.func151 Tryz.ntmps151 (fun w0=>?_);refine wC ?_ ?_<;>intro x1
 ·omega
 refine wC ?_ ?_<;>intro x2
 ·omega
 refine wG ?_;refine Wj ?_ (hb:=by exact hb0);refine wc Ymb ?_;rw [decide_eq_true hlet];refine wc (tword_q hM h) ?_;refine zW ?_;refine WD (s.size) (fun k=>[(25,Zk k),(24,Zk s.size),(0,Zy s)]) [] (fun k=>True) trivial ?_;intro k hk hh;refine wC (fun hlt=>?_) (fun hge=>?_)
 ·refine zW ?_;obtain ⟨b,hb,hb2⟩:=Ybx (s:=s) (k:=k) Zi;have hN:=h.1 k Zi;unfold Yba at hN;rw [hb2] at hN
  ((refine zG ?_);refine Wj ?_ (hb:=by rw [Int.toNat_natCast];exact hb));refine wb Ymb (fun f1=>?_) (fun f1=>?_)
  ·exact wM (h:=by exact trivial)
  have h9:DigP (b.toNat:Int)\/(b.toNat:Int)=45\/(b.toNat:Int)=95:=by
   rcases hN with h1 | h1
   ·exact absurd h1 (Zf f1)
   exact h1.2
  unfold DigP at h9;refine wC ?_ ?_<;>intro x3
  ·refine wC ?_ ?_<;>intro x4
   ·omega
   exact wM (h:=by exact trivial)
  refine wC ?_ ?_<;>intro x5
  ·refine wC ?_ ?_<;>intro x4
   ·refine wC ?_ ?_<;>intro x6
    ·omega
    exact wM (h:=by exact trivial)
   omega
  exact wM (h:=by exact trivial)
 exact wR (h:=rfl)
end Go.Proofs.YtbdpaoikccabhaaGreatDoor
