/- The texts PCN, PFr, Shelf, PCO, PCP, PCL, PCS, PCT, laid together. Conditions: none. -/
import Derived.Test.YtfjopfinkdhmaaaGreatDoorRZI
import Derived.Shelf.Strings.OnBuilder
import Derived.Shelf.Strings.Repeat
import Derived.Shelf.Strconv.Itoa3
import Derived.Below
set_option linter.all false
noncomputable section
set_option maxRecDepth 20000
namespace Go.Proofs.YtfjopfinkdhmaaaGreatDoor
open Go.Lx Go.RowKit
attribute [local instance 10] Classical.propDecidable
open Go.Proofs.Tryz (prog)
def wPre:Bs:=⟨#[58,32,112,114,101,99,111,110,100,105,116,105,111,110]⟩
def wEff:Bs:=⟨#[58,32,101,102,102,101,99,116]⟩
def Yko:Bs:=⟨#[58,32]⟩
def wAt:Bs:=⟨#[58,32,101,102,102,101,99,116,32,97,116,32]⟩
def Ycq:Bs:=⟨#[115,116,97,114,116]⟩
def Ylm:Bs:=⟨#[111,118,101,114]⟩
def wEnd:Bs:=⟨#[101,110,100]⟩
abbrev idN:Int->Int:=fun n=>n
def Zer (l:List (Bs × Int)):Prop:=∀ q∈l,q.2=0
theorem Ybl {p:Bs} {e:Int} {l:List (Bs × Int)} (h:e≠0):Xx idN ((p,e)::l)=(p,e):=by rw [Xx,if_neg h]
theorem Yan {p:Bs} {e:Int} {l:List (Bs × Int)} (h:e=0):Xx idN ((p,e)::l)=Xx idN l:=by rw [Xx,if_pos h]
theorem Yer:∀ {a r:List (Bs × Int)},Zer a->Xx idN (a++r)=Xx idN r
 | [],r,_=>rfl
 | (p,e)::a,r,h=>by rw [List.cons_append,Yan (h (p,e) (by simp))];exact Yer (fun q hq=>h q (by simp [hq]))
theorem YhI {α:Type} {g:α->List (Bs × Int)} {r:List (Bs × Int)}:∀ {l:List α},(∀ x∈l,Zer (g x))->Xx idN (l.flatMap g++r)=Xx idN r
 | [],_=>rfl
 | x::l,h=>by rw [List.flatMap_cons,List.append_assoc,Yer (h x (by simp))];exact YhI (fun y hy=>h y (by simp [hy]))
theorem Yj1 {α:Type} {g:α->List (Bs × Int)} {r:List (Bs × Int)}:∀ {l:List α} {k:Nat} {x:α},l[k]?=some x->(∀ i,i<k->∀ y,l[i]?=some y->Zer (g y))->∃ r',Xx idN (l.flatMap g++r)=Xx idN (g x++r')
 | [],k,x,h,_=>by simp at h
 | y::l,0,x,h,_=>by simp at h;subst h;exact ⟨l.flatMap g++r,by rw [List.flatMap_cons,List.append_assoc]⟩
 | y::l,k+1,x,h,hh=>by
  obtain ⟨r',h'⟩:=Yj1 (g:=g) (r:=r) (l:=l) (k:=k) (x:=x) (by simpa using h) (fun i hi z hz=>hh (i+1) Zi z (by simpa using hz));exact ⟨r',by rw [List.flatMap_cons,List.append_assoc,Yer (hh 0 Zi y rfl)];exact h'⟩
def actL (d:Domain) (all:List Param) (a:Action):List (Bs × Int):=[((WN++a.name)++wPre,formM d all a.params a.pre),((WN++a.name)++wEff,Yae d all a.params a.changes false)]
def durL (d:Domain) (all:List Param) (a:Durative):List (Bs × Int):=
 [(((XI++a.name)++Yko)++Ycq,YbH d all a.params a.start),(((XI++a.name)++Yko)++Ylm,YbH d all a.params a.over),(((XI++a.name)++Yko)++wEnd,YbH d all a.params a.fin),
  (((XI++a.name)++wAt)++Ycq,Yae d all a.params a.atStart true),(((XI++a.name)++wAt)++wEnd,Yae d all a.params a.atEnd true)]
def Ya6 (d:Domain) (all:List Param):List (Bs × Int):=d.actions.flatMap (actL d all)++(d.duratives.flatMap (durL d all)++ [])
theorem Yje {A:List Change} {s:Nat} (h:s+(A.map XS).sum<=1000000000):∀ x∈A,s+XS x<=1000000000:=fun x hx=>by have:=Yaw (w:=XS) hx;omega
theorem nm_le {w n:Bs} {m:Nat} (h:n.size<=1000) (hw:w.size<=m):(w++n).size<=m+1000:=by rw [ByteArray.size_append];omega
theorem nm3 {w n c:Bs} (h:n.size<=1000) (hw:w.size<=1000) (hc:c.size<=1000):((w++n)++c).size<=10000:=by rw [ByteArray.size_append,ByteArray.size_append];omega
theorem Ydg {a b:Bs} (h:a.size<=10000) (hb:b.size<=10000):a.size+b.size<=9223372036854775807:=by omega
variable {all:List Param} {d:Domain} {fz:FZ} {p:Problem} {v:Value}
set_option maxHeartbeats 16000000 in
theorem Yoe (h:CkG fz v d p all) (hs:NmS d all) (hWa:∀ a∈d.actions,actW a<=1000000000) (hWd:∀ a∈d.duratives,durW a<=1000000000):
 QFn prog 81 [v] fz (resV (Xx idN (Ya6 d all))):=by
 have h0:=h;obtain ⟨⟨vf,vpp,vg,vo,hck,hF,hPr,hFu,hO⟩,hw⟩:=h;obtain ⟨gc,v1,v2,v3,v4,v5,v6,u1,u2,u3,u4,u5,u6,u7,Aa,na,ca,rfl,hc,hD,hP,hall⟩:=hck;obtain ⟨A5,n5,b5,rfl,i5⟩:=hD.actions;obtain ⟨A6,n6,b6,rfl,i6⟩:=hD.duratives;have l5:=i5.len;have l6:=i6.len;have s5:=i5.short;have s6:=i6.short;refine GFn.quiet ?_;refine zF Tryz.func81 Tryz.ntmps81 (fun w0=>?_);refine zV ?_;refine Ym (fun q σ fz' H'=>∃ k:Nat,k<=n5/\q=n5 - k/\σ=[(22,Zk k),(21,Zk n5),(20,.slice A5 n5 b5),(0,Zp gc)]/\fz=fz'/\H'=[]/\(∀ i,i<k->∀ x,d.actions[i]?=some x->Zer (actL d all x))) ⟨0,Z0 _,rfl,rfl,rfl,rfl,fun i hi=>absurd hi Zi⟩ Zw Zb ?_;rintro q σ fz' H' ⟨k,hk,rfl,rfl,rfl,rfl,hh⟩;refine vC (fun c1=>?_) (fun c1=>?_)
 ·obtain ⟨x,hx⟩:=Yl (l:=d.actions) (k:=k) Zi;have hxm:=Zm hx;have hxs:=hs.a x hxm;have hxw:=hWa x hxm;unfold actW at hxw;obtain ⟨r',hr'⟩:=Yj1 (r:=d.duratives.flatMap (durL d all)++ []) hx hh;have e1:Xx idN (Ya6 d all)=Xx idN (actL d all x++r'):=hr';refine vI i5 hx (fun p1 hp=>?_);refine zL hp ?_;intro cs hcs;obtain ⟨w1,w2,w3,w4,w5,w6,rfl,hR⟩:=Xq hcs;have hpre:=hR.pre;obtain ⟨Ap,np,cp,rfl,ip⟩:=hR.params;obtain ⟨B0,e0,j0,rfl,_⟩:=hR.pre.args;obtain ⟨B1,e1',j1,rfl,_⟩:=hR.pre.params;obtain ⟨B2,e2,j2,rfl,_⟩:=hR.pre.exprs;obtain ⟨B3,e3,j3,rfl,_⟩:=hR.pre.kids;obtain ⟨B4,e4,j4,rfl,ic⟩:=hR.changes;have lp:=ip.len;refine zV ?_;intros
  ((refine zG ?_);refine Yo (vs:=[.string x.pre.op,.string x.pre.name,.slice B0 e0 j0,.slice B1 e1' j1,.slice B2 e2 j2,.slice B3 e3 j3]) T 0 Zz Zz Zz Zz Zz Zz ?_);refine vG ?_;refine Yv Zz Zz (YhV h0 ip hpre Zi) ?_;by_cases hz:formM d all x.params x.pre=0
  ·rw [hz,show errV 0=.nilIface from rfl];refine vG ?_;refine Yv Zz Zz (YgT h0 ip ic (Yje Zi)) ?_;by_cases hy:Yae d all x.params x.changes false=0
   ·rw [hy,show errV 0=.nilIface from rfl];exact vP (h:=by exact ⟨k+1,by omega,rfl,rfl,rfl,rfl,YL hh hx (by intro q hq;simp only [actL,List.mem_cons,List.not_mem_nil,or_false] at hq;rcases hq with rfl | rfl<;>first | exact hz | exact hy)⟩)
   rw [Yk hy];refine vG ?_;refine XT Zz Zz (Ydg Zh Zi) ?_;refine vG ?_;refine XT Zz Zz (Ydg (Nat.le_trans (nm_le hxs (by decide:_<=1000)) Zh) Zh) ?_;exact vS (h:=by exact (by rw [e1,actL];simp only [List.cons_append];rw [Yan hz,Ybl hy,resV,Yk hy];rfl))
  rw [Yk hz];refine vG ?_;refine XT Zz Zz (Ydg Zh Zi) ?_;refine vG ?_;refine XT Zz Zz (Ydg (Nat.le_trans (nm_le hxs (by decide:_<=1000)) Zh) Zh) ?_;exact vS (h:=by exact (by rw [e1,actL];simp only [List.cons_append];rw [Ybl hz,resV,Yk hz];rfl))
 have hza:∀ x∈d.actions,Zer (actL d all x):=Xy hh Zi;have e0:Xx idN (Ya6 d all)=Xx idN (d.duratives.flatMap (durL d all)++ []):=YhI hza;refine zV ?_;refine Ym (fun q σ fz' H'=>∃ K:Nat,K<=n6/\q=n6 - K/\σ=[(59,Zk K),(58,Zk n6),(57,.slice A6 n6 b6),(0,Zp gc)]/\Le fz fz'/\H'=[]/\(∀ i,i<K->∀ x,d.duratives[i]?=some x->Zer (durL d all x))) ⟨0,Z0 _,rfl,rfl,Le.refl _,rfl,fun i hi=>absurd hi Zi⟩ Zw Zb ?_;rintro q σ fz1 H' ⟨K,hK,rfl,rfl,hlK,rfl,hhK⟩;have h1:=h0.mono hlK;have hc:=hlK _ _ hc;have i6:=i6.mono hlK;refine vC (fun c2=>?_) (fun c2=>?_)
 ·obtain ⟨x,hx⟩:=Yl (l:=d.duratives) (k:=K) Zi;have hxm:=Zm hx;have hxs:=hs.u x hxm;have hxw:=hWd x hxm;unfold durW at hxw;obtain ⟨r',hr'⟩:=Yj1 (r:=[]) hx hhK;have E1:Xx idN (Ya6 d all)=Xx idN (durL d all x++r'):=e0.trans hr';refine vI i6 hx (fun p1 hp=>?_);refine zL hp ?_;intro cs hcs;obtain ⟨w0,w1,w2,w3,w4,w5,w6,w7,w8,w9,w10,w11,w12,w13,w14,rfl,hR⟩:=Xg hcs;have hst:=hR.start;have hov:=hR.over;have hfi:=hR.fin;obtain ⟨Ap,np,cp,rfl,ip⟩:=hR.params;obtain ⟨B0,e0,j0,rfl,_⟩:=hR.start.args;obtain ⟨B1,e1,j1,rfl,_⟩:=hR.start.params;obtain ⟨B2,e2,j2,rfl,_⟩:=hR.start.exprs;obtain ⟨B3,e3,j3,rfl,_⟩:=hR.start.kids;obtain ⟨B4,e4,j4,rfl,_⟩:=hR.over.args;obtain ⟨B5,e5,j5,rfl,_⟩:=hR.over.params;obtain ⟨B6,e6,j6,rfl,_⟩:=hR.over.exprs;obtain ⟨B7,e7,j7,rfl,_⟩:=hR.over.kids;obtain ⟨B8,e8,j8,rfl,_⟩:=hR.fin.args;obtain ⟨B9,e9,j9,rfl,_⟩:=hR.fin.params;obtain ⟨B10,e10,j10,rfl,_⟩:=hR.fin.exprs;obtain ⟨B11,e11,j11,rfl,_⟩:=hR.fin.kids;obtain ⟨B12,e12,j12,rfl,i12⟩:=hR.atStart;obtain ⟨B13,e13,j13,rfl,i13⟩:=hR.atEnd;have lp:=ip.len;refine zVX ?_;intros;rename_i g;refine Yj (Wp.mid (fun σ fz' H'=>σ=[(9,Zp g),(59,Zk K),(58,Zk n6),(57,.slice A6 n6 b6),(0,Zp gc)]/\Le fz1 fz'/\H'=[(g,.cells #[.string x.name,.slice Ap np cp,Zk x.duration,.string x.start.op,.string x.start.name,.slice B0 e0 j0,.slice B1 e1 j1,.slice B2 e2 j2,.slice B3 e3 j3,.string x.over.op,.string x.over.name,.slice B4 e4 j4,.slice B5 e5 j5,.slice B6 e6 j6,.slice B7 e7 j7,.string x.fin.op,.string x.fin.name,.slice B8 e8 j8,.slice B9 e9 j9,.slice B10 e10 j10,.slice B11 e11 j11,.slice B12 e12 j12,.slice B13 e13 j13] 78 (0,0))]/\∀ f∈ [x.start,x.over,x.fin],YbH d all x.params f=0) ?_ ?_)
  ·refine vG ?_;refine Yo (vs:=[.string x.start.op,.string x.start.name,.slice B0 e0 j0,.slice B1 e1 j1,.slice B2 e2 j2,.slice B3 e3 j3]) T 0 Zz Zz Zz Zz Zz Zz ?_;refine vG ?_;refine Yo (vs:=[.string x.over.op,.string x.over.name,.slice B4 e4 j4,.slice B5 e5 j5,.slice B6 e6 j6,.slice B7 e7 j7]) T 0 Zz Zz Zz Zz Zz Zz ?_;refine vG ?_;refine Yo (vs:=[.string x.fin.op,.string x.fin.name,.slice B8 e8 j8,.slice B9 e9 j9,.slice B10 e10 j10,.slice B11 e11 j11]) T 0 Zz Zz Zz Zz Zz Zz ?_;refine zV ?_;refine Ya Zz (Yb T (cs:=[.string x.start.op,.string x.start.name,.slice B0 e0 j0,.slice B1 e1 j1,.slice B2 e2 j2,.slice B3 e3 j3,.string x.over.op,.string x.over.name,.slice B4 e4 j4,.slice B5 e5 j5,.slice B6 e6 j6,.slice B7 e7 j7,.string x.fin.op,.string x.fin.name,.slice B8 e8 j8,.slice B9 e9 j9,.slice B10 e10 j10,.slice B11 e11 j11]) Zz Zz Zz Zz Zz Zz Zz Zz (fun gb=>?_));refine zW ?_
   first | refine Wp.freeze Zz (fun fz2 hl2 hb2=>?_) | refine Seq.freeze Zz (fun fz2 hl2 hb2=>?_)
   have hL3:Sl YW fz2 (some ⟨gb,0,none⟩) 3 3 [x.start,x.over,x.fin]:=Xz hb2 (ys:=[(x.start,[.string x.start.op,.string x.start.name,.slice B0 e0 j0,.slice B1 e1 j1,.slice B2 e2 j2,.slice B3 e3 j3]),(x.over,[.string x.over.op,.string x.over.name,.slice B4 e4 j4,.slice B5 e5 j5,.slice B6 e6 j6,.slice B7 e7 j7]),(x.fin,[.string x.fin.op,.string x.fin.name,.slice B8 e8 j8,.slice B9 e9 j9,.slice B10 e10 j10,.slice B11 e11 j11])]) rfl rfl (by
    intro q hq;simp only [List.mem_cons,List.not_mem_nil,or_false] at hq;rcases hq with rfl | rfl | rfl
    ·exact WL (hst.mono hl2)
    ·exact WL (hov.mono hl2)
    exact WL (hfi.mono hl2)) rfl Zh
   have h2:=h1.mono hl2;have ip2:=ip.mono hl2;have hcg:=hl2 _ _ hc;refine zV ?_;refine Ym (fun q σ fz' H'=>∃ k:Nat,k<=3/\q=3 - k/\σ=[(71,Zk k),(70,Zk 3),(69,Zv gb 3 3),(9,Zp g),(59,Zk K),(58,Zk n6),(57,.slice A6 n6 b6),(0,Zp gc)]/\fz2=fz'/\H'=[(g,.cells #[.string x.name,.slice Ap np cp,Zk x.duration,.string x.start.op,.string x.start.name,.slice B0 e0 j0,.slice B1 e1 j1,.slice B2 e2 j2,.slice B3 e3 j3,.string x.over.op,.string x.over.name,.slice B4 e4 j4,.slice B5 e5 j5,.slice B6 e6 j6,.slice B7 e7 j7,.string x.fin.op,.string x.fin.name,.slice B8 e8 j8,.slice B9 e9 j9,.slice B10 e10 j10,.slice B11 e11 j11,.slice B12 e12 j12,.slice B13 e13 j13] 78 (0,0))]/\(∀ i,i<k->∀ f,[x.start,x.over,x.fin][i]?=some f->YbH d all x.params f=0)) ⟨0,Z0 _,rfl,rfl,rfl,rfl,fun i hi=>absurd hi Zi⟩ Zw Zb ?_;rintro q σ fz' H' ⟨k,hk,rfl,rfl,rfl,rfl,hh3⟩;refine vC (fun c3=>?_) (fun c3=>?_)
   ·obtain ⟨f,hf⟩:=Yl (l:=[x.start,x.over,x.fin]) (k:=k) (by show k<3;omega);have hfw:np+fW f<=1000000000:=by
     have:=Zm hf;simp only [List.mem_cons,List.not_mem_nil,or_false] at this;rcases this with rfl | rfl | rfl<;>omega
    obtain ⟨wn,hwn⟩:=Yl (l:=[Ycq,Ylm,wEnd]) (k:=k) (by show k<3;omega);have hwl:wn.size<=10:=by
     have:=Zm hwn;simp only [List.mem_cons,List.not_mem_nil,or_false] at this;rcases this with rfl | rfl | rfl<;>decide
    have hwv:([.string Ycq,.string Ylm,.string wEnd]:List Value)[k]?=some (.string wn):=by
     have:([.string Ycq,.string Ylm,.string wEnd]:List Value)=[Ycq,Ylm,wEnd].map Value.string:=rfl;rw [this,List.getElem?_map,hwn];rfl
    refine vI hL3 hf (fun p3 hp3=>?_);refine zL hp3 ?_;intro cs hcs;obtain ⟨wa,wp,we,wk,rfl,hRf⟩:=YA hcs;obtain ⟨E1',r1,q1,rfl,_⟩:=hRf.args;obtain ⟨E2,r2,q2,rfl,_⟩:=hRf.params;obtain ⟨E3,r3,q3,rfl,_⟩:=hRf.exprs;obtain ⟨E4,r4,q4,rfl,_⟩:=hRf.kids;refine zV ?_;intros;refine zc (Yf1 h2 ip2 hRf hfw) ?_;by_cases hz:YbH d all x.params f=0
    ·rw [hz,show errV 0=.nilIface from rfl];exact vP (h:=by exact ⟨k+1,by omega,rfl,rfl,rfl,rfl,YL hh3 hf hz⟩)
    rw [Yk hz];refine zV ?_;refine Wp.drawK (Hq:=[_,_]) T.mixed Zj Zj Zb ?_;refine wG ?_;refine XT Zz Zz (Ydg Zh Zi) ?_;refine wG ?_;refine XT Zz Zz (Ydg (Nat.le_trans (nm_le hxs (by decide:_<=1000)) Zh) Zh) ?_;refine Yf ?_;refine zW ?_;refine Yf ?_;refine Yf ?_;refine Yf ?_;refine zW ?_;refine Yf ?_;refine Yf ?_;refine YM ⟨by kernel_rfl,?_⟩;refine Yt (Yb T (cs:=[.string Ycq,.string Ylm,.string wEnd]) Zz Zz Zz Zz Zz Zz Zz Zz (fun gn=>⟨(⟨(Le.refl _),Zx⟩),?_⟩));refine Ch.qk (⟨(Le.refl _),Zx⟩) (XJ T Zz Zz Zz Zz Zz Zz Zi Zi ?_);refine Ch.qk (⟨(Le.refl _),Zx⟩) (Y0 T 0 Zz Zz Zz Zz (by rw [Int.toNat_natCast];exact hwv) ?_);refine Ch.qk (⟨(Le.refl _),Zx⟩) (XT Zz Zz (Ydg (nm3 hxs Zh Zh) Zi) ?_);refine Ch.qk (⟨(Le.refl _),Zx⟩) (YY Zz ?_);refine Ch.qk (⟨(Le.refl _),Zx⟩) (YY Zz ?_);refine Ch.done ?_;refine zV ?_;refine ret2 rfl rfl rfl Zb ?_;have e2:Xx idN (durL d all x++r')=(((XI++x.name)++Yko)++wn,YbH d all x.params f):=by
     rw [durL];simp only [List.cons_append];obtain rfl | rfl | rfl:k=0\/k=1\/k=2:=by omega
     ·simp at hf hwn;subst hf;subst hwn;rw [Ybl hz]
     ·simp at hf hwn;subst hf;subst hwn;rw [Yan (hh3 0 Zi _ rfl),Ybl hz]
     simp at hf hwn;subst hf;subst hwn;rw [Yan (hh3 0 Zi _ rfl),Yan (hh3 1 Zi _ rfl),Ybl hz]
    rw [E1,e2,resV,Yk hz];rfl
   have hA:=Xy hh3 (by show 3<=k;omega);exact vN (h:=by exact ⟨rfl,hl2,rfl,hA⟩)
  rintro σ fz2 H' ⟨rfl,hl2,rfl,hA⟩;have h2:=h1.mono hl2;have ip2:=ip.mono hl2;have hcg:=hl2 _ _ hc;have z1:YbH d all x.params x.start=0:=hA _ (by simp);have z2:YbH d all x.params x.over=0:=hA _ (by simp);have z3:YbH d all x.params x.fin=0:=hA _ (by simp);refine zV ?_;refine Ya Zz (Yb T (cs:=[.slice B12 e12 j12,.slice B13 e13 j13]) Zz Zz Zz Zz Zz Zz Zz Zz (fun gl=>?_));refine zW ?_;refine Ym (fun q σ fz' H'=>∃ k:Nat,k<=2/\q=2 - k/\σ=[(100,Zk k),(99,Zk 2),(98,Zv gl 2 2),(9,Zp g),(59,Zk K),(58,Zk n6),(57,.slice A6 n6 b6),(0,Zp gc)]/\fz2=fz'/\H'=[(gl,.cells #[.slice B12 e12 j12,.slice B13 e13 j13] 73 (0,0)),(g,.cells #[.string x.name,.slice Ap np cp,Zk x.duration,.string x.start.op,.string x.start.name,.slice B0 e0 j0,.slice B1 e1 j1,.slice B2 e2 j2,.slice B3 e3 j3,.string x.over.op,.string x.over.name,.slice B4 e4 j4,.slice B5 e5 j5,.slice B6 e6 j6,.slice B7 e7 j7,.string x.fin.op,.string x.fin.name,.slice B8 e8 j8,.slice B9 e9 j9,.slice B10 e10 j10,.slice B11 e11 j11,.slice B12 e12 j12,.slice B13 e13 j13] 78 (0,0))]/\(∀ i,i<k->∀ l,[x.atStart,x.atEnd][i]?=some l->Yae d all x.params l true=0)) ⟨0,Z0 _,rfl,rfl,rfl,rfl,fun i hi=>absurd hi Zi⟩ Zw Zb ?_;rintro q σ fz' H' ⟨k,hk,rfl,rfl,rfl,rfl,hh2⟩;refine vC (fun c3=>?_) (fun c3=>?_)
  ·obtain ⟨l,hl⟩:=Yl (l:=[x.atStart,x.atEnd]) (k:=k) (by show k<2;omega);have hlw:np+(l.map XS).sum<=1000000000:=by
    have:=Zm hl;simp only [List.mem_cons,List.not_mem_nil,or_false] at this;rcases this with rfl | rfl<;>omega
   obtain ⟨wn,hwn⟩:=Yl (l:=[Ycq,wEnd]) (k:=k) (by show k<2;omega);have hwl:wn.size<=10:=by
    have:=Zm hwn;simp only [List.mem_cons,List.not_mem_nil,or_false] at this;rcases this with rfl | rfl<;>decide
   have hwv:([.string Ycq,.string wEnd]:List Value)[k]?=some (.string wn):=by
    have:([.string Ycq,.string wEnd]:List Value)=[Ycq,wEnd].map Value.string:=rfl;rw [this,List.getElem?_map,hwn];rfl
   obtain ⟨Bl,nl,cl,hlv,il⟩:∃ Bl nl cl,([.slice B12 e12 j12,.slice B13 e13 j13]:List Value)[k]?=some (.slice Bl nl cl)/\Sl changeL fz2 Bl nl cl l:=by
    obtain rfl | rfl:k=0\/k=1:=by omega
    ·simp at hl;subst hl;exact ⟨_,_,_,rfl,i12.mono hl2⟩
    simp at hl;subst hl;exact ⟨_,_,_,rfl,i13.mono hl2⟩
   refine vG ?_;refine XJ T Zz Zz Zz Zz Zz Zz Zi Zi ?_;rw [Int.toNat_natCast];refine zG ?_;refine Y0 T 0 Zz Zz Zz Zz hlv ?_;refine vc (YgT h2 ip2 il (Yje hlw)) ?_;by_cases hz:Yae d all x.params l true=0
   ·rw [hz,show errV 0=.nilIface from rfl];exact vP (h:=by exact ⟨k+1,by omega,rfl,rfl,rfl,rfl,YL hh2 hl hz⟩)
   rw [Yk hz];refine zV ?_;refine Wp.drawK (Hq:=[_,_]) T.mixed Zj Zj Zb ?_;refine wG ?_;refine XT Zz Zz (Ydg Zh Zi) ?_;refine wG ?_;refine XT Zz Zz (Ydg (Nat.le_trans (nm_le hxs (by decide:_<=1000)) Zh) Zh) ?_;refine Yf ?_;refine zW ?_;refine Yf ?_;refine Yf ?_;refine Yf ?_;refine zW ?_;refine Yf ?_;refine Yf ?_;refine YM ⟨by kernel_rfl,?_⟩;refine Yt (Yb T (cs:=[.string Ycq,.string wEnd]) Zz Zz Zz Zz Zz Zz Zz Zz (fun gn=>⟨(⟨(Le.refl _),Zx⟩),?_⟩));refine Ch.qk (⟨(Le.refl _),Zx⟩) (XJ T Zz Zz Zz Zz Zz Zz Zi Zi ?_);refine Ch.qk (⟨(Le.refl _),Zx⟩) (Y0 T 0 Zz Zz Zz Zz (by rw [Int.toNat_natCast];exact hwv) ?_);refine Ch.qk (⟨(Le.refl _),Zx⟩) (XT Zz Zz (Ydg (nm3 hxs Zh Zh) Zi) ?_);refine Ch.qk (⟨(Le.refl _),Zx⟩) (YY Zz ?_);refine Ch.qk (⟨(Le.refl _),Zx⟩) (YY Zz ?_);refine Ch.done ?_;refine zV ?_;refine ret2 rfl rfl rfl Zb ?_;have e2:Xx idN (durL d all x++r')=(((XI++x.name)++wAt)++wn,Yae d all x.params l true):=by
    rw [durL];simp only [List.cons_append];rw [Yan z1,Yan z2,Yan z3];obtain rfl | rfl:k=0\/k=1:=by omega
    ·simp at hl hwn;subst hl;subst hwn;rw [Ybl hz]
    simp at hl hwn;subst hl;subst hwn;rw [Yan (hh2 0 Zi _ rfl),Ybl hz]
   rw [E1,e2,resV,Yk hz];rfl
  have hB:=Xy hh2 (by show 2<=k;omega);have y1:Yae d all x.params x.atStart true=0:=hB _ (by simp);have y2:Yae d all x.params x.atEnd true=0:=hB _ (by simp);exact vP (h:=by exact ⟨K+1,by omega,rfl,rfl,hlK.trans hl2,rfl,YL hhK hx (by intro q hq;simp only [durL,List.mem_cons,List.not_mem_nil,or_false] at hq;rcases hq with rfl | rfl | rfl | rfl | rfl<;>first | exact z1 | exact z2 | exact z3 | exact y1 | exact y2)⟩)
 have hzd:∀ x∈d.duratives,Zer (durL d all x):=Xy hhK Zi;exact vS (h:=by exact (by rw [e0,YhI hzd];rfl))
end Go.Proofs.YtfjopfinkdhmaaaGreatDoor
namespace Go.Proofs.YtfjopfinkdhmaaaGreatDoor
open Go.Lx Go.RowKit
variable {w w':World}
theorem YhB (h:Below w.heap.size w w'):Fr [] w w':=⟨h.os,h.tape,h.output,h.size,fun b hb _=>h.block b hb,fun h=>h.elim⟩
end Go.Proofs.YtfjopfinkdhmaaaGreatDoor
namespace Go.Proofs
open Go.Shelf
def Tryz.lays156_ren:Go.Shelf.Ren:=⟨fun | 156=>170 | 165=>202 | 166=>174 | 169=>176 | 240=>203 | 241=>231 | 276=>232 | 277=>243 | n=>n,fun | 31=>34 | 9=>9 | 3=>3 | 4=>4 | 0=>0 | 20=>20 | 72=>249 | 76=>217 | 70=>247 | 37=>64 | 75=>42 | 127=>278 | 164=>299 | 5=>5 | 80=>252 | n=>n,fun | n=>n⟩
theorem Tryz.lays156:Go.Proofs.Lays.n156 Tryz.prog Tryz.lays156_ren:={
 mixed:=by kernel_rfl
 f156:=Tryz.func170.trans (congrArg some (by kernel_rfl))
 f165:=Tryz.func202.trans (congrArg some (by kernel_rfl))
 f166:=Tryz.func174.trans (congrArg some (by kernel_rfl))
 f169:=Tryz.func176.trans (congrArg some (by kernel_rfl))
 f240:=Tryz.func203.trans (congrArg some (by kernel_rfl))
 f241:=Tryz.func231.trans (congrArg some (by kernel_rfl))
 f276:=Tryz.func232.trans (congrArg some (by kernel_rfl))
 f277:=Tryz.func243.trans (congrArg some (by kernel_rfl))
 t0:=Tryz.underlying0
 a0:=Tryz.isAgg0
 z0:=Tryz.sizeOf0
 v0:=Tryz.zeroValue0
 t3:=Tryz.underlying3
 a3:=Tryz.isAgg3
 z3:=Tryz.sizeOf3
 v3:=Tryz.zeroValue3
 t4:=Tryz.underlying4
 a4:=Tryz.isAgg4
 z4:=Tryz.sizeOf4
 v4:=Tryz.zeroValue4
 t9:=Tryz.underlying9
 a9:=Tryz.isAgg9
 z9:=Tryz.sizeOf9
 v9:=Tryz.zeroValue9
 t20:=Tryz.underlying20
 a20:=Tryz.isAgg20
 z20:=Tryz.sizeOf20
 v20:=Tryz.zeroValue20
 t31:=Tryz.underlying34
 a31:=Tryz.isAgg34
 z31:=Tryz.sizeOf34
 v31:=Tryz.zeroValue34
 t37:=Tryz.underlying64
 a37:=Tryz.isAgg64
 z37:=Tryz.sizeOf64
 v37:=Tryz.zeroValue64
 t70:=Tryz.underlying247
 a70:=Tryz.isAgg247
 z70:=Tryz.sizeOf247
 v70:=Tryz.zeroValue247
 t72:=Tryz.underlying249
 a72:=Tryz.isAgg249
 z72:=Tryz.sizeOf249
 v72:=Tryz.zeroValue249
 t75:=Tryz.underlying42
 a75:=Tryz.isAgg42
 z75:=Tryz.sizeOf42
 v75:=Tryz.zeroValue42
 t76:=Tryz.underlying217
 a76:=Tryz.isAgg217
 z76:=Tryz.sizeOf217
 v76:=Tryz.zeroValue217
 t127:=Tryz.underlying278
 a127:=Tryz.isAgg278
 z127:=Tryz.sizeOf278
 v127:=Tryz.zeroValue278
 t164:=Tryz.underlying299
 a164:=Tryz.isAgg299
 z164:=Tryz.sizeOf299
 v164:=Tryz.zeroValue299}
theorem Tryz.Builder_Extra_156:Builder.Extra Tryz.prog Tryz.lays156_ren:={
 sizeBuilder:=by kernel_rfl
 liesBuilder:=by kernel_rfl
 t5:=Tryz.underlying5
 a5:=Tryz.isAgg5
 z5:=Tryz.sizeOf5
 v5:=Tryz.zeroValue5
 infoByte:=by kernel_rfl
 cellsByte:=by kernel_rfl
 sizeByte:=by kernel_rfl
 neB5:=by decide}
open Go.RowKit in
/-- No element: the empty string; the world is as1 it was. (Whatever the slice's address and capacity: a nil slice too.) (LAID: no walk: one application.) -/
theorem Tryz.strings_Join_none (a:Option Addr) (c:Nat) (sep:ByteArray) (w:World):
 Calls Tryz.prog 170 #[.slice a 0 c,.string sep] w fun e w'=>e=.returned (.string ⟨#[]⟩)/\w'=w:=Any.strings_Join_none Tryz.lays156 Tryz.Builder_Extra_156 a c sep w
open Go.RowKit in
/-- strings.Join: "Join concatenates the elements of its first argument to create a single string. The separator string sep is placed between elements in the resulting string.": HOWEVER MANY ELEMENTS. Below the heap's end the world is as1 it was. (LAID: no walk: one application.) -/
theorem Tryz.strings_Join (bk o c:Nat) (xs:List ByteArray) (sep:ByteArray) (w:World) (hcells:∀ (j:Nat) x,xs[j]?=some x->w.cell? ⟨bk,o+j,none⟩=some (.string x)) (hbk:bk<w.heap.size) (hN:xs.length<=140737488355328) (hcap:xs.length<=c) (hlen:(Lib.join (xs.map (·.data.toList)) sep.data.toList).length<=140737488355328):
 Calls Tryz.prog 170 #[.slice (some ⟨bk,o,none⟩) xs.length c,.string sep] w fun e w'=>e=.returned (.string ⟨(Lib.join (xs.map (·.data.toList)) sep.data.toList).toArray⟩)/\Below w.heap.size w w':=Any.strings_Join Tryz.lays156 Tryz.Builder_Extra_156 bk o c xs sep w hcells hbk hN hcap hlen
def Tryz.laysM171_ren:Go.Shelf.Ren:=⟨fun | 171=>34 | 243=>87 | 246=>136 | 283=>179 | 284=>180 | 285=>181 | 286=>182 | 129=>209 | 317=>208 | 318=>210 | 319=>211 | 320=>212 | 337=>237 | 338=>238 | n=>n,fun | 3=>3 | 9=>9 | 2=>2 | 4=>4 | 171=>256 | 0=>0 | 53=>257 | 37=>64 | 5=>5 | 173=>260 | 212=>282 | 51=>283 | 20=>20 | 213=>284 | 46=>274 | 232=>310 | 233=>311 | n=>n,fun | 17=>0 | 18=>2 | 19=>3 | n=>n⟩
theorem Tryz.laysM171:Go.Proofs.LaysM.n171 Tryz.prog Tryz.laysM171_ren:={
 mixed:=by kernel_rfl
 f129:=Tryz.func209.trans (congrArg some (by kernel_rfl))
 f171:=Tryz.func34.trans (congrArg some (by kernel_rfl))
 f243:=Tryz.func87.trans (congrArg some (by kernel_rfl))
 f246:=Tryz.func136.trans (congrArg some (by kernel_rfl))
 f283:=Tryz.func179.trans (congrArg some (by kernel_rfl))
 f284:=Tryz.func180.trans (congrArg some (by kernel_rfl))
 f285:=Tryz.func181.trans (congrArg some (by kernel_rfl))
 f286:=Tryz.func182.trans (congrArg some (by kernel_rfl))
 f317:=Tryz.func208.trans (congrArg some (by kernel_rfl))
 f318:=Tryz.func210.trans (congrArg some (by kernel_rfl))
 f319:=Tryz.func211.trans (congrArg some (by kernel_rfl))
 f320:=Tryz.func212.trans (congrArg some (by kernel_rfl))
 f337:=Tryz.func237.trans (congrArg some (by kernel_rfl))
 f338:=Tryz.func238.trans (congrArg some (by kernel_rfl))
 t0:=Tryz.underlying0
 a0:=Tryz.isAgg0
 z0:=Tryz.sizeOf0
 v0:=Tryz.zeroValue0
 t2:=Tryz.underlying2
 a2:=Tryz.isAgg2
 z2:=Tryz.sizeOf2
 v2:=Tryz.zeroValue2
 t3:=Tryz.underlying3
 a3:=Tryz.isAgg3
 z3:=Tryz.sizeOf3
 v3:=Tryz.zeroValue3
 t4:=Tryz.underlying4
 a4:=Tryz.isAgg4
 z4:=Tryz.sizeOf4
 v4:=Tryz.zeroValue4
 t5:=Tryz.underlying5
 a5:=Tryz.isAgg5
 z5:=Tryz.sizeOf5
 v5:=Tryz.zeroValue5
 t9:=Tryz.underlying9
 a9:=Tryz.isAgg9
 z9:=Tryz.sizeOf9
 v9:=Tryz.zeroValue9
 t20:=Tryz.underlying20
 a20:=Tryz.isAgg20
 z20:=Tryz.sizeOf20
 v20:=Tryz.zeroValue20
 t37:=Tryz.underlying64
 a37:=Tryz.isAgg64
 z37:=Tryz.sizeOf64
 v37:=Tryz.zeroValue64
 t46:=Tryz.underlying274
 a46:=Tryz.isAgg274
 z46:=Tryz.sizeOf274
 v46:=Tryz.zeroValue274
 t51:=Tryz.underlying283
 a51:=Tryz.isAgg283
 z51:=Tryz.sizeOf283
 v51:=Tryz.zeroValue283
 t53:=Tryz.underlying257
 a53:=Tryz.isAgg257
 z53:=Tryz.sizeOf257
 v53:=Tryz.zeroValue257
 t171:=Tryz.underlying256
 a171:=Tryz.isAgg256
 z171:=Tryz.sizeOf256
 v171:=Tryz.zeroValue256
 t173:=Tryz.underlying260
 a173:=Tryz.isAgg260
 z173:=Tryz.sizeOf260
 v173:=Tryz.zeroValue260
 t212:=Tryz.underlying282
 a212:=Tryz.isAgg282
 z212:=Tryz.sizeOf282
 v212:=Tryz.zeroValue282
 t213:=Tryz.underlying284
 a213:=Tryz.isAgg284
 z213:=Tryz.sizeOf284
 t232:=Tryz.underlying310
 a232:=Tryz.isAgg310
 z232:=Tryz.sizeOf310
 v232:=Tryz.zeroValue310
 t233:=Tryz.underlying311
 a233:=Tryz.isAgg311
 z233:=Tryz.sizeOf311
 v233:=Tryz.zeroValue311
 g17:=by kernel_rfl
 g18:=by kernel_rfl
 g19:=by kernel_rfl
 i0:=by kernel_rfl
 i2:=by kernel_rfl
 i3:=by kernel_rfl
 i4:=by kernel_rfl
 i5:=by kernel_rfl
 i9:=by kernel_rfl
 i20:=by kernel_rfl
 i37:=by kernel_rfl
 i46:=by kernel_rfl
 i51:=by kernel_rfl
 i53:=by kernel_rfl
 i171:=by kernel_rfl
 i173:=by kernel_rfl
 i212:=by kernel_rfl
 i232:=by kernel_rfl
 i233:=by kernel_rfl
 m17:=by kernel_rfl
 m18:=by kernel_rfl
 m19:=by kernel_rfl}
open Go.RowKit Go.Sort Go.Lib in
/-- strconv.Itoa: "Itoa is equivalent to FormatInt(int64(i), 10).": i's DECIMAL NUMERAL ('Lib.itoa': a '-' where i is negative, then the digits), FOR EVERY int. The world behind the call: the world before it, new blocks behind the heap (the library's 'var a [24]byte'), draws. (LAID: no walk: one application.) -/
theorem Tryz.strconv_Itoa (n:Int) (h0: -9223372036854775808≤n) (h1:n≤9223372036854775807) (w:World) (htab:Lib.TabIs Tryz.prog w "internal/strconv.uint64pow10" .u64 Lib.pow10Tab):
 Calls Tryz.prog 34 #[.int .i64 n] w fun e w'=>e=.returned (.string ⟨(Lib.itoa n).toArray⟩)/\∃ k os,w'=grow (w.drewN k) os:=Any.strconv_Itoa Tryz.laysM171 n h0 h1 w htab
def Tryz.lays105_ren:Go.Shelf.Ren:=⟨fun | 105=>175 | 212=>204 | 99=>198 | 165=>202 | 166=>174 | 170=>205 | 169=>176 | 263=>233 | 264=>234 | 206=>229 | 240=>203 | 241=>231 | 276=>232 | 277=>243 | n=>n,fun | 9=>9 | 3=>3 | 4=>4 | 20=>20 | 0=>0 | 46=>274 | 109=>275 | 5=>5 | 72=>249 | 76=>217 | 51=>283 | 146=>301 | 53=>257 | 148=>303 | 70=>247 | 37=>64 | 75=>42 | 127=>278 | 164=>299 | 80=>252 | n=>n,fun | n=>n⟩
theorem Tryz.lays105:Go.Proofs.Lays.n105 Tryz.prog Tryz.lays105_ren:={
 mixed:=by kernel_rfl
 f99:=Tryz.func198.trans (congrArg some (by kernel_rfl))
 f105:=Tryz.func175.trans (congrArg some (by kernel_rfl))
 f165:=Tryz.func202.trans (congrArg some (by kernel_rfl))
 f166:=Tryz.func174.trans (congrArg some (by kernel_rfl))
 f169:=Tryz.func176.trans (congrArg some (by kernel_rfl))
 f170:=Tryz.func205.trans (congrArg some (by kernel_rfl))
 f206:=Tryz.func229.trans (congrArg some (by kernel_rfl))
 f212:=Tryz.func204.trans (congrArg some (by kernel_rfl))
 f240:=Tryz.func203.trans (congrArg some (by kernel_rfl))
 f241:=Tryz.func231.trans (congrArg some (by kernel_rfl))
 f263:=Tryz.func233.trans (congrArg some (by kernel_rfl))
 f264:=Tryz.func234.trans (congrArg some (by kernel_rfl))
 f276:=Tryz.func232.trans (congrArg some (by kernel_rfl))
 f277:=Tryz.func243.trans (congrArg some (by kernel_rfl))
 t0:=Tryz.underlying0
 a0:=Tryz.isAgg0
 z0:=Tryz.sizeOf0
 v0:=Tryz.zeroValue0
 t3:=Tryz.underlying3
 a3:=Tryz.isAgg3
 z3:=Tryz.sizeOf3
 v3:=Tryz.zeroValue3
 t4:=Tryz.underlying4
 a4:=Tryz.isAgg4
 z4:=Tryz.sizeOf4
 v4:=Tryz.zeroValue4
 t5:=Tryz.underlying5
 a5:=Tryz.isAgg5
 z5:=Tryz.sizeOf5
 v5:=Tryz.zeroValue5
 t9:=Tryz.underlying9
 a9:=Tryz.isAgg9
 z9:=Tryz.sizeOf9
 v9:=Tryz.zeroValue9
 t20:=Tryz.underlying20
 a20:=Tryz.isAgg20
 z20:=Tryz.sizeOf20
 v20:=Tryz.zeroValue20
 t37:=Tryz.underlying64
 a37:=Tryz.isAgg64
 z37:=Tryz.sizeOf64
 v37:=Tryz.zeroValue64
 t46:=Tryz.underlying274
 a46:=Tryz.isAgg274
 z46:=Tryz.sizeOf274
 v46:=Tryz.zeroValue274
 t51:=Tryz.underlying283
 a51:=Tryz.isAgg283
 z51:=Tryz.sizeOf283
 v51:=Tryz.zeroValue283
 t53:=Tryz.underlying257
 a53:=Tryz.isAgg257
 z53:=Tryz.sizeOf257
 v53:=Tryz.zeroValue257
 t70:=Tryz.underlying247
 a70:=Tryz.isAgg247
 z70:=Tryz.sizeOf247
 v70:=Tryz.zeroValue247
 t72:=Tryz.underlying249
 a72:=Tryz.isAgg249
 z72:=Tryz.sizeOf249
 v72:=Tryz.zeroValue249
 t75:=Tryz.underlying42
 a75:=Tryz.isAgg42
 z75:=Tryz.sizeOf42
 v75:=Tryz.zeroValue42
 t76:=Tryz.underlying217
 a76:=Tryz.isAgg217
 z76:=Tryz.sizeOf217
 v76:=Tryz.zeroValue217
 t109:=Tryz.underlying275
 a109:=Tryz.isAgg275
 z109:=Tryz.sizeOf275
 v109:=Tryz.zeroValue275
 t127:=Tryz.underlying278
 a127:=Tryz.isAgg278
 z127:=Tryz.sizeOf278
 v127:=Tryz.zeroValue278
 t146:=Tryz.underlying301
 a146:=Tryz.isAgg301
 z146:=Tryz.sizeOf301
 v146:=Tryz.zeroValue301
 t148:=Tryz.underlying303
 a148:=Tryz.isAgg303
 z148:=Tryz.sizeOf303
 v148:=Tryz.zeroValue303
 t164:=Tryz.underlying299
 a164:=Tryz.isAgg299
 z164:=Tryz.sizeOf299
 v164:=Tryz.zeroValue299}
theorem Tryz.Builder_Extra_105:Builder.Extra Tryz.prog Tryz.lays105_ren:={
 sizeBuilder:=by kernel_rfl
 liesBuilder:=by kernel_rfl
 t5:=Tryz.underlying5
 a5:=Tryz.isAgg5
 z5:=Tryz.sizeOf5
 v5:=Tryz.zeroValue5
 infoByte:=by kernel_rfl
 cellsByte:=by kernel_rfl
 sizeByte:=by kernel_rfl
 neB5:=by decide}
open Go.RowKit Go.Lib in
/-- **strings.Repeat: count ≥ 0, the result within one allocation: count copies of s.** (LAID: no walk: one application.) -/
theorem Tryz.strings_Repeat (s:ByteArray) (c:Nat) (w:World) (hc:c<=9223372036854775807) (hlen:s.size*c<=140737488355328):
 Calls Tryz.prog 175 #[.string s,.int .i64 c] w fun e w'=>e=.returned (.string ⟨(Lib.repeatL s.data.toList c).toArray⟩)/\Below w.heap.size w w':=Any.strings_Repeat Tryz.lays105 Tryz.Builder_Extra_105 s c w hc hlen
end Go.Proofs
namespace Go.Proofs.YtfjopfinkdhmaaaGreatDoor
open Go.Lx Go.RowKit
attribute [local instance 10] Classical.propDecidable
open Go.Proofs.Tryz (prog)
variable {A:Option Addr} {c n:Nat} {fz:FZ}
theorem joinS_q {l:List Bs} (h:Sl strL fz A n c l) (hlen:(Lib.join (l.map (·.data.toList)) [32]).length<=1000000000):
 QFn prog 170 [.slice A n c,.string ⟨#[32]⟩] fz (.string (strOf (Lib.join (l.map (·.data.toList)) [32]))):=by
 unfold QFn;refine ⟨⟨_,Tryz.func170,by decide,by decide⟩,fun w hw=>?_⟩;have h1:=h.len;have h2:=h.cap;have h3:=h.short;cases l with
 | nil=>
  simp at h1;subst h1;refine (Tryz.strings_Join_none A c ⟨#[32]⟩ w).mono fun e w' ⟨he,hb⟩=>⟨?_,by subst hb;exact Fr.refl _ _⟩
  rw [he];rfl
 | cons x r=>
  rcases h.elem with h0 | ⟨ad,rfl,hE⟩
  ·rw [h0] at h1;simp at h1
  have hc:∀ (j:Nat) y,(x::r)[j]?=some y->YcR fz (ad.add j)=some (.string y):=fun j y hy=>by
   have h4:=hE j y hy;rw [show strL.size=1 from rfl,Nat.mul_one] at h4;obtain ⟨v,hv,hcell⟩:=h4.cell rfl;obtain ⟨e,_⟩:=hv;simp at e;rw [hcell,e]
  have hc0:=hc 0 x rfl;have ha0:ad.add 0=ad:=by unfold Addr.add;rw [if_pos rfl]
  rw [ha0] at hc0;obtain ⟨g,off,sp⟩:=ad;cases sp with
  | some s=>
   unfold YcR at hc0;split at hc0
   ·simp at hc0
   cases hc0
  | none=>
   have hcells:∀ (j:Nat) y,(x::r)[j]?=some y->w.cell? ⟨g,off+j,none⟩=some (.string y):=fun j y hy=>by
    rw [<- Yke];exact hw.cell (hc j y hy)
   have hg:g<w.heap.size:=by
    have h9:=hcells 0 x rfl;simp only [World.cell?] at h9;split at h9
    ·rename_i hq;exact (Array.getElem?_eq_some_iff.1 hq).1
    cases h9
   have:=Tryz.strings_Join g off c (x::r) ⟨#[32]⟩ w hcells hg Zi Zi (Nat.le_trans hlen Zh);rw [h1] at this;exact this.mono fun e w' ⟨he,hb⟩=>⟨he,YhB hb⟩
def Ymf (name:Bs) (args:List Bs):Bs:=(name++⟨#[32]⟩)++strOf (Lib.join (args.map (·.data.toList)) [32])
def NmsS (l:List Bs):Prop:=l.length<=64/\∀ x∈l,x.size<=1000
theorem jt_len:∀ (l:List (List UInt8)),(∀ x∈l,x.length<=1000)->(Lib.joinTail [32] l).length<=l.length*1001
 | [],_=>by simp [Lib.joinTail]
 | x::r,h=>by
  have h1:=h x (by simp);have h2:=jt_len r (fun z hz=>h z (by simp [hz]));have h3:Lib.joinTail [32] (x::r)=([32]++x)++Lib.joinTail [32] r:=by simp [Lib.joinTail]
  rw [h3,List.length_append,List.length_append];simp only [List.length_cons,List.length_nil];omega
theorem Ynj (l:List (List UInt8)) (h:∀ x∈l,x.length<=1000):(Lib.join l [32]).length<=l.length*1001:=by
 cases l with
 | nil=>simp [Lib.join_nil]
 | cons x r=>
  have h1:=h x (by simp);have h2:=jt_len r (fun z hz=>h z (by simp [hz]));rw [Lib.join_cons,List.length_append];simp only [List.length_cons];omega
theorem text_len {args:List Bs} (h:NmsS args):(Lib.join (args.map (·.data.toList)) [32]).length<=100000:=by
 have h1:=Ynj (args.map (·.data.toList)) (fun x hx=>by obtain ⟨y,hy,rfl⟩:=List.mem_map.1 hx;exact h.2 y hy);rw [List.length_map] at h1;have:=h.1;omega
theorem Yme {name:Bs} {args:List Bs} (h:Sl strL fz A n c args) (hn:name.size<=1000) (ha:NmsS args):
 QFn prog 129 [.string name,.slice A n c] fz (.string (Ymf name args)):=by
 have ht:=text_len ha;refine GFn.quiet ?_;refine zF Tryz.func129 Tryz.ntmps129 (fun w0=>?_);refine vG ?_;refine XT Zz Zz (by show _+1<=_;omega) ?_;refine vG ?_;refine Yv Zz Zz (joinS_q h Zi) ?_;refine vG ?_;refine XT Zz Zz (by rw [ByteArray.size_append,XF];show _+1+_<=_;omega) ?_;exact vR (h:=rfl)
def YeB (tys all:List Param) (ks:List Bs) (name:Bs):List Param->List Bs->Prop
 | [],args=>Ymf name args ∉ ks
 | p::r,args=>∃ x∈ofT tys p.typ all,YeB tys all ks name r (args++ [x])
variable {all:List Param}
theorem of_mem {tys:List Param} {t x:Bs} (h:x∈ofT tys t all) (ha:∀ o∈all,o.name.size<=1000):x.size<=1000:=by
 unfold ofT at h;obtain ⟨o,ho,rfl⟩:=List.mem_map.1 h;exact ha o (List.mem_filter.1 ho).1
theorem YlK {l:List Bs} (h:Sl strL fz A n c l) (hn:n<=1000000000):
 GFn prog 172 [.slice A n c] fz [] (fun v fz' H'=>Grow strL 9 fz' v n H' l):=by
 have l1:=h.len;refine zF Tryz.func172 Tryz.ntmps172 (fun w0=>?_);refine vG ?_;refine YbD T Zz Zz Zz Zz (fun eA=>?_) (fun eA=>?_)
 ·subst eA;have hl:l=[]:=by
   rcases h.elem with h0 | ⟨_,h0,_⟩
   ·exact List.eq_nil_of_length_eq_zero Zi
   cases h0
  subst hl;simp at l1;subst l1;refine zV ?_;refine YjD (H':=[]) (H2:=[]) rfl rfl (Zr _) (fun fz3 hle3 _=>Grow.nil _ _ _)
 refine zV ?_;refine Ya Zz (Yci T Zz Zz Zz (fun gb=>?_));refine zV ?_;refine Ya Zz (WX T (Hr:=[]) (n:=0) (l:=[]) Zz Zz Zz Zz Zz Zz Zz Zz (Zr _) (Grow.block (ys:=[]) rfl rfl (by intro p hp;cases hp) rfl Zh) Yg5 h (by show _*16<=_;omega) Zi (fun v' Hs' hO'=>?_));obtain ⟨Av',cv',rfl,_,_⟩:=hO'.form;refine zV ?_;refine YjD (H':=Hs') (H2:=[]) rfl rfl (by simp) (fun fz3 hle3 _=>(hO'.mono hle3).of (by simp) Zi)
set_option maxHeartbeats 4000000 in
theorem YiL:∀ (ps:List Param) {fz:FZ} {v:Value} {d:Domain} {p:Problem} {all params:List Param} {gm:Nat} {m:List (Bs × Value)} {ks args:List Bs} {name:Bs} {A B:Option Addr} {na ca n c:Nat},CkG fz v d p all->fz gm=some (mapS m)->Ycv m ks->Sl paramL fz B n c params->Sl strL fz A na ca args->params.drop na=ps->na<=n->n<=64->name.size<=1000->NmsS args->(∀ x∈all,x.name.size<=1000)->all.length<=1000000000->
 QFn prog 130 [v,.map (some gm),.string name,.slice B n c,.slice A na ca] fz (.bool (decide (YeB d.types all ks name ps args)))
 | ps,fz,v,d,p,all,params,gm,m,ks,args,name,A,B,na,ca,n,c,h,hgm,hks,h1,h2,hps,hnn,h64,hnm,hag,hal,hall0=>by
  have h0:=h;obtain ⟨⟨vf,vpp,vg,vo,hck,hF,hPr,hFu,hO⟩,hw⟩:=h;obtain ⟨gc,w1,w2,w3,w4,w5,w6,u1,u2,u3,u4,u5,u6,u7,Aa,nl,cl,rfl,hc,hD,hP,hall⟩:=hck;have l1:=h1.len;have l2:=h2.len;have ll:=hall.len;refine GFn.quiet ?_;refine zF Tryz.func130 Tryz.ntmps130 (fun w0=>?_);refine vC (fun c1=>?_) (fun c1=>?_)
  ·have hnil:ps=[]:=by rw [<- hps,List.drop_eq_nil_of_le Zi]
   subst hnil;refine vc (Yme h2 hnm hag) ?_;refine vG ?_;refine YaZ (v:=.bool (decide (Ymf name args∈ks))) T Zz Zz Zz Zz Zz Zz Zz hgm hks.get ?_;refine zV ?_
   (exact ret1 rfl rfl Zb (by
    by_cases h9:Ymf name args∈ks
    ·rw [decide_eq_true h9,decide_eq_false (fun h8:YeB d.types all ks name [] args=>h8 h9)];rfl
    rw [decide_eq_false h9,decide_eq_true (show YeB d.types all ks name [] args from h9)];rfl))
  obtain ⟨x,hx⟩:=Yl (l:=params) (k:=na) Zi;obtain ⟨r,hr⟩:∃ r,ps=x::r:=⟨params.drop (na+1),by rw [<- hps];exact List.drop_eq_getElem_cons Zi |>.trans (by rw [(Zg hx).2])⟩;have hr2:params.drop (na+1)=r:=by
   have h9:params.drop na=x::r:=by rw [hps,hr]
   rw [<- List.drop_drop,h9];rfl
  rw [hr];refine zWN ?_;refine Wp.drawK (Hq:=[]) T.mixed Zj Zj Zb ?_;refine wI h1 hx (fun p1 hp1=>?_);refine wH hp1.Param_typ (fun hxs=>?_);refine Yf ?_;refine Yf ?_;refine zW ?_;refine YM ⟨by kernel_rfl,?_⟩;refine Yt (Yx [] [] Zz Zz Zz (of_q hF hw hall Zi) (fun v6 fz6 H6 hle6 hR6=>⟨(⟨hle6,by intro p hp;cases hp⟩),?_⟩));obtain ⟨rfl,B2,m2,c2,rfl,hof⟩:=hR6;refine Ch.qk (⟨hle6,by intro p hp;cases hp⟩) (YQ T Zz Zz Zz ?_);refine Ch.done ?_;have lo:=hof.len;have so:=hof.short;refine zV ?_;refine Ym (fun q σ fz' H'=>∃ k:Nat,k<=m2/\q=m2 - k/\σ=[(40,Zk k),(39,Zk m2),(38,.slice B2 m2 c2),(0,Zp gc),(1,.map (some gm)),(2,.string name),(3,.slice B n c),(4,.slice A na ca)]/\Le fz6 fz'/\H'=[]/\(∀ i,i<k->∀ y,(ofT d.types x.typ all)[i]?=some y->¬YeB d.types all ks name r (args++ [y]))) ⟨0,Z0 _,rfl,rfl,Le.refl _,rfl,fun i hi=>absurd hi Zi⟩ Zw Zb ?_;rintro q σ fz1 H' ⟨k,hk,rfl,rfl,hl1,rfl,hh⟩;have hle:=hle6.trans hl1;refine vC (fun c2=>?_) (fun c2=>?_)
  ·obtain ⟨y,hy⟩:=Yl (l:=ofT d.types x.typ all) (k:=k) Zi;have hof1:=hof.mono hl1;have h21:=h2.mono hle;have hag':NmsS (args++ [y]):=⟨by rw [List.length_append];simp;omega,fun z hz=>by
    rcases List.mem_append.1 hz with hz | hz
    ·exact hag.2 z hz
    simp at hz;subst hz;exact of_mem (Zm hy) hal⟩
   refine vI hof1 hy (fun p2 hp2=>?_);refine zH hp2 (fun hys=>?_);refine zV ?_;refine Ya Zz (Yx [] [] Zz Zz Zz (YlK h21 Zi) (fun v7 fz7 H7 hle7 hR7=>?_));obtain ⟨Av,cv,rfl,_,_⟩:=hR7.form;have hR8:Grow strL 9 fz7 (.slice Av na cv) na (H7++ []) args:=by rw [List.append_nil];exact hR7
   refine zV ?_;refine Ya Zz (Yb T (cs:=[.string y]) Zz Zz Zz Zz Zz Zz Zz Zz (fun gb=>?_));refine Ya Zz (YP T (Hr:=[_]) (n:=na) (d:=y) Zz Zz Zz Zz Zz Zz Zz Zz (Zr _) hR8 Yg5 (.head _) ⟨rfl,hys⟩ (by show _*16<=_;omega) Zi (fun v' Hs' hO'=>?_));obtain ⟨Av',cv',rfl,_,_⟩:=hO'.form;refine Seq.freezeAll (H1:=[]) (Zr _) (fun fz8 hle8 hf8=>?_);obtain ⟨A8,c8,e8,h8⟩:=hO'.sl hle8 (fun q hq=>hf8 q (by simp [hq])) Zi;injection e8 with e81 e82 e83
   subst e81;subst e83;have hle9:=hle.trans (hle7.trans hle8)
   ((refine zG ?_);refine We Zz Zz (YiL r (h0.mono hle9) (hle9 _ _ hgm) hks (h1.mono hle9) h8 hr2 Zi h64 hnm hag' hal hall0) (fun f1=>?_) (fun f1=>?_))
   ·exact vR (h:=by exact Yw (by rw [YeB];exact ⟨y,Zm hy,Zt f1⟩))
   exact vP (h:=by exact ⟨k+1,by omega,rfl,rfl,hl1.trans (hle7.trans hle8),rfl,YL (p:=fun y=>¬YeB d.types all ks name r (args++ [y])) hh hy (Zf f1)⟩)
  have hA:=Xy (p:=fun y=>¬YeB d.types all ks name r (args++ [y])) hh Zi;exact vR (h:=by exact Yn (by rw [YeB];rintro ⟨y,hy,h9⟩;exact hA y hy h9))
 termination_by ps=>ps.length
 decreasing_by rw [hr];simp
def wDomainP:Bs:=⟨#[100,111,109,97,105,110]⟩
def Yh7:Bs:=⟨#[112,114,111,98,108,101,109]⟩
def wInitP:Bs:=⟨#[105,110,105,116]⟩
def Ykn:Bs:=⟨#[118,97,108,117,101,115]⟩
def wGoalP:Bs:=⟨#[103,111,97,108]⟩
def wLimitsP:Bs:=⟨#[108,105,109,105,116,115]⟩
def wTypesP:Bs:=⟨#[116,121,112,101,115]⟩
def txtV (v:Value_):Bs:=Ymf v.fluent.name v.fluent.args
def OutV (d:Domain) (v:Value_):Prop:=∃ f,fstF d.functions v.fluent.name=some f/\(v.n<f.lo\/f.hi<v.n)
def YgY (d:Domain) (all:List Param):List Bs->List Value_->Int
 | _,[]=>0
 | ks,v::r=>
  if fluM d all [] v.fluent.name v.fluent.args≠0 then fluM d all [] v.fluent.name v.fluent.args
  else if OutV d v then 14
  else if txtV v∈ks then 4
  else YgY d all (ks++ [txtV v]) r
def Yac (d:Domain) (all:List Param) (p:Problem):Bs × Int:=
 if p.domain≠d.name then (Yh7,8)
 else if Ycs (fun a=>atomM d all [] a.name a.args) p.init≠0 then (wInitP,Ycs (fun a=>atomM d all [] a.name a.args) p.init)
 else if YgY d all [] p.values≠0 then (Ykn,YgY d all [] p.values)
 else if ∃ f∈d.functions,YeB d.types all (p.values.map txtV) f.name f.params [] then (Ykn,3)
 else (⟨#[]⟩,0)
variable {d:Domain} {vars:List Param}
theorem Yny {name:Bs} {args:List Bs} (h:fluM d all vars name args=0):∃ f,fstF d.functions name=some f/\args.length=f.params.length:=by
 unfold fluM at h;cases hf:fstF d.functions name with
 | none=>rw [hf] at h;cases h
 | some f=>
  rw [hf] at h;refine ⟨f,rfl,Classical.byContradiction fun h0=>?_⟩;simp only [YlN] at h;rw [if_pos h0] at h;cases h
theorem fstF_mem {l:List Function} {x:Bs} {f:Function} (h:fstF l x=some f):f∈l:=List.mem_of_find?_eq_some h
variable {p:Problem} {v:Value}
set_option maxHeartbeats 16000000 in
theorem YlJ (h:CkG fz v d p all) (hs:NmS d all) (hpf:∀ f∈d.functions,f.params.length<=64) (hvs:∀ x∈p.values,x.fluent.name.size<=1000/\∀ a∈x.fluent.args,a.size<=1000) (hal:all.length<=1000000000):
 QFn prog 82 [v] fz (resV (Yac d all p)):=by
 have h0:=h;obtain ⟨⟨vf,vpp,vg,vo,hck,hF,hPr,hFu,hO⟩,hw⟩:=h;obtain ⟨gc,v1,v2,v3,v4,v5,v6,u1,u2,u3,u4,u5,u6,u7,Aa,na,ca,rfl,hc,hD,hP,hall⟩:=hck;obtain ⟨A4,n4,b4,rfl,i4⟩:=hD.functions;obtain ⟨B2,m2,d2,rfl,i2⟩:=hP.init;obtain ⟨B3,m3,d3,rfl,i3⟩:=hP.values;obtain ⟨gf,mf,rfl,hgf,hmf⟩:=hFu;have l4:=i4.len;have l2:=i2.len;have l3:=i3.len;have s4:=i4.short;have s2:=i2.short;have s3:=i3.short;refine GFn.quiet ?_;refine zF Tryz.func82 Tryz.ntmps82 (fun w0=>?_);refine vC (fun x1=>?_) (fun x1=>?_)
 ·exact vS (h:=by exact (by rw [Yac,if_pos x1];rfl))
 have hdn:¬p.domain≠d.name:=fun h=>h x1
 refine zV ?_;refine Ym (fun q σ fz' H'=>∃ k:Nat,k<=m2/\q=m2 - k/\σ=[(32,Zk k),(31,Zk m2),(30,.slice B2 m2 d2),(0,Zp gc)]/\fz=fz'/\H'=[]/\(∀ i,i<k->∀ a,p.init[i]?=some a->atomM d all [] a.name a.args=0)) ⟨0,Z0 _,rfl,rfl,rfl,rfl,fun i hi=>absurd hi Zi⟩ Zw Zb ?_;rintro q σ fz' H' ⟨k,hk,rfl,rfl,rfl,rfl,hh⟩;refine vC (fun c1=>?_) (fun c1=>?_)
 ·obtain ⟨x,hx⟩:=Yl (l:=p.init) (k:=k) Zi;refine vI i2 hx (fun p1 hp=>?_);refine zL hp ?_;intro cs hcs;obtain ⟨va,rfl,hR⟩:=WF hcs;obtain ⟨Ap,np,cp,rfl,ia⟩:=hR.args;refine zV ?_;intros
  ((refine zG ?_);refine Yv Zz Zz (Ykd h0 (Sl.nil (A:=none) (c:=0) Zi) ia) ?_);by_cases hz:atomM d all [] x.name x.args=0
  ·rw [hz,show errV 0=.nilIface from rfl];exact vP (h:=by exact ⟨k+1,by omega,rfl,rfl,rfl,rfl,YL (p:=fun a:Atom=>atomM d all [] a.name a.args=0) hh hx hz⟩)
  rw [Yk hz];have e1:Ycs (fun a:Atom=>atomM d all [] a.name a.args) p.init=atomM d all [] x.name x.args:=YfQ (E:=fun a:Atom=>atomM d all [] a.name a.args) hx hh hz;exact vS (h:=by exact (by rw [Yac,if_neg hdn,e1,if_pos hz,resV,Yk hz];rfl))
 have hA:=Xy hh Zi;have e1:Ycs (fun a:Atom=>atomM d all [] a.name a.args) p.init=0:=Ydq hA;refine zV ?_;refine Ya Zz (YaP (fun gm=>?_));refine zV ?_;refine Ym (fun q σ fz' H'=>∃ (k:Nat) (ms:List (Bs × Value)),k<=m3/\q=m3 - k/\σ=[(53,Zk k),(52,Zk m3),(51,.slice B3 m3 d3),(7,.map (some gm)),(0,Zp gc)]/\fz=fz'/\H'=[(gm,mapS ms)]/\Ycv ms ((p.values.take k).map txtV)/\YgY d all [] p.values=YgY d all ((p.values.take k).map txtV) (p.values.drop k)) ⟨0,[],Z0 _,rfl,rfl,rfl,rfl,Ycv.nil,rfl⟩ Zw Zb ?_;rintro q σ fz' H' ⟨k,ms,hk,rfl,rfl,rfl,rfl,hS,hV⟩;refine vC (fun c2=>?_) (fun c2=>?_)
 ·obtain ⟨x,hx⟩:=Yl (l:=p.values) (k:=k) Zi;have hxm:=Zm hx;obtain ⟨hx1,hx2⟩:=hvs x hxm;have hdr:p.values.drop k=x::p.values.drop (k+1):=by
   rw [List.drop_eq_getElem_cons Zi,(Zg hx).2]
  rw [hdr,YgY] at hV;refine vI i3 hx (fun p1 hp=>?_);refine zL hp ?_;intro cs hcs;obtain ⟨va,rfl,hR⟩:=Yav hcs;obtain ⟨Ap,np,cp,rfl,ia⟩:=hR.fluent.args;have la:=ia.len;refine zV ?_;intros
  ((refine zG ?_);refine Yv Zz Zz (Yf3 h0 (Sl.nil (A:=none) (c:=0) Zi) ia) ?_);by_cases hz:fluM d all [] x.fluent.name x.fluent.args=0
  ·obtain ⟨f,hf,hfl⟩:=Yny hz;have hfp:=hpf f (fstF_mem hf);have hag:NmsS x.fluent.args:=⟨by omega,hx2⟩;obtain ⟨C,n5,c5,hv5,h5⟩:=(hmf x.fluent.name).2 f hf;rw [hz,show errV 0=.nilIface from rfl];rw [hz,if_neg Zh] at hV;refine zWN ?_;refine Wp.drawK (Hq:=[_,_]) T.mixed Zj Zj Zb ?_;refine wG ?_;refine YaZ (v:=.agg #[.string f.name,.slice C n5 c5,Zk f.lo,Zk f.hi]) T Zz Zz Zz Zz Zz Zz Zz hgf (by rw [Yj4,hv5];rfl) ?_;refine Yf ?_;refine Yf ?_;refine YM ⟨by kernel_rfl,?_⟩;refine Yt (Y6 T Zz Zz (fun gv=>⟨(⟨(Le.refl _),Zx⟩),?_⟩));refine Ch.hard0 Zj (YV T Zz Zz Zz Zz Zz Zz ?_);refine Ch.done ?_;have hout:∀ {z:Int},OutV d x->YgY d all [] p.values=14:=fun ho=>by rw [hV,if_pos ho]
   have hnz:(14:Int)≠0:=by decide
   refine wC (fun c3=>?_) (fun c3=>?_)
   ·have e3:=hout (z:=0) ⟨f,hf,.inl c3⟩;exact vS (h:=by exact (by rw [Yac,if_neg hdn,e1,if_neg Zh,e3,if_pos Zh];rfl))
   refine wC (fun c4=>?_) (fun c4=>?_)
   ·have e3:=hout (z:=0) ⟨f,hf,.inr c4⟩;exact vS (h:=by exact (by rw [Yac,if_neg hdn,e1,if_neg Zh,e3,if_pos Zh];rfl))
   have hno:¬OutV d x:=by
    rintro ⟨f',hf',h9⟩;rw [hf] at hf';injection hf' with hf'
    subst hf';exact h9.elim c3 c4
   rw [if_neg hno] at hV;refine vc (Yme ia hx1 hag) ?_;refine vG ?_;refine YaD (v:=.bool (decide (txtV x∈(p.values.take k).map txtV))) T 2 Zz Zz Zz Zz Zz Zz Zz Zz hS.get ?_;by_cases hm:txtV x∈(p.values.take k).map txtV
   ·rw [if_pos hm] at hV;rw [decide_eq_true hm];exact vS (h:=by exact (by rw [Yac,if_neg hdn,e1,if_neg Zh,hV,if_pos Zh];rfl))
   rw [if_neg hm] at hV;rw [decide_eq_false hm];refine vc (Yme ia hx1 hag) ?_;refine zV ?_;refine YF (Wl T (pre:=[_,_]) Zz Zz Zz Zz Zz Zz Zz (Zr _) ?_);refine zV ?_;have htk:(p.values.take (k+1)).map txtV=(p.values.take k).map txtV++ [txtV x]:=by rw [List.take_add_one,hx];simp
   exact wP (h:=by exact ⟨k+1,_,by omega,rfl,rfl,rfl,rfl,by rw [htk];exact hS.add (txtV x),by rw [htk];exact hV⟩)
  rw [Yk hz];rw [if_pos hz] at hV;exact vS (h:=by exact (by rw [Yac,if_neg hdn,e1,if_neg Zh,hV,if_pos hz,resV,Yk hz];rfl))
 have hk3:k=m3:=by omega
 rw [List.drop_eq_nil_of_le Zi,YgY] at hV;rw [Zl Zi] at hS;refine zVX ?_
 first | refine Wp.freeze Zz (fun fz2 hl2 hm2=>?_) | refine Seq.freeze Zz (fun fz2 hl2 hm2=>?_)
 have h2:=h0.mono hl2;have i42:=i4.mono hl2;have hc2:=hl2 _ _ hc;refine zV ?_;refine Ym (fun q σ fz' H'=>∃ k:Nat,k<=n4/\q=n4 - k/\σ=[(114,Zk k),(113,Zk n4),(112,.slice A4 n4 b4),(7,.map (some gm)),(0,Zp gc)]/\fz2=fz'/\H'=[]/\(∀ i,i<k->∀ f,d.functions[i]?=some f->¬YeB d.types all (p.values.map txtV) f.name f.params [])) ⟨0,Z0 _,rfl,rfl,rfl,rfl,fun i hi=>absurd hi Zi⟩ Zw Zb ?_;rintro q σ fz' H' ⟨k,hk,rfl,rfl,rfl,rfl,hh⟩;refine vC (fun c3=>?_) (fun c3=>?_)
 ·obtain ⟨x,hx⟩:=Yl (l:=d.functions) (k:=k) Zi;have hxm:=Zm hx;refine vI i42 hx (fun p1 hp=>?_);refine zL hp ?_;intro cs hcs;obtain ⟨va,rfl,hR⟩:=Y9 hcs;obtain ⟨Ap,np,cp,rfl,ia⟩:=hR.params;have la:=ia.len;have hfp:=hpf x hxm;refine zV ?_;intros
  ((refine zG ?_);refine We Zz Zz (YiL x.params h2 hm2 hS ia (Sl.nil (A:=none) (c:=0) Zi) rfl Zi Zi (hs.f x hxm) ⟨by simp,by simp⟩ hs.o hal) (fun f1=>?_) (fun f1=>?_))
  ·exact vS (h:=by exact (by rw [Yac,if_neg hdn,e1,if_neg Zh,hV,if_neg Zh,if_pos ⟨x,hxm,Zt f1⟩];rfl))
  exact vP (h:=by exact ⟨k+1,by omega,rfl,rfl,rfl,rfl,YL (p:=fun f:Function=>¬YeB d.types all (p.values.map txtV) f.name f.params []) hh hx (Zf f1)⟩)
 have hM:=Xy (p:=fun f:Function=>¬YeB d.types all (p.values.map txtV) f.name f.params []) hh Zi;exact vS (h:=by exact (by rw [Yac,if_neg hdn,e1,if_neg Zh,hV,if_neg Zh,if_neg (fun ⟨f,hf,h9⟩=>hM f hf h9)];rfl))
def YiU (d:Domain) (all:List Param) (p:Problem):Bs × Int:=
 let e:=if d.duratives=[] then formM d all [] p.goal else YbH d all [] p.goal
 if e≠0 then (wGoalP,e) else (⟨#[]⟩,0)
theorem YkY {e:Int} (he:(if d.duratives=[] then formM d all [] p.goal else YbH d all [] p.goal)=e) (h:e≠0):resV (YiU d all p)=.tuple #[.string wGoalP,errV e]:=by
 simp only [YiU,he];rw [if_pos h];rfl
theorem YkZ {e:Int} (he:(if d.duratives=[] then formM d all [] p.goal else YbH d all [] p.goal)=e) (h:e=0):resV (YiU d all p)=.tuple #[Ze,.nilIface]:=by
 simp only [YiU,he];rw [if_neg (by rw [h];decide)];rfl
set_option maxHeartbeats 4000000 in
theorem cgoal_q (h:CkG fz v d p all) (hW:fW p.goal<=1000000000):
 QFn prog 83 [v] fz (resV (YiU d all p)):=by
 have h0:=h;obtain ⟨⟨vf,vpp,vg,vo,hck,hF,hPr,hFu,hO⟩,hw⟩:=h;obtain ⟨gc,v1,v2,v3,v4,v5,v6,u1,u2,u3,u4,u5,u6,u7,Aa,na,ca,rfl,hc,hD,hP,hall⟩:=hck;obtain ⟨A6,n6,b6,rfl,i6⟩:=hD.duratives;have hg:=hP.goal;obtain ⟨B0,e0,j0,rfl,_⟩:=hP.goal.args;obtain ⟨B1,e1,j1,rfl,_⟩:=hP.goal.params;obtain ⟨B2,e2,j2,rfl,_⟩:=hP.goal.exprs;obtain ⟨B3,e3,j3,rfl,_⟩:=hP.goal.kids;have l6:=i6.len;refine GFn.quiet ?_;refine zF Tryz.func83 Tryz.ntmps83 (fun w0=>?_);refine vG ?_;refine Yag Zz Zz ?_;refine vC (fun x1=>?_) (fun x1=>?_)
 ·have e5:(if d.duratives=[] then formM d all [] p.goal else YbH d all [] p.goal)=YbH d all [] p.goal:=if_neg (by intro h9;rw [h9] at l6;simp at l6;omega);refine vG ?_;refine Yag Zz Zz ?_;refine vG ?_;refine Ya0 (vs:=[.string p.goal.op,.string p.goal.name,.slice B0 e0 j0,.slice B1 e1 j1,.slice B2 e2 j2,.slice B3 e3 j3]) T Zz Zz Zz hc Zz Zz ?_;refine vG ?_;refine Ycz Zz Zz Zz (Yf1 h0 (Sl.nil (A:=none) (c:=0) Zi) hg Zi) ?_;by_cases hz:YbH d all [] p.goal=0
  ·rw [hz,show errV 0=.nilIface from rfl];exact vS (h:=by rw [YkZ e5 hz])
  rw [Yk hz];exact vS (h:=by exact (by rw [YkY e5 hz,Yk hz];rfl))
 have e5:(if d.duratives=[] then formM d all [] p.goal else YbH d all [] p.goal)=formM d all [] p.goal:=if_pos (List.eq_nil_of_length_eq_zero Zi);refine vG ?_;refine Ya0 (vs:=[.string p.goal.op,.string p.goal.name,.slice B0 e0 j0,.slice B1 e1 j1,.slice B2 e2 j2,.slice B3 e3 j3]) T Zz Zz Zz hc Zz Zz ?_;refine vG ?_;refine Ycz Zz Zz Zz (YhV h0 (Sl.nil (A:=none) (c:=0) Zi) hg Zi) ?_;by_cases hz:formM d all [] p.goal=0
 ·rw [hz,show errV 0=.nilIface from rfl];exact vS (h:=by rw [YkZ e5 hz])
 rw [Yk hz];exact vS (h:=by exact (by rw [YkY e5 hz,Yk hz];rfl))
mutual
def LongP:Formula->Prop
 | .mk _ _ _ params _ kids=>6<params.length\/LongPL kids
def LongPL:List Formula->Prop
 | []=>False
 | k::r=>LongP k\/LongPL r
end
theorem YgJ:∀ {l:List Formula},LongPL l↔∃ x∈l,LongP x
 | []=>by simp [LongPL]
 | k::r=>by rw [LongPL,YgJ (l:=r)];simp
theorem Ye2 (f:Formula):LongP f↔6<f.params.length\/∃ x∈f.kids,LongP x:=by cases f;rw [LongP,YgJ];rfl
theorem long_f:∀ (s:Nat) {fz:FZ} {f:Formula} {va vp ve vk:Value},SizeOf.sizeOf f<=s->FormulaR fz f va vp ve vk->
 QFn prog 62 [.agg #[.string f.op,.string f.name,va,vp,ve,vk]] fz (.bool (decide (LongP f)))
 | 0,_,f,_,_,_,_,hse,_=>by cases f;simp at hse
 | s+1,fz,f,va,vp,ve,vk,hse,hR=>by
  obtain ⟨B1,m1,d1,rfl,ia⟩:=hR.args;obtain ⟨B2,m2,d2,rfl,ip⟩:=hR.params;obtain ⟨B3,m3,d3,rfl,ie⟩:=hR.exprs;obtain ⟨B4,m4,d4,rfl,ik⟩:=hR.kids;have l2:=ip.len;refine GFn.quiet ?_;refine zF Tryz.func62 Tryz.ntmps62 (fun w0=>?_);refine Yj (Yq (Ya Zz (Xb _ Zz Zz (fun g0=>?_))));refine vC (fun x1=>?_) (fun x1=>?_)
  ·exact vR (h:=by exact Yw ((Ye2 f).2 (.inl Zi)))
  refine zV ?_
  ((refine zG ?_);refine Yv Zz Zz (Ybz (cap:=[]) (p:=LongP) ik (fun x hx cs hcs=>by
   obtain ⟨wa,wp,we,wk,rfl,hRx⟩:=YA hcs;exact long_f s (by have:=Lx.Formula.kids_lt hx;omega) hRx)) ?_)
  refine zV ?_
  (exact ret1 rfl rfl Zb (by
   by_cases h:∃ x∈f.kids,LongP x
   ·rw [decide_eq_true h,decide_eq_true ((Ye2 f).2 (.inr h))]
   rw [decide_eq_false h,decide_eq_false (fun h0=>((Ye2 f).1 h0).elim (fun h1=>x1 Zi) h)]))
variable {f:Formula} {va ve vk vp:Value}
theorem YgI (hR:FormulaR fz f va vp ve vk):
 QFn prog 62 [.agg #[.string f.op,.string f.name,va,vp,ve,vk]] fz (.bool (decide (LongP f))):=long_f _ (Zs _) hR
def YhY (c:Change):Prop:=6<c.params.length\/LongP c.when_
variable {cs:List Value}
theorem longC_q {c:Change} (h:changeL.rep fz c cs):QFn prog 118 [.agg cs.toArray] fz (.bool (decide (YhY c))):=by
 obtain ⟨v1,v2,v3,v4,v5,v6,v7,v8,rfl,hR⟩:=Xj h;obtain ⟨A1,n1,b1,rfl,ip⟩:=hR.params;have hw:=hR.when_;obtain ⟨A2,n2,b2,rfl,iw1⟩:=hR.when_.args;obtain ⟨A3,n3,b3,rfl,iw2⟩:=hR.when_.params;obtain ⟨A4,n4,b4,rfl,iw3⟩:=hR.when_.exprs;obtain ⟨A5,n5,b5,rfl,iw4⟩:=hR.when_.kids;obtain ⟨A6,n6,b6,rfl,iw5⟩:=hR.args;obtain ⟨A7,n7,b7,rfl,iw6⟩:=hR.value.args;obtain ⟨A8,n8,b8,rfl,iw7⟩:=hR.value.kids;have l1:=ip.len;refine GFn.quiet ?_;refine zF Tryz.func118 Tryz.ntmps118 (fun w0=>?_);refine Yj (Yq (Ya Zz (Xb _ Zz Zz (fun g0=>?_))));refine vC (fun x1=>?_) (fun x1=>?_)
 ·exact vR (h:=by exact Yw (.inl Zi))
 refine vG ?_;refine Yo (vs:=[.string c.when_.op,.string c.when_.name,.slice A2 n2 b2,.slice A3 n3 b3,.slice A4 n4 b4,.slice A5 n5 b5]) T 0 Zz Zz Zz Zz Zz Zz ?_;refine zc (YgI hw) ?_;refine zV ?_
 (exact ret1 rfl rfl Zb (by
  by_cases h:LongP c.when_
  ·rw [decide_eq_true h,decide_eq_true (show YhY c from .inr h)]
  rw [decide_eq_false h,decide_eq_false (show ¬YhY c from fun h0=>h0.elim (fun h1=>x1 Zi) h)]))
theorem Ycd {l:List Change} (h:Sl changeL fz A n c l):
 QFn prog 69 [.slice A n c] fz (.bool (decide (∃ x∈l,YhY x))):=by
 refine GFn.quiet ?_;refine zF Tryz.func69 Tryz.ntmps69 (fun w0=>?_);refine vG ?_;refine Yv Zz Zz (Yew (cap:=[]) (p:=YhY) h (fun x hx cs hcs=>longC_q hcs)) ?_;exact vR (h:=rfl)
theorem Ye3:QFn prog 61 [.slice A n c] fz (.bool (decide (6<n))):=by
 refine GFn.quiet ?_;refine zF Tryz.func61 Tryz.ntmps61 (fun w0=>?_);refine vC (fun x1=>?_) (fun x1=>?_)
 ·exact vR (h:=by exact Yw Zi)
 exact vR (h:=by exact Yn Zi)
def Yco (fz:FZ) (g:Nat):Prop:=fz g=some (.cells #[.func (.func 61) #[] #[]] 140 (0,0))
variable {g:Nat}
theorem large2_q (hg:Yco fz g) {x:Predicate} (h:predicateL.rep fz x cs):
 QFn prog 64 [.agg cs.toArray,Zp g] fz (.bool (decide (6<x.params.length))):=by
 unfold Yco at hg;obtain ⟨v1,rfl,hR⟩:=XK h;obtain ⟨A1,n1,b1,rfl,ip⟩:=hR.params;have l1:=ip.len;refine GFn.quiet ?_;refine zF Tryz.func64 Tryz.ntmps64 (fun w0=>?_);refine Yj (Yq (Ya Zz (Xb _ Zz Zz (fun g0=>?_))));refine vv Ye3 ?_;exact vR (h:=by rw [l1])
theorem large3_q (hg:Yco fz g) {x:Function} (h:functionL.rep fz x cs):
 QFn prog 66 [.agg cs.toArray,Zp g] fz (.bool (decide (6<x.params.length))):=by
 unfold Yco at hg;obtain ⟨v1,rfl,hR⟩:=Y9 h;obtain ⟨A1,n1,b1,rfl,ip⟩:=hR.params;have l1:=ip.len;refine GFn.quiet ?_;refine zF Tryz.func66 Tryz.ntmps66 (fun w0=>?_);refine Yj (Yq (Ya Zz (Xb _ Zz Zz (fun g0=>?_))));refine vv Ye3 ?_;exact vR (h:=by rw [l1])
def LongA (a:Action):Prop:=6<a.params.length\/LongP a.pre\/∃ c∈a.changes,YhY c
theorem orNo {p q r:Prop} [Decidable q] [Decidable r] (h:¬p) (e:r↔p\/q):Value.bool (decide q)=Value.bool (decide r):=by
 by_cases hq:q
 ·rw [decide_eq_true hq,decide_eq_true (e.2 (.inr hq))]
 rw [decide_eq_false hq,decide_eq_false (fun h0=>(e.1 h0).elim h hq)]
theorem large4_q (hg:Yco fz g) {x:Action} (h:actionL.rep fz x cs):
 QFn prog 68 [.agg cs.toArray,Zp g] fz (.bool (decide (LongA x))):=by
 unfold Yco at hg;obtain ⟨v1,v2,v3,v4,v5,v6,rfl,hR⟩:=Xq h;obtain ⟨A1,n1,b1,rfl,ip⟩:=hR.params;have hw:=hR.pre;obtain ⟨A2,n2,b2,rfl,iw1⟩:=hR.pre.args;obtain ⟨A3,n3,b3,rfl,iw2⟩:=hR.pre.params;obtain ⟨A4,n4,b4,rfl,iw3⟩:=hR.pre.exprs;obtain ⟨A5,n5,b5,rfl,iw4⟩:=hR.pre.kids;obtain ⟨A6,n6,b6,rfl,ic⟩:=hR.changes;have l1:=ip.len;refine GFn.quiet ?_;refine zF Tryz.func68 Tryz.ntmps68 (fun w0=>?_);refine Yj (Yq (Ya Zz (Xb _ Zz Zz (fun g0=>?_))));refine vG ?_;refine Yab Zz Zz Zz Ye3 (fun f1=>?_) (fun f1=>?_)
 ·exact vR (h:=by exact Yw (.inl Zi))
 refine vG ?_;refine Yo (vs:=[.string x.pre.op,.string x.pre.name,.slice A2 n2 b2,.slice A3 n3 b3,.slice A4 n4 b4,.slice A5 n5 b5]) T 0 Zz Zz Zz Zz Zz Zz ?_;refine zb (YgI hw) (fun f2=>?_) (fun f2=>?_)
 ·exact vR (h:=by exact Yw (.inr (.inl (Zt f2))))
 refine vc (Ycd ic) ?_;exact vR (h:=by exact orNo (p:=6<x.params.length\/LongP x.pre) (fun h0=>h0.elim (fun h1=>f1 Zi) (Zf f2)) or_assoc.symm)
def Yoh (a:Durative):Prop:=6<a.params.length\/LongP a.start\/LongP a.over\/LongP a.fin\/(∃ c∈a.atStart,YhY c)\/∃ c∈a.atEnd,YhY c
theorem large5_q (hg:Yco fz g) {x:Durative} (h:durativeL.rep fz x cs):
 QFn prog 71 [.agg cs.toArray,Zp g] fz (.bool (decide (Yoh x))):=by
 unfold Yco at hg;obtain ⟨v1,v2,v3,v4,v5,v6,v7,v8,v9,v10,v11,v12,v13,v14,v15,rfl,hR⟩:=Xg h;obtain ⟨A1,n1,b1,rfl,ip⟩:=hR.params;have hw:=hR.start;have ho:=hR.over;have hf:=hR.fin;obtain ⟨A2,n2,b2,rfl,_⟩:=hR.start.args;obtain ⟨A3,n3,b3,rfl,_⟩:=hR.start.params;obtain ⟨A4,n4,b4,rfl,_⟩:=hR.start.exprs;obtain ⟨A5,n5,b5,rfl,_⟩:=hR.start.kids;obtain ⟨C2,c2,e2,rfl,_⟩:=hR.over.args;obtain ⟨C3,c3,e3,rfl,_⟩:=hR.over.params;obtain ⟨C4,c4,e4,rfl,_⟩:=hR.over.exprs;obtain ⟨C5,c5,e5,rfl,_⟩:=hR.over.kids;obtain ⟨D2,d2,i2,rfl,_⟩:=hR.fin.args;obtain ⟨D3,d3,i3,rfl,_⟩:=hR.fin.params;obtain ⟨D4,d4,i4,rfl,_⟩:=hR.fin.exprs;obtain ⟨D5,d5,i5,rfl,_⟩:=hR.fin.kids;obtain ⟨A6,n6,b6,rfl,ic⟩:=hR.atStart;obtain ⟨A7,n7,b7,rfl,id⟩:=hR.atEnd;have l1:=ip.len;refine GFn.quiet ?_;refine zF Tryz.func71 Tryz.ntmps71 (fun w0=>?_);refine Yj (Yq (Ya Zz (Xb _ Zz Zz (fun g0=>?_))));refine vG ?_;refine Yab Zz Zz Zz Ye3 (fun f1=>?_) (fun f1=>?_)
 ·exact vR (h:=by exact Yw (.inl Zi))
 refine vG ?_;refine Yo (vs:=[.string x.start.op,.string x.start.name,.slice A2 n2 b2,.slice A3 n3 b3,.slice A4 n4 b4,.slice A5 n5 b5]) T 0 Zz Zz Zz Zz Zz Zz ?_;refine zb (YgI hw) (fun f2=>?_) (fun f2=>?_)
 ·exact vR (h:=by exact Yw (.inr (.inl (Zt f2))))
 refine vG ?_;refine Yo (vs:=[.string x.over.op,.string x.over.name,.slice C2 c2 e2,.slice C3 c3 e3,.slice C4 c4 e4,.slice C5 c5 e5]) T 0 Zz Zz Zz Zz Zz Zz ?_;refine zb (YgI ho) (fun f3=>?_) (fun f3=>?_)
 ·exact vR (h:=by exact Yw (.inr (.inr (.inl (Zt f3)))))
 refine vG ?_;refine Yo (vs:=[.string x.fin.op,.string x.fin.name,.slice D2 d2 i2,.slice D3 d3 i3,.slice D4 d4 i4,.slice D5 d5 i5]) T 0 Zz Zz Zz Zz Zz Zz ?_;refine zb (YgI hf) (fun f4=>?_) (fun f4=>?_)
 ·exact vR (h:=by exact Yw (.inr (.inr (.inr (.inl (Zt f4))))))
 refine vb (Ycd ic) (fun f5=>?_) (fun f5=>?_)
 ·exact vR (h:=by exact Yw (.inr (.inr (.inr (.inr (.inl (Zt f5)))))))
 refine vc (Ycd id) ?_;refine zV ?_
 (exact ret1 rfl rfl Zb (orNo (p:=6<x.params.length\/LongP x.start\/LongP x.over\/LongP x.fin\/∃ c∈x.atStart,YhY c) (fun h0=>by
  rcases h0 with h1 | h1 | h1 | h1 | h1
  ·exact f1 Zi
  ·exact Zf f2 h1
  ·exact Zf f3 h1
  ·exact Zf f4 h1
  exact Zf f5 h1) (by unfold Yoh;simp only [or_assoc])))
def Yd4 (d:Domain) (p:Problem) (all:List Param):Prop:=64<all.length\/64<d.types.length\/64<d.predicates.length\/64<d.functions.length\/64<d.actions.length\/64<d.duratives.length\/LongP p.goal\/(∃ x∈d.predicates,6<x.params.length)\/(∃ x∈d.functions,6<x.params.length)\/(∃ x∈d.actions,LongA x)\/∃ x∈d.duratives,Yoh x
set_option maxHeartbeats 4000000 in
theorem large_q {vf vg vo:Value} (h:CkR fz v d p all vf vp vg vo):
 QFn prog 29 [v] fz (.bool (decide (Yd4 d p all))):=by
 obtain ⟨gc,v1,v2,v3,v4,v5,v6,u1,u2,u3,u4,u5,u6,u7,Aa,na,ca,rfl,hc,hD,hP,hall⟩:=h;obtain ⟨A1,n1,b1,rfl,i1⟩:=hD.types;obtain ⟨A2,n2,b2,rfl,i2⟩:=hD.constants;obtain ⟨A3,n3,b3,rfl,i3⟩:=hD.predicates;obtain ⟨A4,n4,b4,rfl,i4⟩:=hD.functions;obtain ⟨A5,n5,b5,rfl,i5⟩:=hD.actions;obtain ⟨A6,n6,b6,rfl,i6⟩:=hD.duratives;have hg:=hP.goal;obtain ⟨B0,e0,q0,rfl,_⟩:=hP.goal.args;obtain ⟨B1,e1,q1,rfl,_⟩:=hP.goal.params;obtain ⟨B2,e2,q2,rfl,_⟩:=hP.goal.exprs;obtain ⟨B3,e3,q3,rfl,_⟩:=hP.goal.kids;have l1:=i1.len;have l3:=i3.len;have l4:=i4.len;have l5:=i5.len;have l6:=i6.len;have la:=hall.len;refine GFn.quiet ?_;refine zF Tryz.func29 Tryz.ntmps29 (fun w0=>?_);refine vG ?_;refine Ya0 (vs:=[.string d.name,.slice A1 n1 b1,.slice A2 n2 b2,.slice A3 n3 b3,.slice A4 n4 b4,.slice A5 n5 b5,.slice A6 n6 b6]) T Zz Zz Zz hc Zz Zz ?_;refine zV ?_;intros;refine zC (fun x0=>?_) (fun x0=>?_)
 ·exact vR (h:=by exact Yw (.inl Zi))
 refine vC (fun x1=>?_) (fun x1=>?_)
 ·exact vR (h:=by exact Yw (.inr (.inl Zi)))
 refine vC (fun x2=>?_) (fun x2=>?_)
 ·exact vR (h:=by exact Yw (.inr (.inr (.inl Zi))))
 refine vC (fun x3=>?_) (fun x3=>?_)
 ·exact vR (h:=by exact Yw (.inr (.inr (.inr (.inl Zi)))))
 refine vC (fun x4=>?_) (fun x4=>?_)
 ·exact vR (h:=by exact Yw (.inr (.inr (.inr (.inr (.inl Zi))))))
 refine vC (fun x5=>?_) (fun x5=>?_)
 ·exact vR (h:=by exact Yw (.inr (.inr (.inr (.inr (.inr (.inl Zi)))))))
 refine zVX ?_;refine Yj ?_;refine zVX ?_;intros;rename_i g3 g4
 first | refine Wp.freeze Zz (fun fz2 hl2 hb2=>?_) | refine Seq.freeze Zz (fun fz2 hl2 hb2=>?_)
 have hb:Yco fz2 g4:=hb2;have hc2:=hl2 _ _ hc;have hg2:=hg.mono hl2;have j3:=i3.mono hl2;have j4:=i4.mono hl2;have j5:=i5.mono hl2;have j6:=i6.mono hl2;refine vG ?_;refine Ya0 (vs:=[.string p.goal.op,.string p.goal.name,.slice B0 e0 q0,.slice B1 e1 q1,.slice B2 e2 q2,.slice B3 e3 q3]) T Zz Zz Zz hc2 Zz Zz ?_;refine vb (YgI hg2) (fun f6=>?_) (fun f6=>?_)
 ·exact vR (h:=by exact Yw (.inr (.inr (.inr (.inr (.inr (.inr (.inl (Zt f6)))))))))
 refine vG ?_;refine Yag Zz Zz ?_;refine vG ?_;refine We Zz Zz (Ydb (cap:=[Zp g4]) (p:=(fun x:Predicate=>6<x.params.length)) j3 (fun x hx cs hcs=>large2_q hb hcs)) (fun f7=>?_) (fun f7=>?_)
 ·exact vR (h:=by exact Yw (.inr (.inr (.inr (.inr (.inr (.inr (.inr (.inl (Zt f7))))))))))
 refine vG ?_;refine Yag Zz Zz ?_;refine vG ?_;refine We Zz Zz (Ydt (cap:=[Zp g4]) (p:=(fun x:Function=>6<x.params.length)) j4 (fun x hx cs hcs=>large3_q hb hcs)) (fun f8=>?_) (fun f8=>?_)
 ·exact vR (h:=by exact Yw (.inr (.inr (.inr (.inr (.inr (.inr (.inr (.inr (.inl (Zt f8)))))))))))
 refine vG ?_;refine Yag Zz Zz ?_;refine vG ?_;refine We Zz Zz (Yex (cap:=[Zp g4]) (p:=LongA) j5 (fun x hx cs hcs=>large4_q hb hcs)) (fun f9=>?_) (fun f9=>?_)
 ·exact vR (h:=by exact Yw (.inr (.inr (.inr (.inr (.inr (.inr (.inr (.inr (.inr (.inl (Zt f9))))))))))))
 refine vG ?_;refine Yag Zz Zz ?_;refine vG ?_;refine Yv Zz Zz (Ydu (cap:=[Zp g4]) (p:=Yoh) j6 (fun x hx cs hcs=>large5_q hb hcs)) ?_;refine zV ?_
 (exact ret1 rfl rfl Zb (by
  by_cases h9:∃ x∈d.duratives,Yoh x
  ·rw [decide_eq_true h9,decide_eq_true (show Yd4 d p all from (.inr (.inr (.inr (.inr (.inr (.inr (.inr (.inr (.inr (.inr h9)))))))))))]
  rw [decide_eq_false h9,decide_eq_false (show ¬Yd4 d p all from fun h0=>by
   rcases h0 with h0 | h0 | h0 | h0 | h0 | h0 | h0 | h0 | h0 | h0 | h0
   ·exact x0 Zi
   ·exact x1 Zi
   ·exact x2 Zi
   ·exact x3 Zi
   ·exact x4 Zi
   ·exact x5 Zi
   ·exact Zf f6 h0
   ·exact Zf f7 h0
   ·exact Zf f8 h0
   ·exact Zf f9 h0
   exact h9 h0)]))
def Once {α:Type} (nm:α->Bs) (l:List α):Prop:=∀ (i j:Nat) (x y:α),i<j->l[i]?=some x->l[j]?=some y->nm x≠nm y
def MapH {α:Type} (nm:α->Bs) (V:α->Value->Prop) (m:List (Bs × Value)) (l:List α) (k:Nat):Prop:=∀ x,((∀ i y,i<k->l[i]?=some y->nm y≠x)->valS m x=none)/\∀ i y,i<k->l[i]?=some y->nm y=x->∃ v,valS m x=some v/\V y v
theorem MapH.zero {α:Type} {nm:α->Bs} {V:α->Value->Prop} {l:List α}:MapH nm V [] l 0:=fun x=>⟨fun _=>rfl,fun i y hi=>absurd hi Zi⟩
variable {k:Nat}
theorem MapH.add {α:Type} {nm:α->Bs} {V:α->Value->Prop} {m:List (Bs × Value)} {l:List α} {y:α} (h:MapH nm V m l k) (ho:Once nm l) (hy:l[k]?=some y) (hv:V y v):MapH nm V (updS m (nm y) v) l (k+1):=fun x=>by
 constructor
 ·intro hn;have h1:nm y≠x:=hn k y Zi hy;rw [YeW,if_neg (fun e=>h1 e.symm)];exact (h x).1 (fun i z hi hz=>hn i z Zi hz)
 intro i z hi hz he;by_cases hik:i=k
 ·subst hik;rw [hy] at hz;injection hz with hz;subst hz
  exact ⟨v,by rw [YeW,if_pos he.symm],hv⟩
 have h2:=ho i k z y Zi hz hy;rw [YeW,if_neg (fun e=>h2 (by rw [he,e]))];exact (h x).2 i z Zi hz he
theorem MapH.mono {α:Type} {nm:α->Bs} {V V':α->Value->Prop} {m:List (Bs × Value)} {l:List α} (h:MapH nm V m l k) (hV:∀ y v,V y v->V' y v):MapH nm V' m l k:=fun x=>⟨(h x).1,fun i y hi hy he=>by obtain ⟨v,h1,h2⟩:=(h x).2 i y hi hy he;exact ⟨v,h1,hV y v h2⟩⟩
def VPred (fz:FZ) (y:Predicate) (v:Value):Prop:=∃ A n c,v=.slice A n c/\Sl paramL fz A n c y.params
def VFun (fz:FZ) (y:Function) (v:Value):Prop:=∃ A n c,v=.agg #[.string y.name,.slice A n c,Zk y.lo,Zk y.hi]/\Sl paramL fz A n c y.params
def VObj (y:Param) (v:Value):Prop:=v=.string y.typ
theorem Yi1 {α:Type} {nm:α->Bs} {l:List α} {x:Bs} (h:(l.find? fun p=>decide (nm p=x))=none):∀ i y,i<l.length->l[i]?=some y->nm y≠x:=fun i y _ hy he=>by
 have:=List.find?_eq_none.1 h y (Zm hy);simp [he] at this
theorem Yi0 {α:Type} {nm:α->Bs} {l:List α} {x:Bs} {y:α} (h:(l.find? fun p=>decide (nm p=x))=some y):∃ i,i<l.length/\l[i]?=some y/\nm y=x:=by
 obtain ⟨i,hi⟩:=List.getElem?_of_mem (List.mem_of_find?_eq_some h);exact ⟨i,(Zg hi).1,hi,by have:=List.find?_some h;simpa using this⟩
theorem prdR_of {m:List (Bs × Value)} {l:List Predicate} (hg:fz g=some (mapS m)) (h:MapH (·.name) (VPred fz) m l l.length):PrdR fz (.map (some g)) l:=⟨g,m,rfl,hg,fun x=>⟨fun hn=>(h x).1 (Yi1 (nm:=fun p:Predicate=>p.name) hn),fun y hy=>by
 obtain ⟨i,h1,h2,h3⟩:=Yi0 (nm:=fun p:Predicate=>p.name) hy;obtain ⟨v,h4,A,n,c,rfl,h5⟩:=(h x).2 i y h1 h2 h3;exact ⟨A,n,c,h4,h5⟩⟩⟩
theorem funR_of {m:List (Bs × Value)} {l:List Function} (hg:fz g=some (mapS m)) (h:MapH (·.name) (VFun fz) m l l.length):FunR fz (.map (some g)) l:=⟨g,m,rfl,hg,fun x=>⟨fun hn=>(h x).1 (Yi1 (nm:=fun p:Function=>p.name) hn),fun y hy=>by
 obtain ⟨i,h1,h2,h3⟩:=Yi0 (nm:=fun p:Function=>p.name) hy;obtain ⟨v,h4,A,n,c,rfl,h5⟩:=(h x).2 i y h1 h2 h3;exact ⟨A,n,c,h4,h5⟩⟩⟩
theorem tyF_none {l:List Param} {x:Bs} (h:tyF l x=none):∀ i y,i<l.length->l[i]?=some y->y.name≠x:=by
 induction l with
 | nil=>intro i y hi;simp at hi
 | cons p r ih=>
  rw [tyF] at h;by_cases h1:x=p.name
  ·rw [if_pos h1] at h;cases h
  rw [if_neg h1] at h;intro i y hi hy;cases i with
  | zero=>simp at hy;subst hy;exact fun e=>h1 e.symm
  | succ i=>exact ih h i y (by simpa using hi) (by simpa using hy)
theorem tyF_at {l:List Param} {x u:Bs} (h:tyF l x=some u):∃ i y,i<l.length/\l[i]?=some y/\y.name=x/\y.typ=u:=by
 induction l with
 | nil=>cases h
 | cons p r ih=>
  rw [tyF] at h;by_cases h1:x=p.name
  ·rw [if_pos h1] at h;injection h with h;exact ⟨0,p,by simp,rfl,h1.symm,h⟩
  rw [if_neg h1] at h;obtain ⟨i,y,h2,h3,h4,h5⟩:=ih h;exact ⟨i+1,y,by simpa using h2,by simpa using h3,h4,h5⟩
theorem objR_of {m:List (Bs × Value)} {l:List Param} (hg:fz g=some (mapS m)) (h:MapH (·.name) VObj m l l.length):ObjR fz (.map (some g)) l:=⟨g,m,rfl,hg,fun x=>by
 cases hr:tyF l x with
 | none=>rw [(h x).1 (tyF_none hr)];rfl
 | some u=>
  obtain ⟨i,y,h1,h2,h3,h4⟩:=tyF_at hr;obtain ⟨v,h5,h6⟩:=(h x).2 i y h1 h2 h3;rw [h5,show v=.string y.typ from h6,h4];rfl⟩
variable {u1 u2 u3 u4 u5 u6 u7 v1 v2 v3 v4 v5 v6:Value}
set_option maxHeartbeats 8000000 in
theorem YnW {gc:Nat} {vf:Value} {Aa:Option Addr} {na ca:Nat} (hD:DomainR fz d v1 v2 v3 v4 v5 v6) (hall:Sl paramL fz Aa na ca all)
 (op:Once (·.name) d.predicates) (of:Once (·.name) d.functions) (oo:Once (·.name) all):
 GFn prog 80 [Zp gc] fz [(gc,.cells #[.string d.name,v1,v2,v3,v4,v5,v6,.string p.name,.string p.domain,u1,u2,u3,.string p.goal.op,.string p.goal.name,u4,u5,u6,u7,vf,.map none,.map none,.map none,.slice Aa na ca] 94 (0,0))]
  (fun v fz' H'=>v=.tuple #[]/\fz=fz'/\∃ go gg gp m1 m2 m3,H'=[(go,mapS m3),(gg,mapS m2),(gp,mapS m1),(gc,.cells #[.string d.name,v1,v2,v3,v4,v5,v6,.string p.name,.string p.domain,u1,u2,u3,.string p.goal.op,.string p.goal.name,u4,u5,u6,u7,vf,.map (some gp),.map (some gg),.map (some go),.slice Aa na ca] 94 (0,0))]/\
   MapH (·.name) (VPred fz) m1 d.predicates d.predicates.length/\MapH (·.name) (VFun fz) m2 d.functions d.functions.length/\MapH (·.name) VObj m3 all all.length):=by
 obtain ⟨A1,n1,b1,rfl,i1⟩:=hD.types;obtain ⟨A2,n2,b2,rfl,i2⟩:=hD.constants;obtain ⟨A3,n3,b3,rfl,i3⟩:=hD.predicates;obtain ⟨A4,n4,b4,rfl,i4⟩:=hD.functions;obtain ⟨A5,n5,b5,rfl,i5⟩:=hD.actions;obtain ⟨A6,n6,b6,rfl,i6⟩:=hD.duratives;have l3:=i3.len;have l4:=i4.len;have la:=hall.len;have s3:=i3.short;have s4:=i4.short;have sa:=hall.short;refine zF Tryz.func80 Tryz.ntmps80 (fun w0=>?_);refine zV ?_;refine Ya Zz (YaP (fun gp=>?_));refine Ya Zz (YaP (fun gg=>?_));refine Ya Zz (YaP (fun go=>?_));refine zV ?_;refine Ym (fun q σ fz' H'=>∃ (k:Nat) (m:List (Bs × Value)),k<=n3/\q=n3 - k/\σ=[(26,Zk k),(25,Zk n3),(24,.slice A3 n3 b3),(0,Zp gc)]/\fz=fz'/\H'=[(go,mapS []),(gg,mapS []),(gp,mapS m),(gc,.cells #[.string d.name,.slice A1 n1 b1,.slice A2 n2 b2,.slice A3 n3 b3,.slice A4 n4 b4,.slice A5 n5 b5,.slice A6 n6 b6,.string p.name,.string p.domain,u1,u2,u3,.string p.goal.op,.string p.goal.name,u4,u5,u6,u7,vf,.map (some gp),.map (some gg),.map (some go),.slice Aa na ca] 94 (0,0))]/\MapH (·.name) (VPred fz) m d.predicates k) ⟨0,[],Z0 _,rfl,rfl,rfl,rfl,MapH.zero⟩ Zw Zb ?_;rintro q σ fz' H' ⟨k,m,hk,rfl,rfl,rfl,rfl,hm⟩;refine vC (fun c24=>?_) (fun c24=>?_)
 ·obtain ⟨x,hx⟩:=Yl (l:=d.predicates) (k:=k) Zi;refine vI i3 hx (fun p1 hp=>?_);refine zL hp ?_;intro cs hcs;obtain ⟨va,rfl,hR⟩:=XK hcs;obtain ⟨Ap,np,cp,rfl,ip⟩:=hR.params;refine zWN ?_;intros;refine Wp.drawK (Hq:=[_,_,_,_,_]) T.mixed Zj Zj Zb ?_;refine zW ?_;refine Yf ?_;refine YM ⟨by kernel_rfl,?_⟩;refine Ch.hard0 Zj (Wl T (pre:=[_,_,_]) Zz Zz Zz Zz Zz Zz Zz (Zr _) ?_);refine Ch.done ?_;exact vP (h:=by exact ⟨k+1,_,by omega,rfl,rfl,rfl,rfl,hm.add op hx ⟨_,_,_,rfl,ip⟩⟩)
 have hk3:k=d.predicates.length:=by omega
 subst hk3;obtain ⟨m1,rfl⟩:∃ z,z=m:=⟨_,rfl⟩;have hm1:=hm;refine zV ?_;refine Ym (fun q σ fz' H'=>∃ (k:Nat) (m:List (Bs × Value)),k<=n4/\q=n4 - k/\σ=[(45,Zk k),(44,Zk n4),(43,.slice A4 n4 b4),(0,Zp gc)]/\fz=fz'/\H'=[(go,mapS []),(gg,mapS m),(gp,mapS m1),(gc,.cells #[.string d.name,.slice A1 n1 b1,.slice A2 n2 b2,.slice A3 n3 b3,.slice A4 n4 b4,.slice A5 n5 b5,.slice A6 n6 b6,.string p.name,.string p.domain,u1,u2,u3,.string p.goal.op,.string p.goal.name,u4,u5,u6,u7,vf,.map (some gp),.map (some gg),.map (some go),.slice Aa na ca] 94 (0,0))]/\MapH (·.name) (VFun fz) m d.functions k) ⟨0,[],Z0 _,rfl,rfl,rfl,rfl,MapH.zero⟩ Zw Zb ?_;rintro q σ fz' H' ⟨k,m,hk,rfl,rfl,rfl,rfl,hm⟩;refine vC (fun c43=>?_) (fun c43=>?_)
 ·obtain ⟨x,hx⟩:=Yl (l:=d.functions) (k:=k) Zi;refine vI i4 hx (fun p1 hp=>?_);refine zL hp ?_;intro cs hcs;obtain ⟨va,rfl,hR⟩:=Y9 hcs;obtain ⟨Ap,np,cp,rfl,ip⟩:=hR.params;refine zWN ?_;intros;refine Wp.drawK (Hq:=[_,_,_,_,_]) T.mixed Zj Zj Zb ?_;refine zW ?_;refine Yf ?_;refine YM ⟨by kernel_rfl,?_⟩;refine Ch.hard0 Zj (Wl T (pre:=[_,_]) Zz Zz Zz Zz Zz Zz Zz (Zr _) ?_);refine Ch.done ?_;exact vP (h:=by exact ⟨k+1,_,by omega,rfl,rfl,rfl,rfl,hm.add of hx ⟨_,_,_,rfl,ip⟩⟩)
 have hk4:k=d.functions.length:=by omega
 subst hk4;obtain ⟨m2,rfl⟩:∃ z,z=m:=⟨_,rfl⟩;have hm2:=hm;refine zV ?_;refine Ym (fun q σ fz' H'=>∃ (k:Nat) (m:List (Bs × Value)),k<=na/\q=na - k/\σ=[(62,Zk k),(61,Zk na),(60,.slice Aa na ca),(0,Zp gc)]/\fz=fz'/\H'=[(go,mapS m),(gg,mapS m2),(gp,mapS m1),(gc,.cells #[.string d.name,.slice A1 n1 b1,.slice A2 n2 b2,.slice A3 n3 b3,.slice A4 n4 b4,.slice A5 n5 b5,.slice A6 n6 b6,.string p.name,.string p.domain,u1,u2,u3,.string p.goal.op,.string p.goal.name,u4,u5,u6,u7,vf,.map (some gp),.map (some gg),.map (some go),.slice Aa na ca] 94 (0,0))]/\MapH (·.name) VObj m all k) ⟨0,[],Z0 _,rfl,rfl,rfl,rfl,MapH.zero⟩ Zw Zb ?_;rintro q σ fz' H' ⟨k,m,hk,rfl,rfl,rfl,rfl,hm⟩;refine vC (fun c60=>?_) (fun c60=>?_)
 ·obtain ⟨x,hx⟩:=Yl (l:=all) (k:=k) Zi;refine vI hall hx (fun p1 hp=>?_);refine zL hp ?_;intro cs hcs;obtain ⟨rfl,hR⟩:=YR hcs;refine zWN ?_;intros;refine Wp.drawK (Hq:=[_,_,_,_,_]) T.mixed Zj Zj Zb ?_;refine zW ?_;refine Yf ?_;refine YM ⟨by kernel_rfl,?_⟩;refine Ch.hard0 Zj (Wl T (pre:=[_]) Zz Zz Zz Zz Zz Zz Zz (Zr _) ?_);refine Ch.done ?_;exact vP (h:=by exact ⟨k+1,_,by omega,rfl,rfl,rfl,rfl,hm.add oo hx rfl⟩)
 have hk5:k=all.length:=by omega
 subst hk5;refine zV ?_;exact YaK rfl Zb ⟨rfl,rfl,go,gg,gp,m1,m2,_,rfl,hm1,hm2,hm⟩
end Go.Proofs.YtfjopfinkdhmaaaGreatDoor
