/- The texts PCN, PFr, ShelfJ, PCO, QA, QB, QC, StrC, QD, QE, laid together. Conditions: none. -/
import Derived.Test.YtbdpaoikccabhaaGreatDoorEAI
import Derived.Shelf.Strings.OnBuilder
import Derived.Below
set_option linter.all false
set_option maxHeartbeats 16000000
noncomputable section
set_option maxRecDepth 20000
open Go.Lx Go.RowKit
attribute [local instance 10] Classical.propDecidable
open Go.Proofs.Tryz (prog)
namespace Go.Proofs.YtbdpaoikccabhaaGreatDoor
variable {d:Domain} {fz:FZ} {p:Problem} {v:Value}
def wPre:Bs:=⟨#[58,32,112,114,101,99,111,110,100,105,116,105,111,110]⟩
def wEff:Bs:=⟨#[58,32,101,102,102,101,99,116]⟩
def Yl4:Bs:=⟨#[58,32]⟩
def wAt:Bs:=⟨#[58,32,101,102,102,101,99,116,32,97,116,32]⟩
def YcI:Bs:=⟨#[115,116,97,114,116]⟩
def Ync:Bs:=⟨#[111,118,101,114]⟩
def wEnd:Bs:=⟨#[101,110,100]⟩
abbrev idN:Int->Int:=fun n=>n
def Zer (l:List (Bs × Int)):Prop:=∀ q∈l,q.2=0
theorem Ybt {p:Bs} {e:Int} {l:List (Bs × Int)} (h:e≠0):Y9 idN ((p,e)::l)=(p,e):=by rw [Y9,if_neg h]
theorem Yaw {p:Bs} {e:Int} {l:List (Bs × Int)} (h:e=0):Y9 idN ((p,e)::l)=Y9 idN l:=by rw [Y9,if_pos h]
theorem Yfb:∀ {a r:List (Bs × Int)},Zer a->Y9 idN (a++r)=Y9 idN r
 | [],r,_=>rfl
 | (p,e)::a,r,h=>by rw [List.cons_append,Yaw (h (p,e) (by simp))];exact Yfb (fun q hq=>h q (by simp [hq]))
theorem Yi2 {α:Type} {g:α->List (Bs × Int)} {r:List (Bs × Int)}:∀ {l:List α},(∀ x∈l,Zer (g x))->Y9 idN (l.flatMap g++r)=Y9 idN r
 | [],_=>rfl
 | x::l,h=>by rw [List.flatMap_cons,List.append_assoc,Yfb (h x (by simp))];exact Yi2 (fun y hy=>h y (by simp [hy]))
theorem YlE {α:Type} {g:α->List (Bs × Int)} {r:List (Bs × Int)}:∀ {l:List α} {k:Nat} {x:α},l[k]?=some x->(∀ i,i<k->∀ y,l[i]?=some y->Zer (g y))->∃ r',Y9 idN (l.flatMap g++r)=Y9 idN (g x++r')
 | [],k,x,h,_=>by simp at h
 | y::l,0,x,h,_=>by simp at h;subst h;exact ⟨l.flatMap g++r,by rw [List.flatMap_cons,List.append_assoc]⟩
 | y::l,k+1,x,h,hh=>by
  obtain ⟨r',h'⟩:=YlE (g:=g) (r:=r) (l:=l) (k:=k) (x:=x) (by simpa using h) (fun i hi z hz=>hh (i+1) Zi z (by simpa using hz));exact ⟨r',by rw [List.flatMap_cons,List.append_assoc,Yfb (hh 0 Zi y rfl)];exact h'⟩
def actL (d:Domain) (all:List Param) (a:Action):List (Bs × Int):=[((Ww++a.name)++wPre,formM d all a.params a.pre),((Ww++a.name)++wEff,X9 d all a.params a.changes false)]
def durL (d:Domain) (all:List Param) (a:Durative):List (Bs × Int):=
 [(((XB++a.name)++Yl4)++YcI,YaB d all a.params a.start),(((XB++a.name)++Yl4)++Ync,YaB d all a.params a.over),(((XB++a.name)++Yl4)++wEnd,YaB d all a.params a.fin),
  (((XB++a.name)++wAt)++YcI,X9 d all a.params a.atStart true),(((XB++a.name)++wAt)++wEnd,X9 d all a.params a.atEnd true)]
def YaR (d:Domain) (all:List Param):List (Bs × Int):=d.actions.flatMap (actL d all)++(d.duratives.flatMap (durL d all)++ [])
theorem YkN {A:List Change} {s:Nat} (h:s+(A.map Y7).sum<=1000000000):∀ x∈A,s+Y7 x<=1000000000:=fun x hx=>by have:=Xg (w:=Y7) hx;omega
theorem nm_le {w n:Bs} {m:Nat} (h:n.size<=1000) (hw:w.size<=m):(w++n).size<=m+1000:=by rw [ByteArray.size_append];omega
theorem nm3 {w n c:Bs} (h:n.size<=1000) (hw:w.size<=1000:=by decide) (hc:c.size<=1000:=by decide):((w++n)++c).size<=10000:=by rw [ByteArray.size_append,ByteArray.size_append];omega
theorem YdD {a b:Bs} (h:a.size<=10000) (hb:b.size<=10000):a.size+b.size<=9223372036854775807:=by omega
theorem Yqz {all:List Param} (h:CkG fz v d p all) (hs:NmS d all) (hWa:∀ a∈d.actions,actW a<=1000000000) (hWd:∀ a∈d.duratives,durW a<=1000000000):
 QFn prog 148 [v] fz (resV (Y9 idN (YaR d all))):=by
 have h0:=h;obtain ⟨⟨vf,vpp,vg,vo,hck,hF,hPr,hFu,hO⟩,hw⟩:=h;obtain ⟨gc,v1,v2,v3,v4,v5,v6,u1,u2,u3,u4,u5,u6,u7,Aa,na,ca,rfl,hc,hD,hP,hall⟩:=hck;obtain ⟨A5,n5,b5,rfl,i5⟩:=hD.actions;obtain ⟨A6,n6,b6,rfl,i6⟩:=hD.duratives;have l5:=i5.len;have l6:=i6.len;have s5:=i5.short;have s6:=i6.short;refine qF Tryz.func148 Tryz.ntmps148 (fun w0=>?_);refine zV ?_;refine WD n5 (fun k=>[(22,Zk k),(21,Zk n5),(20,Zc A5 n5 b5),(0,Zp gc)]) [] (fun k=>(∀ i,i<k->∀ x,d.actions[i]?=some x->Zer (actL d all x))) (fun i hi=>absurd hi Zi) ?_;intro k hk hh;refine vC ?_ ?_<;>intro c1
 ·obtain ⟨x,hx⟩:=Yf (l:=d.actions) (k:=k) Zi;have hxm:=Zm hx;have hxs:=hs.a x hxm;have hxw:=hWa x hxm;unfold actW at hxw;obtain ⟨r',hr'⟩:=YlE (r:=d.duratives.flatMap (durL d all)++ []) hx hh;have e1:Y9 idN (YaR d all)=Y9 idN (actL d all x++r'):=hr';refine vI i5 hx (fun p1 hp=>?_);refine zL hp ?_;intro cs hcs;obtain ⟨w1,w2,w3,w4,w5,w6,rfl,hR⟩:=Xd hcs;have hpre:=hR.pre;obtain ⟨Ap,np,cp,rfl,ip⟩:=hR.params;obtain ⟨⟨B0,e0,j0,rfl,_⟩,⟨B1,e1',j1,rfl,_⟩,⟨B2,e2,j2,rfl,_⟩,⟨B3,e3,j3,rfl,_⟩⟩:=hR.pre.sls;obtain ⟨B4,e4,j4,rfl,ic⟩:=hR.changes;have lp:=ip.len;refine zV ?_;intros
  ((refine zG ?_);refine Yh (vs:=[Zy x.pre.op,Zy x.pre.name,Zc B0 e0 j0,Zc B1 e1' j1,Zc B2 e2 j2,Zc B3 e3 j3]) 0 ?_);refine vG ?_;refine Yt (Yjj h0 ip hpre Zi) ?_;by_cases hz:formM d all x.params x.pre=0
  ·rw [hz,show errV 0=.nilIface from rfl];refine vG ?_;refine Yt (Yh7 h0 ip ic (YkN Zi)) ?_;by_cases hy:X9 d all x.params x.changes false=0
   ·rw [hy,show errV 0=.nilIface from rfl];exact vM (h:=by exact YH hh hx (by intro q hq;simp only [actL,List.mem_cons,List.not_mem_nil,or_false] at hq;rcases hq with rfl | rfl<;>first | exact hz | exact hy))
   rw [YD hy];refine vG ?_;refine XX Zz Zz (YdD Zh Zi) ?_;refine vG ?_;refine XX Zz Zz (YdD (Nat.le_trans (nm_le hxs (by decide:_<=1000)) Zh) Zh) ?_;exact vS (h:=by exact (by rw [e1,actL];simp only [List.cons_append];rw [Yaw hz,Ybt hy,resV,YD hy];rfl))
  rw [YD hz];refine vG ?_;refine XX Zz Zz (YdD Zh Zi) ?_;refine vG ?_;refine XX Zz Zz (YdD (Nat.le_trans (nm_le hxs (by decide:_<=1000)) Zh) Zh) ?_;exact vS (h:=by exact (by rw [e1,actL];simp only [List.cons_append];rw [Ybt hz,resV,YD hz];rfl))
 have hza:∀ x∈d.actions,Zer (actL d all x):=Xc hh Zi;have e0:Y9 idN (YaR d all)=Y9 idN (d.duratives.flatMap (durL d all)++ []):=Yi2 hza;refine zV ?_;refine Yn (fun q σ fz' H'=>∃ K:Nat,K<=n6/\q=n6 - K/\σ=[(59,Zk K),(58,Zk n6),(57,Zc A6 n6 b6),(0,Zp gc)]/\Le fz fz'/\H'=[]/\(∀ i,i<K->∀ x,d.duratives[i]?=some x->Zer (durL d all x))) ⟨0,Z0 _,rfl,rfl,Zd,rfl,fun i hi=>absurd hi Zi⟩ Zw Zb ?_;rintro q σ fz1 H' ⟨K,hK,rfl,rfl,hlK,rfl,hhK⟩;have h1:=h0.mono hlK;have hc:=hlK _ _ hc;have i6:=i6.mono hlK;refine vC ?_ ?_<;>intro c2
 ·obtain ⟨x,hx⟩:=Yf (l:=d.duratives) (k:=K) Zi;have hxm:=Zm hx;have hxs:=hs.u x hxm;have hxw:=hWd x hxm;unfold durW at hxw;obtain ⟨r',hr'⟩:=YlE (r:=[]) hx hhK;have E1:Y9 idN (YaR d all)=Y9 idN (durL d all x++r'):=e0.trans hr';refine vI i6 hx (fun p1 hp=>?_);refine zL hp ?_;intro cs hcs;obtain ⟨w0,w1,w2,w3,w4,w5,w6,w7,w8,w9,w10,w11,w12,w13,w14,rfl,hR⟩:=XJ hcs;have hst:=hR.start;have hov:=hR.over;have hfi:=hR.fin;obtain ⟨Ap,np,cp,rfl,ip⟩:=hR.params;obtain ⟨⟨B0,e0,j0,rfl,_⟩,⟨B1,e1,j1,rfl,_⟩,⟨B2,e2,j2,rfl,_⟩,⟨B3,e3,j3,rfl,_⟩⟩:=hR.start.sls;obtain ⟨⟨B4,e4,j4,rfl,_⟩,⟨B5,e5,j5,rfl,_⟩,⟨B6,e6,j6,rfl,_⟩,⟨B7,e7,j7,rfl,_⟩⟩:=hR.over.sls;obtain ⟨⟨B8,e8,j8,rfl,_⟩,⟨B9,e9,j9,rfl,_⟩,⟨B10,e10,j10,rfl,_⟩,⟨B11,e11,j11,rfl,_⟩⟩:=hR.fin.sls;obtain ⟨B12,e12,j12,rfl,i12⟩:=hR.atStart;obtain ⟨B13,e13,j13,rfl,i13⟩:=hR.atEnd;have lp:=ip.len;refine zVX ?_;intros;rename_i g;refine YN (Xe (fun σ fz' H'=>σ=[(9,Zp g),(59,Zk K),(58,Zk n6),(57,Zc A6 n6 b6),(0,Zp gc)]/\Le fz1 fz'/\H'=[(g,Zu #[Zy x.name,Zc Ap np cp,Zk x.duration,Zy x.start.op,Zy x.start.name,Zc B0 e0 j0,Zc B1 e1 j1,Zc B2 e2 j2,Zc B3 e3 j3,Zy x.over.op,Zy x.over.name,Zc B4 e4 j4,Zc B5 e5 j5,Zc B6 e6 j6,Zc B7 e7 j7,Zy x.fin.op,Zy x.fin.name,Zc B8 e8 j8,Zc B9 e9 j9,Zc B10 e10 j10,Zc B11 e11 j11,Zc B12 e12 j12,Zc B13 e13 j13] 102)]/\∀ f∈ [x.start,x.over,x.fin],YaB d all x.params f=0) ?_ ?_)
  ·refine vG ?_;refine Yh (vs:=[Zy x.start.op,Zy x.start.name,Zc B0 e0 j0,Zc B1 e1 j1,Zc B2 e2 j2,Zc B3 e3 j3]) 0 ?_;refine vG ?_;refine Yh (vs:=[Zy x.over.op,Zy x.over.name,Zc B4 e4 j4,Zc B5 e5 j5,Zc B6 e6 j6,Zc B7 e7 j7]) 0 ?_;refine vG ?_;refine Yh (vs:=[Zy x.fin.op,Zy x.fin.name,Zc B8 e8 j8,Zc B9 e9 j9,Zc B10 e10 j10,Zc B11 e11 j11]) 0 ?_;refine zV ?_;refine Yd (Yc (cs:=[Zy x.start.op,Zy x.start.name,Zc B0 e0 j0,Zc B1 e1 j1,Zc B2 e2 j2,Zc B3 e3 j3,Zy x.over.op,Zy x.over.name,Zc B4 e4 j4,Zc B5 e5 j5,Zc B6 e6 j6,Zc B7 e7 j7,Zy x.fin.op,Zy x.fin.name,Zc B8 e8 j8,Zc B9 e9 j9,Zc B10 e10 j10,Zc B11 e11 j11]) (fun gb=>?_));refine zW ?_
   first | refine Wp.freeze Zz (fun fz2 hl2 hb2=>?_) | refine Seq.freeze Zz (fun fz2 hl2 hb2=>?_)
   have hL3:Sl formulaL fz2 (some ⟨gb,0,none⟩) 3 3 [x.start,x.over,x.fin]:=XC hb2 (ys:=[(x.start,[Zy x.start.op,Zy x.start.name,Zc B0 e0 j0,Zc B1 e1 j1,Zc B2 e2 j2,Zc B3 e3 j3]),(x.over,[Zy x.over.op,Zy x.over.name,Zc B4 e4 j4,Zc B5 e5 j5,Zc B6 e6 j6,Zc B7 e7 j7]),(x.fin,[Zy x.fin.op,Zy x.fin.name,Zc B8 e8 j8,Zc B9 e9 j9,Zc B10 e10 j10,Zc B11 e11 j11])]) rfl rfl (by
    intro q hq;simp only [List.mem_cons,List.not_mem_nil,or_false] at hq;rcases hq with rfl | rfl | rfl
    ·exact YV (hst.mono hl2)
    ·exact YV (hov.mono hl2)
    exact YV (hfi.mono hl2)) rfl Zh
   have h2:=h1.mono hl2;have ip2:=ip.mono hl2;have hcg:=hl2 _ _ hc;refine zV ?_;refine Yn (fun q σ fz' H'=>∃ k:Nat,k<=3/\q=3 - k/\σ=[(71,Zk k),(70,Zk 3),(69,Zv gb 3 3),(9,Zp g),(59,Zk K),(58,Zk n6),(57,Zc A6 n6 b6),(0,Zp gc)]/\fz2=fz'/\H'=[(g,Zu #[Zy x.name,Zc Ap np cp,Zk x.duration,Zy x.start.op,Zy x.start.name,Zc B0 e0 j0,Zc B1 e1 j1,Zc B2 e2 j2,Zc B3 e3 j3,Zy x.over.op,Zy x.over.name,Zc B4 e4 j4,Zc B5 e5 j5,Zc B6 e6 j6,Zc B7 e7 j7,Zy x.fin.op,Zy x.fin.name,Zc B8 e8 j8,Zc B9 e9 j9,Zc B10 e10 j10,Zc B11 e11 j11,Zc B12 e12 j12,Zc B13 e13 j13] 102)]/\(∀ i,i<k->∀ f,[x.start,x.over,x.fin][i]?=some f->YaB d all x.params f=0)) ⟨0,Z0 _,rfl,rfl,rfl,rfl,fun i hi=>absurd hi Zi⟩ Zw Zb ?_;rintro q σ fz' H' ⟨k,hk,rfl,rfl,rfl,rfl,hh3⟩;refine vC ?_ ?_<;>intro c3
   ·obtain ⟨f,hf⟩:=Yf (l:=[x.start,x.over,x.fin]) (k:=k) (by show k<3;omega);have hfw:np+fW f<=1000000000:=by
     have:=Zm hf;simp only [List.mem_cons,List.not_mem_nil,or_false] at this;rcases this with rfl | rfl | rfl<;>omega
    obtain ⟨wn,hwn⟩:=Yf (l:=[YcI,Ync,wEnd]) (k:=k) (by show k<3;omega);have hwl:wn.size<=10:=by
     have:=Zm hwn;simp only [List.mem_cons,List.not_mem_nil,or_false] at this;rcases this with rfl | rfl | rfl<;>decide
    have hwv:([Zy YcI,Zy Ync,Zy wEnd]:List Value)[k]?=some (Zy wn):=by
     have:([Zy YcI,Zy Ync,Zy wEnd]:List Value)=[YcI,Ync,wEnd].map Value.string:=rfl;rw [this,List.getElem?_map,hwn];rfl
    refine vI hL3 hf (fun p3 hp3=>?_);refine zL hp3 ?_;intro cs hcs;obtain ⟨wa,wp,we,wk,rfl,hRf⟩:=Yu hcs;obtain ⟨⟨E1',r1,q1,rfl,_⟩,⟨E2,r2,q2,rfl,_⟩,⟨E3,r3,q3,rfl,_⟩,⟨E4,r4,q4,rfl,_⟩⟩:=hRf.sls;refine zV ?_;intros;refine zc (Yg8 h2 ip2 hRf hfw) ?_;by_cases hz:YaB d all x.params f=0
    ·rw [hz,show errV 0=.nilIface from rfl];exact vM (h:=by exact YH hh3 hf hz)
    rw [YD hz];refine zV ?_;refine Y6 [_,_] ?_;refine wG ?_;refine XX Zz Zz (YdD Zh Zi) ?_;refine wG ?_;refine XX Zz Zz (YdD (Nat.le_trans (nm_le hxs (by decide:_<=1000)) Zh) Zh) ?_;refine Yl ?_;refine zW ?_;refine Yl (Yl (Yl ?_));refine zW ?_;refine pU ?_;refine Yg (Yc (cs:=[Zy YcI,Zy Ync,Zy wEnd]) (fun gn=>⟨⟨Zd,Zx⟩,?_⟩));refine Ch.qk ⟨Zd,Zx⟩ (XE T Zz Zz Zz Zz Zz Zz Zi Zi ?_);refine Ch.qk ⟨Zd,Zx⟩ (Yw 0 ?_ (hv:=by rw [Int.toNat_natCast];exact hwv));refine Ch.qk ⟨Zd,Zx⟩ (XX Zz Zz (YdD (nm3 hxs) Zi) ?_);refine Ch.qk ⟨Zd,Zx⟩ (YR ?_);refine Ch.qk ⟨Zd,Zx⟩ (YR ?_);refine Ch.done ?_;refine zV ?_;refine ret2 rfl rfl rfl Zb ?_;have e2:Y9 idN (durL d all x++r')=(((XB++x.name)++Yl4)++wn,YaB d all x.params f):=by
     rw [durL];simp only [List.cons_append];obtain rfl | rfl | rfl:k=0\/k=1\/k=2:=by omega
     ·simp at hf hwn;subst hf;subst hwn;rw [Ybt hz]
     ·simp at hf hwn;subst hf;subst hwn;rw [Yaw (hh3 0 Zi _ rfl),Ybt hz]
     simp at hf hwn;subst hf;subst hwn;rw [Yaw (hh3 0 Zi _ rfl),Yaw (hh3 1 Zi _ rfl),Ybt hz]
    rw [E1,e2,resV,YD hz];rfl
   have hA:=Xc hh3 (by show 3<=k;omega);exact vN (h:=by exact ⟨rfl,hl2,rfl,hA⟩)
  rintro σ fz2 H' ⟨rfl,hl2,rfl,hA⟩;have h2:=h1.mono hl2;have ip2:=ip.mono hl2;have hcg:=hl2 _ _ hc;have z1:YaB d all x.params x.start=0:=hA _ (by simp);have z2:YaB d all x.params x.over=0:=hA _ (by simp);have z3:YaB d all x.params x.fin=0:=hA _ (by simp);refine zV ?_;refine Yd (Yc (cs:=[Zc B12 e12 j12,Zc B13 e13 j13]) (fun gl=>?_));refine zW ?_;refine Yn (fun q σ fz' H'=>∃ k:Nat,k<=2/\q=2 - k/\σ=[(100,Zk k),(99,Zk 2),(98,Zv gl 2 2),(9,Zp g),(59,Zk K),(58,Zk n6),(57,Zc A6 n6 b6),(0,Zp gc)]/\fz2=fz'/\H'=[(gl,Zu #[Zc B12 e12 j12,Zc B13 e13 j13] 65),(g,Zu #[Zy x.name,Zc Ap np cp,Zk x.duration,Zy x.start.op,Zy x.start.name,Zc B0 e0 j0,Zc B1 e1 j1,Zc B2 e2 j2,Zc B3 e3 j3,Zy x.over.op,Zy x.over.name,Zc B4 e4 j4,Zc B5 e5 j5,Zc B6 e6 j6,Zc B7 e7 j7,Zy x.fin.op,Zy x.fin.name,Zc B8 e8 j8,Zc B9 e9 j9,Zc B10 e10 j10,Zc B11 e11 j11,Zc B12 e12 j12,Zc B13 e13 j13] 102)]/\(∀ i,i<k->∀ l,[x.atStart,x.atEnd][i]?=some l->X9 d all x.params l true=0)) ⟨0,Z0 _,rfl,rfl,rfl,rfl,fun i hi=>absurd hi Zi⟩ Zw Zb ?_;rintro q σ fz' H' ⟨k,hk,rfl,rfl,rfl,rfl,hh2⟩;refine vC ?_ ?_<;>intro c3
  ·obtain ⟨l,hl⟩:=Yf (l:=[x.atStart,x.atEnd]) (k:=k) (by show k<2;omega);have hlw:np+(l.map Y7).sum<=1000000000:=by
    have:=Zm hl;simp only [List.mem_cons,List.not_mem_nil,or_false] at this;rcases this with rfl | rfl<;>omega
   obtain ⟨wn,hwn⟩:=Yf (l:=[YcI,wEnd]) (k:=k) (by show k<2;omega);have hwl:wn.size<=10:=by
    have:=Zm hwn;simp only [List.mem_cons,List.not_mem_nil,or_false] at this;rcases this with rfl | rfl<;>decide
   have hwv:([Zy YcI,Zy wEnd]:List Value)[k]?=some (Zy wn):=by
    have:([Zy YcI,Zy wEnd]:List Value)=[YcI,wEnd].map Value.string:=rfl;rw [this,List.getElem?_map,hwn];rfl
   obtain ⟨Bl,nl,cl,hlv,il⟩:∃ Bl nl cl,([Zc B12 e12 j12,Zc B13 e13 j13]:List Value)[k]?=some (Zc Bl nl cl)/\Sl changeL fz2 Bl nl cl l:=by
    obtain rfl | rfl:k=0\/k=1:=by omega
    ·simp at hl;subst hl;exact ⟨_,_,_,rfl,i12.mono hl2⟩
    simp at hl;subst hl;exact ⟨_,_,_,rfl,i13.mono hl2⟩
   refine vG ?_;refine XE T Zz Zz Zz Zz Zz Zz Zi Zi ?_;rw [Int.toNat_natCast];refine zG ?_;refine Yw 0 ?_ (hv:=hlv);refine vc (Yh7 h2 ip2 il (YkN hlw)) ?_;by_cases hz:X9 d all x.params l true=0
   ·rw [hz,show errV 0=.nilIface from rfl];exact vM (h:=by exact YH hh2 hl hz)
   rw [YD hz];refine zV ?_;refine Y6 [_,_] ?_;refine wG ?_;refine XX Zz Zz (YdD Zh Zi) ?_;refine wG ?_;refine XX Zz Zz (YdD (Nat.le_trans (nm_le hxs (by decide:_<=1000)) Zh) Zh) ?_;refine Yl ?_;refine zW ?_;refine Yl (Yl (Yl ?_));refine zW ?_;refine pU ?_;refine Yg (Yc (cs:=[Zy YcI,Zy wEnd]) (fun gn=>⟨⟨Zd,Zx⟩,?_⟩));refine Ch.qk ⟨Zd,Zx⟩ (XE T Zz Zz Zz Zz Zz Zz Zi Zi ?_);refine Ch.qk ⟨Zd,Zx⟩ (Yw 0 ?_ (hv:=by rw [Int.toNat_natCast];exact hwv));refine Ch.qk ⟨Zd,Zx⟩ (XX Zz Zz (YdD (nm3 hxs) Zi) ?_);refine Ch.qk ⟨Zd,Zx⟩ (YR ?_);refine Ch.qk ⟨Zd,Zx⟩ (YR ?_);refine Ch.done ?_;refine zV ?_;refine ret2 rfl rfl rfl Zb ?_;have e2:Y9 idN (durL d all x++r')=(((XB++x.name)++wAt)++wn,X9 d all x.params l true):=by
    rw [durL];simp only [List.cons_append];rw [Yaw z1,Yaw z2,Yaw z3];obtain rfl | rfl:k=0\/k=1:=by omega
    ·simp at hl hwn;subst hl;subst hwn;rw [Ybt hz]
    simp at hl hwn;subst hl;subst hwn;rw [Yaw (hh2 0 Zi _ rfl),Ybt hz]
   rw [E1,e2,resV,YD hz];rfl
  have hB:=Xc hh2 (by show 2<=k;omega);have y1:X9 d all x.params x.atStart true=0:=hB _ (by simp);have y2:X9 d all x.params x.atEnd true=0:=hB _ (by simp);exact vP (h:=by exact ⟨K+1,by omega,rfl,rfl,hlK.trans hl2,rfl,YH hhK hx (by intro q hq;simp only [durL,List.mem_cons,List.not_mem_nil,or_false] at hq;rcases hq with rfl | rfl | rfl | rfl | rfl<;>first | exact z1 | exact z2 | exact z3 | exact y1 | exact y2)⟩)
 have hzd:∀ x∈d.duratives,Zer (durL d all x):=Xc hhK Zi;exact vS (h:=by exact (by rw [e0,Yi2 hzd];rfl))
end Go.Proofs.YtbdpaoikccabhaaGreatDoor
namespace Go.Proofs.YtbdpaoikccabhaaGreatDoor
variable {w':World}
theorem fr_below {w:World} (h:Below w.heap.size w w'):Fr [] w w':=⟨h.os,h.tape,h.output,h.size,fun b hb _=>h.block b hb,fun h=>h.elim⟩
end Go.Proofs.YtbdpaoikccabhaaGreatDoor
namespace Go.Proofs
open Go.Shelf
def YcM:Go.Shelf.Ren:=⟨fun | 156=>252 | 165=>268 | 166=>269 | 169=>270 | 240=>279 | 241=>280 | 276=>288 | 277=>289 | n=>n,fun | 31=>31 | 9=>9 | 3=>3 | 4=>4 | 0=>0 | 20=>20 | 72=>329 | 76=>331 | 70=>327 | 37=>321 | 75=>43 | 127=>338 | 164=>341 | 5=>5 | 80=>333 | n=>n,fun | n=>n⟩
theorem YfF:Go.Proofs.Lays.n156 Tryz.prog YcM:={
 mixed:=by kernel_rfl
 f156:=Tryz.func252.trans (congrArg some (by kernel_rfl))
 f165:=Tryz.func268.trans (congrArg some (by kernel_rfl))
 f166:=Tryz.func269.trans (congrArg some (by kernel_rfl))
 f169:=Tryz.func270.trans (congrArg some (by kernel_rfl))
 f240:=Tryz.func279.trans (congrArg some (by kernel_rfl))
 f241:=Tryz.func280.trans (congrArg some (by kernel_rfl))
 f276:=Tryz.func288.trans (congrArg some (by kernel_rfl))
 f277:=Tryz.func289.trans (congrArg some (by kernel_rfl))
 t0:=Tryz.underlying0
 a0:=Tryz.isAgg0
 z0:=Tryz.sizeOf0
 v0:=Tryz.zeroValue0
 t3:=Tryz.underlying3
 a3:=Tryz.isAgg3
 z3:=Tryz.sizeOf3
 v3:=Tryz.zeroValue3
 t4:=Tryz.underlying4
 a4:=Tryz.isAgg4
 z4:=Tryz.sizeOf4
 v4:=Tryz.zeroValue4
 t9:=Tryz.underlying9
 a9:=Tryz.isAgg9
 z9:=Tryz.sizeOf9
 v9:=Tryz.zeroValue9
 t20:=Tryz.underlying20
 a20:=Tryz.isAgg20
 z20:=Tryz.sizeOf20
 v20:=Tryz.zeroValue20
 t31:=Tryz.underlying31
 a31:=Tryz.isAgg31
 z31:=Tryz.sizeOf31
 v31:=Tryz.zeroValue31
 t37:=Tryz.underlying321
 a37:=Tryz.isAgg321
 z37:=Tryz.sizeOf321
 v37:=Tryz.zeroValue321
 t70:=Tryz.underlying327
 a70:=Tryz.isAgg327
 z70:=Tryz.sizeOf327
 v70:=Tryz.zeroValue327
 t72:=Tryz.underlying329
 a72:=Tryz.isAgg329
 z72:=Tryz.sizeOf329
 v72:=Tryz.zeroValue329
 t75:=Tryz.underlying43
 a75:=Tryz.isAgg43
 z75:=Tryz.sizeOf43
 v75:=Tryz.zeroValue43
 t76:=Tryz.underlying331
 a76:=Tryz.isAgg331
 z76:=Tryz.sizeOf331
 v76:=Tryz.zeroValue331
 t127:=Tryz.underlying338
 a127:=Tryz.isAgg338
 z127:=Tryz.sizeOf338
 v127:=Tryz.zeroValue338
 t164:=Tryz.underlying341
 a164:=Tryz.isAgg341
 z164:=Tryz.sizeOf341
 v164:=Tryz.zeroValue341}
theorem YaE:Builder.Extra Tryz.prog YcM:={
 sizeBuilder:=by kernel_rfl
 liesBuilder:=by kernel_rfl
 t5:=Tryz.underlying5
 a5:=Tryz.isAgg5
 z5:=Tryz.sizeOf5
 v5:=Tryz.zeroValue5
 infoByte:=by kernel_rfl
 cellsByte:=by kernel_rfl
 sizeByte:=by kernel_rfl
 neB5:=by decide}
open Go.RowKit in
/-- No element: the empty string; the world is as1 it was. (Whatever the slice's address and capacity: a nil slice too.) (LAID: no walk: one application.) -/
theorem Tryz.strings_Join_none (a:Option Addr) (c:Nat) (sep:ByteArray) (w:World):
 Calls Tryz.prog 252 #[.slice a 0 c,.string sep] w fun e w'=>e=.returned (.string ⟨#[]⟩)/\w'=w:=Any.strings_Join_none YfF YaE a c sep w
open Go.RowKit in
/-- strings.Join: "Join concatenates the elements of its first argument to create a single string. The separator string sep is placed between elements in the resulting string.": HOWEVER MANY ELEMENTS. Below the heap's end the world is as1 it was. (LAID: no walk: one application.) -/
theorem Tryz.strings_Join (bk o c:Nat) (xs:List ByteArray) (sep:ByteArray) (w:World) (hcells:∀ (j:Nat) x,xs[j]?=some x->w.cell? ⟨bk,o+j,none⟩=some (.string x)) (hbk:bk<w.heap.size) (hN:xs.length<=140737488355328) (hcap:xs.length<=c) (hlen:(Lib.join (xs.map (·.data.toList)) sep.data.toList).length<=140737488355328):
 Calls Tryz.prog 252 #[.slice (some ⟨bk,o,none⟩) xs.length c,.string sep] w fun e w'=>e=.returned (.string ⟨(Lib.join (xs.map (·.data.toList)) sep.data.toList).toArray⟩)/\Below w.heap.size w w':=Any.strings_Join YfF YaE bk o c xs sep w hcells hbk hN hcap hlen
end Go.Proofs
namespace Go.Proofs.YtbdpaoikccabhaaGreatDoor
variable {A B:Option Addr} {c n i k:Nat} {fz fz':FZ} {s:Bs} {a:Atom} {va v:Value} {m:List (Bs × Value)} {S:List Atom}
theorem joinS_q {l:List Bs} (h:Sl strL fz A n c l) (hlen:(Lib.join (l.map (·.data.toList)) [32]).length<=1000000000):
 QFn prog 252 [Zc A n c,Zy ⟨#[32]⟩] fz (Zy (strOf (Lib.join (l.map (·.data.toList)) [32]))):=by
 unfold QFn;refine ⟨⟨_,Tryz.func252,by decide,by decide⟩,fun w hw=>?_⟩;have h1:=h.len;have h2:=h.cap;have h3:=h.short;cases l with
 | nil=>
  simp at h1;subst h1;refine (Tryz.strings_Join_none A c ⟨#[32]⟩ w).mono fun e w' ⟨he,hb⟩=>⟨?_,by subst hb;exact Fr.refl _ _⟩
  rw [he];rfl
 | cons x r=>
  rcases h.elem with h0 | ⟨ad,rfl,hE⟩
  ·rw [h0] at h1;simp at h1
  have hc:∀ (j:Nat) y,(x::r)[j]?=some y->Ycd fz (ad.add j)=some (Zy y):=fun j y hy=>by
   have h4:=hE j y hy;rw [show strL.size=1 from rfl,Nat.mul_one] at h4;obtain ⟨v,hv,hcell⟩:=h4.cell rfl;obtain ⟨e,_⟩:=hv;simp at e;rw [hcell,e]
  have hc0:=hc 0 x rfl;have ha0:ad.add 0=ad:=by unfold Addr.add;rw [if_pos rfl]
  rw [ha0] at hc0;obtain ⟨g,off,sp⟩:=ad;cases sp with
  | some s=>
   unfold Ycd at hc0;split at hc0
   ·simp at hc0
   cases hc0
  | none=>
   have hcells:∀ (j:Nat) y,(x::r)[j]?=some y->w.cell? ⟨g,off+j,none⟩=some (Zy y):=fun j y hy=>by
    rw [<- YlU];exact hw.cell (hc j y hy)
   have hg:g<w.heap.size:=by
    have h9:=hcells 0 x rfl;simp only [World.cell?] at h9;split at h9
    ·rename_i hq;exact (Array.getElem?_eq_some_iff.1 hq).1
    cases h9
   have:=Tryz.strings_Join g off c (x::r) ⟨#[32]⟩ w hcells hg Zi Zi (Nat.le_trans hlen Zh);rw [h1] at this;exact this.mono fun e w' ⟨he,hb⟩=>⟨he,fr_below hb⟩
def YoA (name:Bs) (args:List Bs):Bs:=(name++⟨#[32]⟩)++strOf (Lib.join (args.map (·.data.toList)) [32])
def NmsS (l:List Bs):Prop:=l.length<=64/\∀ x∈l,x.size<=1000
theorem jt_len:∀ (l:List (List UInt8)),(∀ x∈l,x.length<=1000)->(Lib.joinTail [32] l).length<=l.length*1001
 | [],_=>by simp [Lib.joinTail]
 | x::r,h=>by
  have h1:=h x (by simp);have h2:=jt_len r (fun z hz=>h z (by simp [hz]));have h3:Lib.joinTail [32] (x::r)=([32]++x)++Lib.joinTail [32] r:=by simp [Lib.joinTail]
  rw [h3,List.length_append,List.length_append];simp only [List.length_cons,List.length_nil];omega
theorem Ypz (l:List (List UInt8)) (h:∀ x∈l,x.length<=1000):(Lib.join l [32]).length<=l.length*1001:=by
 cases l with
 | nil=>simp [Lib.join_nil]
 | cons x r=>
  have h1:=h x (by simp);have h2:=jt_len r (fun z hz=>h z (by simp [hz]));rw [Lib.join_cons,List.length_append];simp only [List.length_cons];omega
theorem text_len {args:List Bs} (h:NmsS args):(Lib.join (args.map (·.data.toList)) [32]).length<=100000:=by
 have h1:=Ypz (args.map (·.data.toList)) (fun x hx=>by obtain ⟨y,hy,rfl⟩:=List.mem_map.1 hx;exact h.2 y hy);rw [List.length_map] at h1;have:=h.1;omega
theorem Yoz {name:Bs} {args:List Bs} (h:Sl strL fz A n c args) (hn:name.size<=1000) (ha:NmsS args):
 QFn prog 211 [Zy name,Zc A n c] fz (Zy (YoA name args)):=by
 have ht:=text_len ha;refine qF Tryz.func211 Tryz.ntmps211 (fun w0=>?_);refine vG ?_;refine XX Zz Zz (by show _+1<=_;omega) ?_;refine vG ?_;refine Yt (joinS_q h Zi) ?_;refine vG ?_;refine XX Zz Zz (by rw [ByteArray.size_append,YaG];show _+1+_<=_;omega) ?_;exact vR (h:=rfl)
def Yfn (tys all:List Param) (ks:List Bs) (name:Bs):List Param->List Bs->Prop
 | [],args=>YoA name args ∉ ks
 | p::r,args=>∃ x∈ofT tys p.typ all,Yfn tys all ks name r (args++ [x])
theorem of_mem {tys all:List Param} {t x:Bs} (h:x∈ofT tys t all) (ha:∀ o∈all,o.name.size<=1000):x.size<=1000:=by
 unfold ofT at h;obtain ⟨o,ho,rfl⟩:=List.mem_map.1 h;exact ha o (List.mem_filter.1 ho).1
theorem YnT {l:List Bs} (h:Sl strL fz A n c l) (hn:n<=1000000000):
 GFn prog 32 [Zc A n c] fz [] (fun v fz' H'=>Grow strL 9 fz' v n H' l):=by
 have l1:=h.len;refine zF Tryz.func32 Tryz.ntmps32 (fun w0=>?_);refine vG ?_;refine WZ (fun eA=>?_) (fun eA=>?_)
 ·subst eA;have hl:l=[]:=by
   rcases h.elem with h0 | ⟨_,h0,_⟩
   ·exact List.eq_nil_of_length_eq_zero Zi
   cases h0
  subst hl;simp at l1;subst l1;refine zV ?_;refine Yd5 (H':=[]) (H2:=[]) rfl rfl (Zr _) (fun fz3 hle3 _=>Grow.nil _ _ _)
 refine zV ?_;refine Yd (Yas (fun gb=>?_));refine zV ?_;refine Yd (XW T (Hr:=[]) (n:=0) (l:=[]) Zz Zz Zz Zz Zz Zz Zz Zz (Zr _) (Grow.block (ys:=[]) rfl rfl (by intro p hp;cases hp) rfl) WY h (by show _*16<=_;omega) Zi (fun v' Hs' hO'=>?_));obtain ⟨Av',cv',rfl,_,_⟩:=hO'.form;refine zV ?_;refine Yd5 (H':=Hs') (H2:=[]) rfl rfl (by simp) (fun fz3 hle3 _=>(hO'.mono hle3).of (by simp) Zi)
theorem Ykb:∀ (ps:List Param) {fz:FZ} {v:Value} {d:Domain} {p:Problem} {all params:List Param} {gm:Nat} {m:List (Bs × Value)} {ks args:List Bs} {name:Bs} {A B:Option Addr} {na ca n c:Nat},CkG fz v d p all->fz gm=some (mapS m)->YdV m ks->Sl paramL fz B n c params->Sl strL fz A na ca args->params.drop na=ps->na<=n->n<=64->name.size<=1000->NmsS args->(∀ x∈all,x.name.size<=1000)->all.length<=1000000000->
 QFn prog 212 [v,.map (some gm),Zy name,Zc B n c,Zc A na ca] fz (Zo (decide (Yfn d.types all ks name ps args)))
 | ps,fz,v,d,p,all,params,gm,m,ks,args,name,A,B,na,ca,n,c,h,hgm,hks,h1,h2,hps,hnn,h64,hnm,hag,hal,hall0=>by
  have h0:=h;obtain ⟨⟨vf,vpp,vg,vo,hck,hF,hPr,hFu,hO⟩,hw⟩:=h;obtain ⟨gc,w1,w2,w3,w4,w5,w6,u1,u2,u3,u4,u5,u6,u7,Aa,nl,cl,rfl,hc,hD,hP,hall⟩:=hck;have l1:=h1.len;have l2:=h2.len;have ll:=hall.len;refine qF Tryz.func212 Tryz.ntmps212 (fun w0=>?_);refine vC ?_ ?_<;>intro c1
  ·have hnil:ps=[]:=by rw [<- hps,List.drop_eq_nil_of_le Zi]
   subst hnil;refine vc (Yoz h2 hnm hag) ?_;refine vG ?_;refine WU (v:=Zo (decide (YoA name args∈ks))) hgm ?_ (hv:=hks.get);refine zV ?_
   (exact ret1 rfl rfl Zb (by
    by_cases h9:YoA name args∈ks
    ·rw [decide_eq_true h9,decide_eq_false (fun h8:Yfn d.types all ks name [] args=>h8 h9)];rfl
    rw [decide_eq_false h9,decide_eq_true (show Yfn d.types all ks name [] args from h9)];rfl))
  obtain ⟨x,hx⟩:=Yf (l:=params) (k:=na) Zi;obtain ⟨r,hr⟩:∃ r,ps=x::r:=⟨params.drop (na+1),by rw [<- hps];exact List.drop_eq_getElem_cons Zi |>.trans (by rw [(Zg hx).2])⟩;have hr2:params.drop (na+1)=r:=by
   have h9:params.drop na=x::r:=by rw [hps,hr]
   rw [<- List.drop_drop,h9];rfl
  rw [hr];refine zWN ?_;refine Y6 [] ?_;refine wI h1 hx (fun p1 hp1=>?_);refine wH hp1.Param_typ (fun hxs=>?_);refine Yl (Yl ?_);refine zW ?_;refine QK.dz ?_;refine Yg (Yk [] [] Zz (of_q hF hw hall Zi) (fun v6 fz6 H6 hle6 hR6=>⟨⟨hle6,by intro p hp;cases hp⟩,?_⟩));obtain ⟨rfl,B2,m2,c2,rfl,hof⟩:=hR6;refine Ch.qk ⟨hle6,by intro p hp;cases hp⟩ (XD ?_);refine Ch.done ?_;have lo:=hof.len;have so:=hof.short;refine zV ?_;refine Yn (fun q σ fz' H'=>∃ k:Nat,k<=m2/\q=m2 - k/\σ=[(40,Zk k),(39,Zk m2),(38,Zc B2 m2 c2),(0,Zp gc),(1,.map (some gm)),(2,Zy name),(3,Zc B n c),(4,Zc A na ca)]/\Le fz6 fz'/\H'=[]/\(∀ i,i<k->∀ y,(ofT d.types x.typ all)[i]?=some y->¬Yfn d.types all ks name r (args++ [y]))) ⟨0,Z0 _,rfl,rfl,Zd,rfl,fun i hi=>absurd hi Zi⟩ Zw Zb ?_;rintro q σ fz1 H' ⟨k,hk,rfl,rfl,hl1,rfl,hh⟩;have hle:=hle6.trans hl1;refine vC ?_ ?_<;>intro c2
  ·obtain ⟨y,hy⟩:=Yf (l:=ofT d.types x.typ all) (k:=k) Zi;have hof1:=hof.mono hl1;have h21:=h2.mono hle;have hag':NmsS (args++ [y]):=⟨by rw [List.length_append];simp;omega,fun z hz=>by
    rcases List.mem_append.1 hz with hz | hz
    ·exact hag.2 z hz
    simp at hz;subst hz;exact of_mem (Zm hy) hal⟩
   refine vI hof1 hy (fun p2 hp2=>?_);refine zH hp2 (fun hys=>?_);refine zV ?_;refine Yd (Yk [] [] Zz (YnT h21 Zi) (fun v7 fz7 H7 hle7 hR7=>?_));obtain ⟨Av,cv,rfl,_,_⟩:=hR7.form;have hR8:Grow strL 9 fz7 (Zc Av na cv) na (H7++ []) args:=by rw [List.append_nil];exact hR7
   refine zV ?_;refine Yd (Yc (cs:=[Zy y]) (fun gb=>?_));refine Yd (YG (Hr:=[_]) (n:=na) (d:=y) (Zr _) hR8 WY (.head _) ⟨rfl,hys⟩ (fun v' Hs' hO'=>?_));obtain ⟨Av',cv',rfl,_,_⟩:=hO'.form;refine Seq.freezeAll (H1:=[]) (Zr _) (fun fz8 hle8 hf8=>?_);obtain ⟨A8,c8,e8,h8⟩:=hO'.sl hle8 (fun q hq=>hf8 q (by simp [hq])) Zi;injection e8 with e81 e82 e83
   subst e81;subst e83;have hle9:=hle.trans (hle7.trans hle8)
   ((refine zG ?_);refine XS (Ykb r (h0.mono hle9) (hle9 _ _ hgm) hks (h1.mono hle9) h8 hr2 Zi h64 hnm hag' hal hall0) (fun f1=>?_) (fun f1=>?_))
   ·exact vR (h:=by exact Ys (by rw [Yfn];exact ⟨y,Zm hy,Zt f1⟩))
   exact vP (h:=by exact ⟨k+1,by omega,rfl,rfl,hl1.trans (hle7.trans hle8),rfl,YH (p:=fun y=>¬Yfn d.types all ks name r (args++ [y])) hh hy (Zf f1)⟩)
  have hA:=Xc (p:=fun y=>¬Yfn d.types all ks name r (args++ [y])) hh Zi;exact vR (h:=by exact Yj (by rw [Yfn];rintro ⟨y,hy,h9⟩;exact hA y hy h9))
 termination_by ps=>ps.length
 decreasing_by rw [hr];simp
def AtmOk (a:Atom):Prop:=PlnS a.name/\a.args.length<=2000000/\∀ s∈a.args,PlnS s
def keyB (a:Atom):Bs:=a.args.foldl (fun o s=>o++Yao s) (Yao a.name)
theorem YdK:(Yao s).size=s.size+2:=by
 unfold Yao Yb3;rw [YaG,List.length_cons,List.length_append,Array.length_toList];rfl
theorem fold_size:∀ (l:List Bs) (o:Bs),(∀ s∈l,s.size<=1000)->(l.foldl (fun o s=>o++Yao s) o).size<=o.size+l.length*1002
 | [],o,_=>by simp
 | s::l,o,h=>by
  have h1:=h s (by simp);have h2:=fold_size l (o++Yao s) (fun t ht=>h t (by simp [ht]));rw [List.foldl_cons];rw [ByteArray.size_append,YdK] at h2;simp only [List.length_cons];omega
theorem Yki (h:AtomR fz a va) (ho:AtmOk a):QFn prog 84 [.agg #[Zy a.name,va]] fz (Zy (keyB a)):=by
 obtain ⟨h1,h2,h3⟩:=ho;obtain ⟨A,n,c,rfl,ia⟩:=h.args;have l1:=ia.len;refine qF Tryz.func84 Tryz.ntmps84 (fun w0=>?_);refine pX (fun g0=>?_);refine wc (YoT h1) ?_;refine zW ?_;refine Yn (fun q σ fz' H'=>∃ k:Nat,k<=n/\q=n - k/\σ=[(12,Zk k),(11,Zk n),(10,Zc A n c),(3,Zy ((a.args.take k).foldl (fun o s=>o++Yao s) (Yao a.name)))]/\fz=fz'/\H'=[]) ⟨0,Z0 _,rfl,rfl,rfl,rfl⟩ Zw Zb ?_;rintro q σ fz' H' ⟨k,hk,rfl,rfl,rfl,rfl⟩;refine wC ?_ ?_<;>intro c1
 ·obtain ⟨x,hx⟩:=Yf (l:=a.args) (k:=k) Zi;have hxp:=h3 x (Zm hx);refine wI ia hx (fun p1 hp1=>?_);refine zH hp1 (fun hs1=>?_);refine wc (YoT hxp) ?_;refine zW ?_;have hsz:=fold_size (a.args.take k) (Yao a.name) (fun s hs=>(h3 s (List.mem_of_mem_take hs)).1);have hq1:=YdK (s:=a.name);have hq2:=YdK (s:=x);have hn1:=h1.1;have hn2:=hxp.1;have hlt:(a.args.take k).length<=2000000:=Nat.le_trans (List.length_take_le _ _) Zi;refine zG ?_;refine XX Zz Zz (Nat.le_trans (Nat.add_le_add hsz (Nat.le_of_eq hq2)) Zi) ?_;rw [show (a.args.take k).foldl (fun o s=>o++Yao s) (Yao a.name)++Yao x=(a.args.take (k+1)).foldl (fun o s=>o++Yao s) (Yao a.name) from by rw [List.take_add_one,hx,List.foldl_append];rfl];exact wP (h:=by exact ⟨k+1,by omega,rfl,rfl,rfl,rfl⟩)
 rw [Zl Zi];exact wR (h:=rfl)
def KeyN (m:List (Bs × Value)):Prop:=(m.map Prod.fst).Nodup
theorem KeyN.nil:KeyN []:=List.nodup_nil
theorem YlC {x:Bs}:(fndS m x 0).isSome=true↔x∈m.map Prod.fst:=by
 constructor
 ·intro h;obtain ⟨p,hp⟩:=Option.isSome_iff_exists.1 h;have:=(Yau m x 0 p.1 p.2 hp).2;exact List.mem_map.2 ⟨(x,p.2),Zm this,rfl⟩
 intro h;cases hf:fndS m x 0 with
 | some p=>rfl
 | none=>
  obtain ⟨p,hp,e⟩:=List.mem_map.1 h;exact absurd e (YgW m x 0 hf p hp)
theorem set_self {α:Type}:∀ {l:List α} {i:Nat} {x:α},l[i]?=some x->l.set i x=l
 | [],i,x,h=>by simp at h
 | y::l,0,x,h=>by simp at h;subst h;rfl
 | y::l,i+1,x,h=>by rw [List.set_cons_succ,set_self (by simpa using h)]
theorem KeyN.upd (h:KeyN m) (x:Bs) (v:Value):KeyN (updS m x v):=by
 unfold updS;cases hf:fndS m x 0 with
 | none=>
  show KeyN (m++ [(x,v)]);unfold KeyN;rw [List.map_append];refine List.nodup_append.2 ⟨h,by simp,fun a ha b hb e=>?_⟩;simp at hb;subst hb;subst e;have:=YlC.2 ha;rw [hf] at this;cases this
 | some p=>
  obtain ⟨i,u⟩:=p;have h1:=(Yau m x 0 i u hf).2;show KeyN (m.set i (x,v));unfold KeyN;have:(m.set i (x,v)).map Prod.fst=m.map Prod.fst:=by
   rw [List.map_set];have h2:(m.map Prod.fst)[i]?=some x:=by rw [List.getElem?_map];rw [Nat.sub_zero] at h1;rw [h1];rfl
   exact set_self h2
  rw [this];exact h
theorem val_at (h:KeyN m) {p:Bs × Value} (hi:m[i]?=some p):valS m p.1=some p.2:=by
 unfold valS;cases hf:fndS m p.1 0 with
 | none=>exact absurd rfl (YgW m p.1 0 hf p (Zm hi))
 | some q=>
  obtain ⟨j,u⟩:=q;have h1:=(Yau m p.1 0 j u hf).2;rw [Nat.sub_zero] at h1;have hij:i=j:=by
   have e1:(m.map Prod.fst)[i]?=some p.1:=by rw [List.getElem?_map,hi];rfl
   have e2:(m.map Prod.fst)[j]?=some p.1:=by rw [List.getElem?_map,h1];rfl
   obtain ⟨b1,e1⟩:=Zg e1;obtain ⟨b2,e2⟩:=Zg e2;rcases Nat.lt_trichotomy i j with hlt | heq | hlt
   ·exact absurd (e1.trans e2.symm) (List.pairwise_iff_getElem.1 h i j b1 b2 hlt)
   ·exact heq
   exact absurd (e2.trans e1.symm) (List.pairwise_iff_getElem.1 h j i b2 b1 hlt)
  subst hij;rw [hi] at h1;injection h1 with h1
  rw [h1];rfl
theorem val_none {x:Bs} (h:∀ (i:Nat) (p:Bs × Value),m[i]?=some p->p.1≠x):valS m x=none:=by
 unfold valS;cases hf:fndS m x 0 with
 | none=>rfl
 | some q=>
  obtain ⟨j,u⟩:=q;have h1:=(Yau m x 0 j u hf).2;rw [Nat.sub_zero] at h1;exact absurd rfl (h j _ h1)
abbrev EnvM:=Bs->Option Bs
def EnvR (fz:FZ) (v:Value) (E:EnvM):Prop:=∃ g m,v=.map (some g)/\fz g=some (mapS m)/\KeyN m/\∀ x,valS m x=(E x).map Value.string
variable {E:EnvM}
theorem EnvR.mono (h:EnvR fz v E) (hle:Le fz fz'):EnvR fz' v E:=by
 obtain ⟨g,m,h1,h2,h3,h4⟩:=h;exact ⟨g,m,h1,hle _ _ h2,h3,h4⟩
def OutR (fz:FZ) (v:Value) (E:EnvM):Prop:=(v=.map none/\∀ x,E x=none)\/EnvR fz v E
def setE (E:EnvM) (x a:Bs):EnvM:=fun y=>if y=x then some a else E y
def extE (E:EnvM) (ps:List Param) (as_:List Bs):EnvM:=(ps.zip as_).foldl (fun E z=>setE E z.1.name z.2) E
def valE (E:EnvM) (t:Bs):Bs:=(E t).getD t
theorem Yk4 {t:Bs} (h:EnvR fz v E):QFn prog 179 [Zy t,v] fz (Zy (valE E t)):=by
 obtain ⟨g,m,rfl,hg,hn,hE⟩:=h;refine qF Tryz.func179 Tryz.ntmps179 (fun w0=>?_);refine wG ?_;refine YY (v:=Zy ((E t).getD ⟨#[]⟩)) (b:=(E t).isSome) hg ?_ (hv:=by rw [Yht,hE];cases E t<;>rfl) (hb:=by rw [Ye5,hE];cases E t<;>rfl);cases hr:E t with
 | some u=>
  exact wR (h:=by rw [valE,hr];rfl)
 | none=>
  exact wR (h:=by rw [valE,hr];rfl)
def CopM (m m':List (Bs × Value)) (seen:List Nat):Prop:=KeyN m'/\∀ x,(∀ i∈seen,∀ p,m[i]?=some p->p.1≠x)/\valS m' x=none\/∃ i∈seen,∃ p,m[i]?=some p/\p.1=x/\valS m' x=some p.2
theorem CopM.nil:CopM m [] []:=⟨KeyN.nil,fun x=>.inl ⟨(by intro i hi;cases hi),rfl⟩⟩
theorem CopM.add {m':List (Bs × Value)} {seen:List Nat} (h:CopM m m' seen) {p:Bs × Value} (hp:m[i]?=some p):CopM m (updS m' p.1 p.2) (seen++ [i]):=by
 refine ⟨h.1.upd _ _,fun x=>?_⟩;rw [Yco];by_cases hx:x=p.1
 ·rw [if_pos hx];exact .inr ⟨i,by simp,p,hp,hx.symm,rfl⟩
 rw [if_neg hx];rcases h.2 x with ⟨h1,h2⟩ | ⟨j,hj,q,hq,h1,h2⟩
 ·refine .inl ⟨fun j hj q hq=>?_,h2⟩;rcases List.mem_append.1 hj with hj | hj
  ·exact h1 j hj q hq
  simp at hj;subst hj;rw [hp] at hq;injection hq with hq;subst hq;exact fun e=>hx e.symm
 exact .inr ⟨j,by simp [hj],q,hq,h1,h2⟩
theorem CopM.all {m':List (Bs × Value)} {seen:List Nat} (hn:KeyN m) (h:CopM m m' seen) (hall:∀ i,i<m.length->i∈seen) (x:Bs):valS m' x=valS m x:=by
 rcases h.2 x with ⟨h1,h2⟩ | ⟨j,hj,q,hq,h1,h2⟩
 ·rw [h2,val_none (fun i p hp=>h1 i (hall i (Zg hp).1) p hp)]
 rw [h2,<- h1,val_at hn hq]
theorem YpZ {ps:List Param} {as_:List Bs} {p:Param} {a:Bs} (hp:ps[k]?=some p) (ha:as_[k]?=some a):setE (extE E (ps.take k) (as_.take k)) p.name a=extE E (ps.take (k+1)) (as_.take (k+1)):=by
 have h1:(ps.take (k+1)).zip (as_.take (k+1))=(ps.take k).zip (as_.take k)++ [(p,a)]:=by
  have hl:(ps.take k).length=(as_.take k).length:=by
   have h1:=(Zg hp).1;have h2:=(Zg ha).1;simp only [List.length_take];omega
  rw [List.take_add_one,List.take_add_one,hp,ha];exact List.zip_append hl
 unfold extE;rw [h1,List.foldl_append];rfl
theorem env_f {ps:List Param} {as_:List Bs} {m b:Nat} (hps:Sl paramL fz A n c ps) (has:Sl strL fz B m b as_) (hnm:n<=m) (ho:OutR fz v E):
 GFn prog 90 [Zc A n c,Zc B m b,v] fz [] (fun r fz' H'=>H'=[]/\EnvR fz' r (extE E ps (as_.take n))):=by
 have lp:=hps.len;have la:=has.len;have sp:=hps.short;refine zF Tryz.func90 Tryz.ntmps90 (fun w0=>?_);refine zW ?_;refine Yd (Xx (fun gout=>?_));refine zWX ?_;refine YN (Xe (fun σ fz' H'=>∃ mo:List (Bs × Value),σ=[(7,.map (some gout)),(0,Zc A n c),(1,Zc B m b)]/\fz=fz'/\H'=[(gout,mapS mo)]/\KeyN mo/\∀ x,valS mo x=(E x).map Value.string) ?_ ?_)
 ·rcases ho with ⟨rfl,hE⟩ | ⟨g,ms,rfl,hg,hn,hE⟩
  ·refine zW ?_;refine Yd (k_rangeN T Zz Zz Zz (fun gi=>?_));refine zW ?_;refine Yn (fun q σ fz' H'=>q=0/\σ=[(14,Zp gi),(7,.map (some gout)),(0,Zc A n c),(1,Zc B m b)]/\fz=fz'/\H'=[(gi,Yhp),(gout,mapS [])]) ⟨rfl,rfl,rfl,rfl⟩ Zw Zb ?_;rintro q σ fz' H' ⟨rfl,rfl,rfl,rfl⟩;refine zW ?_;refine Yd (k_nextN Zz ?_);exact wN (h:=by exact ⟨[],rfl,rfl,rfl,KeyN.nil,fun x=>by rw [hE];rfl⟩)
  refine zW ?_;refine Yd (YgG hg (fun gi=>?_));refine zW ?_;refine Yn (fun q σ fz' H'=>∃ (seen:List Nat) (mo:List (Bs × Value)),q=(List.range ms.length).countP (fun i=>!seen.contains i)/\σ=[(14,Zp gi),(7,.map (some gout)),(0,Zc A n c),(1,Zc B m b)]/\fz=fz'/\H'=[(gi,Yb8 g ms.length seen),(gout,mapS mo)]/\CopM ms mo seen) ⟨[],[],rfl,rfl,rfl,rfl,CopM.nil⟩ Zw Zb ?_;rintro q σ fz' H' ⟨seen,mo,rfl,rfl,rfl,rfl,hC⟩;refine zW ?_;refine Yd (YiN Zz hg (fun hall=>?_) (fun i p hp hi=>?_))
  ·exact wN (h:=by exact ⟨mo,rfl,rfl,rfl,hC.1,fun x=>by rw [hC.all hn hall,hE]⟩)
  refine wG ?_;refine Ygp 0 hg hp ?_;refine zW ?_;refine YI (XG (pre:=[_]) (Zr _) ?_);refine zW ?_;refine Ws ⟨seen++ [i],_,rfl,rfl,rfl,rfl,hC.add hp⟩ ?_ Zw Zb;exact Ydb _ i (by rw [List.mem_range];exact (Zg hp).1) (fun j hj=>by simp at hj ⊢;exact fun h=>hj.1 h) (by simpa using hi) (by simp)
 rintro σ fz' H' ⟨mo,rfl,rfl,rfl,hk0,hv0⟩;refine zW ?_;refine Yn (fun q σ fz' H'=>∃ (k:Nat) (mo:List (Bs × Value)),k<=n/\q=n - k/\σ=[(25,Zk k),(24,Zk n),(23,Zc A n c),(1,Zc B m b),(7,.map (some gout))]/\fz=fz'/\H'=[(gout,mapS mo)]/\KeyN mo/\∀ x,valS mo x=(extE E (ps.take k) (as_.take k) x).map Value.string) ⟨0,mo,Z0 _,rfl,rfl,rfl,rfl,hk0,hv0⟩ Zw Zb ?_;rintro q σ fz' H' ⟨k,mo,hk,rfl,rfl,rfl,rfl,hkn,hkv⟩;refine wC ?_ ?_<;>intro c1
 ·obtain ⟨x,hx⟩:=Yf (l:=ps) (k:=k) Zi;obtain ⟨y,hy⟩:=Yf (l:=as_) (k:=k) Zi;refine wI hps hx (fun p1 hp1=>?_);refine zL hp1 ?_;intro cs hcs;obtain ⟨rfl,hR⟩:=YM hcs;refine zWN ?_;intros;refine Y6 [_,_] ?_;refine wI has hy (fun p2 hp2=>?_);refine zH hp2 (fun hs2=>?_);refine pU ?_;refine Ch.hard0 (XG (pre:=[_]) (Zr _) ?_);refine Ch.done ?_;refine zW ?_;exact Ws ⟨k+1,_,by omega,rfl,rfl,rfl,rfl,hkn.upd _ _,fun z=>by
   rw [Yco,<- YpZ hx hy,hkv];unfold setE;by_cases hz:z=x.name
   ·rw [if_pos hz,if_pos hz];rfl
   rw [if_neg hz,if_neg hz]⟩ Zi Zw Zb
 have hk2:k=n:=by omega
 subst hk2;rw [Zl (show ps.length<=k by omega)] at hkv;refine zW ?_;exact Yb1 rfl rfl (fun fz3 hle3 hf3=>⟨rfl,gout,mo,rfl,hf3 (gout,mapS mo) (by simp),hkn,hkv⟩)
def bndA (E:EnvM) (name:Bs) (args:List Bs):Atom:=⟨name,args.map (valE E)⟩
theorem Ynd {t:Bs} (hE:∀ x y,E x=some y->y.size<=1000) (ht:Short t):Short (valE E t):=by
 unfold valE;cases h:E t with
 | none=>exact ht
 | some y=>exact Nat.le_trans (hE t y h) Zh
theorem Yhd {name:Bs} {args:List Bs} (hv:EnvR fz v E) (hE:∀ x y,E x=some y->y.size<=1000) (ha:Sl strL fz A n c args) (hn:n<=2000000) (hnm:Short name):
 GFn prog 178 [Zy name,Zc A n c,v] fz [] (fun r fz' H'=>H'=[]/\∃ va,r=.agg #[Zy name,va]/\AtomR fz' (bndA E name args) va):=by
 have la:=ha.len;have hv0:=hv;obtain ⟨gm,m,rfl,_⟩:=hv;refine zF Tryz.func178 Tryz.ntmps178 (fun w0=>?_);refine zW ?_;intros;rename_i g6 g7;refine Yn (fun q σ fz' H'=>∃ (k:Nat) (u:Value) (Hs:HP),k<=n/\q=n - k/\σ=[(14,Zk k),(13,Zk n),(12,Zc A n c),(7,Zp g7),(6,Zp g6),(2,.map (some gm))]/\fz=fz'/\
  H'=(g7,Zu #[Zy name,u] 59)::(g6,Zu #[Ze,Zn] 59)::Hs/\Grow strL 9 fz u k Hs ((args.take k).map (valE E))) ⟨0,_,[],Z0 _,rfl,rfl,rfl,rfl,Grow.nil _ _ _⟩ Zw Zb ?_
 rintro q σ fz' H' ⟨k,u,Hs,hk,rfl,rfl,rfl,rfl,hG⟩;obtain ⟨Au,cu,rfl,_,_⟩:=hG.form;refine wC ?_ ?_<;>intro c1
 ·obtain ⟨x,hx⟩:=Yf (l:=args) (k:=k) Zi;refine wI ha hx (fun p1 hp1=>?_);refine zH hp1 (fun hs1=>?_);refine zWN ?_;refine Y6 [_,_] ?_;refine wc (Yk4 hv0) ?_;refine Yl (Yl ?_);refine zW ?_;refine pU ?_;refine Yg (Yc (cs:=[Zy (valE E x)]) (fun gb=>⟨⟨Zd,Zx⟩,?_⟩));refine Yg (YG (Hr:=[_,_,_]) (n:=k) (d:=valE E x) (Zr _) hG WY (.head _) ⟨rfl,Ynd hE hs1⟩ (fun v' Hs' hO'=>⟨⟨Zd,Zx⟩,?_⟩));obtain ⟨Av',cv',rfl,_,_⟩:=hO'.form;refine Ch.hard0 (YX ?_);refine Ch.done ?_;exact wP (h:=by exact ⟨k+1,_,Hs',by omega,rfl,rfl,rfl,rfl,hO'.of (by rw [List.take_add_one,hx];simp) rfl⟩)
 have hk2:k=n:=by omega
 subst hk2;rw [Zl Zi] at hG;refine zW ?_;refine YW (i:=1) rfl (fun fz3 hle3 hf3=>?_);obtain ⟨A',c',he,hsl⟩:=hG.sl hle3 (fun p hp=>hf3 p (by simp [hp])) Zi;exact ⟨rfl,_,rfl,⟨hnm,A',_,c',he,hsl⟩⟩
def SetM (fz:FZ) (m:List (Bs × Value)) (S:List Atom):Prop:=KeyN m/\m.length=S.length/\∀ (i:Nat) (a:Atom),S[i]?=some a->AtmOk a/\∃ va:Value,m[i]?=some (keyB a,Value.agg #[Zy a.name,va])/\AtomR fz a va
theorem fndS_no' {x:Bs} (h:(fndS m x i).isSome=false):fndS m x i=none:=by cases hf:fndS m x i with | none=>rfl | some p=>rw [hf] at h;cases h
theorem SetM.mono (h:SetM fz m S) (hle:Le fz fz'):SetM fz' m S:=
 ⟨h.1,h.2.1,fun i a ha=>by obtain ⟨h1,va,h2,h3⟩:=h.2.2 i a ha;exact ⟨h1,va,h2,h3.mono hle⟩⟩
theorem SetM.nil:SetM fz [] []:=⟨KeyN.nil,rfl,by intro i a h;simp at h⟩
theorem Yn6 {s t X Y:List UInt8} (hs:(34:UInt8) ∉ s) (ht:(34:UInt8) ∉ t) (h:s++34::X=t++34::Y):s=t/\X=Y:=by
 induction s generalizing t with
 | nil=>
  cases t with
  | nil=>simp at h;exact ⟨rfl,h⟩
  | cons b t=>simp at h;exact absurd (by simp [h.1]) ht
 | cons a s ih=>
  cases t with
  | nil=>simp at h;exact absurd (by simp [h.1]) hs
  | cons b t=>
   simp only [List.cons_append,List.cons.injEq] at h;obtain ⟨h1,h2⟩:=ih (t:=t) (fun e=>hs (by simp [e])) (fun e=>ht (by simp [e])) h.2;exact ⟨by rw [h.1,h1],h2⟩
def YaZ (l:List Bs):List UInt8:=l.flatMap fun s=>Yb3 s.data.toList
theorem Ygm:∀ {l l':List Bs},(∀ s∈l,(34:UInt8) ∉ s.data.toList)->(∀ s∈l',(34:UInt8) ∉ s.data.toList)->YaZ l=YaZ l'->l=l'
 | [],[],_,_,_=>rfl
 | [],s::r,_,_,h=>by simp [YaZ,Yb3] at h
 | s::r,[],_,_,h=>by simp [YaZ,Yb3] at h
 | s::r,t::r',h1,h2,h=>by
  have e:s.data.toList++34::YaZ r=t.data.toList++34::YaZ r':=by
   simpa [YaZ,Yb3] using h
  obtain ⟨e1,e2⟩:=Yn6 (h1 s (by simp)) (h2 t (by simp)) e;rw [Ygm (fun x hx=>h1 x (by simp [hx])) (fun x hx=>h2 x (by simp [hx])) e2,bytes_ext e1]
where
 bytes_ext {s t:Bs} (h:s.data.toList=t.data.toList):s=t:=by
  have h1:s.data=s.data.toList.toArray:=by simp
  have h2:t.data=t.data.toList.toArray:=by simp
  exact ByteArray.ext (by rw [h1,h2,h])
theorem Yku:∀ (l:List Bs) (o:List UInt8),l.foldl (fun o s=>o++Yao s) (strOf o)=strOf (o++YaZ l)
 | [],o=>by simp [YaZ]
 | s::l,o=>by
  rw [List.foldl_cons,show Yao s=strOf (Yb3 s.data.toList) from rfl,YjG,Yku l];simp [YaZ]
theorem Ypv (a:Atom):keyB a=strOf (YaZ (a.name::a.args)):=by
 unfold keyB;rw [show Yao a.name=strOf (Yb3 a.name.data.toList) from rfl,Yku];simp [YaZ]
theorem Ymp (h:PlnS s):(34:UInt8) ∉ s.data.toList:=fun h0=>(h.2 34 h0).2.2.1 rfl
theorem keyB_inj {b:Atom} (ha:AtmOk a) (hb:AtmOk b) (h:keyB a=keyB b):a=b:=by
 rw [Ypv,Ypv] at h;have h1:=Ygm (l:=a.name::a.args) (l':=b.name::b.args) (fun s hs=>by
  rcases List.mem_cons.1 hs with rfl | hs
  ·exact Ymp ha.1
  ·exact Ymp (ha.2.2 s hs)) (fun s hs=>by
  rcases List.mem_cons.1 hs with rfl | hs
  ·exact Ymp hb.1
  exact Ymp (hb.2.2 s hs)) (YoE h)
 cases a;cases b;simp at h1;rw [h1.1,h1.2]
theorem SetM.has (h:SetM fz m S) (ha:AtmOk a):(fndS m (keyB a) 0).isSome=decide (a∈S):=by
 by_cases hm:a∈S
 ·rw [decide_eq_true hm];obtain ⟨i,hi⟩:=List.getElem?_of_mem hm;obtain ⟨_,va,h2,_⟩:=h.2.2 i a hi;exact YlC.2 (List.mem_map.2 ⟨_,Zm h2,rfl⟩)
 rw [decide_eq_false hm];cases hf:(fndS m (keyB a) 0).isSome with
 | false=>rfl
 | true=>
  obtain ⟨p,hp,e⟩:=List.mem_map.1 (YlC.1 hf);obtain ⟨i,hi⟩:=List.getElem?_of_mem hp;have hlt:i<S.length:=by have:=(Zg hi).1;rw [h.2.1] at this;exact this
  obtain ⟨b,hb⟩:=Yf hlt;obtain ⟨hbo,va,h2,_⟩:=h.2.2 i b hb;rw [hi] at h2;injection h2 with h2
  rw [h2] at e;rw [keyB_inj hbo ha e] at hb;exact absurd (Zm hb) hm
theorem SetM.push (h:SetM fz m S) (ha:AtmOk a) (hn:a ∉ S) (hR:AtomR fz a va):SetM fz (updS m (keyB a) (.agg #[Zy a.name,va])) (S++ [a]):=by
 have hf:=h.has ha;rw [decide_eq_false hn] at hf;have hu:updS m (keyB a) (.agg #[Zy a.name,va])=m++ [(keyB a,.agg #[Zy a.name,va])]:=by
  unfold updS;cases h0:fndS m (keyB a) 0 with
  | none=>rfl
  | some p=>rw [h0] at hf;cases hf
 refine ⟨h.1.upd _ _,by rw [hu,List.length_append,List.length_append,h.2.1];rfl,fun i b hb=>?_⟩;rw [hu];by_cases hi:i<S.length
 ·rw [List.getElem?_append_left hi] at hb;obtain ⟨h1,vb,h2,h3⟩:=h.2.2 i b hb;exact ⟨h1,vb,by rw [List.getElem?_append_left (by rw [h.2.1];exact hi)];exact h2,h3⟩
 rw [List.getElem?_append_right Zi] at hb;have hi2:i - S.length=0:=by
  have:=(Zg hb).1;simp at this;omega
 rw [hi2] at hb;simp at hb;subst hb;exact ⟨ha,va,by rw [List.getElem?_append_right (by rw [h.2.1];omega),h.2.1,hi2];rfl,hR⟩
theorem add_f {gs:Nat} (hS:SetM fz m S) (hR:AtomR fz a va) (ha:AtmOk a):
 GFn prog 46 [.map (some gs),.agg #[Zy a.name,va]] fz [(gs,mapS m)] (fun r fz' H'=>fz=fz'/\r=Zo (decide (a ∉ S))/\∃ m',H'=[(gs,mapS m')]/\SetM fz m' (if a∈S then S else S++ [a])):=by
 have hR0:=hR;obtain ⟨A,n,c,rfl,ia⟩:=hR.args;refine zF Tryz.func46 Tryz.ntmps46 (fun w0=>?_);refine pX (fun g3=>?_);refine wc (Yki hR0 ha) ?_;refine zW ?_;by_cases hm:a∈S
 ·have hb:=hS.has ha;rw [decide_eq_true hm] at hb;obtain ⟨p,hp⟩:=Option.isSome_iff_exists.1 hb;have hpv:=(Yau m (keyB a) 0 p.1 p.2 hp).2;rw [Nat.sub_zero] at hpv;have hlt:p.1<S.length:=by have:=(Zg hpv).1;rw [hS.2.1] at this;exact this
  obtain ⟨b,hb2⟩:=Yf hlt;obtain ⟨hbo,vb,h2,h3⟩:=hS.2.2 p.1 b hb2;rw [hpv] at h2;injection h2 with h2
  injection h2 with h2 h4
  obtain ⟨B,nb,cb,rfl,_⟩:=h3.args;refine zG ?_;refine W7 (v:=.agg #[Zy b.name,Zc B nb cb]) (b:=true) 1 hb ?_ (hv:=by rw [hp];exact h4);refine zW ?_;intros;exact wR (h:=by exact ⟨rfl,Yj (fun h=>h hm),m,rfl,by rw [if_pos hm];exact hS⟩)
 have hb:=hS.has ha;rw [decide_eq_false hm] at hb;have h0:fndS m (keyB a) 0=none:=fndS_no' hb;refine zG ?_;refine W7 (v:=.agg #[Ze,Zn]) (b:=false) 1 hb ?_ (hv:=by rw [h0];rfl);refine zW ?_;intros;refine YI (XG (pre:=[_,_]) (Zr _) ?_);exact wR (h:=by exact ⟨rfl,Ys hm,_,rfl,by rw [if_neg hm];exact hS.push ha hm hR0⟩)
end Go.Proofs.YtbdpaoikccabhaaGreatDoor
namespace Go.Proofs.YtbdpaoikccabhaaGreatDoor
def ltB (a b:Bs):Bool:=Op.bytesLess a.toList b.toList
section
set_option linter.unusedSectionVars false
variable [Dr]
section
variable {P:Program} {cx:Cx} {r:Operand->Option Value} {fz:FZ} {H:HP} {V:Value->Prop} {dst:Option Nat} {ty:TypeId} {pos:String} {af:Array Edge} {gd:Option (Nat × Bool)}
theorem YeS {t t':TypeId} {x y:Operand} {u v:Bs} (ht:ltB u v=true->V (.bool true)) (hf:ltB u v=false->V (.bool false)) (hx:r x=some (.string u):=by exact rfl) (hy:r y=some (.string v):=by exact rfl):DoesQ P cx ⟨dst,.binOp .lss t x y t',ty,pos,af,gd⟩ r fz H V:=
 YL (v:=Zo (ltB u v)) (fun ρ w hr=>by
  simp [execOp,hr _ _ hx,hr _ _ hy,binOp,Op.stringOp,eqGuard,ltB]) (by
  cases h:ltB u v with
  | true=>exact ht h
  | false=>exact hf h)
theorem YhM {t t':TypeId} {x y:Operand} {u v:Bs} (ht:ltB u v=false->u≠v->V (.bool true)) (hf:ltB u v=true\/u=v->V (.bool false)) (hx:r x=some (.string u):=by exact rfl) (hy:r y=some (.string v):=by exact rfl):DoesQ P cx ⟨dst,.binOp .gtr t x y t',ty,pos,af,gd⟩ r fz H V:=
 YL (v:=Zo (!(ltB u v || decide (u=v)))) (fun ρ w hr=>by
  simp [execOp,hr _ _ hx,hr _ _ hy,binOp,Op.stringOp,eqGuard,ltB,Ylb]) (by
  cases h:ltB u v with
  | true=>exact hf (.inl h)
  | false=>
   by_cases e:u=v
   ·rw [decide_eq_true e];exact hf (.inr e)
   rw [decide_eq_false e];exact ht h e)
end
end
end Go.Proofs.YtbdpaoikccabhaaGreatDoor
namespace Go.Proofs.YtbdpaoikccabhaaGreatDoor
variable {α:Type} {A:Option Addr} {c n:Nat} {fz fz':FZ} {v:Value}
section
set_option linter.unusedSectionVars false
variable [Dr]
def cmpS (a b:Bs):Int:=if ltB a b=true then -1 else if a=b then 0 else 1
def cmpL:List Bs->List Bs->Int
 | [],[]=>0
 | [],_::_=> -1
 | _::_,[]=>1
 | x::xs,y::ys=>if cmpS x y≠0 then cmpS x y else cmpL xs ys
def cmpA (a b:Atom):Int:=if cmpS a.name b.name≠0 then cmpS a.name b.name else cmpL a.args b.args
theorem YlM (a b:Bs):I64 (cmpS a b):=by
 unfold cmpS I64;split
 ·omega
 split<;>omega
theorem YlN:∀ (a b:List Bs),I64 (cmpL a b)
 | [],[]=>by unfold cmpL I64;omega
 | [],_::_=>by unfold cmpL I64;omega
 | _::_,[]=>by unfold cmpL I64;omega
 | x::xs,y::ys=>by
  unfold cmpL;split
  ·exact YlM x y
  exact YlN xs ys
variable {fz:FZ}
theorem nanS_q {a:Bs}:QFn prog 164 [Zy a] fz (Zo false):=by
 refine qF Tryz.func164 Tryz.ntmps164 (fun w0=>?_);refine wC ?_ ?_<;>intro c1
 ·exact absurd rfl c1
 exact wR (h:=rfl)
theorem Yqj {a b:Bs}:QFn prog 74 [Zy a,Zy b] fz (Zk (cmpS a b)):=by
 refine qF Tryz.func74 Tryz.ntmps74 (fun w0=>?_);refine wc (nanS_q (a:=a)) ?_;refine wc (nanS_q (a:=b)) ?_;refine wG ?_;refine YeS (fun h1=>?_) (fun h1=>?_)
 ·exact wR (h:=by rw [cmpS,if_pos h1])
 refine wG ?_;refine YhM (fun h2 h3=>?_) (fun h2=>?_)
 ·exact wR (h:=by rw [cmpS,if_neg (by rw [h1];decide),if_neg h3])
 refine zW ?_
 (exact ret1 rfl rfl Zb (by
  have h3:a=b:=h2.resolve_left (by rw [h1];decide);rw [cmpS,if_neg (by rw [h1];decide),if_pos h3]))
theorem Yji {l:List Bs}:cmpL [] l=if 0<l.length then -1 else 0:=by cases l<;>simp [cmpL]
variable {A B:Option Addr} {c n:Nat}
theorem cmpL_q {m b:Nat} {l l':List Bs} (ha:Sl strL fz A n c l) (hb:Sl strL fz B m b l'):QFn prog 75 [Zc A n c,Zc B m b] fz (Zk (cmpL l l')):=by
 have la:=ha.len;have lb:=hb.len;have sa:=ha.short;refine qF Tryz.func75 Tryz.ntmps75 (fun w0=>?_);refine zW ?_;refine WD n (fun k=>[(11,Zk k),(10,Zk n),(9,Zc A n c),(0,Zc A n c),(1,Zc B m b)]) [] (fun k=>k<=m/\cmpL (l.drop k) (l'.drop k)=cmpL l l') ⟨Z0 _,rfl⟩ ?_;intro k hk hh;obtain ⟨hkm,hcm⟩:=hh;refine wC ?_ ?_<;>intro c1
 ·obtain ⟨x,hx⟩:=Yf (l:=l) (k:=k) Zi;have ex:l.drop k=x::l.drop (k+1):=by
   obtain ⟨h1,h2⟩:=Zg hx;rw [<- h2];exact List.drop_eq_getElem_cons h1
  refine wI ha hx (fun p1 hp1=>?_);refine zH hp1 (fun hs1=>?_);refine wC ?_ ?_<;>intro c2
  ·have ey:l'.drop k=[]:=List.drop_eq_nil_of_le Zi;rw [ex,ey] at hcm;exact wR (h:=by rw [<- hcm];rfl)
  obtain ⟨y,hy⟩:=Yf (l:=l') (k:=k) Zi;have ey:l'.drop k=y::l'.drop (k+1):=by
   obtain ⟨h1,h2⟩:=Zg hy;rw [<- h2];exact List.drop_eq_getElem_cons h1
  rw [ex,ey] at hcm;refine wI hb hy (fun p2 hp2=>?_);refine zH hp2 (fun hs2=>?_);refine wc (Yqj (a:=x) (b:=y)) ?_;refine wC ?_ ?_<;>intro c3
  ·exact wR (h:=by rw [<- hcm,cmpL,if_pos c3])
  refine zW ?_;refine Ws ⟨k+1,by omega,rfl,rfl,rfl,rfl,by omega,?_⟩ Zi Zw Zb;rw [<- hcm,cmpL,if_neg Zi]
 have hk2:k=n:=by omega
 subst hk2;rw [List.drop_eq_nil_of_le Zi,Yji,List.length_drop] at hcm;refine wC ?_ ?_<;>intro c2
 ·rw [if_pos Zi] at hcm;exact wR (h:=by rw [<- hcm])
 rw [if_neg Zi] at hcm;exact wR (h:=by rw [<- hcm])
variable {g:Nat} {t:TypeId}
theorem or_f {x y:Int} (hx:I64 x) (hy:I64 y) (hc:2<=c/\c<=9223372036854775807):
 GFn prog 73 [Zv g 2 c] fz [(g,Zu #[Zk x,Zk y] t)] (fun r fz' H'=>H'=[]/\r=Zk (if x≠0 then x else y)):=by
 refine zF Tryz.func73 Tryz.ntmps73 (fun w0=>?_);refine Wp.freezeAll (H1:=[]) (Zr _) (fun fz1 hle1 hf1=>?_);have h:Sl intL fz1 (some ⟨g,0,none⟩) 2 c [x,y]:=by
  refine ⟨rfl,hc.1,hc.2,by decide,.inr ⟨_,rfl,fun i d hd=>?_⟩⟩;have hg:=hf1 _ (List.mem_singleton.2 rfl)
  match i,hd with
  | 0,hd=>
   simp at hd;subst hd;exact ⟨_,⟨rfl,hx⟩,fun j v hv=>by
    match j,hv with
    | 0,hv=>simp at hv;subst hv;simp [Ycd,Addr.add,hg]
    | j+1,hv=>simp at hv⟩
  | 1,hd=>
   simp at hd;subst hd;exact ⟨_,⟨rfl,hy⟩,fun j v hv=>by
    match j,hv with
    | 0,hv=>simp at hv;subst hv;simp [Ycd,Addr.add,hg,intL]
    | j+1,hv=>simp at hv⟩
  | i+2,hd=>simp at hd
 refine zW ?_;refine Yn (fun q σ fz2 H'=>∃ k:Nat,k<=2/\q=2 - k/\σ=[(8,Zk k),(7,Zk 2),(6,Zv g 2 c),(3,Zk 0)]/\fz1=fz2/\H'=[]/\(1<=k->x=0)/\(2<=k->y=0)) ⟨0,Z0 _,rfl,rfl,rfl,rfl,by omega,by omega⟩ Zw Zb ?_;rintro q σ fz' H' ⟨k,hk,rfl,rfl,rfl,rfl,h1,h2⟩;refine wC ?_ ?_<;>intro c1
 ·obtain ⟨z,hz⟩:=Yf (l:=[x,y]) (k:=k) (by simp;omega);refine wI h hz (fun p1 hp1=>?_)
  ((refine zG ?_);refine Ydj T Zz Zz Zz hp1 (fun hi1=>?_));refine wC ?_ ?_<;>intro c2
  ·refine zW ?_;refine ret1 rfl rfl Zb ⟨rfl,?_⟩
   match k,hz,h1 with
   | 0,hz,_=>simp at hz;subst hz;rw [if_pos c2]
   | 1,hz,h1=>simp at hz;subst hz;rw [if_neg (by rw [h1 (Zs _)];decide)]
   | k+2,hz,_=>simp at hz
  refine zW ?_;refine Ws ⟨k+1,by omega,rfl,rfl,rfl,rfl,?_,?_⟩ Zi Zw Zb
  ·intro _
   match k,hz,h1 with
   | 0,hz,_=>simp at hz;omega
   | k+1,hz,h1=>exact h1 Zi
  intro hk3;have:k=1:=by omega
  subst this;simp at hz;omega
 refine zW ?_;refine ret1 rfl rfl Zb ⟨rfl,?_⟩;rw [if_neg (by rw [h1 Zi];decide),h2 Zi]
theorem Yqf {fz:FZ} {a b:Atom} {va vb:Value} (ha:AtomR fz a va) (hb:AtomR fz b vb):GFn prog 49 [.agg #[Zy a.name,va],.agg #[Zy b.name,vb]] fz [] (fun r fz' H'=>H'=[]/\r=Zk (cmpA a b)):=by
 obtain ⟨A,n,c,rfl,ia⟩:=ha.args;obtain ⟨B,m,d,rfl,ib⟩:=hb.args;refine zF Tryz.func49 Tryz.ntmps49 (fun w0=>?_);refine pX (fun g0=>?_);refine pY (fun g1=>?_);refine zWN ?_;refine Y6 [_,_] ?_;refine wc (Yqj (a:=a.name) (b:=b.name)) ?_;refine wc (cmpL_q ia ib) ?_;refine pU ?_;refine Yg (Yc (cs:=[Zk (cmpS a.name b.name),Zk (cmpL a.args b.args)]) (fun gb=>⟨⟨Zd,Zx⟩,?_⟩));refine Yg (Yk [_] [_,_] Zz (or_f (YlM _ _) (YlN _ _) ⟨Zs _,by decide⟩) (fun v2 fz2 H2 hle2 hR2=>?_));obtain ⟨rfl,rfl⟩:=hR2;refine ⟨⟨hle2,Zx⟩,?_⟩;refine Ch.q (YR ⟨⟨hle2,Zx⟩,?_⟩);refine Ch.done ?_;refine zW ?_;exact Yb1 rfl rfl (fun fz3 hle3 hf3=>⟨rfl,rfl⟩)
end
theorem YbI {l:List Bs} (h:Sl strL fz A n c l) (hn:n<=1000000000):
 GFn prog 32 [Zc A n c] fz [] (fun v fz' H'=>Grow strL 9 fz' v n H' l):=by
 have l1:=h.len;refine zF Tryz.func32 Tryz.ntmps32 (fun w0=>?_);refine vG ?_;refine WZ (fun eA=>?_) (fun eA=>?_)
 ·subst eA;have hl:l=[]:=by
   rcases h.elem with h0 | ⟨_,h0,_⟩
   ·exact List.eq_nil_of_length_eq_zero Zi
   cases h0
  subst hl;simp at l1;subst l1;refine zV ?_;refine Yd5 (H':=[]) (H2:=[]) rfl rfl (Zr _) (fun fz3 hle3 _=>Grow.nil _ _ _)
 refine zV ?_;refine Yd (Yas (fun gb=>?_));refine zV ?_;refine Yd (XW T (Hr:=[]) (n:=0) (l:=[]) Zz Zz Zz Zz Zz Zz Zz Zz (Zr _) (Grow.block (ys:=[]) rfl rfl (by intro p hp;cases hp) rfl) WY h (by show _*16<=_;omega) Zi (fun v' Hs' hO'=>?_));obtain ⟨Av',cv',rfl,_,_⟩:=hO'.form;refine zV ?_;refine Yd5 (H':=Hs') (H2:=[]) rfl rfl (by simp) (fun fz3 hle3 _=>(hO'.mono hle3).of (by simp) Zi)
structure Kn where
 l:List Param
 os:List Param
 init:List Atom
 chg:Bs->Bool
structure KnR (fz:FZ) (v:Value) (K:Kn):Prop where
 ex:∃ (g:Nat) (a0 a1 a2 a3 a4 a5 a6 a7 a8 a9 a10 a11 a12 a13 a14 a15 a16 a17 vf:Value) (A:Option Addr) (n c gc gi:Nat) (mc mi:List (Bs × Value)),
  v=Zp g/\fz g=some (Zu #[a0,a1,a2,a3,a4,a5,a6,a7,a8,a9,a10,a11,a12,a13,a14,a15,a16,a17,vf,Zc A n c,.map (some gc),.map (some gi)] 127)/\
  ForR fz vf K.l/\Sl paramL fz A n c K.os/\fz gc=some (mapS mc)/\(∀ x,(valS mc x).getD (Zo false)=Zo (K.chg x))/\fz gi=some (mapS mi)/\SetM fz mi K.init
 w:WFT K.l
 many:K.os.length<=2000000
variable {K:Kn}
theorem KnR.mono (h:KnR fz v K) (hle:Le fz fz'):KnR fz' v K:=by
 obtain ⟨⟨g,a0,a1,a2,a3,a4,a5,a6,a7,a8,a9,a10,a11,a12,a13,a14,a15,a16,a17,vf,A,n,c,gc,gi,mc,mi,h1,h2,h3,h4,h5,h6,h7,h8⟩,hw,hm⟩:=h;exact ⟨⟨g,a0,a1,a2,a3,a4,a5,a6,a7,a8,a9,a10,a11,a12,a13,a14,a15,a16,a17,vf,A,n,c,gc,gi,mc,mi,h1,hle _ _ h2,h3.mono hle,h4.mono hle,hle _ _ h5,h6,hle _ _ h7,h8.mono hle⟩,hw,hm⟩
def ofK (K:Kn) (t:Bs):List Bs:=ofT K.l t K.os
theorem Yo5 (K:Kn) (t:Bs):(ofK K t).length<=K.os.length:=by
 unfold ofK ofT;rw [List.length_map];exact List.length_filter_le _ _
theorem kof_f {t:Bs} (h:KnR fz v K):GFn prog 176 [v,Zy t] fz [] (fun v fz' H'=>H'=[]/\∃ B m cc,v=Zc B m cc/\Sl strL fz' B m cc (ofK K t)):=by
 obtain ⟨⟨g,a0,a1,a2,a3,a4,a5,a6,a7,a8,a9,a10,a11,a12,a13,a14,a15,a16,a17,vf,A,n,c,gc,gi,mc,mi,rfl,hg,hF,hO,h5,h6,h7,h8⟩,hw,hm⟩:=h;have ln:=hO.len;have hF0:=hF;obtain ⟨gf,gm,rfl,hf1,hf2⟩:=hF;refine zF Tryz.func176 Tryz.ntmps176 (fun w0=>?_);refine zWN ?_;refine Y6 [] ?_;refine zW ?_;refine pU ?_;refine Yg (Yk [] [] Zz (of_q hF0 hw hO Zi) (fun v2 fz2 H2 hle2 hR2=>⟨⟨hle2,by intro p hp;cases hp⟩,?_⟩));obtain ⟨rfl,B,m,cc,rfl,hS⟩:=hR2;refine Ch.qk ⟨hle2,by intro p hp;cases hp⟩ (YR ?_);refine Ch.done ?_;refine zW ?_;exact Yb1 rfl rfl (fun fz3 hle3 _=>⟨rfl,B,m,cc,rfl,hS.mono hle3⟩)
def Yea (K:Kn) (most:Nat) (out:List (List Bs)) (p:Param):List (List Bs):=(out.flatMap fun l=>(ofK K p.typ).map fun o=>l++ [o]).take (most+1)
def YcF (K:Kn) (ps:List Param) (most:Nat):List (List Bs):=ps.foldl (Yea K most) [[]]
theorem YjE {l:List α} {x:α} {m:Nat}:(l++ [x]).take (m+1)=if (l.take (m+1)).length<=m then l.take (m+1)++ [x] else l.take (m+1):=by
 split
 ·rename_i h;rw [List.length_take] at h;have:l.length<=m:=by omega
  rw [Zl (by simp;omega),Zl Zi]
 rename_i h;rw [List.length_take] at h;rw [List.take_append_of_le_length Zi]
theorem Yj9 (K:Kn) (most:Nat) (out:List (List Bs)) (p:Param):(Yea K most out p).length<=most+1:=by
 unfold Yea;rw [List.length_take];omega
theorem Yew (K:Kn) (most:Nat):∀ (ps:List Param) (out:List (List Bs)),out.length<=most+1->(ps.foldl (Yea K most) out).length<=most+1
 | [],_,h=>h
 | p::ps,out,_=>Yew K most ps _ (Yj9 K most out p)
theorem YkJ (K:Kn) (most:Nat):∀ (ps:List Param) (out:List (List Bs)) (k:Nat),(∀ l∈out,l.length=k)->∀ l∈ps.foldl (Yea K most) out,l.length=k+ps.length
 | [],_,_,h=>h
 | p::ps,out,k,h=>by
  intro l hl;have:=YkJ K most ps (Yea K most out p) (k+1) (fun l hl=>by
   have h1:=List.mem_of_mem_take hl;obtain ⟨l',h2,h3⟩:=List.mem_flatMap.1 h1;obtain ⟨o,_,rfl⟩:=List.mem_map.1 h3;rw [List.length_append,h l' h2];rfl) l hl
  rw [this,List.length_cons];omega
theorem Yff {ps:List Param} {most:Nat} {l:List Bs} (h:l∈YcF K ps most):l.length=ps.length:=by
 have:=YkJ K most ps [[]] 0 (by simp) l h;omega
theorem sl_one {α:Type} {L:Lay α}:OneC (slL L):=by
 intro fz d cs h u hu;obtain ⟨A,n,c,rfl,_⟩:=h;simp at hu;subst hu;rfl
theorem comb_f {ps:List Param} {most:Nat} (hK:KnR fz v K) (hps:Sl paramL fz A n c ps) (hn:n<=2000000) (hm:most<=2000000):
 GFn prog 87 [v,Zc A n c,Zk most] fz [] (fun r fz' H'=>H'=[]/\∃ B m d,r=Zc B m d/\Sl (slL strL) fz' B m d (YcF K ps most)):=by
 have lp:=hps.len;have hK0:=hK;have hmany:=hK.many;obtain ⟨⟨g,a0,a1,a2,a3,a4,a5,a6,a7,a8,a9,a10,a11,a12,a13,a14,a15,a16,a17,vf,Ao,no,co,gc,gi,mc,mi,rfl,hg,hF,hO,h5,h6,h7,h8⟩,hw,_⟩:=hK;refine zF Tryz.func87 Tryz.ntmps87 (fun w0=>?_);refine zW ?_;refine Yd (Yc (cs:=[Zn]) (fun gb=>?_));refine Seq.freezeAll (H1:=[]) (H2:=[_]) (Zr _) (fun fz1 hle1 hf1=>?_);have hgb:Grow (slL strL) 31 fz (Zv gb 1 1) 1 [(gb,Zu #[Zn] 31)] [[]]:=
  Grow.block (ys:=[(([]:List Bs),[Value.slice none 0 0])]) rfl rfl (by intro p hp;simp at hp;subst hp;exact ⟨none,0,0,rfl,Sl.nil⟩) rfl
 obtain ⟨B1,d1,e1,hS1⟩:=hgb.sl hle1 hf1 Zh;injection e1 with e11 e12 e13
 subst e11;subst e13;refine zW ?_;refine Yn (fun q σ fz' H'=>∃ (k:Nat) (B:Option Addr) (m d:Nat),k<=n/\q=n - k/\σ=[(18,Zk k),(17,Zk n),(16,Zc A n c),(7,Zc B m d),(2,Zk most),(0,Zp g)]/\Le fz fz'/\H'=[]/\Sl (slL strL) fz' B m d (YcF K (ps.take k) most)) ⟨0,_,_,_,Z0 _,rfl,rfl,hle1,rfl,hS1⟩ Zw Zb ?_;rintro q σ fz2 H' ⟨k,B,m,d,hk,rfl,rfl,hle2,rfl,hS⟩;have lm:=hS.len;have hml:=Yew K most (ps.take k) [[]] (by simp);have hml2:m<=most+1:=by rw [<- lm];exact hml
 refine wC ?_ ?_<;>intro c1
 ·obtain ⟨x,hx⟩:=Yf (l:=ps) (k:=k) Zi;refine wI (hps.mono hle2) hx (fun p1 hp1=>?_);refine zL hp1 ?_;intro cs hcs;obtain ⟨rfl,hRx⟩:=YM hcs;refine zW ?_;intros;rename_i g9;refine Yn (fun q σ fz' H'=>∃ (j mm:Nat) (vn:Value) (Hn:HP),j<=m/\q=m - j/\σ=[(24,Zk j),(23,Zk m),(22,Zc B m d),(18,Zk k),(17,Zk n),(16,Zc A n c),(10,vn),(9,Zp g9),(2,Zk most),(0,Zp g)]/\Le fz2 fz'/\H'=(g9,Zu #[Zy x.name,Zy x.typ] 86)::Hn/\Grow (slL strL) 31 fz' vn mm Hn (Yea K most ((YcF K (ps.take k) most).take j) x)) ⟨0,0,_,[],Z0 _,rfl,rfl,Zd,rfl,Grow.nil _ _ _⟩ Zw Zb ?_;rintro q σ fz3 H' ⟨j,mm,vn,Hn,hj,rfl,rfl,hle3,rfl,hG⟩;obtain ⟨An,cn,rfl,_,_⟩:=hG.form;refine wC ?_ ?_<;>intro c2
  ·obtain ⟨y,hy⟩:=Yf (l:=YcF K (ps.take k) most) (k:=j) Zi;have hyl:=Yff (Zm hy);refine wI (hS.mono hle3) hy (fun p2 hp2=>?_)
   ((refine zG ?_);refine Wy hp2 (fun Ay ny cy hy2=>?_));have ly:=hy2.len;have hny:ny<=2000000:=by rw [<- ly,hyl,List.length_take];omega
   refine zW ?_;refine Yd (Yk [] (_::Hn) Zz (kof_f (t:=x.typ) (hK0.mono (hle2.trans hle3))) (fun v4 fz4 H4 hle4 hR4=>?_));obtain ⟨rfl,Bo,mo,do_,rfl,hSo⟩:=hR4;have lo:=hSo.len;have hmo:mo<=2000000:=by rw [<- lo];exact Nat.le_trans (Yo5 K x.typ) hmany
   refine zW ?_;refine Yn (fun q σ fz' H'=>∃ (i mm:Nat) (vn:Value) (Hn:HP),i<=mo/\q=mo - i/\σ=[(33,Zk i),(32,Zk mo),(31,Zc Bo mo do_),(24,Zk j),(23,Zk m),(22,Zc B m d),(18,Zk k),(17,Zk n),(16,Zc A n c),(12,Zc Ay ny cy),(10,vn),(9,Zp g9),(2,Zk most),(0,Zp g)]/\Le fz4 fz'/\H'=(g9,Zu #[Zy x.name,Zy x.typ] 86)::Hn/\Grow (slL strL) 31 fz' vn mm Hn (((((YcF K (ps.take k) most).take j).flatMap fun l=>(ofK K x.typ).map fun o=>l++ [o])++((ofK K x.typ).take i).map fun o=>y++ [o]).take (most+1)))
    ⟨0,mm,_,Hn,Z0 _,rfl,rfl,Zd,rfl,(hG.mono hle4).of (by simp [Yea]) rfl⟩ Zw Zb ?_
   rintro q σ fz5 H' ⟨i,mm5,vn5,Hn5,hi,rfl,rfl,hle5,rfl,hG5⟩;obtain ⟨A5,c5,rfl,_,_⟩:=hG5.form;have l5:=hG5.len;refine wC ?_ ?_<;>intro c3
   ·obtain ⟨o,ho⟩:=Yf (l:=ofK K x.typ) (k:=i) Zi;have e6:((ofK K x.typ).take (i+1)).map (fun o=>y++ [o])=((ofK K x.typ).take i).map (fun o=>y++ [o])++ [y++ [o]]:=by rw [List.take_add_one,ho];simp
    refine wI (hSo.mono hle5) ho (fun p3 hp3=>?_);refine zH hp3 (fun hso=>?_);refine wC ?_ ?_<;>intro c4
    ·refine zW ?_;refine Yd (Yk [] (_::Hn5) Zz (YbI (hy2.mono (hle4.trans hle5)) Zi) (fun v6 fz6 H6 hle6 hR6=>?_));obtain ⟨A6,c6,rfl,_,_⟩:=hR6.form;refine zW ?_;refine Yd (Yc (cs:=[Zy o]) (fun gc7=>?_));refine Yd (YG (Hr:=(gc7,_)::(g9,_)::Hn5) (d:=o) (by exact (List.Perm.cons _ (List.perm_append_comm.trans (Zr _)))) hR6 WY (.head _) ⟨rfl,hso⟩ (fun v8 H8 hO8=>?_));obtain ⟨A8,c8,rfl,_,_⟩:=hO8.form;refine Seq.freezeAll (H1:=(gc7,_)::(g9,_)::Hn5) (H2:=H8) (Zr _) (fun fz8 hle8 hf8=>?_);obtain ⟨B8,d8,e8,hS8⟩:=hO8.sl hle8 hf8 Zi;injection e8 with e81 e82 e83
     subst e81;subst e83;refine Yd (Yc (cs:=[Zc A8 (ny+1) c8]) (fun gc9=>?_));refine Yd (YG (Hr:=(gc9,_)::(gc7,_)::(g9,_):: []) (d:=y++ [o]) (Zr _) (hG5.mono (hle6.trans hle8)) sl_one (.head _) ⟨_,_,_,rfl,hS8⟩ (fun v10 H10 hO10=>?_));obtain ⟨A10,c10,rfl,_,_⟩:=hO10.form;exact wP (h:=by exact ⟨i+1,mm5+1,_,H10,by omega,rfl,rfl,hle5.trans (hle6.trans hle8),rfl,hO10.of (by rw [e6,<- List.append_assoc,YjE,if_pos Zi]) rfl⟩)
    exact wP (h:=by exact ⟨i+1,mm5,_,Hn5,by omega,rfl,rfl,hle5,rfl,hG5.of (by rw [e6,<- List.append_assoc,YjE,if_neg Zi]) rfl⟩)
   have hi2:i=mo:=by omega
   subst hi2;rw [Zl (show (ofK K x.typ).length<=i by omega)] at hG5;refine zW ?_;exact Ws ⟨j+1,mm5,_,Hn5,by omega,rfl,rfl,hle3.trans (hle4.trans hle5),rfl,hG5.of (by
    have e7:(YcF K (ps.take k) most).take (j+1)=(YcF K (ps.take k) most).take j++ [y]:=by rw [List.take_add_one,hy];rfl
    unfold Yea;rw [e7,List.flatMap_append];simp) rfl⟩ Zi Zw Zb
  have hj2:j=m:=by omega
  subst hj2;rw [Zl (show (YcF K (ps.take k) most).length<=j by omega)] at hG;have l6:=hG.len;have h6l:=Yj9 K most (YcF K (ps.take k) most) x
  first
  | refine Wp.freezeAll (H1:=[]) (H2:=_::Hn) (Zr _) (fun fz9 hle9 hf9=>?_)
  | refine Seq.freezeAll (H1:=[]) (H2:=_::Hn) (Zr _) (fun fz9 hle9 hf9=>?_)
  obtain ⟨B9,d9,e9,hS9⟩:=hG.sl hle9 (fun p hp=>hf9 p (by simp [hp])) Zi;injection e9 with e91 e92 e93
  subst e91;subst e93;exact wP (h:=by exact ⟨k+1,_,_,_,by omega,rfl,rfl,hle2.trans (hle3.trans hle9),rfl,by rw [YcF,List.take_add_one,hx,List.foldl_append];exact hS9⟩)
 have hk2:k=n:=by omega
 subst hk2;rw [Zl (show ps.length<=k by omega)] at hS;refine zW ?_;exact Yb1 rfl rfl (fun fz3 hle3 _=>⟨rfl,B,m,d,rfl,hS.mono hle3⟩)
end Go.Proofs.YtbdpaoikccabhaaGreatDoor
