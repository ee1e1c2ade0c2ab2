/- The texts QY, QX, QZ, QLn, QAt, laid together. Conditions: none. -/
import Derived.Test.YtbnpeechpebmeaaGreatDoorRBT
set_option linter.all false
noncomputable section
set_option maxRecDepth 20000
namespace Go.Proofs.YtbnpeechpebmeaaGreatDoor
open Go.Lx Go.RowKit
attribute [local instance 10] Classical.propDecidable
def SubA (S S':List Atom):Prop:=∃ T,S'=S++T
theorem SubA.refl (S:List Atom):SubA S S:=⟨[],by simp⟩
theorem SubA.trans {a b c:List Atom} (h:SubA a b) (k:SubA b c):SubA a c:=by
 obtain ⟨t,rfl⟩:=h
 obtain ⟨u,rfl⟩:=k
 exact ⟨t++u,by simp⟩
theorem SubA.len {a b:List Atom} (h:SubA a b):a.length≤b.length:=by
 obtain ⟨t,rfl⟩:=h
 simp
def Grew (S:List Atom) (r:List Atom × Bool):Prop:=SubA S r.1∧(r.2=true→S.length<r.1.length)∧(r.2=false→r.1=S)
variable {S:List Atom}
theorem Grew.step {r q:List Atom × Bool} (h:Grew S r) (k:Grew r.1 q):Grew S (q.1,q.2 || r.2):=by
 refine ⟨h.1.trans k.1,fun e=>?_,fun e=>?_⟩
 ·have h1:=h.1.len
  have h2:=k.1.len
  show S.length<q.1.length
  rw [Bool.or_eq_true] at e
  rcases e with e | e
  ·have:=k.2.1 e;omega
  ·have:=h.2.1 e;omega
 ·rw [Bool.or_eq_false_iff] at e
  rw [k.2.2 e.1,h.2.2 e.2]
theorem YeO {α:Type} {S:List Atom} {f:List Atom × Bool→α→List Atom × Bool} (hf:∀ r x,Grew S r→Grew S (f r x)):∀ (l:List α) (r:List Atom × Bool),Grew S r→Grew S (l.foldl f r)
 | [],_,h=>h
 | x::l,r,h=>YeO hf l (f r x) (hf r x h)
theorem Grew.zero (S:List Atom):Grew S (S,false):=⟨SubA.refl S,(fun h=>by cases h),fun _=>rfl⟩
theorem Yh4 (K:Kn) (c:Change):∀ (ps:List Param) (E:EnvM) (S:List Atom),Grew S (addM K c ps E S)
 | [],E,S=>by
  rw [addM]
  split
  ·exact ⟨⟨_,rfl⟩,fun _=>by simp,fun h=>by cases h⟩
  ·exact Grew.zero S
 | p::ps,E,S=>by
  rw [addM]
  refine YeO (fun r o h=>?_) _ _ (Grew.zero S)
  split
  ·exact h
  ·exact h.step (Yh4 K c ps (setE E p.name o) r.1)
theorem YfQ (K:Kn) (l:List Change) (E:EnvM) (S:List Atom):Grew S (YaS K l E S):=by
 rw [YaS]
 exact YeO (fun r c h=>h.step (Yh4 K c c.params E r.1)) _ _ (Grew.zero S)
def tr (b:Bool):Nat:=if b=true then 1 else 0
theorem Ykl (K:Kn) (s:Schema) (a:List Bs) (S:List Atom) (b d:Bool):
 SubA S (WW K s a S b d).S∧tr b≤tr (WW K s a S b d).b∧tr d≤tr (WW K s a S b d).d∧
 ((WW K s a S b d).n=true→S.length+tr b+tr d<(WW K s a S b d).S.length+tr (WW K s a S b d).b+tr (WW K s a S b d).d)∧
 ((WW K s a S b d).n=false→(WW K s a S b d).S=S∧(WW K s a S b d).b=b∧(WW K s a S b d).d=d):=by
 simp only [WW]
 generalize hb:(b || holdsM K S (envA s a) s.start)=b'
 generalize hd:(d || (b' && holdsM K S (envA s a) s.all))=d'
 have h1:Grew S (if b'=true then YaS K s.early (envA s a) S else (S,false)):=by
  split
  ·exact YfQ K s.early (envA s a) S
  ·exact Grew.zero S
 generalize (if b'=true then YaS K s.early (envA s a) S else (S,false))=r1 at h1
 have h2:Grew r1.1 (if d'=true then YaS K s.late (envA s a) r1.1 else (r1.1,false)):=by
  split
  ·exact YfQ K s.late (envA s a) r1.1
  ·exact Grew.zero r1.1
 generalize (if d'=true then YaS K s.late (envA s a) r1.1 else (r1.1,false))=r2 at h2
 have l1:=h1.1.len
 have l2:=h2.1.len
 have tb:tr b≤tr b':=by rw [← hb];cases b<;>simp [tr]
 have td:tr d≤tr d':=by rw [← hd];cases d<;>simp [tr]
 refine ⟨h1.1.trans h2.1,tb,td,fun e=>?_,fun e=>?_⟩
 ·simp only [Bool.or_eq_true,Bool.and_eq_true] at e
  rcases e with e | e | e | e
  ·have:=h2.2.1 e;omega
  ·have:=h1.2.1 e;omega
  ·have:tr d<tr d':=by
    obtain ⟨e1,e2⟩:=e
    subst e2
    cases d
    ·simp [tr]
    ·cases e1
   omega
  ·have:tr b<tr b':=by
    obtain ⟨e1,e2⟩:=e
    subst e2
    cases b
    ·simp [tr]
    ·cases e1
   omega
 ·simp only [Bool.or_eq_false_iff] at e
  obtain ⟨e1,e2,e3,e4⟩:=e
  refine ⟨by rw [h2.2.2 e1,h1.2.2 e2],?_,?_⟩
  ·cases b' with
   | false=>cases b with
    | false=>rfl
    | true=>simp at hb
   | true=>cases b with
    | false=>simp at e4
    | true=>rfl
  ·cases d' with
   | false=>cases d with
    | false=>rfl
    | true=>simp at hd
   | true=>cases d with
    | false=>simp at e3
    | true=>rfl
def cntT (l:List Bool):Nat:=(l.map tr).sum
theorem YgC:∀ {l:List Bool} {j:Nat} {b b':Bool},l[j]?=some b→cntT (l.set j b')+tr b=cntT l+tr b'
 | [],j,_,_,h=>by simp at h
 | x::r,0,b,b',h=>by simp at h;subst h;simp [cntT];omega
 | x::r,j+1,b,b',h=>by
  have:=YgC (l:=r) (j:=j) (b:=b) (b':=b') (by simpa using h)
  simp only [cntT,List.set_cons_succ,List.map_cons,List.sum_cons] at this ⊢
  omega
theorem Ymj:∀ (l:List Bool),cntT l≤l.length
 | []=>by simp [cntT]
 | x::r=>by
  have:=Ymj r
  have:tr x≤1:=by unfold tr;split<;>omega
  simp only [cntT,List.map_cons,List.sum_cons,List.length_cons] at*
  omega
def cntB (B:List (List Bool)):Nat:=(B.map cntT).sum
theorem YgD:∀ {B:List (List Bool)} {i:Nat} {b b':List Bool},B[i]?=some b→cntB (B.set i b')+cntT b=cntB B+cntT b'
 | [],i,_,_,h=>by simp at h
 | x::r,0,b,b',h=>by simp at h;subst h;simp [cntB];omega
 | x::r,i+1,b,b',h=>by
  have:=YgD (B:=r) (i:=i) (b:=b) (b':=b') (by simpa using h)
  simp only [cntB,List.set_cons_succ,List.map_cons,List.sum_cons] at this ⊢
  omega
theorem Yg5 (K:Kn) (s:Schema):∀ (k:Nat) (st:RowS),st.bs.length=s.arguments.length→st.ds.length=s.arguments.length→
 SubA st.S (rowN K s k st).S∧cntT st.bs≤cntT (rowN K s k st).bs∧cntT st.ds≤cntT (rowN K s k st).ds∧(st.n=true→(rowN K s k st).n=true)∧
 (st.n=false→(rowN K s k st).n=true→st.S.length+cntT st.bs+cntT st.ds<(rowN K s k st).S.length+cntT (rowN K s k st).bs+cntT (rowN K s k st).ds)∧
 ((rowN K s k st).n=false→rowN K s k st=st)
 | 0,st,_,_=>⟨SubA.refl _,Zs _,Zs _,fun h=>h,(fun h1 h2=>by rw [rowN,h1] at h2;cases h2),fun _=>rfl⟩
 | k+1,st,hb,hd=>by
  obtain ⟨i1,i2,i3,i4,i5,i6⟩:=Yg5 K s k st hb hd
  have hlen:=YdY K s k st
  rw [rowN]
  cases ha:s.arguments[k]? with
  | none=>exact ⟨i1,i2,i3,i4,i5,i6⟩
  | some a=>
   simp only
   generalize hr:rowN K s k st=r at*
   have hk:=(Zg ha).1
   obtain ⟨b,hbk⟩:=Yg (l:=r.bs) (k:=k) Zi
   obtain ⟨d,hdk⟩:=Yg (l:=r.ds) (k:=k) Zi
   unfold Yj1
   rw [hbk,hdk]
   simp only [Option.getD_some]
   obtain ⟨g1,g2,g3,g4,g5⟩:=Ykl K s a r.S b d
   generalize WW K s a r.S b d=q at g1 g2 g3 g4 g5
   have c1:=YgC (b':=q.b) hbk
   have c2:=YgC (b':=q.d) hdk
   have l1:=i1.len
   have l2:=g1.len
   refine ⟨i1.trans g1,by omega,by omega,fun h=>by rw [i4 h,Bool.or_true],fun h1 h2=>?_,fun h=>?_⟩
   ·rw [Bool.or_eq_true] at h2
    rcases h2 with h2 | h2
    ·have:=g4 h2;omega
    ·have:=i5 h1 h2;omega
   ·rw [Bool.or_eq_false_iff] at h
    obtain ⟨e1,e2,e3⟩:=g5 h.1
    have e4:=i6 h.2
    rw [e1,e2,e3,X2 hbk,X2 hdk,h.1,Bool.false_or]
    exact e4
theorem Yg6 (K:Kn) (l:List Schema):∀ (k:Nat) (w:RndS),FitR l w.B→FitR l w.D→
 SubA w.S (rndN K l k w).S∧cntB w.B≤cntB (rndN K l k w).B∧cntB w.D≤cntB (rndN K l k w).D∧(w.n=true→(rndN K l k w).n=true)∧
 (w.n=false→(rndN K l k w).n=true→w.S.length+cntB w.B+cntB w.D<(rndN K l k w).S.length+cntB (rndN K l k w).B+cntB (rndN K l k w).D)∧
 ((rndN K l k w).n=false→rndN K l k w=w)
 | 0,w,_,_=>⟨SubA.refl _,Zs _,Zs _,fun h=>h,(fun h1 h2=>by rw [rndN,h1] at h2;cases h2),fun _=>rfl⟩
 | k+1,w,hB,hD=>by
  obtain ⟨i1,i2,i3,i4,i5,i6⟩:=Yg6 K l k w hB hD
  obtain ⟨fB,fD⟩:=YdZ (K:=K) k hB hD
  rw [rndN]
  cases hs:l[k]? with
  | none=>exact ⟨i1,i2,i3,i4,i5,i6⟩
  | some s=>
   simp only
   generalize hr:rndN K l k w=r at*
   have hk:=(Zg hs).1
   obtain ⟨b,hbk⟩:=Yg (l:=r.B) (k:=k) (by rw [fB.1];exact hk)
   obtain ⟨d,hdk⟩:=Yg (l:=r.D) (k:=k) (by rw [fD.1];exact hk)
   unfold stepW
   rw [hbk,hdk]
   simp only [Option.getD_some]
   obtain ⟨g1,g2,g3,g4,g5,g6⟩:=Yg5 K s s.arguments.length ⟨r.S,b,d,r.n⟩ (fB.2 k s b hs hbk) (fD.2 k s d hs hdk)
   generalize hq:rowN K s s.arguments.length ⟨r.S,b,d,r.n⟩=q at g1 g2 g3 g4 g5 g6
   have c1:=YgD (b':=q.bs) hbk
   have c2:=YgD (b':=q.ds) hdk
   have l1:=i1.len
   have l2:=g1.len
   simp only at l2 g2 g3 g4 g5
   refine ⟨i1.trans g1,by omega,by omega,fun h=>g4 (i4 h),fun h1 h2=>?_,fun h=>?_⟩
   ·cases hn:r.n with
    | true=>have:=i5 h1 hn;omega
    | false=>have:=g5 hn h2;omega
   ·have e:=g6 h
    rw [e] at h ⊢
    have e4:=i6 h
    simp only
    rw [X2 hbk,X2 hdk]
    exact e4
def meas (tB tD:Nat) (w:RndS):Nat:=(4097 - w.S.length)+(tB - cntB w.B)+(tD - cntB w.D)
def exF (K:Kn) (l:List Schema):Nat→RndS→RndS
 | 0,w=>w
 | f+1,w=>let r:=Xy K l w.S w.B w.D;if r.n=false∨4096<r.S.length then r else exF K l f r
def totB (l:List Schema):Nat:=(l.map fun s=>s.arguments.length).sum
theorem YiJ:∀ {l:List Schema} {B:List (List Bool)},FitR l B→cntB B≤totB l
 | [],B,h=>by
  have:B=[]:=List.eq_nil_of_length_eq_zero h.1
  subst this;simp [cntB]
 | s::l,[],h=>by have:=h.1;simp at this
 | s::l,b::B,h=>by
  have h1:=h.2 0 s b rfl rfl
  have h2:=Ymj b
  have h3:=YiJ (l:=l) (B:=B) ⟨by have:=h.1;simpa using this,fun i s b hs hb=>h.2 (i+1) s b (by simpa using hs) (by simpa using hb)⟩
  simp only [cntB,totB,List.map_cons,List.sum_cons] at*
  omega
variable {K:Kn}
theorem Yfs {l:List Schema} {B D:List (List Bool)} (hB:FitR l B) (hD:FitR l D):
 SubA S (Xy K l S B D).S∧FitR l (Xy K l S B D).B∧FitR l (Xy K l S B D).D∧
 ((Xy K l S B D).n=true→S.length≤4096→meas (totB l) (totB l) (Xy K l S B D)<meas (totB l) (totB l) ⟨S,B,D,false⟩)∧
 ((Xy K l S B D).n=false→Xy K l S B D=⟨S,B,D,false⟩):=by
 obtain ⟨i1,i2,i3,i4,i5,i6⟩:=Yg6 K l l.length ⟨S,B,D,false⟩ hB hD
 obtain ⟨fB,fD⟩:=YdZ (K:=K) l.length (w:=⟨S,B,D,false⟩) hB hD
 refine ⟨i1,fB,fD,fun hn hS=>?_,i6⟩
 have:=i5 rfl hn
 have b1:=YiJ fB
 have b2:=YiJ fD
 have l1:=i1.len
 unfold meas Xy
 simp only at this i2 i3 l1 ⊢
 omega
def exM (K:Kn) (l:List Schema) (S:List Atom) (B D:List (List Bool)):RndS:=exF K l (meas (totB l) (totB l) ⟨S,B,D,false⟩+1) ⟨S,B,D,false⟩
theorem Ydv {l:List Schema} {f:Nat} {B D:List (List Bool)} {n:Bool} (h:(Xy K l S B D).n=false∨4096<(Xy K l S B D).S.length):exF K l (f+1) ⟨S,B,D,n⟩=Xy K l S B D:=by
 rw [exF];exact if_pos h
theorem Yb7 {l:List Schema} {f:Nat} {B D:List (List Bool)} {n:Bool} (h:¬((Xy K l S B D).n=false∨4096<(Xy K l S B D).S.length)):exF K l (f+1) ⟨S,B,D,n⟩=exF K l f (Xy K l S B D):=by
 rw [exF];exact if_neg h
theorem YhM {K:Kn} {l:List Schema}:∀ (f:Nat) {w:RndS},meas (totB l) (totB l) w<f→FitR l w.B→FitR l w.D→SubA w.S (exF K l f w).S∧FitR l (exF K l f w).B∧FitR l (exF K l f w).D∧(4096<(exF K l f w).S.length∨Xy K l (exF K l f w).S (exF K l f w).B (exF K l f w).D=⟨(exF K l f w).S,(exF K l f w).B,(exF K l f w).D,false⟩)
 | 0,_,h,_,_=>absurd h Zi
 | f+1,w,h,hB,hD=>by
  obtain ⟨S,B,D,n⟩:=w
  have hB:FitR l B:=hB
  have hD:FitR l D:=hD
  obtain ⟨g1,g2,g3,g4,g5⟩:=Yfs (K:=K) (l:=l) (S:=S) (B:=B) (D:=D) hB hD
  by_cases hc:(Xy K l S B D).n=false∨4096<(Xy K l S B D).S.length
  ·rw [Ydv hc]
   refine ⟨g1,g2,g3,?_⟩
   rcases hc with hc | hc
   ·have e:=g5 hc
    rw [e]
    exact .inr e
   ·exact .inl hc
  ·rw [Yb7 hc]
   have hc1:(Xy K l S B D).n=true:=by
    cases hn:(Xy K l S B D).n with
    | true=>rfl
    | false=>exact absurd (.inl hn) hc
   have hc2:¬4096<(Xy K l S B D).S.length:=fun h=>hc (.inr h)
   have hl:=g1.len
   have hm:=g4 hc1 Zi
   have hmm:meas (totB l) (totB l) ⟨S,B,D,n⟩=meas (totB l) (totB l) ⟨S,B,D,false⟩:=rfl
   obtain ⟨k1,k2,k3,k4⟩:=YhM f (w:=Xy K l S B D) Zi g2 g3
   exact ⟨g1.trans k1,k2,k3,k4⟩
end Go.Proofs.YtbnpeechpebmeaaGreatDoor
namespace Go.Lx
section
attribute [local instance] Classical.propDecidable
def cntH (x:Nat × Obj) (l:HP):Nat:=List.count x l
theorem Ydx (x:Nat × Obj):cntH x []=0:=by unfold cntH;exact List.count_nil
theorem X7 (x:Nat × Obj) (l l':HP):cntH x (l++l')=cntH x l+cntH x l':=by unfold cntH;exact List.count_append
def cntA (x a:Nat × Obj):Nat:=cntH x [a]
theorem YbF (x a:Nat × Obj) (l:HP):cntH x (a::l)=cntA x a+cntH x l:=by
 unfold cntA;rw [← X7];rfl
theorem Yat {l l':HP} (h:∀ x,cntH x l=cntH x l'):l.Perm l':=List.perm_iff_count.2 h
end
theorem WE {A B X:HP}:(A++(B++X)).Perm ((A++X)++B):=Yat fun x=>by simp only [X7];omega
theorem permFz {a b:Nat × Obj} {B D R Q:HP}:(a::b::(B++(D++(R++Q)))).Perm ((b::(R++Q))++(a::(B++D))):=Yat fun x=>by simp only [YbF,X7];omega
theorem WD {A B D X:HP}:(A++(B++(D++X))).Perm ((A++(B++X))++D):=Yat fun x=>by simp only [X7];omega
theorem fin0 {rb jb rd jd s g m:Nat × Obj} {B D RB RD:HP}:(jb::jd::s::g::m::(B++(D++((RB++ [rb])++(RD++ [rd]))))).Perm (jd::rd::jb::rb::s::g::m::(B++(D++(RB++RD)))):=Yat fun x=>by simp only [YbF,X7,Ydx];omega
theorem fin1 {rb jb rd jd s g m:Nat × Obj} {B D RB RD:HP}:(jb::jd::s::g::m::(B++(D++((RB++ [rb])++(RD++ [rd]))))).Perm (jd::jb::rd::rb::s::g::m::(B++(D++(RB++RD)))):=Yat fun x=>by simp only [YbF,X7,Ydx];omega
theorem fin2 {rb jb rd jd s g m:Nat × Obj} {B D RB RD:HP}:(jb::jd::s::g::m::(B++(D++((RB++ [rb])++(RD++ [rd]))))).Perm (jb::jd::rd::rb::s::g::m::(B++(D++(RB++RD)))):=Yat fun x=>by simp only [YbF,X7,Ydx];omega
theorem fin3 {rb jb rd jd s g m:Nat × Obj} {B D RB RD:HP}:(jb::jd::s::g::m::(B++(D++((RB++ [rb])++(RD++ [rd]))))).Perm (jd::jb::rb::rd::s::g::m::(B++(D++(RB++RD)))):=Yat fun x=>by simp only [YbF,X7,Ydx];omega
theorem fin4 {rb jb rd jd s g m:Nat × Obj} {B D RB RD:HP}:(jb::jd::s::g::m::(B++(D++((RB++ [rb])++(RD++ [rd]))))).Perm (jb::jd::rb::rd::s::g::m::(B++(D++(RB++RD)))):=Yat fun x=>by simp only [YbF,X7,Ydx];omega
theorem fin5 {rb jb rd jd s g m:Nat × Obj} {B D RB RD:HP}:(jb::jd::s::g::m::(B++(D++((RB++ [rb])++(RD++ [rd]))))).Perm (jb::rb::jd::rd::s::g::m::(B++(D++(RB++RD)))):=Yat fun x=>by simp only [YbF,X7,Ydx];omega
end Go.Lx
namespace Go.Proofs.YtbnpeechpebmeaaGreatDoor
open Go.Lx Go.RowKit
attribute [local instance 10] Classical.propDecidable
open Go.Proofs.Tryz (prog)
theorem Yfu:∀ n:Nat,repZ [Value.bool false] n=(List.replicate n false).map Value.bool
 | 0=>rfl
 | n+1=>by rw [repZ,Yfu n,List.replicate_succ];rfl
variable {H:HP} {g n:Nat}
theorem Ybw:(rowO g (List.replicate n false)::H).Perm ((g,.cells (repZ [Value.bool false] n).toArray 4 (0,0))::H):=by
 unfold rowO;rw [← Yfu]
def exN0 (l:List Schema):List (List Bool):=l.map fun s=>List.replicate s.arguments.length false
theorem Ygy (l:List Schema):FitR l (exN0 l):=by
 refine ⟨by unfold exN0;rw [List.length_map],fun i s b hs hb=>?_⟩
 unfold exN0 at hb
 rw [List.getElem?_map,hs] at hb
 injection hb with hb
 subst hb
 rw [List.length_replicate]
theorem Yj3 {gs:List Nat} {B:List (List Bool)} {b:List Bool} (h:gs.length=B.length):rowsO (gs++ [g]) (B++ [b])=rowsO gs B++ [rowO g b]:=by
 unfold rowsO
 rw [List.zipWith_append h];rfl
def expM (K:Kn) (d:Domain) (S0:List Atom):RndS:=exM K (schL K d) S0 (exN0 (schL K d)) (exN0 (schL K d))
def expE (K:Kn) (d:Domain) (S0:List Atom):Int:=if schE K d≠0 then schE K d else if 4096<(expM K d S0).S.length then 5 else 0
structure ReachedR (fz:FZ) (v:Value) (K:Kn) (d:Domain) (S0:List Atom):Prop where
 ex:∃ (gr gs:Nat) (vk:Value) (As Ad:Option Addr) (n cS cd:Nat) (vb:Value) (m:List (Bs × Value)) (gD:List Nat),v=.pointer (some ⟨gr,0,none⟩)∧
  fz gr=some (.cells #[vk,.slice As n cS,.map (some gs),vb,.slice Ad n cd] 101 (0,0))∧fz gs=some (mapS m)∧SetM fz m (expM K d S0).S∧Sl schemaL fz As n cS (schL K d)∧
  Sl rowL fz Ad n cd (gD.zip ((schL K d).map fun s=>s.arguments.length))∧gD.length=n∧∀ p∈rowsO gD (expM K d S0).D,fz p.1=some p.2
def Yky (S0 L:List Atom):Prop:=S0.Nodup∧∀ a,a∈S0↔a∈L
theorem Yc8 {α:Type} {f:α→Nat}:∀ {l:List α} {x:α},x∈l→f x≤(l.map f).sum
 | [],x,h=>by cases h
 | y::l,x,h=>by
  rcases List.mem_cons.1 h with rfl | h
  ·simp
  ·have:=Yc8 (f:=f) h
   simp only [List.map_cons,List.sum_cons];omega
variable {K:Kn} {d:Domain}
theorem Yk9 (hE:schE K d=0) {s:Schema} (hs:s∈schL K d):s.arguments.length≤4096:=by
 have h1:=Yc8 (f:=fun s:Schema=>s.arguments.length) hs
 have h2:¬4096<Ya6 (schL K d):=fun h=>by rw [schE,if_pos h] at hE;cases hE
 unfold Ya6 at h2
 omega
variable {S:List Atom} {fz:FZ}
theorem SetM.nodup {m:List (Bs × Value)} (h:SetM fz m S):S.Nodup:=by
 unfold List.Nodup
 rw [List.pairwise_iff_getElem]
 intro i j hi hj hij he
 obtain ⟨_,va,h1,_⟩:=h.2.2 i S[i] (List.getElem?_eq_getElem hi)
 obtain ⟨_,vb,h2,_⟩:=h.2.2 j S[j] (List.getElem?_eq_getElem hj)
 have hk:=h.1
 unfold KeyN List.Nodup at hk
 rw [List.pairwise_iff_getElem] at hk
 have hl:=h.2.1
 refine hk i j (by rw [List.length_map];omega) (by rw [List.length_map];omega) hij ?_
 obtain ⟨_,e1⟩:=Zg h1
 obtain ⟨_,e2⟩:=Zg h2
 rw [List.getElem_map,List.getElem_map,e1,e2,he]
variable {v:Value}
set_option maxHeartbeats 32000000 in
theorem YhL (hKD:KnD fz v K d) (hS:SchS K d) (hOs:∀ o∈K.os,PlnS o.name) (hSh:schE K d=0→∀ s∈schL K d,SSh s):
 GFn prog 24 [v] fz [] (fun r fz' H'=>H'=[]∧∃ S0,Yky S0 K.init∧∃ vr,r=.tuple #[vr,errV (expE K d S0)]∧(expE K d S0=0→ReachedR fz' vr K d S0)):=by
 have hK0:=hKD.k
 obtain ⟨⟨gk,a0,a1,a2,a3,a4,a5,a6,a7,a8,a9,a10,a11,a12,a13,a14,a15,a16,a17,vf,Ao,no,co,gc,gi,mc,mi,rfl,hg,hF,hO,h5,h6,h7,h8⟩,hw,hmany⟩:=hKD.k
 refine zF Tryz.func24 Tryz.ntmps24 (fun w0=>?_)
 refine zW ?_;intros
 refine Yb Zz (Yl [] [] Zz Zz Zz (Yk8 hKD hS) (fun v1 fz1 H1 hle1 hR1=>?_))
 obtain ⟨rfl,vs,rfl,hok,hbad⟩:=hR1
 by_cases hE:schE K d=0
 rotate_left 1
 ·rw [YF hE,hbad hE]
  refine zW ?_;intros
  exact ret2 rfl rfl rfl Zb ⟨rfl,K.init,⟨h8.nodup,fun _=>Iff.rfl⟩,_,by rw [expE,if_pos hE,YF hE];rfl,fun h=>absurd h (by rw [expE,if_pos hE];exact hE)⟩
 ·rw [hE,show errV 0=.nilIface from rfl]
  obtain ⟨As,n,cS,rfl,hl⟩:=hok hE
  have ll:=hl.len
  have sl:=hl.short
  have hnn:n≤4000000:=by
   have h1:=hS.na
   have h2:=hS.nd
   have:(schL K d).length=d.actions.length+d.duratives.length:=by unfold schL schB;rw [List.length_map,List.length_append,List.length_map,List.length_map]
   omega
  have hg1:=hle1 _ _ hg
  have h71:=hle1 _ _ h7
  have h81:=h8.mono hle1
  refine zW ?_;intros
  refine Yb Zz (Xo (fun gs=>?_))
  refine zW ?_;intros
  rename_i gr
  refine Yb Zz (YeD T Zz Zz Zz h71 (fun gi2=>?_))
  refine zW ?_;intros
  refine Yk (fun q σ fz' H'=>∃ (seen:List Nat) (m:List (Bs × Value)) (S:List Atom),q=(List.range mi.length).countP (fun i=>!seen.contains i)∧σ=[(28,.pointer (some ⟨gi2,0,none⟩)),(6,.pointer (some ⟨gr,0,none⟩)),(4,.slice As n cS)]∧Le fz1 fz'∧H'=[(gi2,Ybf gi mi.length seen),(gr,.cells #[.pointer (some ⟨gk,0,none⟩),.slice As n cS,.map (some gs),.slice none 0 0,.slice none 0 0] 101 (0,0)),(gs,mapS m)]∧SetM fz' m S∧S.Nodup∧(∀ a∈S,a∈K.init)∧∀ i∈seen,∀ a,K.init[i]?=some a→a∈S)
   ⟨[],[],[],rfl,rfl,Le.refl _,rfl,SetM.nil,List.nodup_nil,by simp,by simp⟩ Zw Zb ?_
  rintro q σ fz2 H' ⟨seen,m2,S2,rfl,rfl,hle2,rfl,hS2,hnd2,hin2,hall2⟩
  have h72:=hle2 _ _ h71
  have h82:=h81.mono hle2
  refine zW ?_;intros
  refine Yb Zz (Ygh Zz h72 (fun hall=>?_) (fun i p hp hi=>?_))
  rotate_left 1
  ·obtain ⟨a,ha⟩:=Yg (l:=K.init) (k:=i) (by have:=(Zg hp).1;rw [h82.2.1] at this;exact this)
   obtain ⟨haok,va,hpa,hRa⟩:=h82.2.2 i a ha
   rw [hp] at hpa
   injection hpa with hpa
   subst hpa
   obtain ⟨Aa,na,ca,rfl,_⟩:=id hRa.args
   refine zW ?_;intros
   refine zG ?_;refine Yer 0 Zz Zz h72 hp ?_
   refine zWN ?_;intros
   refine Wp.drawK (Hq:=[_,_,_]) T.mixed Zj Zj Zb ?_
   refine zW ?_;intros
   refine Ye ?_
   refine YD ⟨by kernel_rfl,?_⟩
   refine Yj (Does.perm (H':=[(gs,mapS m2),_,_,_]) (Zq (l₁:=[_]) (l₂:=[_,_,_])) (Does.after (Yl [_] [_,_,_] Zz Zz Zz (add_f hS2 hRa haok) (fun v5 fz5 H5 hle5 hR5=>?_))))
   obtain ⟨rfl,rfl,m5,rfl,hS5⟩:=hR5
   refine ⟨_,Zq (l₁:=[_,_,_]) (l₂:=[_]),(⟨(Le.refl _),Zx⟩),?_⟩
   refine Ch.done ?_
   refine zW ?_;intros
   refine YA ⟨seen++ [i],m5,_,rfl,rfl,hle2,rfl,hS5,?_,?_,?_⟩ ?_ Zw Zb
   ·split
    ·exact hnd2
    ·rename_i hna
     exact List.nodup_append.2 ⟨hnd2,by simp,fun x hx y hy hxy=>by simp at hy;subst hy;subst hxy;exact hna hx⟩
   ·intro b hb
    split at hb
    ·exact hin2 b hb
    ·rcases List.mem_append.1 hb with hb | hb
     ·exact hin2 b hb
     ·simp at hb;subst hb;exact Zm ha
   ·intro j hj b hb
    rcases List.mem_append.1 hj with hj | hj
    ·have:=hall2 j hj b hb
     split
     ·exact this
     ·simp [this]
    ·simp at hj;subst hj
     rw [ha] at hb
     injection hb with hb
     subst hb
     split
     ·assumption
     ·simp
   ·exact YaN _ i (by rw [List.mem_range];exact (Zg hp).1) (fun j hj=>by simp at hj ⊢;exact fun h=>hj.1 h) (by simpa using hi) (by simp)
  ·have hset:Yky S2 K.init:=⟨hnd2,fun a=>⟨hin2 a,fun ha=>by
    obtain ⟨i,hi⟩:=List.getElem?_of_mem ha
    exact hall2 i (hall i (by have:=(Zg hi).1;rw [h82.2.1];exact this)) a hi⟩⟩
   have hx2:=hle1.trans hle2
   refine zW ?_;intros
   refine Yk (fun q σ fz' H'=>∃ (k:Nat) (vb vd:Value) (gB gD:List Nat) (Hb Hd:HP),k≤n∧q=n - k∧σ=[(41,.int .i64 k),(40,.int .i64 n),(39,.slice As n cS),(6,.pointer (some ⟨gr,0,none⟩))]∧fz2=fz'∧H'=(gr,.cells #[.pointer (some ⟨gk,0,none⟩),.slice As n cS,.map (some gs),vb,vd] 101 (0,0))::(gs,mapS m2)::(Hb++(Hd++(rowsO gB (exN0 ((schL K d).take k))++rowsO gD (exN0 ((schL K d).take k)))))∧gB.length=k∧gD.length=k∧Grow rowL 112 fz' vb k Hb (gB.zip (((schL K d).take k).map fun s=>s.arguments.length))∧Grow rowL 112 fz' vd k Hd (gD.zip (((schL K d).take k).map fun s=>s.arguments.length)))
    ⟨0,_,_,[],[],[],[],Z0 _,rfl,rfl,rfl,rfl,rfl,rfl,Grow.nil _ _ _,Grow.nil _ _ _⟩ Zw Zb ?_
   rintro q σ fz' H' ⟨k,vb,vd,gB,gD,Hb,Hd,hk,rfl,rfl,rfl,rfl,lgB,lgD,hGb,hGd⟩
   obtain ⟨Ab,cb,rfl,_,_⟩:=hGb.form
   obtain ⟨Ad,cd,rfl,_,_⟩:=hGd.form
   refine zW ?_;intros
   refine zC (fun c1=>?_) (fun c1=>?_)
   ·obtain ⟨s,hs⟩:=Yg (l:=schL K d) (k:=k) Zi
    have hmany4:=Yk9 hE (Zm hs)
    refine zW ?_;intros
    refine zI (hl.mono hle2) hs (fun pp1 hp1=>?_)
    refine zL hp1 ?_
    intro cs hcs
    obtain ⟨u0,u1,u2,u3,u4,u5,u6,u7,u8,u9,u10,u11,u12,u13,u14,u15,u16,u17,u18,u19,rfl,hR⟩:=WC hcs
    obtain ⟨P0,p0,q0,rfl,_⟩:=id hR.params
    obtain ⟨P1,p1,q1,rfl,_⟩:=id hR.start.args
    obtain ⟨P2,p2,q2,rfl,_⟩:=id hR.start.params
    obtain ⟨P3,p3,q3,rfl,_⟩:=id hR.start.exprs
    obtain ⟨P4,p4,q4,rfl,_⟩:=id hR.start.kids
    obtain ⟨P5,p5,q5,rfl,_⟩:=id hR.all.args
    obtain ⟨P6,p6,q6,rfl,_⟩:=id hR.all.params
    obtain ⟨P7,p7,q7,rfl,_⟩:=id hR.all.exprs
    obtain ⟨P8,p8,q8,rfl,_⟩:=id hR.all.kids
    obtain ⟨P9,p9,q9,rfl,_⟩:=id hR.over.args
    obtain ⟨P10,p10,q10,rfl,_⟩:=id hR.over.params
    obtain ⟨P11,p11,q11,rfl,_⟩:=id hR.over.exprs
    obtain ⟨P12,p12,q12,rfl,_⟩:=id hR.over.kids
    obtain ⟨P13,p13,q13,rfl,_⟩:=id hR.fin.args
    obtain ⟨P14,p14,q14,rfl,_⟩:=id hR.fin.params
    obtain ⟨P15,p15,q15,rfl,_⟩:=id hR.fin.exprs
    obtain ⟨P16,p16,q16,rfl,_⟩:=id hR.fin.kids
    obtain ⟨P17,p17,q17,rfl,_⟩:=id hR.early
    obtain ⟨P18,p18,q18,rfl,_⟩:=id hR.late
    obtain ⟨P19,p19,q19,rfl,iar⟩:=id hR.arguments
    have lar:=iar.len
    have eT:(schL K d).take (k+1)=(schL K d).take k++ [s]:=by rw [List.take_add_one,hs];rfl
    have eZ:∀ (g:List Nat) (x:Nat),g.length=k→(g++ [x]).zip (((schL K d).take (k+1)).map fun s=>s.arguments.length)=g.zip (((schL K d).take k).map fun s=>s.arguments.length)++ [(x,p19)]:=fun g x hg=>by
     rw [eT,List.map_append,List.zip_append (by rw [List.length_map,List.length_take];omega),← lar];rfl
    have eR:∀ (g:List Nat) (x:Nat),g.length=k→rowsO (g++ [x]) (exN0 ((schL K d).take (k+1)))=rowsO g (exN0 ((schL K d).take k))++ [rowO x (List.replicate p19 false)]:=fun g x hg=>by
     unfold exN0
     rw [eT,List.map_append,List.map_cons,List.map_nil,lar]
     exact Yj3 (by rw [List.length_map,List.length_take];omega)
    refine zWN ?_;intros
    refine Wp.drawP [1,25,26] (Hq:=[_,_]) T.mixed Zj Zj Zb ?_
    refine zW ?_;intros
    refine PK.p Zz (fun fz'=>by first | exact Wc Zz rfl | exact Wr Zz rfl | exact Y2 T Zz Zz Zz Zz Zz Zz rfl | exact Ydf Zz Zz (Xx Zi) rfl | exact Xt T Zz Zz Zz rfl) ?_
    refine zW ?_;intros
    refine Yf ?_
    refine Yf ?_
    refine Yf ?_
    refine zW ?_;intros
    refine Yf ?_
    refine Yf ?_
    refine Yf ?_
    refine zW ?_;intros
    refine Yf ?_
    refine PK.p Zz (fun fz'=>by first | exact Wc Zz rfl | exact Wr Zz rfl | exact Y2 T Zz Zz Zz Zz Zz Zz rfl | exact Ydf Zz Zz (Xx Zi) rfl | exact Xt T Zz Zz Zz rfl) ?_
    refine PK.p Zz (fun fz'=>by first | exact Wc Zz rfl | exact Wr Zz rfl | exact Y2 T Zz Zz Zz Zz Zz Zz rfl | exact Ydf Zz Zz (Xx Zi) rfl | exact Xt T Zz Zz Zz rfl) ?_
    refine Yf ?_
    refine PK.done ⟨by kernel_rfl,?_⟩
    refine Ys Zz Zz Zz ?_ ?_
    ·refine Yd (Does.after (Wg T Zz Zz Zz Zz Zz Zz (Zs _) (by show _*1≤_;omega) Zi (fun rb=>⟨_,Ybw,(⟨(Le.refl _),Zx⟩),?_⟩)))
     refine Ys Zz Zz Zz ?_ ?_
     ·refine Yd (Yc T (cs:=[.slice (some ⟨rb,0,none⟩) p19 p19]) Zz Zz Zz Zz Zz Zz Zz Zz (fun jb=>⟨(⟨(Le.refl _),Zx⟩),?_⟩))
      refine Ys Zz Zz Zz ?_ ?_
      ·refine Yd (Does.after (YK T (d:=(rb,p19)) Zz Zz Zz Zz Zz Zz Zz Zz (WE (A:=[_,_,_,_,_])) hGb row_one (.head _) rfl (by show _*24≤_;omega) Zi (fun vb2 Hb2 hOb=>⟨_,WE (A:=[_,_,_,_,_]),(⟨(Le.refl _),Zx⟩),?_⟩)))
       obtain ⟨Ab2,cb2,rfl,_,_⟩:=hOb.form
       refine Ya Zz Zz ?_
       refine Yd (Does.after (Wg T Zz Zz Zz Zz Zz Zz (Zs _) (by show _*1≤_;omega) Zi (fun rd=>⟨_,Ybw,(⟨(Le.refl _),Zx⟩),?_⟩)))
       refine Ya Zz Zz ?_
       refine Yd (Yc T (cs:=[.slice (some ⟨rd,0,none⟩) p19 p19]) Zz Zz Zz Zz Zz Zz Zz Zz (fun jd=>⟨(⟨(Le.refl _),Zx⟩),?_⟩))
       refine Ya Zz Zz ?_
       refine Yd (Does.after (YK T (d:=(rd,p19)) Zz Zz Zz Zz Zz Zz Zz Zz (WD (A:=[_,_,_,_,_,_,_])) hGd row_one (.head _) rfl (by show _*24≤_;omega) Zi (fun vd2 Hd2 hOd=>⟨_,WD (A:=[_,_,_,_,_,_,_]),(⟨(Le.refl _),Zx⟩),?_⟩)))
       obtain ⟨Ad2,cd2,rfl,_,_⟩:=hOd.form
       refine Ya Zz Zz ?_
       refine PoS.hard0 Zj (Does.perm (fin0 (B:=Hb2) (D:=Hd2)) (Xi T Zz Zz Zz Zz Zz Zz ?_))
       refine Ya Zz Zz ?_
       refine PoS.hard0 rfl (Xi T Zz Zz Zz Zz Zz Zz ?_)
       refine Po.done ?_
       refine zW ?_;intros
       exact YA ⟨k+1,_,_,gB++ [rb],gD++ [rd],Hb2,Hd2,by omega,rfl,rfl,rfl,(by rw [eR gB rb lgB,eR gD rd lgD];try rfl),by rw [List.length_append,lgB];rfl,by rw [List.length_append,lgD];rfl,hOb.of (eZ gB rb lgB).symm rfl,hOd.of (eZ gD rd lgD).symm rfl⟩ Zi Zw Zb
      ·refine Yd (Does.after (Wg T Zz Zz Zz Zz Zz Zz (Zs _) (by show _*1≤_;omega) Zi (fun rd=>⟨_,Ybw,(⟨(Le.refl _),Zx⟩),?_⟩)))
       refine Ys Zz Zz Zz ?_ ?_
       ·refine Yd (Does.after (YK T (d:=(rb,p19)) Zz Zz Zz Zz Zz Zz Zz Zz (WE (A:=[_,_,_,_,_,_])) hGb row_one (.tail _ (.head _)) rfl (by show _*24≤_;omega) Zi (fun vb2 Hb2 hOb=>⟨_,WE (A:=[_,_,_,_,_,_]),(⟨(Le.refl _),Zx⟩),?_⟩)))
        obtain ⟨Ab2,cb2,rfl,_,_⟩:=hOb.form
        refine Ya Zz Zz ?_
        refine Yd (Yc T (cs:=[.slice (some ⟨rd,0,none⟩) p19 p19]) Zz Zz Zz Zz Zz Zz Zz Zz (fun jd=>⟨(⟨(Le.refl _),Zx⟩),?_⟩))
        refine Ya Zz Zz ?_
        refine Yd (Does.after (YK T (d:=(rd,p19)) Zz Zz Zz Zz Zz Zz Zz Zz (WD (A:=[_,_,_,_,_,_,_])) hGd row_one (.head _) rfl (by show _*24≤_;omega) Zi (fun vd2 Hd2 hOd=>⟨_,WD (A:=[_,_,_,_,_,_,_]),(⟨(Le.refl _),Zx⟩),?_⟩)))
        obtain ⟨Ad2,cd2,rfl,_,_⟩:=hOd.form
        refine Ya Zz Zz ?_
        refine PoS.hard0 Zj (Does.perm (fin0 (B:=Hb2) (D:=Hd2)) (Xi T Zz Zz Zz Zz Zz Zz ?_))
        refine Ya Zz Zz ?_
        refine PoS.hard0 rfl (Xi T Zz Zz Zz Zz Zz Zz ?_)
        refine Po.done ?_
        refine zW ?_;intros
        exact YA ⟨k+1,_,_,gB++ [rb],gD++ [rd],Hb2,Hd2,by omega,rfl,rfl,rfl,(by rw [eR gB rb lgB,eR gD rd lgD];try rfl),by rw [List.length_append,lgB];rfl,by rw [List.length_append,lgD];rfl,hOb.of (eZ gB rb lgB).symm rfl,hOd.of (eZ gD rd lgD).symm rfl⟩ Zi Zw Zb
       ·refine Yd (Yc T (cs:=[.slice (some ⟨rd,0,none⟩) p19 p19]) Zz Zz Zz Zz Zz Zz Zz Zz (fun jd=>⟨(⟨(Le.refl _),Zx⟩),?_⟩))
        refine Ya Zz Zz ?_
        refine Yd (Does.after (YK T (d:=(rb,p19)) Zz Zz Zz Zz Zz Zz Zz Zz (WE (A:=[_,_,_,_,_,_,_])) hGb row_one (.tail _ (.tail _ (.head _))) rfl (by show _*24≤_;omega) Zi (fun vb2 Hb2 hOb=>⟨_,WE (A:=[_,_,_,_,_,_,_]),(⟨(Le.refl _),Zx⟩),?_⟩)))
        obtain ⟨Ab2,cb2,rfl,_,_⟩:=hOb.form
        refine Ya Zz Zz ?_
        refine Yd (Does.after (YK T (d:=(rd,p19)) Zz Zz Zz Zz Zz Zz Zz Zz (WD (A:=[_,_,_,_,_,_,_])) hGd row_one (.head _) rfl (by show _*24≤_;omega) Zi (fun vd2 Hd2 hOd=>⟨_,WD (A:=[_,_,_,_,_,_,_]),(⟨(Le.refl _),Zx⟩),?_⟩)))
        obtain ⟨Ad2,cd2,rfl,_,_⟩:=hOd.form
        refine Ya Zz Zz ?_
        refine PoS.hard0 Zj (Does.perm (fin0 (B:=Hb2) (D:=Hd2)) (Xi T Zz Zz Zz Zz Zz Zz ?_))
        refine Ya Zz Zz ?_
        refine PoS.hard0 rfl (Xi T Zz Zz Zz Zz Zz Zz ?_)
        refine Po.done ?_
        refine zW ?_;intros
        exact YA ⟨k+1,_,_,gB++ [rb],gD++ [rd],Hb2,Hd2,by omega,rfl,rfl,rfl,(by rw [eR gB rb lgB,eR gD rd lgD];try rfl),by rw [List.length_append,lgB];rfl,by rw [List.length_append,lgD];rfl,hOb.of (eZ gB rb lgB).symm rfl,hOd.of (eZ gD rd lgD).symm rfl⟩ Zi Zw Zb
     ·refine Yd (Does.after (Wg T Zz Zz Zz Zz Zz Zz (Zs _) (by show _*1≤_;omega) Zi (fun rd=>⟨_,Ybw,(⟨(Le.refl _),Zx⟩),?_⟩)))
      refine Ys Zz Zz Zz ?_ ?_
      ·refine Yd (Yc T (cs:=[.slice (some ⟨rb,0,none⟩) p19 p19]) Zz Zz Zz Zz Zz Zz Zz Zz (fun jb=>⟨(⟨(Le.refl _),Zx⟩),?_⟩))
       refine Ys Zz Zz Zz ?_ ?_
       ·refine Yd (Does.after (YK T (d:=(rb,p19)) Zz Zz Zz Zz Zz Zz Zz Zz (WE (A:=[_,_,_,_,_,_])) hGb row_one (.head _) rfl (by show _*24≤_;omega) Zi (fun vb2 Hb2 hOb=>⟨_,WE (A:=[_,_,_,_,_,_]),(⟨(Le.refl _),Zx⟩),?_⟩)))
        obtain ⟨Ab2,cb2,rfl,_,_⟩:=hOb.form
        refine Ya Zz Zz ?_
        refine Yd (Yc T (cs:=[.slice (some ⟨rd,0,none⟩) p19 p19]) Zz Zz Zz Zz Zz Zz Zz Zz (fun jd=>⟨(⟨(Le.refl _),Zx⟩),?_⟩))
        refine Ya Zz Zz ?_
        refine Yd (Does.after (YK T (d:=(rd,p19)) Zz Zz Zz Zz Zz Zz Zz Zz (WD (A:=[_,_,_,_,_,_,_])) hGd row_one (.head _) rfl (by show _*24≤_;omega) Zi (fun vd2 Hd2 hOd=>⟨_,WD (A:=[_,_,_,_,_,_,_]),(⟨(Le.refl _),Zx⟩),?_⟩)))
        obtain ⟨Ad2,cd2,rfl,_,_⟩:=hOd.form
        refine Ya Zz Zz ?_
        refine PoS.hard0 Zj (Does.perm (fin1 (B:=Hb2) (D:=Hd2)) (Xi T Zz Zz Zz Zz Zz Zz ?_))
        refine Ya Zz Zz ?_
        refine PoS.hard0 rfl (Xi T Zz Zz Zz Zz Zz Zz ?_)
        refine Po.done ?_
        refine zW ?_;intros
        exact YA ⟨k+1,_,_,gB++ [rb],gD++ [rd],Hb2,Hd2,by omega,rfl,rfl,rfl,(by rw [eR gB rb lgB,eR gD rd lgD];try rfl),by rw [List.length_append,lgB];rfl,by rw [List.length_append,lgD];rfl,hOb.of (eZ gB rb lgB).symm rfl,hOd.of (eZ gD rd lgD).symm rfl⟩ Zi Zw Zb
       ·refine Yd (Yc T (cs:=[.slice (some ⟨rd,0,none⟩) p19 p19]) Zz Zz Zz Zz Zz Zz Zz Zz (fun jd=>⟨(⟨(Le.refl _),Zx⟩),?_⟩))
        refine Ya Zz Zz ?_
        refine Yd (Does.after (YK T (d:=(rb,p19)) Zz Zz Zz Zz Zz Zz Zz Zz (WE (A:=[_,_,_,_,_,_,_])) hGb row_one (.tail _ (.head _)) rfl (by show _*24≤_;omega) Zi (fun vb2 Hb2 hOb=>⟨_,WE (A:=[_,_,_,_,_,_,_]),(⟨(Le.refl _),Zx⟩),?_⟩)))
        obtain ⟨Ab2,cb2,rfl,_,_⟩:=hOb.form
        refine Ya Zz Zz ?_
        refine Yd (Does.after (YK T (d:=(rd,p19)) Zz Zz Zz Zz Zz Zz Zz Zz (WD (A:=[_,_,_,_,_,_,_])) hGd row_one (.head _) rfl (by show _*24≤_;omega) Zi (fun vd2 Hd2 hOd=>⟨_,WD (A:=[_,_,_,_,_,_,_]),(⟨(Le.refl _),Zx⟩),?_⟩)))
        obtain ⟨Ad2,cd2,rfl,_,_⟩:=hOd.form
        refine Ya Zz Zz ?_
        refine PoS.hard0 Zj (Does.perm (fin1 (B:=Hb2) (D:=Hd2)) (Xi T Zz Zz Zz Zz Zz Zz ?_))
        refine Ya Zz Zz ?_
        refine PoS.hard0 rfl (Xi T Zz Zz Zz Zz Zz Zz ?_)
        refine Po.done ?_
        refine zW ?_;intros
        exact YA ⟨k+1,_,_,gB++ [rb],gD++ [rd],Hb2,Hd2,by omega,rfl,rfl,rfl,(by rw [eR gB rb lgB,eR gD rd lgD];try rfl),by rw [List.length_append,lgB];rfl,by rw [List.length_append,lgD];rfl,hOb.of (eZ gB rb lgB).symm rfl,hOd.of (eZ gD rd lgD).symm rfl⟩ Zi Zw Zb
      ·refine Yd (Yc T (cs:=[.slice (some ⟨rd,0,none⟩) p19 p19]) Zz Zz Zz Zz Zz Zz Zz Zz (fun jd=>⟨(⟨(Le.refl _),Zx⟩),?_⟩))
       refine Ya Zz Zz ?_
       refine Yd (Yc T (cs:=[.slice (some ⟨rb,0,none⟩) p19 p19]) Zz Zz Zz Zz Zz Zz Zz Zz (fun jb=>⟨(⟨(Le.refl _),Zx⟩),?_⟩))
       refine Ya Zz Zz ?_
       refine Yd (Does.after (YK T (d:=(rb,p19)) Zz Zz Zz Zz Zz Zz Zz Zz (WE (A:=[_,_,_,_,_,_,_])) hGb row_one (.head _) rfl (by show _*24≤_;omega) Zi (fun vb2 Hb2 hOb=>⟨_,WE (A:=[_,_,_,_,_,_,_]),(⟨(Le.refl _),Zx⟩),?_⟩)))
       obtain ⟨Ab2,cb2,rfl,_,_⟩:=hOb.form
       refine Ya Zz Zz ?_
       refine Yd (Does.after (YK T (d:=(rd,p19)) Zz Zz Zz Zz Zz Zz Zz Zz (WD (A:=[_,_,_,_,_,_,_])) hGd row_one (.tail _ (.head _)) rfl (by show _*24≤_;omega) Zi (fun vd2 Hd2 hOd=>⟨_,WD (A:=[_,_,_,_,_,_,_]),(⟨(Le.refl _),Zx⟩),?_⟩)))
       obtain ⟨Ad2,cd2,rfl,_,_⟩:=hOd.form
       refine Ya Zz Zz ?_
       refine PoS.hard0 Zj (Does.perm (fin2 (B:=Hb2) (D:=Hd2)) (Xi T Zz Zz Zz Zz Zz Zz ?_))
       refine Ya Zz Zz ?_
       refine PoS.hard0 rfl (Xi T Zz Zz Zz Zz Zz Zz ?_)
       refine Po.done ?_
       refine zW ?_;intros
       exact YA ⟨k+1,_,_,gB++ [rb],gD++ [rd],Hb2,Hd2,by omega,rfl,rfl,rfl,(by rw [eR gB rb lgB,eR gD rd lgD];try rfl),by rw [List.length_append,lgB];rfl,by rw [List.length_append,lgD];rfl,hOb.of (eZ gB rb lgB).symm rfl,hOd.of (eZ gD rd lgD).symm rfl⟩ Zi Zw Zb
    ·refine Yd (Does.after (Wg T Zz Zz Zz Zz Zz Zz (Zs _) (by show _*1≤_;omega) Zi (fun rd=>⟨_,Ybw,(⟨(Le.refl _),Zx⟩),?_⟩)))
     refine Ys Zz Zz Zz ?_ ?_
     ·refine Yd (Does.after (Wg T Zz Zz Zz Zz Zz Zz (Zs _) (by show _*1≤_;omega) Zi (fun rb=>⟨_,Ybw,(⟨(Le.refl _),Zx⟩),?_⟩)))
      refine Ys Zz Zz Zz ?_ ?_
      ·refine Yd (Yc T (cs:=[.slice (some ⟨rb,0,none⟩) p19 p19]) Zz Zz Zz Zz Zz Zz Zz Zz (fun jb=>⟨(⟨(Le.refl _),Zx⟩),?_⟩))
       refine Ys Zz Zz Zz ?_ ?_
       ·refine Yd (Does.after (YK T (d:=(rb,p19)) Zz Zz Zz Zz Zz Zz Zz Zz (WE (A:=[_,_,_,_,_,_])) hGb row_one (.head _) rfl (by show _*24≤_;omega) Zi (fun vb2 Hb2 hOb=>⟨_,WE (A:=[_,_,_,_,_,_]),(⟨(Le.refl _),Zx⟩),?_⟩)))
        obtain ⟨Ab2,cb2,rfl,_,_⟩:=hOb.form
        refine Ya Zz Zz ?_
        refine Yd (Yc T (cs:=[.slice (some ⟨rd,0,none⟩) p19 p19]) Zz Zz Zz Zz Zz Zz Zz Zz (fun jd=>⟨(⟨(Le.refl _),Zx⟩),?_⟩))
        refine Ya Zz Zz ?_
        refine Yd (Does.after (YK T (d:=(rd,p19)) Zz Zz Zz Zz Zz Zz Zz Zz (WD (A:=[_,_,_,_,_,_,_])) hGd row_one (.head _) rfl (by show _*24≤_;omega) Zi (fun vd2 Hd2 hOd=>⟨_,WD (A:=[_,_,_,_,_,_,_]),(⟨(Le.refl _),Zx⟩),?_⟩)))
        obtain ⟨Ad2,cd2,rfl,_,_⟩:=hOd.form
        refine Ya Zz Zz ?_
        refine PoS.hard0 Zj (Does.perm (fin3 (B:=Hb2) (D:=Hd2)) (Xi T Zz Zz Zz Zz Zz Zz ?_))
        refine Ya Zz Zz ?_
        refine PoS.hard0 rfl (Xi T Zz Zz Zz Zz Zz Zz ?_)
        refine Po.done ?_
        refine zW ?_;intros
        exact YA ⟨k+1,_,_,gB++ [rb],gD++ [rd],Hb2,Hd2,by omega,rfl,rfl,rfl,(by rw [eR gB rb lgB,eR gD rd lgD];try rfl),by rw [List.length_append,lgB];rfl,by rw [List.length_append,lgD];rfl,hOb.of (eZ gB rb lgB).symm rfl,hOd.of (eZ gD rd lgD).symm rfl⟩ Zi Zw Zb
       ·refine Yd (Yc T (cs:=[.slice (some ⟨rd,0,none⟩) p19 p19]) Zz Zz Zz Zz Zz Zz Zz Zz (fun jd=>⟨(⟨(Le.refl _),Zx⟩),?_⟩))
        refine Ya Zz Zz ?_
        refine Yd (Does.after (YK T (d:=(rb,p19)) Zz Zz Zz Zz Zz Zz Zz Zz (WE (A:=[_,_,_,_,_,_,_])) hGb row_one (.tail _ (.head _)) rfl (by show _*24≤_;omega) Zi (fun vb2 Hb2 hOb=>⟨_,WE (A:=[_,_,_,_,_,_,_]),(⟨(Le.refl _),Zx⟩),?_⟩)))
        obtain ⟨Ab2,cb2,rfl,_,_⟩:=hOb.form
        refine Ya Zz Zz ?_
        refine Yd (Does.after (YK T (d:=(rd,p19)) Zz Zz Zz Zz Zz Zz Zz Zz (WD (A:=[_,_,_,_,_,_,_])) hGd row_one (.head _) rfl (by show _*24≤_;omega) Zi (fun vd2 Hd2 hOd=>⟨_,WD (A:=[_,_,_,_,_,_,_]),(⟨(Le.refl _),Zx⟩),?_⟩)))
        obtain ⟨Ad2,cd2,rfl,_,_⟩:=hOd.form
        refine Ya Zz Zz ?_
        refine PoS.hard0 Zj (Does.perm (fin3 (B:=Hb2) (D:=Hd2)) (Xi T Zz Zz Zz Zz Zz Zz ?_))
        refine Ya Zz Zz ?_
        refine PoS.hard0 rfl (Xi T Zz Zz Zz Zz Zz Zz ?_)
        refine Po.done ?_
        refine zW ?_;intros
        exact YA ⟨k+1,_,_,gB++ [rb],gD++ [rd],Hb2,Hd2,by omega,rfl,rfl,rfl,(by rw [eR gB rb lgB,eR gD rd lgD];try rfl),by rw [List.length_append,lgB];rfl,by rw [List.length_append,lgD];rfl,hOb.of (eZ gB rb lgB).symm rfl,hOd.of (eZ gD rd lgD).symm rfl⟩ Zi Zw Zb
      ·refine Yd (Yc T (cs:=[.slice (some ⟨rd,0,none⟩) p19 p19]) Zz Zz Zz Zz Zz Zz Zz Zz (fun jd=>⟨(⟨(Le.refl _),Zx⟩),?_⟩))
       refine Ya Zz Zz ?_
       refine Yd (Yc T (cs:=[.slice (some ⟨rb,0,none⟩) p19 p19]) Zz Zz Zz Zz Zz Zz Zz Zz (fun jb=>⟨(⟨(Le.refl _),Zx⟩),?_⟩))
       refine Ya Zz Zz ?_
       refine Yd (Does.after (YK T (d:=(rb,p19)) Zz Zz Zz Zz Zz Zz Zz Zz (WE (A:=[_,_,_,_,_,_,_])) hGb row_one (.head _) rfl (by show _*24≤_;omega) Zi (fun vb2 Hb2 hOb=>⟨_,WE (A:=[_,_,_,_,_,_,_]),(⟨(Le.refl _),Zx⟩),?_⟩)))
       obtain ⟨Ab2,cb2,rfl,_,_⟩:=hOb.form
       refine Ya Zz Zz ?_
       refine Yd (Does.after (YK T (d:=(rd,p19)) Zz Zz Zz Zz Zz Zz Zz Zz (WD (A:=[_,_,_,_,_,_,_])) hGd row_one (.tail _ (.head _)) rfl (by show _*24≤_;omega) Zi (fun vd2 Hd2 hOd=>⟨_,WD (A:=[_,_,_,_,_,_,_]),(⟨(Le.refl _),Zx⟩),?_⟩)))
       obtain ⟨Ad2,cd2,rfl,_,_⟩:=hOd.form
       refine Ya Zz Zz ?_
       refine PoS.hard0 Zj (Does.perm (fin4 (B:=Hb2) (D:=Hd2)) (Xi T Zz Zz Zz Zz Zz Zz ?_))
       refine Ya Zz Zz ?_
       refine PoS.hard0 rfl (Xi T Zz Zz Zz Zz Zz Zz ?_)
       refine Po.done ?_
       refine zW ?_;intros
       exact YA ⟨k+1,_,_,gB++ [rb],gD++ [rd],Hb2,Hd2,by omega,rfl,rfl,rfl,(by rw [eR gB rb lgB,eR gD rd lgD];try rfl),by rw [List.length_append,lgB];rfl,by rw [List.length_append,lgD];rfl,hOb.of (eZ gB rb lgB).symm rfl,hOd.of (eZ gD rd lgD).symm rfl⟩ Zi Zw Zb
     ·refine Yd (Yc T (cs:=[.slice (some ⟨rd,0,none⟩) p19 p19]) Zz Zz Zz Zz Zz Zz Zz Zz (fun jd=>⟨(⟨(Le.refl _),Zx⟩),?_⟩))
      refine Ya Zz Zz ?_
      refine Yd (Does.after (Wg T Zz Zz Zz Zz Zz Zz (Zs _) (by show _*1≤_;omega) Zi (fun rb=>⟨_,Ybw,(⟨(Le.refl _),Zx⟩),?_⟩)))
      refine Ya Zz Zz ?_
      refine Yd (Yc T (cs:=[.slice (some ⟨rb,0,none⟩) p19 p19]) Zz Zz Zz Zz Zz Zz Zz Zz (fun jb=>⟨(⟨(Le.refl _),Zx⟩),?_⟩))
      refine Ya Zz Zz ?_
      refine Yd (Does.after (YK T (d:=(rb,p19)) Zz Zz Zz Zz Zz Zz Zz Zz (WE (A:=[_,_,_,_,_,_,_])) hGb row_one (.head _) rfl (by show _*24≤_;omega) Zi (fun vb2 Hb2 hOb=>⟨_,WE (A:=[_,_,_,_,_,_,_]),(⟨(Le.refl _),Zx⟩),?_⟩)))
      obtain ⟨Ab2,cb2,rfl,_,_⟩:=hOb.form
      refine Ya Zz Zz ?_
      refine Yd (Does.after (YK T (d:=(rd,p19)) Zz Zz Zz Zz Zz Zz Zz Zz (WD (A:=[_,_,_,_,_,_,_])) hGd row_one (.tail _ (.tail _ (.head _))) rfl (by show _*24≤_;omega) Zi (fun vd2 Hd2 hOd=>⟨_,WD (A:=[_,_,_,_,_,_,_]),(⟨(Le.refl _),Zx⟩),?_⟩)))
      obtain ⟨Ad2,cd2,rfl,_,_⟩:=hOd.form
      refine Ya Zz Zz ?_
      refine PoS.hard0 Zj (Does.perm (fin5 (B:=Hb2) (D:=Hd2)) (Xi T Zz Zz Zz Zz Zz Zz ?_))
      refine Ya Zz Zz ?_
      refine PoS.hard0 rfl (Xi T Zz Zz Zz Zz Zz Zz ?_)
      refine Po.done ?_
      refine zW ?_;intros
      exact YA ⟨k+1,_,_,gB++ [rb],gD++ [rd],Hb2,Hd2,by omega,rfl,rfl,rfl,(by rw [eR gB rb lgB,eR gD rd lgD];try rfl),by rw [List.length_append,lgB];rfl,by rw [List.length_append,lgD];rfl,hOb.of (eZ gB rb lgB).symm rfl,hOd.of (eZ gD rd lgD).symm rfl⟩ Zi Zw Zb
   ·have hk2:n=k:=by omega
    subst hk2
    rw [Zl (show (schL K d).length≤n by omega)] at hGb hGd ⊢
    generalize hll:schL K d=l at*
    first
    | refine Wp.freezeAll (H1:=(gs,mapS m2)::(rowsO gB (exN0 l)++rowsO gD (exN0 l))) (H2:=(gr,.cells #[.pointer (some ⟨gk,0,none⟩),.slice As n cS,.map (some gs),.slice Ab n cb,.slice Ad n cd] 101 (0,0))::(Hb++Hd)) permFz (fun fz6 hle6 hf6=>?_)
    | refine Seq.freezeAll (H1:=(gs,mapS m2)::(rowsO gB (exN0 l)++rowsO gD (exN0 l))) (H2:=(gr,.cells #[.pointer (some ⟨gk,0,none⟩),.slice As n cS,.map (some gs),.slice Ab n cb,.slice Ad n cd] 101 (0,0))::(Hb++Hd)) permFz (fun fz6 hle6 hf6=>?_)
    have hgr6:=hf6 _ (.head _)
    obtain ⟨Ab',cb',eb,hSb⟩:=hGb.sl hle6 (fun p hp=>hf6 p (by simp [hp])) Zi
    injection eb with eb1 eb2 eb3
    subst eb1;subst eb3
    obtain ⟨Ad',cd',ed,hSd⟩:=hGd.sl hle6 (fun p hp=>hf6 p (by simp [hp])) Zi
    injection ed with ed1 ed2 ed3
    subst ed1;subst ed3
    have hx6:=hx2.trans hle6
    have hfit:=Ygy l
    refine zW ?_;intros
    refine Yk (fun q σ fz' H'=>∃ (w:RndS) (m:List (Bs × Value)) (f:Nat),q=meas (totB l) (totB l) w∧σ=[(6,.pointer (some ⟨gr,0,none⟩))]∧Le fz6 fz'∧H'=(gs,mapS m)::(rowsO gB w.B++rowsO gD w.D)∧SetM fz' m w.S∧FitR l w.B∧FitR l w.D∧meas (totB l) (totB l) w<f∧exF K l f w=exM K l S2 (exN0 l) (exN0 l))
     ⟨⟨S2,exN0 l,exN0 l,false⟩,m2,_,rfl,rfl,Le.refl _,rfl,hS2.mono hle6,hfit,hfit,Nat.lt_succ_self _,rfl⟩ Zw Zb ?_
    rintro q σ fz7 H' ⟨w,m7,f,rfl,rfl,hle7,rfl,hS7,fB7,fD7,hf7,hfin⟩
    obtain ⟨f,rfl⟩:∃ f',f=f'+1:=⟨f - 1,by omega⟩
    have hx7:=hx6.trans hle7
    refine zW ?_;intros
    refine Yb Zz (Does.after (Yl _ [] (List.append_nil _).symm Zz Zz (round_f (hle7 _ _ hgr6) (hK0.mono hx7) hOs hS7 (hl.mono (hle2.trans (hle6.trans hle7))) (hSb.mono hle7) (hSd.mono hle7) Zi Zi fB7 fD7 (hSh hE)) (fun v8 fz8 H8 hle8 hR8=>?_)))
    obtain ⟨rfl,m8,rfl,hS8⟩:=hR8
    refine ⟨(gs,mapS m8)::(rowsO gB (Xy K l w.S w.B w.D).B++rowsO gD (Xy K l w.S w.B w.D).D),by rw [List.append_nil],?_⟩
    have hrg:=Yfs (K:=K) (l:=l) (S:=w.S) fB7 fD7
    have hx8:=hle7.trans hle8
    have hgr8:=hx8 _ _ hgr6
    have hend:=Ydv (K:=K) (l:=l) (f:=f) (S:=w.S) (B:=w.B) (D:=w.D) (n:=w.n)
    have hnxt:=Yb7 (K:=K) (l:=l) (f:=f) (S:=w.S) (B:=w.B) (D:=w.D) (n:=w.n)
    generalize hr:Xy K l w.S w.B w.D=r at hrg hS8 hend hnxt
    obtain ⟨g1,g2,g3,g4,g5⟩:=hrg
    have hsl:=hS8.2.1
    cases hn:r.n with
    | false=>
     have hM:expM K d S2=r:=by
      unfold expM
      rw [hll,← hfin]
      exact hend (.inl hn)
     refine zW ?_;intros
     refine zG ?_;refine Ydd T 0 Zz Zz Zz Zz ?_
     refine zC (fun c3=>?_) (fun c3=>?_)
     ·have hX:expE K d S2=5:=by rw [expE,if_neg (by rw [hE];decide),hM,if_pos Zi]
      refine zW ?_;intros
      exact ret2 rfl rfl rfl Zb ⟨rfl,S2,hset,_,by rw [hX];rfl,fun h=>absurd h (by rw [hX];decide)⟩
     ·have hX:expE K d S2=0:=by rw [expE,if_neg (by rw [hE];decide),hM,if_neg Zi]
      refine zW ?_;intros
      refine ret2F rfl rfl rfl (fun fz9 hle9 hf9=>⟨rfl,S2,hset,_,by rw [hX];rfl,fun _=>⟨gr,gs,_,_,_,n,_,_,_,m8,gD,rfl,hle9 _ _ hgr8,hf9 _ (.head _),?_,?_,?_,by omega,?_⟩⟩)
      ·rw [hM];exact hS8.mono hle9
      ·rw [hll];exact hl.mono (hle2.trans (hle6.trans (hx8.trans hle9)))
      ·rw [hll];exact hSd.mono (hx8.trans hle9)
      ·rw [hM];exact fun p hp=>hf9 p (by simp [hp])
    | true=>
     refine zW ?_;intros
     refine zG ?_;refine Ydd T 0 Zz Zz Zz Zz ?_
     refine zC (fun c3=>?_) (fun c3=>?_)
     ·have hM:expM K d S2=r:=by
       unfold expM
       rw [hll,← hfin]
       exact hend (.inr Zi)
      have hX:expE K d S2=5:=by rw [expE,if_neg (by rw [hE];decide),hM,if_pos Zi]
      refine zW ?_;intros
      exact ret2 rfl rfl rfl Zb ⟨rfl,S2,hset,_,by rw [hX];rfl,fun h=>absurd h (by rw [hX];decide)⟩
     ·have hl8:=g1.len
      have hm8:=g4 hn Zi
      have hmw:meas (totB l) (totB l) ⟨w.S,w.B,w.D,false⟩=meas (totB l) (totB l) w:=rfl
      refine zW ?_;intros
      exact YA ⟨r,m8,f,rfl,rfl,hx8,rfl,hS8,g2,g3,by omega,by rw [← hfin];exact (hnxt (fun h=>h.elim (fun e=>by rw [hn] at e;cases e) (fun e=>by omega))).symm⟩ Zi Zw Zb
theorem sort0_q {fv:Value}:QFn prog 74 [.slice none 0 0,fv] fz (.tuple #[]):=by
 unfold QFn
 refine ⟨⟨_,Tryz.func74,by decide,by decide⟩,fun w hw=>?_⟩
 exact (AnyF.slices_SortFunc_none Tryz.sortAtom none 0 fv w).mono fun e w' ⟨he,hb⟩=>⟨he,by subst hb;exact Fr.refl _ _⟩
theorem Yhl:∀ {l S:List Atom},l.Nodup→(∀ a∈l,a∈S)→l.length≤S.length
 | [],_,_,_=>Z0 _
 | a::l,S,h,hs=>by
  have h1:=List.nodup_cons.1 h
  have:=Yhl (l:=l) (S:=S.erase a) h1.2 (fun b hb=>(List.mem_erase_of_ne (fun e=>by subst e;exact h1.1 hb)).2 (hs b (by simp [hb])))
  have ha:=hs a (by simp)
  have hl:=List.length_erase_of_mem ha
  have hp:=List.length_pos_of_mem ha
  rw [List.length_cons];omega
variable {i j:Nat}
theorem Ylz (h:S.Nodup) {a:Atom} (hi:S[i]?=some a) (hj:S[j]?=some a):i=j:=by
 obtain ⟨x1,x2⟩:=Zg hi
 obtain ⟨y1,y2⟩:=Zg hj
 unfold List.Nodup at h
 rw [List.pairwise_iff_getElem] at h
 rcases Nat.lt_trichotomy i j with hlt | hlt | hlt
 ·exact absurd (x2.trans y2.symm) (h i j x1 y1 hlt)
 ·exact hlt
 ·exact absurd (y2.trans x2.symm) (h j i y1 x1 hlt)
set_option maxHeartbeats 4000000 in
theorem sorted_f {gs:Nat} {m:List (Bs × Value)} (hgs:fz gs=some (mapS m)) (hS:SetM fz m S) (hn:S.length≤2000000):
 GFn prog 25 [.map (some gs)] fz [] (fun r fz' H'=>H'=[]∧∃ l,IsSl atomL fz' r l∧l.Perm S∧YgK l):=by
 have hml:=hS.2.1
 refine zF Tryz.func25 Tryz.ntmps25 (fun w0=>?_)
 refine zW ?_;intros
 refine Yb Zz (YeD T Zz Zz Zz hgs (fun gi=>?_))
 refine zW ?_;intros
 refine Yk (fun q σ fz' H'=>∃ (seen:List Nat) (u:Value) (n:Nat) (Hs:HP) (l:List Atom),q=(List.range m.length).countP (fun i=>!seen.contains i)∧σ=[(7,.pointer (some ⟨gi,0,none⟩)),(3,u)]∧fz=fz'∧H'=(gi,Ybf gs m.length seen)::Hs∧(n=0→u=.slice none 0 0∧Hs=[])∧Grow atomL 48 fz' u n Hs l∧l.Nodup∧(∀ a∈l,∃ j∈seen,S[j]?=some a)∧∀ i∈seen,∀ a,S[i]?=some a→a∈l)
  ⟨[],_,0,[],[],rfl,rfl,rfl,rfl,fun _=>⟨rfl,rfl⟩,Grow.nil _ _ _,List.nodup_nil,by simp,by simp⟩ Zw Zb ?_
 rintro q σ fz' H' ⟨seen,u,n,Hs,l,rfl,rfl,rfl,rfl,hz0,hG,hnd,hin,hall⟩
 obtain ⟨Au,cu,rfl,_,_⟩:=hG.form
 have lG:=hG.len
 have hnS:n≤S.length:=by
  rw [← lG]
  exact Yhl hnd (fun a ha=>by obtain ⟨j,_,hj⟩:=hin a ha;exact Zm hj)
 refine zW ?_;intros
 refine Yb Zz (Ygh Zz hgs (fun hall2=>?_) (fun i p hp hi=>?_))
 rotate_left 1
 ·obtain ⟨a,ha⟩:=Yg (l:=S) (k:=i) (by have:=(Zg hp).1;omega)
  obtain ⟨haok,va,hpa,hRa⟩:=hS.2.2 i a ha
  rw [hp] at hpa
  injection hpa with hpa
  subst hpa
  obtain ⟨Aa,na,ca,rfl,_⟩:=id hRa.args
  have hna:a ∉ l:=fun hal=>by
   obtain ⟨j,hj,hja⟩:=hin a hal
   have:i=j:=Ylz hS.nodup ha hja
   subst this
   exact hi hj
  refine zW ?_;intros
  refine zG ?_;refine Yer 0 Zz Zz hgs hp ?_
  refine zW ?_;intros
  refine Yb Zz (Yc T (cs:=[.string a.name,.slice Aa na ca]) Zz Zz Zz Zz Zz Zz Zz Zz (fun gb=>?_))
  refine Yb Zz (YK T (Hr:=[_,_,_]) (d:=a) Zz Zz Zz Zz Zz Zz Zz Zz (Zr _) hG YjN (.head _) (YfP hRa) (by show _*40≤_;omega) Zi (fun v' Hs' hO'=>?_))
  obtain ⟨Av',cv',rfl,_,_⟩:=hO'.form
  refine zW ?_;intros
  refine YA ⟨seen++ [i],_,n+1,Hs',l++ [a],rfl,rfl,rfl,rfl,fun h=>by omega,hO',?_,?_,?_⟩ ?_ Zw (List.Sublist.cons _ (List.Sublist.cons _ (List.Sublist.refl _)))
  ·exact List.nodup_append.2 ⟨hnd,by simp,fun x hx y hy hxy=>by simp at hy;subst hy;subst hxy;exact hna hx⟩
  ·intro b hb
   rcases List.mem_append.1 hb with hb | hb
   ·obtain ⟨j,h1,h2⟩:=hin b hb
    exact ⟨j,by simp [h1],h2⟩
   ·simp at hb;subst hb;exact ⟨i,by simp,ha⟩
  ·intro j hj b hb
   rcases List.mem_append.1 hj with hj | hj
   ·simp [hall j hj b hb]
   ·simp at hj;subst hj
    rw [ha] at hb
    injection hb with hb
    subst hb
    simp
  ·exact YaN _ i (by rw [List.mem_range];exact (Zg hp).1) (fun j hj=>by simp at hj ⊢;exact fun h=>hj.1 h) (by simpa using hi) (by simp)
 ·have hset:l.Perm S:=(List.perm_ext_iff_of_nodup hnd hS.nodup).2 fun a=>⟨fun ha=>by obtain ⟨j,_,hj⟩:=hin a ha;exact Zm hj,fun ha=>by
   obtain ⟨i,hi⟩:=List.getElem?_of_mem ha
   exact hall i (hall2 i (by have:=(Zg hi).1;omega)) a hi⟩
  cases n with
  | zero=>
   have hl0:l=[]:=List.eq_nil_of_length_eq_zero lG
   subst hl0
   obtain ⟨e1,rfl⟩:=hz0 rfl
   rw [e1]
   refine zW ?_;intros
   refine zc sort0_q ?_
   refine zW ?_;intros
   exact ret1 rfl rfl Zb ⟨rfl,[],IsSl.nil,hset,fun i j a b _ h _=>by simp at h⟩
  | succ n=>
   obtain ⟨g,cap,cur,e8,rfl,hB⟩:=hG.b Zi
   injection e8 with e81 e82 e83
   subst e81;subst e83
   refine zW ?_;intros
   refine Yb Zz (Does.perm (H':=[(g,.cells cur.toArray 48 (0,0)),_]) (List.Perm.swap _ _ _) (Yl [_] [_] Zz Zz Zz (sort_f hB Zi Zi) (fun v5 fz5 H5 hle5 hR5=>?_)))
   obtain ⟨rfl,rfl,cur2,l2,rfl,hB2,hp2,hs2⟩:=hR5
   refine zW ?_;intros
   refine YdP rfl rfl (fun fz3 hle3 hf3=>⟨rfl,l2,?_,hp2.trans hset,hs2⟩)
   obtain ⟨A',c',he,hsl⟩:=hB2.grow.sl hle3 (fun p hp=>hf3 p (by simp at hp;simp [hp])) Zi
   exact ⟨A',_,c',he,hsl⟩
structure ChkOk (d:Domain) (p:Problem):Prop where
 dok:DomOk d∧XVal (domX d)
 pok:FVal p.goal∧PrbOk p∧XVal (prbX p)
 lim:¬LargeM d p (objsM d p)
 typ:newM d.types=0
 step:∀ i,i<8→(stepM d (objsM d p) p i).2=0
theorem YeR {f:Nat→Bs × Int}:∀ (n k:Nat),(YbJ f n k).2=0→∀ i,i<n→(f (k+i)).2=0
 | 0,_,_,i,hi=>absurd hi Zi
 | n+1,k,h,i,hi=>by
  rw [YbJ] at h
  by_cases h0:(f k).2=0
  ·rw [if_pos h0] at h
   cases i with
   | zero=>exact h0
   | succ i=>
    have:=YeR n (k+1) h i Zi
    rwa [show k+1+i=k+(i+1) by omega] at this
  ·rw [if_neg h0] at h;exact absurd h h0
variable {p:Problem}
theorem Ymp (h:(XJ d p).2=0):ChkOk d p:=by
 unfold XJ at h
 split at h
 ·cases h
 ·rename_i h1
  split at h
  ·cases h
  ·rename_i h2
   split at h
   ·cases h
   ·rename_i h3
    split at h
    ·rename_i h4;exact absurd h h4
    ·rename_i h4
     exact ⟨Classical.byContradiction h1,Classical.byContradiction h2,h3,Classical.byContradiction h4,fun i hi=>by
      have:=YeR 8 0 h i hi
      rwa [Nat.zero_add] at this⟩
theorem objs_len (h:¬LargeM d p (objsM d p)):d.constants.length+p.objects.length≤2000000:=by
 have h1:=(Ygg h).1.o
 unfold objsM at h1
 rw [List.length_append] at h1;omega
def Ykw (S:List Atom) (a:Atom):List Atom:=if a∈S then S else S++ [a]
def YdS (l:List Atom):List Atom:=l.foldl Ykw []
def chgK (d:Domain) (x:Bs):Bool:=decide (∃ q∈d.predicates,q.name=x) && chgM d x
def knM (d:Domain) (p:Problem):Kn:=⟨d.types,objsM d p,YdS p.init,chgK d⟩
variable {u1 u2 u3 u4 u5 u6 u7 v1 v2 v3 v4 v5 v6:Value}
set_option maxHeartbeats 32000000 in
theorem YlJ (hM:MaxF fz) (hD:DomainR fz d v1 v2 v3 v4 v5 v6) (hP:ProblemR fz p u1 u2 u3 u4 u5 u6 u7) (hS:ChkS d p) (hA:(XJ d p).2=0→∀ a∈p.init,AtmOk a):
 GFn prog 23 [.agg #[.string d.name,v1,v2,v3,v4,v5,v6],.agg #[.string p.name,.string p.domain,u1,u2,u3,.string p.goal.op,.string p.goal.name,u4,u5,u6,u7]] fz []
  (fun r fz' H'=>H'=[]∧∃ vk,r=.tuple #[vk,errV (XJ d p).2]∧((XJ d p).2=0→KnD fz' vk (knM d p) d)):=by
 have hD0:=hD
 have hP0:=hP
 obtain ⟨A1,n1,b1,rfl,i1⟩:=hD.types
 obtain ⟨A2,n2,b2,rfl,i2⟩:=hD.constants
 obtain ⟨A3,n3,b3,rfl,i3⟩:=hD.predicates
 obtain ⟨A4,n4,b4,rfl,i4⟩:=hD.functions
 obtain ⟨A5,n5,b5,rfl,i5⟩:=hD.actions
 obtain ⟨A6,n6,b6,rfl,i6⟩:=hD.duratives
 obtain ⟨B1,m1,d1,rfl,j1⟩:=hP.objects
 obtain ⟨B2,m2,d2,rfl,j2⟩:=hP.init
 obtain ⟨B3,m3,d3,rfl,j3⟩:=hP.values
 obtain ⟨B4,m4,d4,rfl,_⟩:=hP.goal.args
 obtain ⟨B5,m5,d5,rfl,_⟩:=hP.goal.params
 obtain ⟨B6,m6,d6,rfl,_⟩:=hP.goal.exprs
 obtain ⟨B7,m7,d7,rfl,_⟩:=hP.goal.kids
 have l3:=i3.len
 have s3:=i3.short
 have lj2:=j2.len
 have sj2:=j2.short
 refine zF Tryz.func23 Tryz.ntmps23 (fun w0=>?_)
 refine Yp (Yq (Yb Zz (Y3 _ Zz Zz (fun g2=>?_))))
 refine Yb Zz (Y3 _ Zz Zz (fun g3=>?_))
 refine zWO ?_;intros
 refine zV ?_;intros
 refine zc (Ymq hM hD0 hP0 hS) ?_
 rw [show resV (XJ d p)=.tuple #[.string (XJ d p).1,errV (XJ d p).2] from rfl]
 by_cases hc:(XJ d p).2=0
 rotate_left 1
 ·rw [YF hc]
  refine zV ?_;intros
  exact ret2 rfl rfl rfl Zb ⟨rfl,_,rfl,fun h=>absurd h hc⟩
 ·rw [hc,show errV 0=.nilIface from rfl]
  have hok:=Ymp hc
  have hAt:=hA hc
  obtain ⟨hL,hT64,hp6⟩:=Ygg hok.lim
  have htok:∀ q∈d.types,Xk q.name∧YcZ q.typ:=fun q hq=>hok.dok.1.2.1 q hq
  refine zV ?_;intros
  refine Yb Zz (Yl [] _ Zz Zz Zz (Yjz hM hD0 hT64 htok) (fun v7 fz7 H7 hle7 hR7=>?_))
  obtain ⟨rfl,vf,rfl,hvf⟩:=hR7
  obtain ⟨gf,gm,evf,hf1,hf2⟩:=hvf hok.typ
  subst evf
  have hF:ForR fz7 (.pointer (some ⟨gf,0,none⟩)) d.types:=⟨gf,gm,rfl,hf1,hf2⟩
  have hW:WFT d.types:=Yjh hok.typ (fun q hq=>(YaY i1 q hq).2) hT64
  rw [hok.typ,show errV 0=.nilIface from rfl]
  have hD7:=hD0.mono hle7
  have hP7:=hP0.mono hle7
  refine zWN ?_;intros
  first | refine Wp.mid (fun σ fz' H'=>∃ (gk gc gi:Nat) (Aa:Option Addr) (ca:Nat),σ=[(10,.pointer (some ⟨gk,0,none⟩)),(3,.pointer (some ⟨g3,0,none⟩)),(2,.pointer (some ⟨g2,0,none⟩))]∧Le fz7 fz'∧H'=[(gk,.cells #[.string d.name,.slice A1 n1 b1,.slice A2 n2 b2,.slice A3 n3 b3,.slice A4 n4 b4,.slice A5 n5 b5,.slice A6 n6 b6,.string p.name,.string p.domain,.slice B1 m1 d1,.slice B2 m2 d2,.slice B3 m3 d3,.string p.goal.op,.string p.goal.name,.slice B4 m4 d4,.slice B5 m5 d5,.slice B6 m6 d6,.slice B7 m7 d7,.pointer (some ⟨gf,0,none⟩),.slice Aa (d.constants.length+p.objects.length) ca,.map (some gc),.map (some gi)] 156 (0,0)),(gc,mapS []),(gi,mapS []),(g3,.cells #[.string p.name,.string p.domain,.slice B1 m1 d1,.slice B2 m2 d2,.slice B3 m3 d3,.string p.goal.op,.string p.goal.name,.slice B4 m4 d4,.slice B5 m5 d5,.slice B6 m6 d6,.slice B7 m7 d7] 52 (0,0)),(g2,.cells #[.string d.name,.slice A1 n1 b1,.slice A2 n2 b2,.slice A3 n3 b3,.slice A4 n4 b4,.slice A5 n5 b5,.slice A6 n6 b6] 46 (0,0))]∧Sl paramL fz' Aa (d.constants.length+p.objects.length) ca (objsM d p)) ?_ ?_ | refine Yp (Wp.mid (fun σ fz' H'=>∃ (gk gc gi:Nat) (Aa:Option Addr) (ca:Nat),σ=[(10,.pointer (some ⟨gk,0,none⟩)),(3,.pointer (some ⟨g3,0,none⟩)),(2,.pointer (some ⟨g2,0,none⟩))]∧Le fz7 fz'∧H'=[(gk,.cells #[.string d.name,.slice A1 n1 b1,.slice A2 n2 b2,.slice A3 n3 b3,.slice A4 n4 b4,.slice A5 n5 b5,.slice A6 n6 b6,.string p.name,.string p.domain,.slice B1 m1 d1,.slice B2 m2 d2,.slice B3 m3 d3,.string p.goal.op,.string p.goal.name,.slice B4 m4 d4,.slice B5 m5 d5,.slice B6 m6 d6,.slice B7 m7 d7,.pointer (some ⟨gf,0,none⟩),.slice Aa (d.constants.length+p.objects.length) ca,.map (some gc),.map (some gi)] 156 (0,0)),(gc,mapS []),(gi,mapS []),(g3,.cells #[.string p.name,.string p.domain,.slice B1 m1 d1,.slice B2 m2 d2,.slice B3 m3 d3,.string p.goal.op,.string p.goal.name,.slice B4 m4 d4,.slice B5 m5 d5,.slice B6 m6 d6,.slice B7 m7 d7] 52 (0,0)),(g2,.cells #[.string d.name,.slice A1 n1 b1,.slice A2 n2 b2,.slice A3 n3 b3,.slice A4 n4 b4,.slice A5 n5 b5,.slice A6 n6 b6] 46 (0,0))]∧Sl paramL fz' Aa (d.constants.length+p.objects.length) ca (objsM d p)) ?_ ?_)
  ·refine Wp.drawP [] (Hq:=[_,_]) T.mixed Zj Zj Zb ?_
   refine zW ?_;intros
   refine Yf ?_
   refine Yf ?_
   refine Yf ?_
   refine Yf ?_
   refine Yf ?_
   refine Yf ?_
   refine PK.done ⟨by kernel_rfl,?_⟩
   refine Po.three Zz Zz Zz Zz ?_ ?_ ?_
   ·refine Yd (Does.post (Yl [] [_,_] Zz Zz Zz (Ybd hD7 hP7 hS.dsm.constants hS.psm.objects) (fun v8 fz8' H8 hle8' hR8=>⟨[_,_],H8,Zq,fun fz8 hle8'' hf8=>?_⟩)))
    obtain ⟨Aa,ca,rfl,hall8⟩:=hR8.sl hle8'' hf8 (by have:=hS.dsm.constants;have:=hS.psm.objects;omega)
    have hle8:=hle8'.trans hle8''
    refine ⟨(⟨hle8,Zx⟩),?_⟩
    refine Ys Zz Zz Zz ?_ ?_
    ·refine Yd (Xo (fun gc=>⟨(⟨hle8,Zx⟩),?_⟩))
     refine Ya Zz Zz ?_
     refine Yd (Xo (fun gi=>⟨(⟨hle8,Zx⟩),?_⟩))
     refine Ya Zz Zz ?_
     refine PoS.qk (⟨hle8,Zx⟩) (YS T Zz Zz Zz Zz Zz ?_)
     refine Ya Zz Zz ?_
     refine Yd (Does.perm (H':=[(gc,mapS []),(gi,mapS []),_,_]) (List.Perm.swap _ _ _) (Y3 _ Zz Zz (fun gk=>⟨(⟨hle8,Zx⟩),?_⟩)))
     refine Ya Zz Zz ?_
     refine PoS.qk (⟨hle8,Zx⟩) (Yz Zz ?_)
     refine Po.done ?_
     exact midN ⟨gk,gc,gi,Aa,ca,rfl,hle8,rfl,hall8⟩ Zw Zb
    ·refine Yd (Xo (fun gi=>⟨(⟨hle8,Zx⟩),?_⟩))
     refine Ya Zz Zz ?_
     refine Yd (Xo (fun gc=>⟨(⟨hle8,Zx⟩),?_⟩))
     refine Ya Zz Zz ?_
     refine PoS.qk (⟨hle8,Zx⟩) (YS T Zz Zz Zz Zz Zz ?_)
     refine Ya Zz Zz ?_
     refine Yd ((Y3 _ Zz Zz (fun gk=>⟨(⟨hle8,Zx⟩),?_⟩)))
     refine Ya Zz Zz ?_
     refine PoS.qk (⟨hle8,Zx⟩) (Yz Zz ?_)
     refine Po.done ?_
     exact midN ⟨gk,gc,gi,Aa,ca,rfl,hle8,rfl,hall8⟩ Zw Zb
   ·refine Yd (Xo (fun gc=>⟨(⟨(Le.refl _),Zx⟩),?_⟩))
    refine Ys Zz Zz Zz ?_ ?_
    ·refine Yd (Does.post (Yl [] [_,_,_] Zz Zz Zz (Ybd hD7 hP7 hS.dsm.constants hS.psm.objects) (fun v8 fz8' H8 hle8' hR8=>⟨[_,_,_],H8,Zq,fun fz8 hle8'' hf8=>?_⟩)))
     obtain ⟨Aa,ca,rfl,hall8⟩:=hR8.sl hle8'' hf8 (by have:=hS.dsm.constants;have:=hS.psm.objects;omega)
     have hle8:=hle8'.trans hle8''
     refine ⟨(⟨hle8,Zx⟩),?_⟩
     refine Ya Zz Zz ?_
     refine Yd (Xo (fun gi=>⟨(⟨hle8,Zx⟩),?_⟩))
     refine Ya Zz Zz ?_
     refine PoS.qk (⟨hle8,Zx⟩) (YS T Zz Zz Zz Zz Zz ?_)
     refine Ya Zz Zz ?_
     refine Yd (Does.perm (H':=[(gc,mapS []),(gi,mapS []),_,_]) (List.Perm.swap _ _ _) (Y3 _ Zz Zz (fun gk=>⟨(⟨hle8,Zx⟩),?_⟩)))
     refine Ya Zz Zz ?_
     refine PoS.qk (⟨hle8,Zx⟩) (Yz Zz ?_)
     refine Po.done ?_
     exact midN ⟨gk,gc,gi,Aa,ca,rfl,hle8,rfl,hall8⟩ Zw Zb
    ·refine Yd (Xo (fun gi=>⟨(⟨(Le.refl _),Zx⟩),?_⟩))
     refine Ya Zz Zz ?_
     refine Yd (Does.post (Yl [] [_,_,_,_] Zz Zz Zz (Ybd hD7 hP7 hS.dsm.constants hS.psm.objects) (fun v8 fz8' H8 hle8' hR8=>⟨[_,_,_,_],H8,Zq,fun fz8 hle8'' hf8=>?_⟩)))
     obtain ⟨Aa,ca,rfl,hall8⟩:=hR8.sl hle8'' hf8 (by have:=hS.dsm.constants;have:=hS.psm.objects;omega)
     have hle8:=hle8'.trans hle8''
     refine ⟨(⟨hle8,Zx⟩),?_⟩
     refine Ya Zz Zz ?_
     refine PoS.qk (⟨hle8,Zx⟩) (YS T Zz Zz Zz Zz Zz ?_)
     refine Ya Zz Zz ?_
     refine Yd (Does.perm (H':=[(gc,mapS []),(gi,mapS []),_,_]) (List.Perm.swap _ _ _) (Y3 _ Zz Zz (fun gk=>⟨(⟨hle8,Zx⟩),?_⟩)))
     refine Ya Zz Zz ?_
     refine PoS.qk (⟨hle8,Zx⟩) (Yz Zz ?_)
     refine Po.done ?_
     exact midN ⟨gk,gc,gi,Aa,ca,rfl,hle8,rfl,hall8⟩ Zw Zb
   ·refine Yd (Xo (fun gi=>⟨(⟨(Le.refl _),Zx⟩),?_⟩))
    refine Ys Zz Zz Zz ?_ ?_
    ·refine Yd (Does.post (Yl [] [_,_,_] Zz Zz Zz (Ybd hD7 hP7 hS.dsm.constants hS.psm.objects) (fun v8 fz8' H8 hle8' hR8=>⟨[_,_,_],H8,Zq,fun fz8 hle8'' hf8=>?_⟩)))
     obtain ⟨Aa,ca,rfl,hall8⟩:=hR8.sl hle8'' hf8 (by have:=hS.dsm.constants;have:=hS.psm.objects;omega)
     have hle8:=hle8'.trans hle8''
     refine ⟨(⟨hle8,Zx⟩),?_⟩
     refine Ya Zz Zz ?_
     refine Yd (Xo (fun gc=>⟨(⟨hle8,Zx⟩),?_⟩))
     refine Ya Zz Zz ?_
     refine PoS.qk (⟨hle8,Zx⟩) (YS T Zz Zz Zz Zz Zz ?_)
     refine Ya Zz Zz ?_
     refine Yd ((Y3 _ Zz Zz (fun gk=>⟨(⟨hle8,Zx⟩),?_⟩)))
     refine Ya Zz Zz ?_
     refine PoS.qk (⟨hle8,Zx⟩) (Yz Zz ?_)
     refine Po.done ?_
     exact midN ⟨gk,gc,gi,Aa,ca,rfl,hle8,rfl,hall8⟩ Zw Zb
    ·refine Yd (Xo (fun gc=>⟨(⟨(Le.refl _),Zx⟩),?_⟩))
     refine Ya Zz Zz ?_
     refine Yd (Does.post (Yl [] [_,_,_,_] Zz Zz Zz (Ybd hD7 hP7 hS.dsm.constants hS.psm.objects) (fun v8 fz8' H8 hle8' hR8=>⟨[_,_,_,_],H8,Zq,fun fz8 hle8'' hf8=>?_⟩)))
     obtain ⟨Aa,ca,rfl,hall8⟩:=hR8.sl hle8'' hf8 (by have:=hS.dsm.constants;have:=hS.psm.objects;omega)
     have hle8:=hle8'.trans hle8''
     refine ⟨(⟨hle8,Zx⟩),?_⟩
     refine Ya Zz Zz ?_
     refine PoS.qk (⟨hle8,Zx⟩) (YS T Zz Zz Zz Zz Zz ?_)
     refine Ya Zz Zz ?_
     refine Yd ((Y3 _ Zz Zz (fun gk=>⟨(⟨hle8,Zx⟩),?_⟩)))
     refine Ya Zz Zz ?_
     refine PoS.qk (⟨hle8,Zx⟩) (Yz Zz ?_)
     refine Po.done ?_
     exact midN ⟨gk,gc,gi,Aa,ca,rfl,hle8,rfl,hall8⟩ Zw Zb
  ·rintro σ fz8 H' ⟨gk,gc,gi,Aa,ca,rfl,hle8,rfl,hall8⟩
   have hx8:=hle7.trans hle8
   have hD8:=hD0.mono hx8
   have i38:=i3.mono hx8
   have j28:=j2.mono hx8
   refine zW ?_;intros
   refine Yk (fun q σ fz' H'=>∃ (k:Nat) (m:List (Bs × Value)),k≤n3∧q=n3 - k∧σ=[(45,.int .i64 k),(44,.int .i64 n3),(43,.slice A3 n3 b3),(10,.pointer (some ⟨gk,0,none⟩)),(3,.pointer (some ⟨g3,0,none⟩)),(2,.pointer (some ⟨g2,0,none⟩))]∧fz8=fz'∧H'=[(gk,.cells #[.string d.name,.slice A1 n1 b1,.slice A2 n2 b2,.slice A3 n3 b3,.slice A4 n4 b4,.slice A5 n5 b5,.slice A6 n6 b6,.string p.name,.string p.domain,.slice B1 m1 d1,.slice B2 m2 d2,.slice B3 m3 d3,.string p.goal.op,.string p.goal.name,.slice B4 m4 d4,.slice B5 m5 d5,.slice B6 m6 d6,.slice B7 m7 d7,.pointer (some ⟨gf,0,none⟩),.slice Aa (d.constants.length+p.objects.length) ca,.map (some gc),.map (some gi)] 156 (0,0)),(gc,mapS m),(gi,mapS []),(g3,.cells #[.string p.name,.string p.domain,.slice B1 m1 d1,.slice B2 m2 d2,.slice B3 m3 d3,.string p.goal.op,.string p.goal.name,.slice B4 m4 d4,.slice B5 m5 d5,.slice B6 m6 d6,.slice B7 m7 d7] 52 (0,0)),(g2,.cells #[.string d.name,.slice A1 n1 b1,.slice A2 n2 b2,.slice A3 n3 b3,.slice A4 n4 b4,.slice A5 n5 b5,.slice A6 n6 b6] 46 (0,0))]∧∀ x,(valS m x).getD (.bool false)=.bool (decide (∃ q∈d.predicates.take k,q.name=x) && chgM d x)) ⟨0,[],Z0 _,rfl,rfl,rfl,rfl,fun x=>by simp [valS,fndS]⟩ Zw Zb ?_
   rintro q σ fz9 H' ⟨k,m,hk,rfl,rfl,rfl,rfl,hm⟩
   refine zW ?_;intros
   refine zC (fun c1=>?_) (fun c1=>?_)
   ·obtain ⟨x,hx⟩:=Yg (l:=d.predicates) (k:=k) Zi
    refine zW ?_;intros
    refine zI i38 hx (fun p1 hp1=>?_)
    refine zL hp1 ?_
    intro cs hcs
    obtain ⟨up,rfl,hR⟩:=X0 hcs
    obtain ⟨C1,s1,t1,rfl,_⟩:=id hR.params
    refine zWN ?_;intros
    refine Wp.drawK (Hq:=[_,_,_,_,_,_]) T.mixed Zj Zj Zb ?_
    refine zW ?_;intros
    refine zc (static_q hD8) ?_
    refine zW ?_;intros
    refine Ye ?_
    refine YD ⟨by kernel_rfl,?_⟩
    refine Ch.hard0 Zj (Xv T (pre:=[_,_]) Zz Zz Zz Zz Zz Zz Zz (Zr _) ?_)
    refine Ch.done ?_
    refine zW ?_;intros
    exact YA ⟨k+1,updS m x.name (.bool (!(!chgM d x.name))),by omega,rfl,rfl,rfl,rfl,fun y=>by
     rw [Ybs]
     by_cases hy:y=x.name
     ·rw [if_pos hy,hy,List.take_add_one,hx]
      simp
     ·rw [if_neg hy,hm y,List.take_add_one,hx]
      congr 2
      refine decide_eq_decide.2 ⟨fun ⟨q,h1,h2⟩=>⟨q,List.mem_append.2 (.inl h1),h2⟩,fun ⟨q,h1,h2⟩=>?_⟩
      rcases List.mem_append.1 h1 with h1 | h1
      ·exact ⟨q,h1,h2⟩
      ·simp at h1;subst h1;exact absurd h2.symm hy⟩ Zi Zw Zb
   ·rw [Zl (show d.predicates.length≤k by omega)] at hm
    refine zW ?_;intros
    refine Yk (fun q σ fz' H'=>∃ (k:Nat) (mi:List (Bs × Value)) (S:List Atom),k≤m2∧q=m2 - k∧σ=[(64,.int .i64 k),(63,.int .i64 m2),(62,.slice B2 m2 d2),(10,.pointer (some ⟨gk,0,none⟩))]∧fz8=fz'∧H'=[(gk,.cells #[.string d.name,.slice A1 n1 b1,.slice A2 n2 b2,.slice A3 n3 b3,.slice A4 n4 b4,.slice A5 n5 b5,.slice A6 n6 b6,.string p.name,.string p.domain,.slice B1 m1 d1,.slice B2 m2 d2,.slice B3 m3 d3,.string p.goal.op,.string p.goal.name,.slice B4 m4 d4,.slice B5 m5 d5,.slice B6 m6 d6,.slice B7 m7 d7,.pointer (some ⟨gf,0,none⟩),.slice Aa (d.constants.length+p.objects.length) ca,.map (some gc),.map (some gi)] 156 (0,0)),(gc,mapS m),(gi,mapS mi)]∧SetM fz' mi S∧(p.init.take k).foldl Ykw []=S) ⟨0,[],[],Z0 _,rfl,rfl,rfl,rfl,SetM.nil,rfl⟩ Zw Zb ?_
    rintro q σ fz9 H' ⟨j,mi,S,hj,rfl,rfl,rfl,rfl,hSi,hfold⟩
    refine zW ?_;intros
    refine zC (fun c2=>?_) (fun c2=>?_)
    ·obtain ⟨a,ha⟩:=Yg (l:=p.init) (k:=j) Zi
     have haok:=hAt a (Zm ha)
     refine zW ?_;intros
     refine zI j28 ha (fun p2 hp2=>?_)
     refine zL hp2 ?_
     intro cs hcs
     obtain ⟨va,rfl,hRa⟩:=WF hcs
     obtain ⟨Aa2,na,ca2,rfl,_⟩:=id hRa.args
     refine zWN ?_;intros
     refine Wp.drawK (Hq:=[_,_]) T.mixed Zj Zj Zb ?_
     refine zW ?_;intros
     refine Ye ?_
     refine YD ⟨by kernel_rfl,?_⟩
     refine Yj (Does.perm (H':=[(gi,mapS mi),_,_,_]) (Zq (l₁:=[_]) (l₂:=[_,_,_])) (Does.after (Yl [_] [_,_,_] Zz Zz Zz (add_f hSi hRa haok) (fun v5 fz5 H5 hle5 hR5=>?_))))
     obtain ⟨rfl,rfl,m5,rfl,hS5⟩:=hR5
     refine ⟨_,Zq (l₁:=[_,_,_]) (l₂:=[_]),(⟨(Le.refl _),Zx⟩),?_⟩
     refine Ch.done ?_
     refine zW ?_;intros
     exact YA ⟨j+1,m5,_,by omega,rfl,rfl,rfl,rfl,hS5,by rw [List.take_add_one,ha,List.foldl_append,hfold];rfl⟩ Zi Zw Zb
    ·rw [Zl (show p.init.length≤j by omega)] at hfold
     refine zW ?_;intros
     refine ret2F rfl rfl rfl (fun fz3 hle3 hf3=>⟨rfl,_,rfl,fun _=>?_⟩)
     have hk3:=hf3 _ (.head _)
     refine ⟨⟨⟨gk,_,_,_,_,_,_,_,_,_,_,_,_,_,_,_,_,_,_,_,Aa,_,ca,gc,gi,m,mi,rfl,hk3,hF.mono (hle8.trans hle3),hall8.mono hle3,hf3 _ (.tail _ (.head _)),hm,hf3 _ (.tail _ (.tail _ (.head _))),?_⟩,hW,?_⟩,gk,_,_,_,rfl,hk3,rfl,rfl,(i5.mono (hx8.trans hle3)).is,(i6.mono (hx8.trans hle3)).is⟩
     ·show SetM fz3 mi (YdS p.init)
      unfold YdS
      rw [hfold];exact hSi.mono hle3
     ·show (objsM d p).length≤2000000
      unfold objsM
      rw [List.length_append]
      exact objs_len hok.lim
structure Apt (d:Domain) (p:Problem):Prop where
 init:∀ a∈p.init,AtmOk a
 sch:SchS (knM d p) d
 os:∀ o∈(knM d p).os,PlnS o.name
 sh:schE (knM d p) d=0→∀ s∈schL (knM d p) d,SSh s
theorem YfG:∀ (l S:List Atom),S.Nodup→(l.foldl Ykw S).Nodup
 | [],_,h=>h
 | a::l,S,h=>by
  refine YfG l _ ?_
  unfold Ykw
  split
  ·exact h
  ·rename_i hn
   exact List.nodup_append.2 ⟨h,by simp,fun x hx y hy hxy=>by simp at hy;subst hy;subst hxy;exact hn hx⟩
theorem YeG (l:List Atom):(YdS l).Nodup:=YfG l [] List.nodup_nil
theorem YjB:∀ (l S:List Atom) (a:Atom),a∈l.foldl Ykw S↔a∈S∨a∈l
 | [],_,_=>by simp
 | b::l,S,a=>by
  rw [List.foldl_cons,YjB l]
  unfold Ykw
  split
  ·rename_i hb
   constructor
   ·rintro (h | h)
    ·exact .inl h
    ·exact .inr (by simp [h])
   ·rintro (h | h)
    ·exact .inl h
    ·rcases List.mem_cons.1 h with rfl | h
     ·exact .inl hb
     ·exact .inr h
  ·simp [or_assoc]
theorem Yhy {l:List Atom} {a:Atom}:a∈YdS l↔a∈l:=by
 unfold YdS;rw [YjB];simp
def W0 (d:Domain) (p:Problem) (S0:List Atom):Int:=if (XJ d p).2≠0 then (XJ d p).2 else expE (knM d p) d S0
set_option maxHeartbeats 8000000 in
theorem Ymw (hM:MaxF fz) (hD:DomainR fz d v1 v2 v3 v4 v5 v6) (hP:ProblemR fz p u1 u2 u3 u4 u5 u6 u7) (hS:ChkS d p) (hA:(XJ d p).2=0→Apt d p):
 GFn prog 9 [.agg #[.string d.name,v1,v2,v3,v4,v5,v6],.agg #[.string p.name,.string p.domain,u1,u2,u3,.string p.goal.op,.string p.goal.name,u4,u5,u6,u7]] fz []
  (fun r fz' H'=>H'=[]∧∃ S0,Yky S0 (YdS p.init)∧∃ v,r=.tuple #[v,errV (W0 d p S0)]∧(W0 d p S0≠0→v=.slice none 0 0)∧(W0 d p S0=0→∃ l,IsSl atomL fz' v l∧l.Perm (expM (knM d p) d S0).S∧YgK l)):=by
 have hD0:=hD
 have hP0:=hP
 obtain ⟨A1,n1,b1,rfl,i1⟩:=hD.types
 obtain ⟨A2,n2,b2,rfl,i2⟩:=hD.constants
 obtain ⟨A3,n3,b3,rfl,i3⟩:=hD.predicates
 obtain ⟨A4,n4,b4,rfl,i4⟩:=hD.functions
 obtain ⟨A5,n5,b5,rfl,i5⟩:=hD.actions
 obtain ⟨A6,n6,b6,rfl,i6⟩:=hD.duratives
 obtain ⟨B1,m1,d1,rfl,j1⟩:=hP.objects
 obtain ⟨B2,m2,d2,rfl,j2⟩:=hP.init
 obtain ⟨B3,m3,d3,rfl,j3⟩:=hP.values
 obtain ⟨B4,m4,d4,rfl,_⟩:=hP.goal.args
 obtain ⟨B5,m5,d5,rfl,_⟩:=hP.goal.params
 obtain ⟨B6,m6,d6,rfl,_⟩:=hP.goal.exprs
 obtain ⟨B7,m7,d7,rfl,_⟩:=hP.goal.kids
 refine zF Tryz.func9 Tryz.ntmps9 (fun w0=>?_)
 refine Yp (Yq (Yb Zz (Y3 _ Zz Zz (fun g2=>?_))))
 refine Yb Zz (Y3 _ Zz Zz (fun g3=>?_))
 refine zWO ?_;intros
 refine zV ?_;intros
 refine Yb Zz (Yl [] _ Zz Zz Zz (YlJ hM hD0 hP0 hS (fun h=>(hA h).init)) (fun v4 fz4 H4 hle4 hR4=>?_))
 obtain ⟨rfl,vk,rfl,hkd⟩:=hR4
 by_cases hc:(XJ d p).2=0
 rotate_left 1
 ·rw [YF hc]
  refine zV ?_;intros
  exact ret2 rfl rfl rfl Zb ⟨rfl,YdS p.init,⟨YeG p.init,fun _=>Iff.rfl⟩,_,by rw [W0,if_pos hc,YF hc];try rfl,fun _=>rfl,fun h=>absurd h (by rw [W0,if_pos hc];exact hc)⟩
 ·rw [hc,show errV 0=.nilIface from rfl]
  have hap:=hA hc
  have hKD:=hkd hc
  refine zV ?_;intros
  refine Yb Zz (Yl [] _ Zz Zz Zz (YhL hKD hap.sch hap.os hap.sh) (fun v5 fz5 H5 hle5 hR5=>?_))
  obtain ⟨rfl,S0,hS0,vr,rfl,hrr⟩:=hR5
  have hE:W0 d p S0=expE (knM d p) d S0:=by rw [W0,if_neg (by rw [hc];decide)]
  by_cases he:expE (knM d p) d S0=0
  rotate_left 1
  ·rw [YF he]
   refine zV ?_;intros
   exact ret2 rfl rfl rfl Zb ⟨rfl,S0,hS0,_,by rw [hE,YF he];try rfl,fun _=>rfl,fun h=>absurd h (by rw [hE];exact he)⟩
  ·rw [he,show errV 0=.nilIface from rfl]
   obtain ⟨gr,gs,vk',As,Ad,n,cS,cd,vb,m,gD,rfl,h1,h2,h3,h4,h5,h6,h7⟩:=(hrr he).ex
   have hlen:(expM (knM d p) d S0).S.length≤4096:=by
    unfold expE at he
    split at he
    ·rename_i h;exact absurd he h
    ·split at he
     ·cases he
     ·omega
   refine zV ?_;intros
   refine Yb Zz (Yl [] _ Zz Zz Zz (sorted_f h2 h3 Zi) (fun v6 fz6 H6 hle6 hR6=>?_))
   obtain ⟨rfl,l,hl,hp,hs⟩:=hR6
   obtain ⟨Al,nl,cl,rfl,hsl⟩:=hl
   refine zV ?_;intros
   exact ret2 rfl rfl rfl Zb ⟨rfl,S0,hS0,_,by rw [hE,he];rfl,fun h=>absurd (by rw [hE];exact he) h,fun _=>⟨l,hsl.is,hp,hs⟩⟩
end Go.Proofs.YtbnpeechpebmeaaGreatDoor
