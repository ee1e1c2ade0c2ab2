/- The texts UP, UM, UN, UO, UQ, UR, US, laid together. Conditions: none. -/
import Derived.Test.YtacfpcbladaohaaGreatDoorSAS
set_option linter.all false
set_option maxHeartbeats 16000000
noncomputable section
set_option maxRecDepth 20000
open Go.Lx Go.RowKit
attribute [local instance 10] Classical.propDecidable
open Go.Proofs.Tryz (prog)
namespace Go.Proofs.YtacfpcbladaohaaGreatDoor
variable {α:Type} {cs:List Value} {fz:FZ} {va:Value} {M:Mn} {i k g n:Nat} {t:TypeId} {Hs:HP} {A:Option Addr} {W:Wd} {l:List α} {L:Lay α}
theorem typed1_q {s:StepM} {x:Action} {g3:Nat} {t3:TypeId} (h3:fz g3=some (.cells #[Zk 0,Zy s.1,va] t3 (0,0))) (hcs:actionL.rep fz x cs):
 QFn prog 210 (.agg cs.toArray:: [Zp g3]) fz (Zo (decide (x.name=s.1))):=by
 obtain ⟨u0,u1,u2,u3,u4,u5,rfl,hR⟩:=Y7 hcs;obtain ⟨P0,p0,q0,rfl,_⟩:=id hR.params;obtain ⟨⟨P1,p1,q1,rfl,_⟩,⟨P2,p2,q2,rfl,_⟩,⟨P3,p3,q3,rfl,_⟩,⟨P4,p4,q4,rfl,_⟩⟩:=id hR.pre.sls;obtain ⟨P5,p5,q5,rfl,_⟩:=id hR.changes;refine qF Tryz.func210 Tryz.ntmps210 (fun w0=>?_);refine pX (fun g9=>?_);refine wC ?_ ?_<;>intro c1
 ·exact wR (h:=by exact Ym c1)
 exact wR (h:=by exact Yg c1)
theorem typed2_q {nm:Bs} {x:Param} {g3:Nat} {t3:TypeId} (h3:fz g3=some (.cells #[Zy nm] t3 (0,0))) (hcs:paramL.rep fz x cs):
 QFn prog 211 (.agg cs.toArray:: [Zp g3]) fz (Zo (decide (x.name=nm))):=by
 obtain ⟨rfl,hRx⟩:=Yz hcs;refine qF Tryz.func211 Tryz.ntmps211 (fun w0=>?_);refine pX (fun g9=>?_);refine wC ?_ ?_<;>intro c1
 ·exact wR (h:=by exact Ym c1)
 exact wR (h:=by exact Yg c1)
structure TypOk (M:Mn) (s:StepM) (a:Action):Prop where
 fd:∃ k:Nat,M.d.actions[k]?=some a/\a.name=s.1/\∀ j,j<k->∀ y:Action,M.d.actions[j]?=some y->¬y.name=s.1
 len:s.2.length=a.params.length
 typ:∀ (i:Nat) (x:Bs) (p:Param),s.2[i]?=some x->a.params[i]?=some p->x∈ofN M p.typ
theorem ofN_os {t x:Bs} (h:x∈ofN M t):∃ o∈M.os,o.name=x:=by
 unfold ofN ofT at h;obtain ⟨o,h1,h2⟩:=List.mem_map.1 h;exact ⟨o,(List.mem_filter.1 h1).1,h2⟩
theorem YkC {p:α->Prop} {a b:α} (h1:l[k]?=some a) (h2:p a) (h3:∀ j,j<k->∀ y,l[j]?=some y->¬p y) (g1:l[i]?=some b) (g2:p b) (g3:∀ j,j<i->∀ y,l[j]?=some y->¬p y):a=b:=by
 rcases Nat.lt_trichotomy k i with h | h | h
 ·exact absurd h2 (g3 k h a h1)
 ·subst h;rw [h1] at g1;exact Option.some.inj g1
 exact absurd g2 (h3 i h b g1)
theorem TypOk.one {s:StepM} {a b:Action} (h:TypOk M s a) (g:TypOk M s b):a=b:=by
 obtain ⟨k,h1,h2,h3⟩:=h.fd;obtain ⟨i,g1,g2,g3⟩:=g.fd;exact YkC (p:=fun y:Action=>y.name=s.1) h1 h2 h3 g1 g2 g3
theorem typed_f {v:Value} {s:StepM} (hM:MnR fz v M) (hs:Ycp.rep fz s [Zk 0,Zy s.1,va]):
 GFn prog 118 [v,.agg #[Zk 0,Zy s.1,va]] fz [] (fun r fz' H'=>H'=[]/\∃ cs e a,r=.tuple #[.agg (List.toArray cs),errV e]/\actionL.rep fz' a cs/\(e=0->TypOk M s a)/\(e≠0->∀ a,¬TypOk M s a)):=by
 have hM0:=hM;obtain ⟨⟨g,v1,v2,v3,v4,v5,v6,a7,a8,a9,a10,a11,a12,a13,a14,a15,a16,a17,vf,A,n,c,rfl,hg,hD,hF,hO⟩,hw,hm⟩:=hM;obtain ⟨va',he,hsn,hsa⟩:=hs;simp at he;subst he;obtain ⟨B,m,d,rfl,ia⟩:=hsa;obtain ⟨A5,n5,c5,rfl,i5⟩:=hD.actions;have lb:=ia.len;have sb:=ia.short;have l5:=i5.len;refine zF Tryz.func118 Tryz.ntmps118 (fun w0=>?_);refine pX (fun g3=>?_);refine zW ?_;intros;rename_i g4;refine zG ?_;refine YG ?_;refine zG ?_;refine XJ (fun fz' hle hf=>Ydw (cap:=[Zp g3]) (p:=fun y:Action=>y.name=s.1) (i5.mono hle) (fun y _ cs hcs=>typed1_q (s:=s) (hf _ (.tail _ (.head _))) hcs)) ?_;rcases Ybc (p:=fun y:Action=>y.name=s.1) M.d.actions with hno | ⟨k,a,hk1,hk2,hk3⟩
 ·rw [YR hno];refine wC ?_ ?_<;>intro c0;rotate_left 1
  ·exact absurd Zh c0
  refine zW ?_;exact YaW T (vs:=[.agg #[Ze,Zn,Zk 0,Ze,Ze,Zn,Zn,Zn,Zn,Zn],.iface 86 (Zk 8)]) ⟨⟨_,_,0,_,_,_,rfl,rfl,rfl,rfl,rfl,rfl⟩,rfl,trivial⟩ (fun fz3 hle3 hf3=>⟨rfl,_,8,_,rfl,YkW (x:=⟨⟨#[]⟩,[],0,YdD,[]⟩) ⟨Y3,IsSl.nil,Wh,Yk2,IsSl.nil⟩,Za,fun _ a ha=>by
   obtain ⟨k,h1,h2,_⟩:=ha.fd;exact hno a (Zm h1) h2⟩)
 have hkl:k<M.d.actions.length:=(Zg hk2).1;have s5:=i5.short;rw [Xg hk1 hk2 hk3,Int.zero_add];refine wC ?_ ?_<;>intro c0
 ·exact absurd c0 Zi
 refine wI i5 hk2 (fun p9 hp9=>?_);refine zL hp9 ?_;intro cs hcs;have hcs0:=hcs;obtain ⟨u0,u1,u2,u3,u4,u5,rfl,hR⟩:=Y7 hcs;obtain ⟨P0,p0,q0,rfl,i0⟩:=id hR.params;obtain ⟨⟨P1,p1,q1,rfl,_⟩,⟨P2,p2,q2,rfl,_⟩,⟨P3,p3,q3,rfl,_⟩,⟨P4,p4,q4,rfl,_⟩⟩:=id hR.pre.sls;obtain ⟨P5,p5,q5,rfl,_⟩:=id hR.changes;have l0:=i0.len;refine zW ?_;intros;rename_i g7;have hfail:∀ (e:Int) (fz3:FZ),Le fz fz3->e≠0->(∀ b,¬TypOk M s b)->∃ cs' e' a',Value.tuple #[.agg #[Zy a.name,Zc P0 p0 q0,Zk a.cost,Zy a.pre.op,Zy a.pre.name,Zc P1 p1 q1,Zc P2 p2 q2,Zc P3 p3 q3,Zc P4 p4 q4,Zc P5 p5 q5],.iface 86 (Zk e)]=(.tuple #[.agg (List.toArray cs'),errV e']:Value)/\actionL.rep fz3 a' cs'/\(e'=0->TypOk M s a')/\(e'≠0->∀ a,¬TypOk M s a):=
  fun e fz3 hle he hno=>⟨_,e,a,by rw [Yq he],actionL.mono hle hcs0,fun h=>absurd h he,fun _=>hno⟩
 have hone:∀ b,TypOk M s b->b=a:=fun b hb=>by
  obtain ⟨i,g1,g2,g3⟩:=hb.fd;exact YkC (p:=fun y:Action=>y.name=s.1) g1 g2 g3 hk2 hk3 hk1
 refine zC ?_ ?_<;>intro c1
 ·refine zW ?_;exact YaW T (vs:=[.agg #[Zy a.name,Zc P0 p0 q0,Zk a.cost,Zy a.pre.op,Zy a.pre.name,Zc P1 p1 q1,Zc P2 p2 q2,Zc P3 p3 q3,Zc P4 p4 q4,Zc P5 p5 q5],.iface 86 (Zk 11)]) ⟨⟨_,_,1,_,_,_,rfl,rfl,rfl,rfl,rfl,rfl⟩,rfl,trivial⟩ (fun fz3 hle3 hf3=>⟨rfl,hfail 11 fz3 hle3 Zh fun b hb=>by
   have:=hb.len;have e:=hone b hb;subst e;exact absurd this Zi⟩)
 have hlen:s.2.length=a.params.length:=by omega
 refine zW ?_;refine XW m (fun k=>[(43,Zk k),(42,Zk m),(41,Zc B m d),(7,Zp g7),(4,Zp g4),(3,Zp g3),(0,Zp g)]) [(g7,Zu #[Zy a.name,Zc P0 p0 q0,Zk a.cost,Zy a.pre.op,Zy a.pre.name,Zc P1 p1 q1,Zc P2 p2 q2,Zc P3 p3 q3,Zc P4 p4 q4,Zc P5 p5 q5] 102),(g4,Zu #[Ze,Zn,Zk 0,Ze,Ze,Zn,Zn,Zn,Zn,Zn] 102),(g3,Zu #[Zk 0,Zy s.1,Zc B m d] 69)] (fun k=>(∀ i,i<k->∀ x,s.2[i]?=some x->∃ o∈M.os,o.name=x)) (fun i hi=>absurd hi Zi) ?_;intro k hk hh;refine wC ?_ ?_<;>intro c2
 ·obtain ⟨x,hx⟩:=Yc (l:=s.2) (k:=k) Zi;refine wI ia hx (fun p8 hp8=>?_);refine zH hp8 (fun ix=>?_);refine zW ?_;intros;rename_i g9;refine zG ?_;refine YG ?_;refine zG ?_;refine YaQ (b:=decide (∃ o∈M.os,o.name=x)) (fun fz' hle hf=>Wt (cap:=[Zp g9]) (p:=fun o:Param=>o.name=x) (hO.mono hle) (fun o _ cs hcs=>typed2_q (hf _ (.head _)) hcs)) (fun f1=>?_) (fun f1=>?_)
  ·have f1:=Zt f1;exact wM (h:=by exact Yx hh hx f1)
  have f1:=Zf f1;refine zW ?_;exact YaW T (vs:=[.agg #[Zy a.name,Zc P0 p0 q0,Zk a.cost,Zy a.pre.op,Zy a.pre.name,Zc P1 p1 q1,Zc P2 p2 q2,Zc P3 p3 q3,Zc P4 p4 q4,Zc P5 p5 q5],.iface 86 (Zk 3)]) ⟨⟨_,_,2,_,_,_,rfl,rfl,rfl,rfl,rfl,rfl⟩,rfl,trivial⟩ (fun fz3 hle3 hf3=>⟨rfl,hfail 3 fz3 hle3 Zh fun b hb=>by
   have e:=hone b hb;subst e;obtain ⟨p,hp⟩:=Yc (l:=b.params) (k:=k) Zi;exact f1 (ofN_os (hb.typ k x p hx hp))⟩)
 refine zW ?_;refine Yi (fun q σ fz' H'=>∃ k:Nat,k<=m/\q=m - k/\σ=[(60,Zk k),(59,Zk m),(58,Zc B m d),(7,Zp g7),(4,Zp g4),(0,Zp g)]/\Le fz fz'/\H'=[(g7,Zu #[Zy a.name,Zc P0 p0 q0,Zk a.cost,Zy a.pre.op,Zy a.pre.name,Zc P1 p1 q1,Zc P2 p2 q2,Zc P3 p3 q3,Zc P4 p4 q4,Zc P5 p5 q5] 102),(g4,Zu #[Ze,Zn,Zk 0,Ze,Ze,Zn,Zn,Zn,Zn,Zn] 102),(g3,Zu #[Zk 0,Zy s.1,Zc B m d] 69)]/\(∀ i,i<k->∀ x,s.2[i]?=some x->∀ p,a.params[i]?=some p->x∈ofN M p.typ)) ⟨0,Z0 _,rfl,rfl,Zd,rfl,fun i hi=>absurd hi Zi⟩ Zw Zb ?_;rintro q σ fz1 H' ⟨k,hk,rfl,rfl,hle1,rfl,hi⟩;refine wC ?_ ?_<;>intro c3
 ·obtain ⟨x,hx⟩:=Yc (l:=s.2) (k:=k) Zi;obtain ⟨p,hp⟩:=Yc (l:=a.params) (k:=k) Zi;refine wI (ia.mono hle1) hx (fun p8 hp8=>?_);refine zH hp8 (fun ix=>?_);refine wI (i0.mono hle1) hp (fun p7 hp7=>?_);refine wH hp7.Param_typ (fun iy=>?_);refine zW ?_;refine Ya (Yh [] [_,_,_] Zz (Ynr (t:=p.typ) (hM0.mono hle1)) (fun v4 fz4 H4 hle4 hR4=>?_));obtain ⟨rfl,B4,m4,c4,rfl,hS4⟩:=hR4;refine wb (YdQ (x:=x) hS4) (fun f2=>?_) (fun f2=>?_)
  ·have hnx:∀ i,i<k+1->∀ x,s.2[i]?=some x->∀ p,a.params[i]?=some p->x∈ofN M p.typ:=fun i h' x' hx' p' hp'=>by
    rcases Nat.lt_or_ge i k with h | h
    ·exact hi i h x' hx' p' hp'
    have e:i=k:=by omega
    subst e;rw [hx] at hx';rw [hp] at hp';cases hx';cases hp';exact Zt f2
   exact wP (h:=by exact ⟨k+1,by omega,rfl,rfl,hle1.trans hle4,rfl,hnx⟩)
  have f2:=Zf f2;refine zW ?_;exact YaW T (vs:=[.agg #[Zy a.name,Zc P0 p0 q0,Zk a.cost,Zy a.pre.op,Zy a.pre.name,Zc P1 p1 q1,Zc P2 p2 q2,Zc P3 p3 q3,Zc P4 p4 q4,Zc P5 p5 q5],.iface 86 (Zk 9)]) ⟨⟨_,_,1,_,_,_,rfl,rfl,rfl,rfl,rfl,rfl⟩,rfl,trivial⟩ (fun fz3 hle3 hf3=>⟨rfl,hfail 9 fz3 ((hle1.trans hle4).trans hle3) Zh fun b hb=>by
   have e:=hone b hb;subst e;exact f2 (hb.typ k x p hx hp)⟩)
 have hok:TypOk M s a:=⟨⟨_,hk2,hk3,hk1⟩,hlen,fun i x p hx hp=>hi i (by have:=(Zg hx).1;omega) x hx p hp⟩;refine zW ?_;exact YaW T (vs:=[.agg #[Zy a.name,Zc P0 p0 q0,Zk a.cost,Zy a.pre.op,Zy a.pre.name,Zc P1 p1 q1,Zc P2 p2 q2,Zc P3 p3 q3,Zc P4 p4 q4,Zc P5 p5 q5],.nilIface]) ⟨⟨_,_,1,_,_,_,rfl,rfl,rfl,rfl,rfl,rfl⟩,rfl,trivial⟩ (fun fz3 hle3 hf3=>⟨rfl,_,0,a,rfl,actionL.mono (hle1.trans hle3) hcs0,fun _=>hok,fun h=>absurd rfl h⟩)
theorem _root_.Go.Lx.GrowB.cut {e:Nat} {m cap:Nat} {cur cur':List Value} {a b:List α} (h:GrowB L e fz g n cap cur (a++b)) (hm:a.length=m) (hl:cur'.length=cur.length) (ht:cur'.take (m*L.size)=cur.take (m*L.size)):GrowB L e fz g m cap cur' a:=by
 obtain ⟨xs,h1,h2,h3⟩:=h.pairs;obtain ⟨xs1,xs2,rfl,h4,h5⟩:=List.map_eq_append_iff.1 h1;have hn:=h.len;rw [List.length_append,hm] at hn;have hx:xs1.length=m:=by rw [<- hm,<- h4,List.length_map]
 have hmn:m*L.size<=n*L.size:=Nat.mul_le_mul_right _ Zi;have hf:(xs1.flatMap Prod.snd).length=m*L.size:=by rw [Yau (fun p hp=>L.len (h2 p (List.mem_append.2 (.inl hp)))),hx]
 refine ⟨⟨xs1,h4,fun p hp=>h2 p (List.mem_append.2 (.inl hp)),?_⟩,hm,by have:=h.capn;omega,h.max,by rw [hl];exact h.size⟩;have e:(cur.take (n*L.size)).take (m*L.size)=xs1.flatMap Prod.snd:=by rw [h3,List.flatMap_append,List.take_left' hf]
 rw [List.take_take,Nat.min_eq_left hmn] at e;rw [ht,e]
theorem YnN {cap:Nat} {cur:List Value} {l:List Atom} (hB:GrowB atomL t fz g n cap cur l) (hn:0<n) (hn2:n<=2000000):
 GFn prog 113 [Zv g n cap,.func (.func 111) #[] #[]] fz [(g,Zu cur.toArray t)]
  (fun r fz' H'=>fz=fz'/\∃ m cur',r=Zv g m cap/\H'=[(g,Zu (List.toArray cur') t)]/\GrowB atomL t fz g m cap cur' (cptM l)):=by
 have hl:=hB.len;have hcn:=hB.capn;have hcs:=hB.size;have hmax:=hB.max;unfold maxLen at hmax;have hz:atomL.size=2:=rfl
 -- an atom of the row,as1 it lies there
 have look:∀ {cur':List Value} {l':List Atom} {m i:Nat} {a:Atom},GrowB atomL t fz g m cap cur' l'->l'[i]?=some a->∃ A n c,AtomR fz a (Zc A n c)/\∀ {j:Nat},j=i*2->(cur'.drop j).take 2=[Zy a.name,Zc A n c]:=by
  intro cur' l' m i a hb ha;obtain ⟨cs,hr,hc⟩:=YbM hb ha;obtain ⟨va,rfl,hR⟩:=Xp hr;obtain ⟨A,n,c,rfl,_⟩:=id hR.args;exact ⟨A,n,c,hR,fun hj=>by subst hj;exact hc⟩
 refine zF Tryz.func113 Tryz.ntmps113 (fun w0=>?_);refine wC ?_ ?_<;>intro c1
 ·have h1:n=1:=by omega
  obtain ⟨x,hx⟩:=Yc (l:=l) (k:=0) Zi;have hcp:cptM l=l:=by
   unfold cptM;rw [hl,h1,Yjc hx (.inl rfl),cpt]
   match l,hl,hx with
   | [y],_,hx=>simpa using hx.symm
   | [],hl,_=>simp at hl;omega
   | _::_::_,hl,_=>simp at hl;omega
  exact wR (h:=by exact ⟨rfl,n,cur,rfl,rfl,by rw [hcp];exact hB⟩)
 refine zW ?_;refine Yi (fun q σ fz' H'=>∃ k:Nat,1<=k/\k<=n/\q=n - k/\σ=[(5,Zk k),(0,Zv g n cap),(1,.func (.func 111) #[] #[])]/\fz=fz'/\H'=[(g,Zu cur.toArray t)]/\cpt l k=l.take k) ⟨1,Zs _,by omega,rfl,rfl,rfl,rfl,?_⟩ Zw Zb ?_
 ·obtain ⟨x,hx⟩:=Yc (l:=l) (k:=0) Zi;rw [Yjc hx (.inl rfl),cpt,List.take_add_one,hx];rfl
 rintro q σ fz' H' ⟨k,hk1,hk,rfl,rfl,rfl,rfl,hcp⟩;refine wC ?_ ?_<;>intro c2
 ·obtain ⟨x,hx⟩:=Yc (l:=l) (k:=k) Zi;obtain ⟨y,hy⟩:=Yc (l:=l) (k:=k - 1) Zi;obtain ⟨Ax,nx,cx,hRx,hcx⟩:=look hB hx;obtain ⟨Ay,ny,cy,hRy,hcy⟩:=look hB hy;refine wG ?_;refine Yv rfl ?_;refine zG ?_;refine Ye (vs:=[Zy x.name,Zc Ax nx cx]) 0 ?_ (hv:=hcx (j:=(k:Int).toNat*2) Zi);refine wG ?_;refine Yv rfl ?_;refine zG ?_;refine Ye (vs:=[Zy y.name,Zc Ay ny cy]) 0 ?_ (hv:=hcy (j:=((k:Int) - 1).toNat*2) Zi);refine wG ?_;refine XX Zz Zz Zz (Ybi hRx hRy) (fun f1=>?_) (fun f1=>?_)
  ·have exy:x=y:=f1;subst exy;have hcp1:cpt l (k+1)=l.take k:=by rw [YmN Zi hx hy,hcp]
   refine wG ?_;refine Yfg (z:=2) rfl ?_;refine zW ?_;refine Yi (fun q σ fz' H'=>∃ (j m:Nat) (cur1:List Value),1<=j/\k+j<=n/\q=n - (k+j)/\m<k+j/\σ=[(7,Zk j),(6,Zc (some ⟨g,k*2,none⟩) (n - k) (cap - k)),(5,Zk m),(0,Zv g n cap),(1,.func (.func 111) #[] #[])]/\fz=fz'/\H'=[(g,Zu cur1.toArray t)]/\(cpt l (k+j)).length=m/\GrowB atomL t fz g n cap cur1 (cpt l (k+j)++l.drop m)) ⟨1,k,cur,Zs _,by omega,rfl,by omega,rfl,rfl,rfl,by rw [hcp1,List.length_take];omega,by rw [hcp1,List.take_append_drop];exact hB⟩ Zw Zb ?_;rintro q σ fz' H' ⟨j,m,cur1,hj1,hj,rfl,hm,rfl,rfl,rfl,hcl,hB1⟩;have hat:∀ i,m<=i->(cpt l (k+j)++l.drop m)[i]?=l[i]?:=fun i hi=>by
    rw [List.getElem?_append_right Zi,hcl,List.getElem?_drop,show m+(i - m)=i by omega]
   have hs1:=hB1.size;refine wC ?_ ?_<;>intro c3
   ·obtain ⟨u,hu⟩:=Yc (l:=l) (k:=k+j) Zi;obtain ⟨v,hv⟩:=Yc (l:=l) (k:=k+j - 1) Zi;obtain ⟨Au,nu,cu,hRu,hcu⟩:=look hB1 ((hat (k+j) Zi).trans hu);obtain ⟨Av,nv,cv,hRv,hcv⟩:=look hB1 ((hat (k+j - 1) Zi).trans hv);refine wG ?_;refine YcR rfl ?_;refine zG ?_;refine Ye (vs:=[Zy u.name,Zc Au nu cu]) 0 ?_ (hv:=hcu (j:=(k+(j:Int).toNat)*2) Zi);refine wG ?_;refine YcR rfl ?_;refine zG ?_;refine Ye (vs:=[Zy v.name,Zc Av nv cv]) 0 ?_ (hv:=hcv (j:=(k+((j:Int) - 1).toNat)*2) Zi);refine wG ?_;refine XX Zz Zz Zz (Ybi hRu hRv) (fun f2=>?_) (fun f2=>?_)
    ·have euv:u=v:=f2;subst euv;have hc2:cpt l (k+j+1)=cpt l (k+j):=YmN Zi hu hv;exact wP (h:=by exact ⟨j+1,m,cur1,by omega,by omega,rfl,by omega,rfl,rfl,rfl,by rw [<- Nat.add_assoc,hc2];exact hcl,by rw [<- Nat.add_assoc,hc2];exact hB1⟩)
    have euv:¬u=v:=f2;have hc2:cpt l (k+j+1)=cpt l (k+j)++ [u]:=Yjc hu (.inr (by rw [hv];intro h;injection h with h;exact euv h.symm));have hset:(cpt l (k+j)++l.drop m).set m u=cpt l (k+j)++ [u]++l.drop (m+1):=by
     rw [List.set_append_right _ _ Zi,hcl,Nat.sub_self,List.drop_eq_getElem_cons Zi,List.set_cons_zero];simp
    refine wG ?_;refine YcR rfl ?_;refine zG ?_;refine Ye (vs:=[Zy u.name,Zc Au nu cu]) 0 ?_ (hv:=hcu (j:=(k+(j:Int).toNat)*2) Zi);refine wG ?_;refine Yv rfl ?_;refine YA (Xr (pre:=[]) (L:=atomL) (j:=m) rfl rfl YbP (Ycg hRu) hB1 (fun cur2 hB2=>?_));exact wP (h:=by exact ⟨j+1,m+1,cur2,by omega,by omega,rfl,by omega,rfl,rfl,rfl,by rw [<- Nat.add_assoc,hc2,List.length_append,hcl];rfl,by rw [<- Nat.add_assoc,hc2,<- hset];exact hB2⟩)
   have hkj:k+j=n:=by omega
   refine wG ?_;refine Yfg (z:=2) rfl ?_;refine YA (k_clear T (pre:=[]) (z:=2) Zz Zz Zz rfl rfl Zi Zz Zi rfl (by rw [hs1,hz];omega) (fun cur3 hl3 ht3=>?_));refine wG ?_;refine YjW T Zz Zz Zz Zz Zz Zi ?_;refine zW ?_;rw [hkj] at hcl hB1;exact wR (h:=by exact ⟨rfl,m,cur3,rfl,rfl,by unfold cptM;rw [hl];exact hB1.cut hcl hl3 ht3⟩)
  have exy:¬x=y:=f1;exact wP (h:=by exact ⟨k+1,by omega,by omega,rfl,rfl,rfl,rfl,by rw [Yjc hx (.inr (by rw [hy];intro h;injection h with h;exact exy h.symm)),hcp,List.take_add_one,hx];rfl⟩)
 have hk2:n=k:=by omega
 subst hk2;exact wR (h:=by exact ⟨rfl,n,cur,rfl,rfl,by unfold cptM;rw [hl,hcp,Zl Zi];exact hB⟩)
section
variable [Dr]
theorem YcP {P:Program} {cx:Cx} {r:Operand->Option Value} {fz:FZ} {H:HP} {V:Value->Prop} {dst:Option Nat} {ty:TypeId} {pos:String} {af:Array Edge} {gd:Option (Nat × Bool)} {t:TypeId} {x:Operand} {t2:TypeId} {X:Ty} {g j:Nat} {cs vs:List Value} {f:Nat × Nat} (i:Nat)
 (h:V (.agg vs.toArray)) (T:Tab P:=by exact T) (hT:T.inf t=some X:=by exact rfl) (hd:XU X.desc=true:=by exact rfl) (hx:r x=some (.pointer (some ⟨g,j,none⟩)):=by exact rfl) (hi:H[i]?=some (g,.cells cs.toArray t2 f):=by exact rfl) (hv:(cs.drop j).take X.size=vs:=by exact rfl) (hs:X.size=vs.length:=by exact rfl):DoesQ P cx ⟨dst,.load t x,ty,pos,af,gd⟩ r fz H V:=
  DoesQ.of h fun ρ w hr hw=>by
   have hc:∀ m v,vs[m]?=some v->w.cell? ((⟨g,j,none⟩:Addr).add m)=some v:=fun m v hm=>by
    rw [addr_add,hw.cellOwn hi];rw [<- hv,List.getElem?_take] at hm;split at hm
    ·rw [List.getElem?_drop] at hm;simpa using hm
    cases hm
   simp only [execOp,hr _ _ hx,Instr.loadAt,Instr.sureAddr,Sem.run_bind,Sem.run_pure,Result.andThen_ok,YaV T hT hd hs hc];exact ⟨rfl,Fr.refl _ _⟩
theorem YhF {fz:FZ} {a b:Atom} {va vb:Value} (ha:AtomR fz a va) (hb:AtomR fz b vb):GFn prog 112 [.agg #[Zy a.name,va],.agg #[Zy b.name,vb]] fz [] (fun r fz' H'=>H'=[]/\r=Zk (cmpA a b)):=by
 obtain ⟨A,n,c,rfl,ia⟩:=ha.args;obtain ⟨B,m,d,rfl,ib⟩:=hb.args;refine zF Tryz.func112 Tryz.ntmps112 (fun w0=>?_);refine pX (fun g0=>?_);refine pY (fun g1=>?_);refine zWN ?_;refine YS [_,_] ?_;refine wc (Yqi (a:=a.name) (b:=b.name)) ?_;refine wc (cmpL_q ia ib) ?_;refine pU ?_;refine Yf (Yb (cs:=[Zk (cmpS a.name b.name),Zk (cmpL a.args b.args)]) (fun gb=>⟨⟨Zd,Zx⟩,?_⟩));refine Yf (Yh [_] [_,_] Zz (or_f (YlL _ _) (YlM _ _) ⟨Zs _,by decide⟩) (fun v2 fz2 H2 hle2 hR2=>?_));obtain ⟨rfl,rfl⟩:=hR2;refine ⟨⟨hle2,Zx⟩,?_⟩;refine Ch.q (YE ⟨⟨hle2,Zx⟩,?_⟩);refine Ch.done ?_;refine zW ?_;exact Yb3 rfl rfl (fun fz3 hle3 hf3=>⟨rfl,rfl⟩)
theorem Yld {fz:FZ} {a b:Value_} {ca cb:List Value} (ha:valueL.rep fz a ca) (hb:valueL.rep fz b cb):GFn prog 115 [.agg ca.toArray,.agg cb.toArray] fz [] (fun r fz' H'=>H'=[]/\r=Zk (cmpA a.fluent b.fluent)):=by
 obtain ⟨va,rfl,hA⟩:=XE ha;obtain ⟨vb,rfl,hB⟩:=XE hb;have hA1:=hA.fluent;have hB1:=hB.fluent;obtain ⟨A,n,c,rfl,ia⟩:=hA.fluent.args;obtain ⟨B,m,d,rfl,ib⟩:=hB.fluent.args;refine zF Tryz.func115 Tryz.ntmps115 (fun w0=>?_);refine pX (fun g0=>?_);refine pY (fun g1=>?_);refine wG ?_;refine YcP (vs:=[Zy a.fluent.name,Zc A n c]) 1 ?_;refine wG ?_;refine YcP (vs:=[Zy b.fluent.name,Zc B m d]) 0 ?_;refine zW ?_;refine Ya (Yh [] [_,_] Zz (YhF hA1 hB1) (fun v2 fz2 H2 hle2 hR2=>?_));obtain ⟨rfl,rfl⟩:=hR2;refine zW ?_;exact Yb3 rfl rfl (fun fz3 hle3 hf3=>⟨rfl,rfl⟩)
end
theorem Yb1:OneC valueL:=by
 intro fz d cs h u hu;obtain ⟨va,rfl,hR⟩:=XE h;obtain ⟨A,n,c,rfl,_⟩:=hR.fluent.args;simp at hu;rcases hu with rfl | rfl | rfl<;>rfl
theorem sortSA_f {cap:Nat} {cur:List Value} {l:List Atom} (hB:GrowB atomL t fz g n cap cur l) (hn:0<n) (hn2:n<=2000000):
 GFn prog 44 [Zv g n cap,.func (.func 112) #[] #[]] fz [(g,Zu cur.toArray t)]
  (fun r fz' H'=>r=.tuple #[]/\fz=fz'/\∃ cur' l',H'=[(g,Zu (List.toArray cur') t)]/\GrowB atomL t fz g n cap cur' l'/\l'.Perm l/\SortedBy cmpA l'):=
 sortG Ybe rfl ⟨_,Tryz.func44,by decide,by decide⟩ YbP (z:=2) rfl Zh
  (fun W=>(Go.Lx.run_isAgg T (t:=67) rfl W).trans rfl) (fun W=>(Go.Lx.run_sizeOf T (t:=67) rfl W).trans rfl) (fun f=>ordA.swo f)
  (enters_of Tryz.func112 Zj rfl) (fun ha hb=>by
   obtain ⟨va,rfl,hA⟩:=Xp ha;obtain ⟨vb,rfl,hB⟩:=Xp hb;exact @YhF drT _ _ _ _ _ hA hB) hB hn hn2
theorem sortSV_f {cap:Nat} {cur:List Value} {l:List Value_} (hB:GrowB valueL t fz g n cap cur l) (hn:0<n) (hn2:n<=2000000):
 GFn prog 114 [Zv g n cap,.func (.func 115) #[] #[]] fz [(g,Zu cur.toArray t)]
  (fun r fz' H'=>r=.tuple #[]/\fz=fz'/\∃ cur' l',H'=[(g,Zu (List.toArray cur') t)]/\GrowB valueL t fz g n cap cur' l'/\l'.Perm l/\SortedBy (fun x y=>cmpA x.fluent y.fluent) l'):=
 sortG YdC rfl ⟨_,Tryz.func114,by decide,by decide⟩ Yb1 (z:=3) rfl Zh
  (fun W=>(Go.Lx.run_isAgg T (t:=210) rfl W).trans rfl) (fun W=>(Go.Lx.run_sizeOf T (t:=210) rfl W).trans rfl) (fun f=>ordA.swo fun x=>(f x).fluent)
  (enters_of Tryz.func115 Zj rfl) (fun ha hb=>@Yld drT _ _ _ _ _ ha hb) hB hn hn2
theorem sort0A_q {fv:Value}:QFn prog 44 [Zn,fv] fz (.tuple #[]):=by
 unfold QFn;refine ⟨⟨_,Tryz.func44,by decide,by decide⟩,fun w hw=>?_⟩;exact (AnyF.slices_SortFunc_none Ybe none 0 fv w).mono fun e w' ⟨he,hb⟩=>⟨he,by subst hb;exact Fr.refl _ _⟩
theorem sort0V_q {fv:Value}:QFn prog 114 [Zn,fv] fz (.tuple #[]):=by
 unfold QFn;refine ⟨⟨_,Tryz.func114,by decide,by decide⟩,fun w hw=>?_⟩;exact (AnyF.slices_SortFunc_none YdC none 0 fv w).mono fun e w' ⟨he,hb⟩=>⟨he,by subst hb;exact Fr.refl _ _⟩
theorem YmO {a:Atom} (ha:AtomR fz a va) (hl:a.args.length<=1000000000):GFn prog 108 [.agg #[Zy a.name,va]] fz [] (fun r fz' H'=>H'=[]/\∃ va',r=.agg #[Zy a.name,va']/\AtomR fz' a va'):=by
 obtain ⟨A,n,c,rfl,ia⟩:=ha.args;have ln:=ia.len;refine zF Tryz.func108 Tryz.ntmps108 (fun w0=>?_);refine pX (fun g1=>?_);refine zWO ?_;intros;rename_i g2;refine zWN ?_;refine YS [_,_] ?_;refine zW ?_;refine pU ?_;refine Yf (Does.post (Yh [] [_,_] Zz (YbN ia Zi) (fun v5 fz5' H5 hle5' hR5=>⟨[_,_],H5,Zq,fun fz5 hle5'' hf5=>?_⟩)));obtain ⟨A',c',rfl,hs⟩:=hR5.sl hle5'' hf5 Zi;have hle5:=hle5'.trans hle5'';refine ⟨⟨hle5,Zx⟩,?_⟩;refine Ch.qk ⟨hle5,Zx⟩ (Xy ?_);refine Ch.hard0 (YP ?_);refine Ch.done ?_;refine zW ?_;refine YL (i:=0) rfl (fun fz3 hle3 hf3=>⟨rfl,_,rfl,ha.name,?_⟩);exact (hs.mono hle3).is
theorem YgQ {f:FuncId} {args:List Value} {v:Value} {R:Value->FZ->HP->Prop} (h:QFn prog f args fz v) (hc:YaT prog f) (hR:R v fz []):GFn prog f args fz [] R:=
 GFn.of hc fun w hw=>(h.out w hw).mono fun e w' ⟨he,hf⟩=>⟨v,fz,[],he,hR,⟨fun b o hb=>by
  have h1:=hw.keep b o hb;rw [hf.block b (lt_of_heap h1) (by simp)];exact h1,by simp,by simp⟩,hf,⟨fun _ _ h=>h,fun _ _ _=>rfl,by simp⟩⟩
def Yju {α:Type} (L:Lay α) (e:Nat) (fz:FZ) (v:Value) (n:Nat) (Hs:HP) (l:List α):Prop:=(n=0->v=Zn/\Hs=[])/\Grow L e fz v n Hs l
theorem sortA_f {v:Value} {l:List Atom} (h:Yju atomL 67 fz v n Hs l) (hn2:n<=2000000):
 GFn prog 44 [v,.func (.func 112) #[] #[]] fz Hs (fun r fz' H'=>r=.tuple #[]/\fz=fz'/\∃ l',Yju atomL 67 fz v n H' l'/\l'.Perm l/\SortedBy cmpA l'):=by
 rcases Nat.eq_zero_or_pos n with h0 | hp
 ·obtain ⟨rfl,rfl⟩:=h.1 h0;have hl:l=[]:=List.eq_nil_of_length_eq_zero (by rw [h.2.len];exact h0);subst hl;exact YgQ sort0A_q ⟨_,Tryz.func44,by decide,by decide⟩ ⟨rfl,rfl,[],h,Zr _,fun i j a b _ ha=>by simp at ha⟩
 obtain ⟨g,cap,cur,rfl,rfl,hb⟩:=h.2.b hp;exact (sortSA_f hb hp hn2).mono fun r fz' H' ⟨h1,h2,cur',l',h3,h4,h5,h6⟩=>⟨h1,h2,l',⟨fun h=>absurd h Zi,h3 ▸ h4.grow⟩,h5,h6⟩
theorem sortV_f {v:Value} {l:List Value_} (h:Yju valueL 210 fz v n Hs l) (hn2:n<=2000000):
 GFn prog 114 [v,.func (.func 115) #[] #[]] fz Hs (fun r fz' H'=>r=.tuple #[]/\fz=fz'/\∃ l',Yju valueL 210 fz v n H' l'/\l'.Perm l):=by
 rcases Nat.eq_zero_or_pos n with h0 | hp
 ·obtain ⟨rfl,rfl⟩:=h.1 h0;have hl:l=[]:=List.eq_nil_of_length_eq_zero (by rw [h.2.len];exact h0);subst hl;exact YgQ sort0V_q ⟨_,Tryz.func114,by decide,by decide⟩ ⟨rfl,rfl,[],h,Zr _⟩
 obtain ⟨g,cap,cur,rfl,rfl,hb⟩:=h.2.b hp;exact (sortSV_f hb hp hn2).mono fun r fz' H' ⟨h1,h2,cur',l',h3,h4,h5,_⟩=>⟨h1,h2,l',⟨fun h=>absurd h Zi,h3 ▸ h4.grow⟩,h5⟩
theorem Yqf {v:Value} {l:List Atom} (h:Yju atomL 67 fz v n Hs l) (hn2:n<=2000000):
 GFn prog 113 [v,.func (.func 111) #[] #[]] fz Hs (fun r fz' H'=>fz=fz'/\∃ m,m<=n/\Grow atomL 67 fz r m H' (cptM l)):=by
 rcases Nat.eq_zero_or_pos n with h0 | hp
 ·obtain ⟨rfl,rfl⟩:=h.1 h0;have hl:l=[]:=List.eq_nil_of_length_eq_zero (by rw [h.2.len];exact h0);subst hl;exact YgQ YnO ⟨_,Tryz.func113,by decide,by decide⟩ ⟨rfl,0,by omega,Grow.nil _ _ _⟩
 obtain ⟨g,cap,cur,rfl,rfl,hb⟩:=h.2.b hp;have hbl:=hb.len;exact (YnN hb hp hn2).mono fun r fz' H' ⟨h1,m,cur',h2,h3,h4⟩=>⟨h1,m,by rw [<- h4.len,<- hbl];have:=Yjd l l.length;exact this,by rw [h2,h3];exact h4.grow⟩
structure WdSm (W:Wd):Prop where
 na:W.atoms.length<=2000000
 nv:W.values.length<=2000000
 a:∀ a∈W.atoms,a.args.length<=1000000000
 v:∀ v∈W.values,v.fluent.args.length<=1000000000
def Yhx (acc:List Value_) (v:Value_):List Value_:=if ∃ x∈acc,x.fluent=v.fluent then acc else acc++ [v]
def dedV (l:List Value_):List Value_:=l.foldl Yhx []
theorem Yqa {l:List Value_} {x:Value_} (hx:l[k]?=some x):dedV (l.take (k+1))=Yhx (dedV (l.take k)) x:=by
 unfold dedV;rw [List.take_add_one,hx,List.foldl_append];rfl
theorem YfT:∀ (l acc:List Value_),(∀ x∈l.foldl Yhx acc,x∈acc\/x∈l)/\(l.foldl Yhx acc).length<=acc.length+l.length
 | [],acc=>⟨fun x h=>.inl h,by simp⟩
 | v::r,acc=>by
  obtain ⟨h1,h2⟩:=YfT r (Yhx acc v);have h3:(Yhx acc v).length<=acc.length+1:=by unfold Yhx;split<;>simp
  refine ⟨fun x hx=>?_,by rw [List.foldl_cons,List.length_cons];omega⟩;rcases h1 x hx with h | h
  ·unfold Yhx at h;split at h
   ·exact .inl h
   rcases List.mem_append.1 h with h | h
   ·exact .inl h
   simp at h;subst h;exact .inr (by simp)
  exact .inr (by simp [h])
theorem world1_q {v x:Value_} {c:Nat} {g7:Nat} {t7:TypeId} (hv:AtomR fz v.fluent (Zc A n c)) (h7:fz g7=some (.cells #[Zy v.fluent.name,Zc A n c,Zk v.n] t7 (0,0))) (hcs:valueL.rep fz x cs):
 QFn prog 110 (.agg cs.toArray:: [Zp g7]) fz (Zo (decide (x.fluent=v.fluent))):=by
 obtain ⟨va,rfl,hx⟩:=XE hcs;have hx1:=hx.fluent;obtain ⟨B,m,d,rfl,ib⟩:=hx.fluent.args;refine qF Tryz.func110 Tryz.ntmps110 (fun w0=>?_);refine pX (fun g9=>?_);refine wG ?_;refine Ye (vs:=[Zy x.fluent.name,Zc B m d]) 0 ?_;refine wG ?_;refine WM (vs:=[Zy v.fluent.name,Zc A n c]) h7 ?_;refine zc (Ybi hx1 hv) ?_;exact wR (h:=rfl)
theorem Yn0 {v:Value} (hW:WdR fz W v) (hS:WdSm W):
 GFn prog 46 [v] fz [] (fun r fz' H'=>H'=[]/\∃ W',WdR fz' W' r/\(∃ l,l.Perm W.atoms/\SortedBy cmpA l/\W'.atoms=cptM l)/\W'.values.Perm (dedV W.values)):=by
 obtain ⟨A,n,c,B,m,d,rfl,hA,hV⟩:=hW;have la:=hA.len;have lv:=hV.len;have sa:=hA.short;have sv:=hV.short;have hna:=hS.na;have hnv:=hS.nv;refine zF Tryz.func46 Tryz.ntmps46 (fun w0=>?_);refine pX (fun g1=>?_);refine zW ?_;intros;rename_i g2 g3;refine Yi (fun q σ fz' H'=>∃ (k:Nat) (vo:Value) (Hs:HP),k<=n/\q=n - k/\σ=[(11,Zk k),(10,Zk n),(9,Zc A n c),(3,Zp g3),(2,Zp g2),(1,Zp g1)]/\Le fz fz'/\H'=(g3,Zu #[vo,Zn] 56)::(g2,Zu #[Zn,Zn] 56)::(g1,Zu #[Zc A n c,Zc B m d] 56)::Hs/\Yju atomL 67 fz' vo k Hs (W.atoms.take k))
  ⟨0,_,[],Z0 _,rfl,rfl,Zd,rfl,⟨fun _=>⟨rfl,rfl⟩,Grow.nil _ _ _⟩⟩ Zw Zb ?_
 rintro q σ fz1 H' ⟨k,vo,Hs,hk,rfl,rfl,hle1,rfl,hz1,hG⟩;obtain ⟨Ao,co,rfl,_,_⟩:=hG.form;refine wC ?_ ?_<;>intro c1
 ·obtain ⟨x,hx⟩:=Yc (l:=W.atoms) (k:=k) Zi;have hxm:=Zm hx;refine wI (hA.mono hle1) hx (fun p1 hp1=>?_);refine zL hp1 ?_;intro cs hcs;obtain ⟨vx,rfl,hRx⟩:=Xp hcs;have hRx0:=hRx;obtain ⟨E1,r1,q1,rfl,_⟩:=hRx.args;refine zWN ?_;intros;rename_i g5;refine YS [_,_,_,_] ?_;refine zW ?_;refine Yj (Yj (Yj ?_));refine zW ?_;refine pU ?_;refine Yf (Yh [] (_::_::_::_::Hs) Zz (YmO hRx0 (hS.a x hxm)) (fun v6 fz6 H6 hle6 hR6=>⟨⟨hle6,Zx⟩,?_⟩));obtain ⟨rfl,va6,rfl,hR6⟩:=hR6;refine Yf (Yb (cs:=[Zy x.name,va6]) (fun gb=>⟨⟨hle6,Zx⟩,?_⟩));refine Yf (YD (Hr:=[_,_,_,_,_]) (d:=x) (Zr _) (hG.mono hle6) YbP (.head _) (Ycg hR6) (fun v' Hs' hO'=>⟨⟨hle6,Zx⟩,?_⟩));obtain ⟨Av',cv',rfl,_,_⟩:=hO'.form;refine Ch.hard0 (Wk ?_);refine Ch.done ?_;exact wP (h:=by exact ⟨k+1,_,Hs',by omega,rfl,rfl,hle1.trans hle6,rfl,⟨fun h=>absurd h Zi,hO'.of (by rw [List.take_add_one,hx];simp) rfl⟩⟩)
 have hkn:n=k:=by omega
 subst hkn;rw [show W.atoms.take n=W.atoms from Zl Zi] at hG;refine zW ?_;refine Yi (fun q σ fz' H'=>∃ (k:Nat) (vo:Value) (Ho:HP) (mo:Nat),k<=m/\q=m - k/\σ=[(26,Zk k),(25,Zk m),(24,Zc B m d),(3,Zp g3),(2,Zp g2)]/\Le fz1 fz'/\H'=(g3,Zu #[Zc Ao n co,vo] 56)::(g2,Zu #[Zn,Zn] 56)::(Hs++Ho)/\mo<=k/\Yju valueL 210 fz' vo mo Ho (dedV (W.values.take k)))
  ⟨0,_,[],0,Z0 _,rfl,rfl,Zd,by rw [List.append_nil],Zs _,⟨fun _=>⟨rfl,rfl⟩,Grow.nil _ _ _⟩⟩ Zw Zb ?_
 rintro q σ fz2 H' ⟨k,vo,Ho,mo,hk2,rfl,rfl,hle2,rfl,hmo,hz2,hGV⟩;obtain ⟨Bo,do_,rfl,_,_⟩:=hGV.form;have hle02:=hle1.trans hle2;refine wC ?_ ?_<;>intro c2
 ·obtain ⟨x,hx⟩:=Yc (l:=W.values) (k:=k) Zi;have hxm:=Zm hx;have hnx:=Yqa hx;refine wI (hV.mono hle02) hx (fun p1 hp1=>?_);refine zL hp1 ?_;intro cs hcs;obtain ⟨vx,rfl,hRx⟩:=XE hcs;have hRf:=hRx.fluent;obtain ⟨E1,r1,q1,rfl,_⟩:=hRx.fluent.args;refine zW ?_;intros;rename_i g7;refine zG ?_;refine YG ?_;refine zG ?_;refine YaQ (b:=decide (∃ y∈dedV (W.values.take k),y.fluent=x.fluent)) (fun fz' hle hf=>?_) (fun f1=>?_) (fun f1=>?_)
  ·obtain ⟨A',c',e,hs⟩:=hGV.sl hle (fun p hp=>hf p (by simp [hp])) Zi;injection e with e1 e2 e3
   subst e1 e3;exact YcI (cap:=[Zp g7]) (p:=fun y=>y.fluent=x.fluent) hs (fun y _ cs hcs=>world1_q (hRf.mono hle) (hf _ (.head _)) hcs)
  ·have hd:Yhx (dedV (W.values.take k)) x=dedV (W.values.take k):=if_pos (Zt f1);exact wP (h:=by exact ⟨k+1,_,Ho,mo,by omega,rfl,rfl,hle2,rfl,by omega,hz2,by rw [hnx,hd];exact hGV⟩)
  have hd:Yhx (dedV (W.values.take k)) x=dedV (W.values.take k)++ [x]:=if_neg (Zf f1);refine zWN ?_;refine YS [_,_,_] ?_;refine wG ?_;refine Ye (vs:=[Zy x.fluent.name,Zc E1 r1 q1]) 0 ?_;refine Yj ?_;refine zW ?_;refine Yj (Yj (Yj ?_));refine zW ?_;refine pU ?_;refine Yf (Yh [] (_::_::_::(Hs++Ho)) Zz (YmO hRf (hS.v x hxm)) (fun v6 fz6 H6 hle6 hR6=>⟨⟨hle6,Zx⟩,?_⟩));obtain ⟨rfl,va6,rfl,hR6⟩:=hR6;refine Ch.qk ⟨hle6,Zx⟩ (Xy ?_);refine Yf (Yb (cs:=[Zy x.fluent.name,va6,Zk x.n]) (fun gb=>⟨⟨hle6,Zx⟩,?_⟩));refine Yf (YD (Hr:=_::_::_::_::Hs) (d:=x) (Zr _) (hGV.mono hle6) Yb1 (.head _) (Ybo ⟨hR6,hRx.n⟩) (fun v' Hs' hO'=>⟨⟨hle6,Zx⟩,?_⟩));obtain ⟨Av',cv',rfl,_,_⟩:=hO'.form;refine Ch.hard0 (Wk ?_);refine Ch.done ?_;exact wP (h:=by exact ⟨k+1,_,Hs',mo+1,by omega,rfl,rfl,hle2.trans hle6,rfl,by omega,⟨fun h=>absurd h Zi,hO'.of (by rw [hnx,hd]) rfl⟩⟩)
 have hkm:m=k:=by omega
 subst hkm;rw [show W.values.take m=W.values from Zl Zi] at hGV;have hGA:Yju atomL 67 fz2 (Zc Ao n co) n Hs W.atoms:=⟨hz1,hG.mono hle2⟩;have hGZ:Yju valueL 210 fz2 (Zc Bo mo do_) mo Ho (dedV W.values):=⟨hz2,hGV⟩;refine zW ?_;refine Ya (Does.perm (H':=Hs++(_::_::Ho)) (List.perm_middle.trans (List.perm_middle.cons _)) (Yh Hs _ Zz (sortA_f hGA Zi) (fun v6 fz6 H6 hle6 hR6=>?_)));obtain ⟨rfl,rfl,l1,hG1,hp1,hs1⟩:=hR6;refine Seq.perm (H':=_::_::(H6++Ho)) (List.perm_middle.trans (List.perm_middle.cons _)).symm ?_;refine zW ?_;refine Ya (Does.perm (H':=H6++(_::_::Ho)) (List.perm_middle.trans (List.perm_middle.cons _)) (Yh H6 _ Zz (Yqf hG1 Zi) (fun v7 fz7 H7 hle7 hR7=>?_)));obtain ⟨rfl,m7,hm7,hG7⟩:=hR7;obtain ⟨A7,c7,rfl,_,_⟩:=hG7.form;refine Seq.perm (H':=_::_::(H7++Ho)) (List.perm_middle.trans (List.perm_middle.cons _)).symm ?_;refine zW ?_;refine Ya (Does.perm (H':=Ho++(_::_::H7)) Zq (Yh Ho _ Zz (sortV_f hGZ Zi) (fun v8 fz8 H8 hle8 hR8=>?_)));obtain ⟨rfl,rfl,l8,hG8,hp8⟩:=hR8;refine Seq.perm (H':=_::_::(H7++H8)) (Zq (l₁:=_::_::H7)) ?_;refine zW ?_;refine YL (i:=1) rfl (fun fz9 hle9 hf9=>?_);obtain ⟨B9,d9,e9,hS9⟩:=hG7.sl hle9 (fun p hp=>hf9 p (by simp [hp])) Zi;injection e9 with x1 x2 x3
 subst x1 x3;obtain ⟨C9,q9,e9,hT9⟩:=hG8.2.sl hle9 (fun p hp=>hf9 p (by simp [hp])) Zi;injection e9 with x1 x2 x3
 subst x1 x3;exact ⟨rfl,⟨cptM l1,l8⟩,⟨_,_,_,_,_,_,rfl,hS9,hT9⟩,⟨l1,hp1,hs1,rfl⟩,hp8⟩
end Go.Proofs.YtacfpcbladaohaaGreatDoor
namespace Go.Lx
open Go.RowKit
variable {α:Type} {fz:FZ} {g j n:Nat} {L:Lay α} {l:List α}
theorem GrowB.setc {e:Nat} {cap o:Nat} {cur:List Value} {d d':α} {v:Value} (h:GrowB L e fz g n cap cur l) (hj:l[j]?=some d) (ho:o<L.size) (hr:∀ cs,L.rep fz d cs->L.rep fz d' (cs.set o v)):GrowB L e fz g n cap (cur.set (j*L.size+o) v) (l.set j d'):=by
 obtain ⟨xs,h1,h2,h3⟩:=h.pairs;have hjl:j<l.length:=(Zg hj).1;have hxl:xs.length=l.length:=by rw [<- h1,List.length_map]
 obtain ⟨p,hp⟩:∃ p,xs[j]?=some p:=⟨xs[j]'Zi,List.getElem?_eq_getElem Zi⟩;have hpd:p.1=d:=by rw [<- h1,List.getElem?_map,hp] at hj;simpa using hj
 have hpm:p∈xs:=Zm hp;have hz:∀ q∈xs,q.2.length=L.size:=fun q hq=>L.len (h2 q hq)
 have hpr:=h2 p hpm;rw [hpd] at hpr;have f1:=Yej (d:=p) (hz p hpm) (i:=j) hz Zi;have f2:=Yej (d:=(d',p.2.set o v)) (by rw [List.length_set];exact hz p hpm) (i:=j) hz Zi;have hs:xs.set j p=xs:=by
  refine List.ext_getElem? fun i=>?_
  rw [List.getElem?_set];split
  ·rename_i e;subst e;rw [hp];split
   ·rfl
   omega
  rfl
 rw [hs] at f1;have hfl:(xs.flatMap Prod.snd).length=n*L.size:=by rw [Yau (fun p hp=>L.len (h2 p hp)),hxl,h.len]
 have hjn:j*L.size+L.size<=n*L.size:=by rw [<- Nat.succ_mul];exact Nat.mul_le_mul_right _ (by have:=h.len;omega)
 have ht:((xs.flatMap Prod.snd).take (j*L.size)).length=j*L.size:=by rw [List.length_take];omega
 refine ⟨⟨xs.set j (d',p.2.set o v),by rw [List.map_set,h1],fun q hq=>?_,?_⟩,by rw [List.length_set];exact h.len,h.capn,h.max,by rw [List.length_set];exact h.size⟩
 ·rcases List.mem_or_eq_of_mem_set hq with hq | rfl
  ·exact h2 q hq
  exact hr _ hpr
 rw [List.take_set,h3,<- f2]
 conv=>lhs;rw [<- f1]
 rw [List.append_assoc,List.set_append_right _ _ Zi,ht,Nat.add_sub_cancel_left,List.set_append_left _ _ (by rw [hz p hpm];exact ho),List.append_assoc]
end Go.Lx
namespace Go.Proofs.YtacfpcbladaohaaGreatDoor
variable {α β:Type} {cs:List Value} {fz:FZ} {A B:Option Addr} {g n k:Nat} {t:TypeId} {M:Mn} {W:Wd} {va:Value} {l:List α}
theorem Ycc {x:Change} (h:changeL.rep fz x cs):∃ A0 n0 c0 A1 n1 c1 A2 n2 c2 A3 n3 c3 A4 n4 c4 A5 n5 c5 A6 n6 c6 A7 n7 c7,cs=[Zk x.kind,Zc A0 n0 c0,Zy x.when_.op,Zy x.when_.name,Zc A1 n1 c1,Zc A2 n2 c2,Zc A3 n3 c3,Zc A4 n4 c4,Zy x.name,Zc A5 n5 c5,Zy x.value.op,Zy x.value.name,Zk x.value.n,Zc A6 n6 c6,Zc A7 n7 c7]/\
 ChangeR fz x (Zc A0 n0 c0) (Zc A1 n1 c1) (Zc A2 n2 c2) (Zc A3 n3 c3) (Zc A4 n4 c4) (Zc A5 n5 c5) (Zc A6 n6 c6) (Zc A7 n7 c7):=by
 obtain ⟨u0,u1,u2,u3,u4,u5,u6,u7,rfl,hR⟩:=Y6 h;obtain ⟨A0,n0,c0,rfl,_⟩:=id hR.params;obtain ⟨⟨A1,n1,c1,rfl,_⟩,⟨A2,n2,c2,rfl,_⟩,⟨A3,n3,c3,rfl,_⟩,⟨A4,n4,c4,rfl,_⟩⟩:=id hR.when_.sls;obtain ⟨A5,n5,c5,rfl,_⟩:=id hR.args;obtain ⟨⟨A6,n6,c6,rfl,_⟩,⟨A7,n7,c7,rfl,_⟩⟩:=id hR.value.sls;exact ⟨_,_,_,_,_,_,_,_,_,_,_,_,_,_,_,_,_,_,_,_,_,_,_,_,rfl,hR⟩
theorem Ybm {x:Action} (h:actionL.rep fz x cs):∃ A0 n0 c0 A1 n1 c1 A2 n2 c2 A3 n3 c3 A4 n4 c4 A5 n5 c5,cs=[Zy x.name,Zc A0 n0 c0,Zk x.cost,Zy x.pre.op,Zy x.pre.name,Zc A1 n1 c1,Zc A2 n2 c2,Zc A3 n3 c3,Zc A4 n4 c4,Zc A5 n5 c5]/\
 ActionR fz x (Zc A0 n0 c0) (Zc A1 n1 c1) (Zc A2 n2 c2) (Zc A3 n3 c3) (Zc A4 n4 c4) (Zc A5 n5 c5):=by
 obtain ⟨u0,u1,u2,u3,u4,u5,rfl,hR⟩:=Y7 h;obtain ⟨A0,n0,c0,rfl,_⟩:=id hR.params;obtain ⟨⟨A1,n1,c1,rfl,_⟩,⟨A2,n2,c2,rfl,_⟩,⟨A3,n3,c3,rfl,_⟩,⟨A4,n4,c4,rfl,_⟩⟩:=id hR.pre.sls;obtain ⟨A5,n5,c5,rfl,_⟩:=id hR.changes;exact ⟨_,_,_,_,_,_,_,_,_,_,_,_,_,_,_,_,_,_,rfl,hR⟩
def numC (c:Change):Prop:=c.kind=3\/c.kind=4\/c.kind=5
def numL (cs:List Change):List Change:=cs.filter fun c=>decide (numC c)
theorem Ynb {x:Change} (h:changeL.rep fz x cs):QFn prog 213 [.agg cs.toArray] fz (Zo (decide (numC x))):=by
 obtain ⟨A0,n0,c0,A1,n1,c1,A2,n2,c2,A3,n3,c3,A4,n4,c4,A5,n5,c5,A6,n6,c6,A7,n7,c7,rfl,hR⟩:=Ycc h;refine qF Tryz.func213 Tryz.ntmps213 (fun w0=>?_);refine pX (fun g1=>?_);refine wC ?_ ?_<;>intro e1
 ·exact wR (h:=by exact Ym (.inl e1))
 refine wC ?_ ?_<;>intro e2
 ·exact wR (h:=by exact Ym (.inr (.inl e2)))
 refine wC ?_ ?_<;>intro e3
 ·exact wR (h:=by exact Ym (.inr (.inr e3)))
 exact wR (h:=by exact Yg (by unfold numC;omega))
theorem Yn8 {a:Atom} {x:Value_} {c:Nat} (ha:AtomR fz a (Zc A n c)) (hg:fz g=some (Zu #[Zy a.name,Zc A n c] t)) (hcs:valueL.rep fz x cs):
 QFn prog 214 (.agg cs.toArray:: [Zp g]) fz (Zo (decide (x.fluent=a))):=by
 obtain ⟨va,rfl,hx⟩:=XE hcs;have hx1:=hx.fluent;obtain ⟨B,m,d,rfl,ib⟩:=hx.fluent.args;refine qF Tryz.func214 Tryz.ntmps214 (fun w0=>?_);refine pX (fun g9=>?_);refine wG ?_;refine Ye (vs:=[Zy x.fluent.name,Zc B m d]) 0 ?_;refine wc (Ybi hx1 ha) ?_;exact wR (h:=rfl)
theorem Yn7 {x:Function} {ds:List Value} {c:Change} (hg:fz g=some (Zu ds.toArray t)) (hd:changeL.rep fz c ds) (hcs:functionL.rep fz x cs):
 QFn prog 217 (.agg cs.toArray:: [Zp g]) fz (Zo (decide (x.name=c.name))):=by
 obtain ⟨va,rfl,hx⟩:=YU hcs;obtain ⟨B,m,d,rfl,ib⟩:=id hx.params;obtain ⟨A0,n0,c0,A1,n1,c1,A2,n2,c2,A3,n3,c3,A4,n4,c4,A5,n5,c5,A6,n6,c6,A7,n7,c7,rfl,hR⟩:=Ycc hd;refine qF Tryz.func217 Tryz.ntmps217 (fun w0=>?_);refine pX (fun g9=>?_);refine wC ?_ ?_<;>intro c1
 ·exact wR (h:=by exact Ym c1)
 exact wR (h:=by exact Yg c1)
theorem Yl9 {n:Int}:QFn prog 216 [Zk n,Zo false] fz (optV none):=by
 refine qF Tryz.func216 Tryz.ntmps216 (fun w0=>?_);exact wS (h:=rfl)
def cfl (ns bs:List Bs) (c:Change):Atom:=⟨c.name,c.args.map (valN ns bs)⟩
def Ydo (W:Wd) (ns bs:List Bs) (c:Change):Option Int:=match valW W (bE ns bs c.value) with
 | none=>none
 | some v=>if c.kind=3 then some v else match fluW W.values (cfl ns bs c) with
  | none=>none
  | some o=>smallM (some (o+if c.kind=5 then -v else v))
def fitV (d:Domain) (W:Wd) (ns bs:List Bs) (c:Change):Option Int:=match Ydo W ns bs c with
 | none=>none
 | some v=>match d.functions.find? (fun f=>decide (f.name=c.name)) with
  | none=>none
  | some f=>if v<f.lo\/f.hi<v then none else some v
def ValC (d:Domain) (W:Wd) (ns bs:List Bs) (cs:List Change):Prop:=((numL cs).map (cfl ns bs)).Nodup/\∀ c∈numL cs,(fitV d W ns bs c).isSome=true
def valC (d:Domain) (W:Wd) (ns bs:List Bs) (cs:List Change):List Value_:=(numL cs).map fun c=>⟨cfl ns bs c,(fitV d W ns bs c).getD 0⟩
theorem YfL {cs:List Change} {x:Change} (hx:cs[k]?=some x) (h:numC x):numL (cs.take (k+1))=numL (cs.take k)++ [x]:=by
 unfold numL;rw [List.take_add_one,hx,List.filter_append];simp [h]
theorem Ylq {cs:List Change} {x:Change} (hx:cs[k]?=some x) (h:¬numC x):numL (cs.take (k+1))=numL (cs.take k):=by
 unfold numL;rw [List.take_add_one,hx,List.filter_append];simp [h]
theorem Ymn (cs:List Change):(numL cs).length<=cs.length:=List.length_filter_le _ _
structure ChgC (c:Change):Prop where
 args:c.args.length<=1000000000
 w:eW c.value<=1000000000
 sh:numC c->VSh c.value
theorem YnZ:∀ (cs:List Value) (j:Nat) (v:Value),j<cs.length->wrL cs j [v]=some (cs.set j v)
 | [],j,v,h=>by simp at h
 | c::cs,0,v,_=>by rw [wrL];cases cs<;>rfl
 | c::cs,j+1,v,h=>by rw [wrL,YnZ cs j v (by simpa using h)];rfl
theorem set_map2 {f z:α->β} {x:α} (hx:l[k]?=some x):((l.take k).map f++(l.drop k).map z).set k (f x)=(l.take (k+1)).map f++(l.drop (k+1)).map z:=by
 have hk:k<l.length:=(Zg hx).1;have h1:((l.take k).map f).length=k:=by rw [List.length_map,List.length_take];omega
 have h2:l[k]=x:=by rw [List.getElem?_eq_getElem hk] at hx;exact Option.some.inj hx
 rw [List.set_append_right _ _ Zi,h1,Nat.sub_self,List.drop_eq_getElem_cons hk,List.map_cons,List.set_cons_zero,List.take_add_one,hx];simp
theorem get_map2 {f z:α->β} {x:α} (hx:l[k]?=some x):((l.take k).map f++(l.drop k).map z)[k]?=some (z x):=by
 have hk:k<l.length:=(Zg hx).1;have h1:((l.take k).map f).length=k:=by rw [List.length_map,List.length_take];omega
 rw [List.getElem?_append_right Zi,h1,Nat.sub_self,List.getElem?_map,List.getElem?_drop,Nat.add_zero,hx];rfl
theorem values_f {v vw:Value} {a:Action} {as_:List Bs} {m d:Nat} (hM:MnR fz v M) (hW:WdR fz W vw) (ha:actionL.rep fz a cs) (hB:Sl strL fz B m d as_) (hl:a.params.length<=as_.length) (h6:a.params.length<=1000000) (hC:∀ c∈a.changes,ChgC c) (hn:a.changes.length<=1000000):
 GFn prog 119 [v,vw,.agg cs.toArray,Zc B m d] fz [] (fun r fz' H'=>∃ v e,r=.tuple #[v,errV e]/\(e≠0->¬ValC M.d W (a.params.map (·.name)) as_ a.changes/\H'=[])/\(e=0->ValC M.d W (a.params.map (·.name)) as_ a.changes/\∃ n,Grow valueL 210 fz' v n H' (valC M.d W (a.params.map (·.name)) as_ a.changes))):=by
 have hM0:=hM;obtain ⟨⟨g,v1,v2,v3,v4,v5,v6,a7,a8,a9,a10,a11,a12,a13,a14,a15,a16,a17,vf,A,n,c,rfl,hg,hD,hF,hO⟩,hw,hm⟩:=hM;have hW0:=hW;obtain ⟨Wa,wn,wcp,Wv,wm,wd,rfl,hWA,hWV⟩:=hW;obtain ⟨A0,n0,c0,A1,n1,c1,A2,n2,c2,A3,n3,c3,A4,n4,c4,A5,n5,c5,rfl,hR⟩:=Ybm ha;obtain ⟨_,_,_,e0,i0⟩:=id hR.params;cases e0;obtain ⟨_,_,_,e5,i5⟩:=id hR.changes;cases e5;obtain ⟨F1,f1,f2,rfl,iF⟩:=hD.functions;have lb:=hB.len;have sb:=hB.short;have l0:=i0.len;have l5:=i5.len;have s5:=i5.short;have lF:=iF.len;have sF:=iF.short;generalize hns:a.params.map (·.name)=ns;have lns:ns.length=a.params.length:=by rw [<- hns,List.length_map]
 refine zF Tryz.func119 Tryz.ntmps119 (fun w0=>?_);refine pX (fun g5=>?_);refine pY (fun g6=>?_)
 first
 | refine Wp.freezeAll (H1:=[]) (H2:=[_,_]) (Zr _) (fun fz0 hle0 hf0=>?_)
 | refine Seq.freezeAll (H1:=[]) (H2:=[_,_]) (Zr _) (fun fz0 hle0 hf0=>?_)
 have hg6:=hf0 _ (.head _);have hg5:=hf0 _ (.tail _ (.head _));have hg0:=hle0 _ _ hg;refine wK (q:=Yiu (i0.mono hle0) Zi) (h:=fun r4 fz4 H4 hle4 hR4=>?_);obtain ⟨rfl,N,nn,nc,rfl,iN⟩:=hR4;rw [hns] at iN;have hle04:=hle0.trans hle4;have hg6:=hle4 _ _ hg6;have hg5:=hle4 _ _ hg5;have hg0:=hle4 _ _ hg0;have lN:=iN.len;refine zW ?_;refine Yi (fun q σ fz' H'=>∃ (k:Nat) (vo vc:Value) (mo:Nat) (Ho Hc:HP),k<=n5/\q=n5 - k/\σ=[(29,Zk k),(28,Zk n5),(27,Zc A5 n5 c5),(12,vc),(11,vo),(10,Zc N nn nc),(5,Zp g5),(0,Zp g),(3,Zc B m d)]/\Le fz4 fz'/\H'=Ho++Hc/\mo<=k/\
  Grow valueL 210 fz' vo mo Ho ((numL (a.changes.take k)).map fun c=>⟨cfl ns as_ c,0⟩)/\Grow changeL 104 fz' vc mo Hc (numL (a.changes.take k))/\((numL (a.changes.take k)).map (cfl ns as_)).Nodup)
  ⟨0,_,_,0,[],[],Z0 _,rfl,rfl,Zd,rfl,Zs _,Grow.nil _ _ _,Grow.nil _ _ _,List.nodup_nil⟩ Zw Zb ?_
 rintro q σ fz1 H' ⟨k,vo,vc,mo,Ho,Hc,hk,rfl,rfl,hle1,rfl,hmo,hGo,hGc,hnd⟩;obtain ⟨Ao,co,rfl,_,_⟩:=hGo.form;obtain ⟨Ac,cc,rfl,_,_⟩:=hGc.form;have hle41:=hle04.trans hle1;refine wC ?_ ?_<;>intro e1
 ·obtain ⟨x,hx⟩:=Yc (l:=a.changes) (k:=k) Zi;have hxm:=Zm hx;have hxC:=hC x hxm;refine wI (i5.mono hle41) hx (fun p8 hp8=>?_);refine zL hp8 ?_;intro ds hds;have hds0:=hds;obtain ⟨X0,x0,y0,X1,x1,y1,X2,x2,y2,X3,x3,y3,X4,x4,y4,X5,x5,y5,X6,x6,y6,X7,x7,y7,rfl,hXR⟩:=Ycc hds;obtain ⟨_,_,_,e0,j5⟩:=id hXR.args;cases e0;refine zW ?_;intros;rename_i g14;refine zb (Ynb hds0) (fun e2=>?_) (fun e2=>?_);rotate_left 1
  ·have e2:=Zf e2;exact wP (h:=by exact ⟨k+1,_,_,mo,Ho,Hc,by omega,rfl,rfl,hle1,rfl,by omega,by rw [Ylq hx e2];exact hGo,by rw [Ylq hx e2];exact hGc,by rw [Ylq hx e2];exact hnd⟩)
  have e2:=Zt e2;have lx5:=j5.len;have iN':=iN.mono hle1;have hB':=hB.mono (hle04.trans hle1);have hlN:ns.length<=as_.length:=by omega
  refine zWN ?_
  first | refine YV (fun σ fz' H'=>∃ (g15:Nat) (Bf:Option Addr) (cf:Nat),σ=[(15,Zp g15),(14,Zp g14),(29,Zk k),(28,Zk n5),(27,Zc A5 n5 c5),(12,Zc Ac mo cc),(11,Zc Ao mo co),(10,Zc N nn nc),(5,Zp g5),(0,Zp g),(3,Zc B m d)]/\Le fz1 fz'/\H'=(g15,Zu #[Zy x.name,Zc Bf x5 cf] 67)::(g14,Zu #[Zk x.kind,Zc X0 x0 y0,Zy x.when_.op,Zy x.when_.name,Zc X1 x1 y1,Zc X2 x2 y2,Zc X3 x3 y3,Zc X4 x4 y4,Zy x.name,Zc X5 x5 y5,Zy x.value.op,Zy x.value.name,Zk x.value.n,Zc X6 x6 y6,Zc X7 x7 y7] 104)::(Ho++Hc)/\Sl strL fz' Bf x5 cf (x.args.map (valN ns as_))) ?_ ?_ | refine Yy (YV (fun σ fz' H'=>∃ (g15:Nat) (Bf:Option Addr) (cf:Nat),σ=[(15,Zp g15),(14,Zp g14),(29,Zk k),(28,Zk n5),(27,Zc A5 n5 c5),(12,Zc Ac mo cc),(11,Zc Ao mo co),(10,Zc N nn nc),(5,Zp g5),(0,Zp g),(3,Zc B m d)]/\Le fz1 fz'/\H'=(g15,Zu #[Zy x.name,Zc Bf x5 cf] 67)::(g14,Zu #[Zk x.kind,Zc X0 x0 y0,Zy x.when_.op,Zy x.when_.name,Zc X1 x1 y1,Zc X2 x2 y2,Zc X3 x3 y3,Zc X4 x4 y4,Zy x.name,Zc X5 x5 y5,Zy x.value.op,Zy x.value.name,Zk x.value.n,Zc X6 x6 y6,Zc X7 x7 y7] 104)::(Ho++Hc)/\Sl strL fz' Bf x5 cf (x.args.map (valN ns as_))) ?_ ?_)
  ·refine W9 [] [_] ?_;refine zW ?_;refine pT ?_
   repeat' first
    | refine Po.done ?_
    | (refine Yr ?_)
    | (refine XL ?_ ?_)
    | (refine Yd (Yh [] (_::(Ho++Hc)) Zz (Yic j5 (by have:=hxC.args;omega) iN' hB' hlN) (fun v6 fz6 H6 hle6 hR6=>⟨⟨hle6,Zx⟩,?_⟩));obtain ⟨rfl,Bf,cf,rfl,hSf⟩:=hR6)
    | refine PoS.qk ⟨hle6,Zx⟩ (Xy ?_)
    | refine Yd (XR (fun g15=>⟨⟨hle6,Zx⟩,?_⟩))
    | refine Yd (XR (fun g15=>⟨⟨Zd,Zx⟩,?_⟩))
    | (refine Yd (Yh [] (_::_::(Ho++Hc)) Zz (Yic j5 (by have:=hxC.args;omega) iN' hB' hlN) (fun v6 fz6 H6 hle6 hR6=>⟨⟨hle6,Zx⟩,?_⟩));obtain ⟨rfl,Bf,cf,rfl,hSf⟩:=hR6)
    | refine PoS.hard0 (YP ?_)
   all_goals
    exact wN (h:=by exact ⟨g15,Bf,cf,rfl,hle6,rfl,hSf⟩)
  rintro σ fz2 H' ⟨g15,Bf,cf,rfl,hle2,rfl,hSf⟩;have hRf:AtomR fz2 (cfl ns as_ x) (Zc Bf x5 cf):=⟨hXR.name,hSf.is⟩;have hGo2:=hGo.mono hle2;have hGc2:=hGc.mono hle2;refine wG ?_;refine YG ?_;refine zG ?_;refine YaQ (b:=decide (∃ y∈(numL (a.changes.take k)).map fun c=>(⟨cfl ns as_ c,0⟩:Value_),y.fluent=cfl ns as_ x)) (fun fz' hle hf=>?_) (fun f1=>?_) (fun f1=>?_)
  ·obtain ⟨A',c',e,hs⟩:=hGo2.sl hle (fun p hp=>hf p (by simp [hp])) Zi;injection e with e1 e2 e3
   subst e1 e3;exact YcI (cap:=[Zp g15]) (p:=fun y=>y.fluent=cfl ns as_ x) hs (fun y _ cs hcs=>Yn8 (hRf.mono hle) (hf _ (.head _)) hcs)
  ·have f1:=Zt f1;refine zW ?_;refine ret2 rfl rfl rfl (List.nil_sublist _) ⟨_,15,rfl,fun _=>⟨fun h=>?_,rfl⟩,Za⟩;have hs:((numL (a.changes.take (k+1))).map (cfl ns as_)).Nodup:=List.Nodup.sublist (((List.take_sublist (k+1) a.changes).filter _).map _) h.1;rw [YfL hx e2,List.map_append,List.nodup_append] at hs;obtain ⟨y,hy,hye⟩:=f1;obtain ⟨c',hc',rfl⟩:=List.mem_map.1 hy;exact hs.2.2 _ (List.mem_map_of_mem hc') _ (List.mem_singleton.2 rfl) hye
  have f1:=Zf f1;have hnO:((numL (a.changes.take k)).map fun c=>(⟨cfl ns as_ c,0⟩:Value_))++ [⟨cfl ns as_ x,0⟩]=(numL (a.changes.take (k+1))).map fun c=>⟨cfl ns as_ c,0⟩:=by rw [YfL hx e2,List.map_append];rfl
  have hnC:=(YfL hx e2).symm;have hnN:((numL (a.changes.take (k+1))).map (cfl ns as_)).Nodup:=by
   rw [YfL hx e2,List.map_append,List.nodup_append];refine ⟨hnd,by simp,fun u hu w hw e=>?_⟩;obtain ⟨c',hc',rfl⟩:=List.mem_map.1 hu;rw [List.map_singleton,List.mem_singleton] at hw;subst hw;exact f1 ⟨_,List.mem_map_of_mem hc',e⟩
  have hds2:=changeL.mono hle2 hds0;refine zWN ?_;refine W9 [] [_,_] ?_;refine zW ?_;refine Yo (Yo ?_);refine zW ?_;refine pT ?_
  repeat' first
   | refine Po.done ?_
   | (refine Yr ?_)
   | (refine XL ?_ ?_)
   | refine Yd (Yb (cs:=[.string x.name,.slice Bf x5 cf,.int .i64 0]) (fun g3=>⟨⟨Zd,Zx⟩,?_⟩))
   | (refine Yd (YD (Hr:=_::_::_::Hc) (d:=⟨cfl ns as_ x,0⟩) (((List.perm_append_comm.cons _).cons _).cons _) hGo2 Yb1 (.head _) (Ybo (x:=⟨cfl ns as_ x,0⟩) ⟨hRf,Wh⟩) (fun vo' Ho' hGo'=>⟨⟨Zd,Zx⟩,?_⟩));obtain ⟨Ao',co',rfl,_,_⟩:=hGo'.form)
   | refine Yd (Yb (cs:=[.int .i64 x.kind,.slice X0 x0 y0,.string x.when_.op,.string x.when_.name,.slice X1 x1 y1,.slice X2 x2 y2,.slice X3 x3 y3,.slice X4 x4 y4,.string x.name,.slice X5 x5 y5,.string x.value.op,.string x.value.name,.int .i64 x.value.n,.slice X6 x6 y6,.slice X7 x7 y7]) (fun g7=>⟨⟨Zd,Zx⟩,?_⟩))
   | (refine Yd (YD (Hr:=_::_::_::_::Ho') (d:=x) ((((List.perm_append_comm.cons _).cons _).cons _).cons _) hGc2 Ye6 (.head _) hds2 (fun vc' Hc' hGc'=>⟨⟨Zd,Zx⟩,?_⟩));obtain ⟨Ac',cc',rfl,_,_⟩:=hGc'.form)
   | (refine Yd (YD (Hr:=_::_::_::_::Hc) (d:=⟨cfl ns as_ x,0⟩) ((((List.perm_append_comm.cons _).cons _).cons _).cons _) hGo2 Yb1 (.tail _ (.head _)) (Ybo (x:=⟨cfl ns as_ x,0⟩) ⟨hRf,Wh⟩) (fun vo' Ho' hGo'=>⟨⟨Zd,Zx⟩,?_⟩));obtain ⟨Ao',co',rfl,_,_⟩:=hGo'.form)
   | (refine Yd (YD (Hr:=_::_::_::_::Hc) (d:=⟨cfl ns as_ x,0⟩) ((((List.perm_append_comm.cons _).cons _).cons _).cons _) hGo2 Yb1 (.head _) (Ybo (x:=⟨cfl ns as_ x,0⟩) ⟨hRf,Wh⟩) (fun vo' Ho' hGo'=>⟨⟨Zd,Zx⟩,?_⟩));obtain ⟨Ao',co',rfl,_,_⟩:=hGo'.form)
   | (refine Yd (YD (Hr:=_::_::_::_::Ho') (d:=x) ((((List.perm_append_comm.cons _).cons _).cons _).cons _) hGc2 Ye6 (.tail _ (.head _)) hds2 (fun vc' Hc' hGc'=>⟨⟨Zd,Zx⟩,?_⟩));obtain ⟨Ac',cc',rfl,_,_⟩:=hGc'.form)
   | refine PoS.hard (DoesQ.does (YE ?_))
  all_goals
   exact wP (h:=by exact ⟨k+1,_,_,mo+1,Ho',Hc',by omega,rfl,rfl,hle1.trans hle2,rfl,by omega,hnO ▸ hGo',hnC ▸ hGc',hnN⟩)
 have hkn:n5=k:=by omega
 subst hkn;rw [show a.changes.take n5=a.changes from Zl Zi] at hGo hGc hnd;have lL:=hGc.len;have lsL:=Ymn a.changes;have hmem:∀ c∈numL a.changes,c∈a.changes/\numC c:=fun c hc=>⟨(List.mem_filter.1 hc).1,Zt (List.mem_filter.1 hc).2⟩
 have hval:valC M.d W ns as_ a.changes=(numL a.changes).map fun c=>⟨cfl ns as_ c,(fitV M.d W ns as_ c).getD 0⟩:=rfl
 have hvc:∀ {P:Prop},(P->∃ c∈numL a.changes,fitV M.d W ns as_ c=none)->P->¬ValC M.d W ns as_ a.changes:=fun h hp hv=>by
  obtain ⟨c,hc,he⟩:=h hp;have:=hv.2 c hc;rw [he] at this;cases this
 have hvy:(∀ c∈numL a.changes,(fitV M.d W ns as_ c).isSome=true)->ValC M.d W ns as_ a.changes:=fun h=>⟨hnd,h⟩
 rw [hval];generalize ValC M.d W ns as_ a.changes=PV at*;generalize numL a.changes=L at*
 first
 | refine Wp.freezeAll (H1:=Ho) (H2:=Hc) (Zr _) (fun fz2 hle2 hf2=>?_)
 | refine Seq.freezeAll (H1:=Ho) (H2:=Hc) (Zr _) (fun fz2 hle2 hf2=>?_)
 obtain ⟨B2,d2,e2,iL⟩:=hGc.sl hle2 hf2 Zi;injection e2 with e21 e22 e23
 subst e21;subst e23;have hle42:=hle1.trans hle2;refine zW ?_;refine Yi (fun q σ fz' H'=>∃ (k:Nat) (Hk:HP),k<=mo/\q=mo - k/\σ=[(60,Zk k),(59,Zk mo),(58,Zc Ac mo cc),(11,Zc Ao mo co),(10,Zc N nn nc),(5,Zp g5),(0,Zp g),(3,Zc B m d)]/\Le fz2 fz'/\H'=Hk/\
  Grow valueL 210 fz' (Zc Ao mo co) mo Hk ((L.take k).map (fun c=>(⟨cfl ns as_ c,(fitV M.d W ns as_ c).getD 0⟩:Value_))++(L.drop k).map (fun c=>(⟨cfl ns as_ c,0⟩:Value_)))/\(∀ c∈L.take k,(fitV M.d W ns as_ c).isSome=true))
  ⟨0,Ho,Z0 _,rfl,rfl,Zd,rfl,by simpa using hGo.mono hle2,by simp⟩ Zw Zb ?_
 rintro q σ fz3 H' ⟨k,Hk,hk,rfl,rfl,hle3,rfl,hGk,hall⟩;have hle43:=hle42.trans hle3;refine wC ?_ ?_<;>intro e3
 ·obtain ⟨x,hx⟩:=Yc (l:=L) (k:=k) Zi;have hxL:=Zm hx;obtain ⟨hxa,hxn⟩:=hmem x hxL;have hxC:=hC x hxa;have hset:=set_map2 (f:=fun c=>(⟨cfl ns as_ c,(fitV M.d W ns as_ c).getD 0⟩:Value_)) (z:=fun c=>(⟨cfl ns as_ c,0⟩:Value_)) hx;have hget:=get_map2 (f:=fun c=>(⟨cfl ns as_ c,(fitV M.d W ns as_ c).getD 0⟩:Value_)) (z:=fun c=>(⟨cfl ns as_ c,0⟩:Value_)) hx;obtain ⟨gb,cap,cur,e6,rfl,hb⟩:=hGk.b Zi;injection e6 with e61 e62 e63
  subst e61 e63;obtain ⟨row,hrow,hcur⟩:=YbM hb hget;obtain ⟨va,rfl,hRv⟩:=XE hrow;obtain ⟨V1,q1,r1,rfl,iv1⟩:=id hRv.fluent.args;refine wI (iL.mono hle3) hx (fun p8 hp8=>?_);refine zL hp8 ?_;intro ds hds;have hds0:=hds;obtain ⟨X0,x0,y0,X1,x1,y1,X2,x2,y2,X3,x3,y3,X4,x4,y4,X5,x5,y5,X6,x6,y6,X7,x7,y7,rfl,hXR⟩:=Ycc hds;have hN:Yag=1099511627776:=rfl;refine zWN ?_;intros;rename_i g17;have hle03:=hle04.trans hle43;have iN':=iN.mono hle43;have hB':=hB.mono hle03;have hlN:ns.length<=as_.length:=by omega
  have hg5':=hle43 _ _ hg5;have hg0':=hle43 _ _ hg0
  first | refine YV (fun σ fz' H'=>σ=[(19,Zo (valW W (bE ns as_ x.value)).isSome),(18,Zk ((valW W (bE ns as_ x.value)).getD 0)),(17,Zp g17),(16,Zk k),(60,Zk k),(59,Zk mo),(58,Zc Ac mo cc),(11,Zv gb mo co),(10,Zc N nn nc),(5,Zp g5),(0,Zp g),(3,Zc B m d)]/\Le fz3 fz'/\H'=(g17,Zu #[Zk x.kind,Zc X0 x0 y0,Zy x.when_.op,Zy x.when_.name,Zc X1 x1 y1,Zc X2 x2 y2,Zc X3 x3 y3,Zc X4 x4 y4,Zy x.name,Zc X5 x5 y5,Zy x.value.op,Zy x.value.name,Zk x.value.n,Zc X6 x6 y6,Zc X7 x7 y7] 104):: [(gb,Zu cur.toArray 210)]) ?_ ?_ | refine Yy (YV (fun σ fz' H'=>σ=[(19,Zo (valW W (bE ns as_ x.value)).isSome),(18,Zk ((valW W (bE ns as_ x.value)).getD 0)),(17,Zp g17),(16,Zk k),(60,Zk k),(59,Zk mo),(58,Zc Ac mo cc),(11,Zv gb mo co),(10,Zc N nn nc),(5,Zp g5),(0,Zp g),(3,Zc B m d)]/\Le fz3 fz'/\H'=(g17,Zu #[Zk x.kind,Zc X0 x0 y0,Zy x.when_.op,Zy x.when_.name,Zc X1 x1 y1,Zc X2 x2 y2,Zc X3 x3 y3,Zc X4 x4 y4,Zy x.name,Zc X5 x5 y5,Zy x.value.op,Zy x.value.name,Zk x.value.n,Zc X6 x6 y6,Zc X7 x7 y7] 104):: [(gb,Zu cur.toArray 210)]) ?_ ?_)
  ·refine W9 [] [_,_] ?_;refine wG ?_;refine Ye (vs:=[Zy x.value.op,Zy x.value.name,Zk x.value.n,Zc X6 x6 y6,Zc X7 x7 y7]) 0 ?_;refine zW ?_;refine pT ?_;refine Yr ?_;refine Yd (Yh [] [_,_] Zz (Yjj _ (Zs _) hXR.value iN' hB' hlN hxC.w) (fun v6 fz6 H6 hle6 hR6=>⟨⟨hle6,Zx⟩,?_⟩));obtain ⟨rfl,wa6,wk6,rfl,hR6⟩:=hR6;refine Yr ?_;refine PoS.qk ⟨hle6,Zx⟩ (Yu (YdV _ (Zs _) (hW0.mono (hle03.trans hle6)) hR6 (Yn6 _ (Zs _) (hxC.sh hxn))) ?_);unfold optV;refine Yr ?_;refine PoS.qk ⟨hle6,Zx⟩ (Yam ?_)
   repeat' first
    | refine Po.done ?_
    | (refine Yr ?_)
    | (refine XL ?_ ?_)
    | refine PoS.qk ⟨hle6,Zx⟩ (WH ?_)
    | refine PoS.hard (DoesQ.does (YE ?_))
    | refine PoS.hard (DoesQ.does (WH ?_))
   all_goals
    exact wN (h:=by exact ⟨rfl,hle6,rfl⟩)
  rintro σ fz4 H' ⟨rfl,hle4,rfl⟩
  first | refine YV (fun σ fz' H'=>σ=[(19,Zo (Ydo W ns as_ x).isSome),(18,Zk ((Ydo W ns as_ x).getD 0)),(17,Zp g17),(16,Zk k),(60,Zk k),(59,Zk mo),(58,Zc Ac mo cc),(11,Zv gb mo co),(10,Zc N nn nc),(5,Zp g5),(0,Zp g),(3,Zc B m d)]/\Le fz3 fz'/\H'=(g17,Zu #[Zk x.kind,Zc X0 x0 y0,Zy x.when_.op,Zy x.when_.name,Zc X1 x1 y1,Zc X2 x2 y2,Zc X3 x3 y3,Zc X4 x4 y4,Zy x.name,Zc X5 x5 y5,Zy x.value.op,Zy x.value.name,Zk x.value.n,Zc X6 x6 y6,Zc X7 x7 y7] 104):: [(gb,Zu cur.toArray 210)]) ?_ ?_ | refine Yy (YV (fun σ fz' H'=>σ=[(19,Zo (Ydo W ns as_ x).isSome),(18,Zk ((Ydo W ns as_ x).getD 0)),(17,Zp g17),(16,Zk k),(60,Zk k),(59,Zk mo),(58,Zc Ac mo cc),(11,Zv gb mo co),(10,Zc N nn nc),(5,Zp g5),(0,Zp g),(3,Zc B m d)]/\Le fz3 fz'/\H'=(g17,Zu #[Zk x.kind,Zc X0 x0 y0,Zy x.when_.op,Zy x.when_.name,Zc X1 x1 y1,Zc X2 x2 y2,Zc X3 x3 y3,Zc X4 x4 y4,Zy x.name,Zc X5 x5 y5,Zy x.value.op,Zy x.value.name,Zk x.value.n,Zc X6 x6 y6,Zc X7 x7 y7] 104):: [(gb,Zu cur.toArray 210)]) ?_ ?_)
  ·cases hv:valW W (bE ns as_ x.value) with
   | none=>
    have hn:Ydo W ns as_ x=none:=by unfold Ydo;rw [hv]
    rw [hn];simp only [Option.isSome_none,Option.getD_none];exact wN (h:=by exact ⟨rfl,hle4,rfl⟩)
   | some w=>
    have hwi:=Yk6 hv;simp only [Option.isSome_some,Option.getD_some];refine wC ?_ ?_<;>intro c1;rotate_left 1
    ·have hn:Ydo W ns as_ x=some w:=by unfold Ydo;rw [hv];exact if_pos Zi
     rw [hn];exact wN (h:=by exact ⟨rfl,hle4,rfl⟩)
    have hn:Ydo W ns as_ x=match fluW W.values (cfl ns as_ x) with
     | none=>none
     | some o=>smallM (some (o+if x.kind=5 then -w else w)):=by unfold Ydo;rw [hv];exact if_neg Zi
    have hRv4:=hRv.fluent.mono hle4;have hg5'':=hle4 _ _ hg5';have hcur2:(cur.drop ((k:Int).toNat*3+0)).take 2=[Zy (cfl ns as_ x).name,Zc V1 q1 r1]:=by
     have e:((cur.drop (k*3)).take 3).take 2=[Zy (cfl ns as_ x).name,Zc V1 q1 r1]:=by rw [show (cur.drop (k*3)).take 3=[Zy (cfl ns as_ x).name,Zc V1 q1 r1,Zk 0] from hcur];rfl
     rw [List.take_take] at e;exact e
    refine zWN ?_
    first | refine YV (fun σ fz' H'=>σ=[(21,Zo (fluW W.values (cfl ns as_ x)).isSome),(20,Zk ((fluW W.values (cfl ns as_ x)).getD 0)),(19,Zo true),(18,Zk w),(17,Zp g17),(16,Zk k),(60,Zk k),(59,Zk mo),(58,Zc Ac mo cc),(11,Zv gb mo co),(10,Zc N nn nc),(5,Zp g5),(0,Zp g),(3,Zc B m d)]/\Le fz4 fz'/\H'=(g17,Zu #[Zk x.kind,Zc X0 x0 y0,Zy x.when_.op,Zy x.when_.name,Zc X1 x1 y1,Zc X2 x2 y2,Zc X3 x3 y3,Zc X4 x4 y4,Zy x.name,Zc X5 x5 y5,Zy x.value.op,Zy x.value.name,Zk x.value.n,Zc X6 x6 y6,Zc X7 x7 y7] 104):: [(gb,Zu cur.toArray 210)]) ?_ ?_ | refine Yy (YV (fun σ fz' H'=>σ=[(21,Zo (fluW W.values (cfl ns as_ x)).isSome),(20,Zk ((fluW W.values (cfl ns as_ x)).getD 0)),(19,Zo true),(18,Zk w),(17,Zp g17),(16,Zk k),(60,Zk k),(59,Zk mo),(58,Zc Ac mo cc),(11,Zv gb mo co),(10,Zc N nn nc),(5,Zp g5),(0,Zp g),(3,Zc B m d)]/\Le fz4 fz'/\H'=(g17,Zu #[Zk x.kind,Zc X0 x0 y0,Zy x.when_.op,Zy x.when_.name,Zc X1 x1 y1,Zc X2 x2 y2,Zc X3 x3 y3,Zc X4 x4 y4,Zy x.name,Zc X5 x5 y5,Zy x.value.op,Zy x.value.name,Zk x.value.n,Zc X6 x6 y6,Zc X7 x7 y7] 104):: [(gb,Zu cur.toArray 210)]) ?_ ?_)
    ·refine W9 [] [_,_] ?_;refine wG ?_;refine Yv rfl ?_;refine wG ?_;refine Ye (vs:=[Zy (cfl ns as_ x).name,Zc V1 q1 r1]) 1 ?_ (hv:=hcur2);refine zW ?_;refine pT ?_;refine Yr ?_;refine PoS.qk ⟨Zd,Zx⟩ (Yu (YjA (hW0.mono (hle03.trans hle4)) hRv4) ?_);unfold optV;refine Yr ?_;refine PoS.qk ⟨Zd,Zx⟩ (Yam ?_)
     repeat' first
      | refine Po.done ?_
      | (refine Yr ?_)
      | (refine XL ?_ ?_)
      | refine PoS.qk ⟨Zd,Zx⟩ (WH ?_)
      | refine PoS.hard (DoesQ.does (YE ?_))
      | refine PoS.hard (DoesQ.does (WH ?_))
     all_goals
      exact wN (h:=by exact ⟨rfl,Zd,rfl⟩)
    rintro σ fz5 H' ⟨rfl,hle5,rfl⟩;have hM5:∀ {o:Int},fluW W.values (cfl ns as_ x)=some o-> -Yag<=o/\o<=Yag:=fun h=>by
     unfold fluW at h;split at h
     ·exact YcN h
     cases h
    have hle45:=hle4.trans hle5;cases hf:fluW W.values (cfl ns as_ x) with
    | none=>
     rw [hf] at hn;rw [hn];simp only [Option.isSome_none,Option.getD_none];refine wC ?_ ?_<;>intro c2
     ·refine wG ?_;refine qg_neg Zz (Xb Zi) ?_;refine wc Yl9 ?_;unfold optV;exact wN (h:=by exact ⟨rfl,hle45,rfl⟩)
     refine wc Yl9 ?_;unfold optV;exact wN (h:=by exact ⟨rfl,hle45,rfl⟩)
    | some o=>
     rw [hf] at hn;have ho:=hM5 hf;simp only [Option.isSome_some,Option.getD_some];refine wC ?_ ?_<;>intro c2
     ·rw [hn,if_pos (show x.kind=5 from c2)];refine wG ?_;refine qg_neg Zz (Xb Zi) ?_;refine wc (YdF (o:=some (o+ -w)) rfl rfl) ?_;unfold optV;exact wN (h:=by exact ⟨rfl,hle45,rfl⟩)
     rw [hn,if_neg (show ¬x.kind=5 from c2)];refine wc (YdF (o:=some (o+w)) rfl rfl) ?_;unfold optV;exact wN (h:=by exact ⟨rfl,hle45,rfl⟩)
  rintro σ fz5 H' ⟨rfl,hle5,rfl⟩;have hle35:=hle03.trans hle5;have hg0'':=hle5 _ _ hg0';have hbad:fitV M.d W ns as_ x=none->¬PV:=fun h=>hvc (fun _=>⟨x,hxL,h⟩) trivial
  have hfo:fitV M.d W ns as_ x=match Ydo W ns as_ x with
   | none=>none
   | some v=>match M.d.functions.find? (fun f=>decide (f.name=x.name)) with
    | none=>none
    | some f=>if v<f.lo\/f.hi<v then none else some v:=rfl
  refine wG ?_;refine YG ?_;refine zG ?_;refine XJ (fun fz' hle hf=>W3 (cap:=[Zp g17]) (p:=fun f=>f.name=x.name) (iF.mono (hle35.trans hle)) (fun f _ cs hcs=>Yn7 (hf _ (.head _)) (changeL.mono (hle5.trans hle) hds0) hcs)) ?_;have hfr:∀ {o:Option Int},Ydo W ns as_ x=o->True:=fun _=>trivial
  rcases Ybc (p:=fun f:Function=>f.name=x.name) M.d.functions with hno | ⟨i,f,hf1,hf2,hf3⟩
  ·rw [YR hno];rw [YlD (fun i _ y hy=>decide_eq_false (hno y (Zm hy)))] at hfo;have hz:fitV M.d W ns as_ x=none:=by rw [hfo];cases Ydo W ns as_ x<;>rfl
   cases hq:Ydo W ns as_ x with
   | none=>
    simp only [Option.isSome_none,Option.getD_none];refine zW ?_;exact ret2 rfl rfl rfl (List.nil_sublist _) ⟨_,14,rfl,fun _=>⟨hbad hz,rfl⟩,Za⟩
   | some w=>
    simp only [Option.isSome_some,Option.getD_some];refine wC ?_ ?_<;>intro c0
    ·refine zW ?_;exact ret2 rfl rfl rfl (List.nil_sublist _) ⟨_,14,rfl,fun _=>⟨hbad hz,rfl⟩,Za⟩
    exact absurd Zh c0
  rw [Xg hf1 hf2 hf3,Int.zero_add];rw [Yi5 (fun i hi y hy=>decide_eq_false (hf1 i hi y hy)) hf2 (decide_eq_true hf3)] at hfo;have hil:=(Zg hf2).1;cases hq:Ydo W ns as_ x with
  | none=>
   have hz:fitV M.d W ns as_ x=none:=by rw [hfo,hq]
   simp only [Option.isSome_none,Option.getD_none];refine zW ?_;exact ret2 rfl rfl rfl (List.nil_sublist _) ⟨_,14,rfl,fun _=>⟨hbad hz,rfl⟩,Za⟩
  | some w=>
   rw [hq] at hfo;have hfo:fitV M.d W ns as_ x=if w<f.lo\/f.hi<w then none else some w:=hfo
   simp only [Option.isSome_some,Option.getD_some];refine wC ?_ ?_<;>intro c0
   ·exact absurd c0 Zi
   refine wI (iF.mono hle35) hf2 (fun p7 hp7=>?_);refine wG ?_;refine YeN T Zz Zz Zz hp7.Function_lo (fun il=>?_);refine wC ?_ ?_<;>intro c3
   ·refine zW ?_;exact ret2 rfl rfl rfl (List.nil_sublist _) ⟨_,14,rfl,fun _=>⟨hbad (by rw [hfo,if_pos (.inl c3)]),rfl⟩,Za⟩
   refine wI (iF.mono hle35) hf2 (fun p6 hp6=>?_);refine wG ?_;refine YeN T Zz Zz Zz hp6.Function_hi (fun ih=>?_);refine wC ?_ ?_<;>intro c4
   ·refine zW ?_;exact ret2 rfl rfl rfl (List.nil_sublist _) ⟨_,14,rfl,fun _=>⟨hbad (by rw [hfo,if_pos (.inr Zi)]),rfl⟩,Za⟩
   have hgd:fitV M.d W ns as_ x=some w:=by rw [hfo,if_neg Zi]
   have hb5:=hb.mono hle5;have hwi:I64 w:=by unfold I64 at*;omega
   rw [show (fitV M.d W ns as_ x).getD 0=w from by rw [hgd];rfl] at hset;have hb6:=hb5.setc (o:=2) (v:=Zk w) (d':=⟨cfl ns as_ x,w⟩) hget Zh (fun cs hcs=>by
    obtain ⟨va,rfl,hR⟩:=XE hcs;exact Ybo (x:=⟨cfl ns as_ x,w⟩) ⟨hR.fluent,hwi⟩)
   rw [hset] at hb6;have hlen:=hb.size;have hcp:=hb.capn;have hz3:valueL.size=3:=rfl;rw [hz3] at hlen;have hst:=YnZ cur ((k:Int).toNat*3+2) (Zk w) Zi;refine wG ?_;refine Yv rfl ?_;refine zW ?_;refine YA (Y1 ?_ (hc:=hst));refine zW ?_;exact Wr ⟨k+1,_,by omega,rfl,rfl,hle3.trans hle5,rfl,hb6.grow,fun c hc=>by
    rw [List.take_add_one,hx] at hc;rcases List.mem_append.1 hc with hc | hc
    ·exact hall c hc
    simp at hc;subst hc;rw [hgd];rfl⟩ Zi Zw Zb
 have hkm:mo=k:=by omega
 subst hkm;rw [Zl Zi] at hGk hall;rw [List.drop_eq_nil_of_le Zi,List.map_nil,List.append_nil] at hGk;exact wS (h:=by exact ⟨_,0,rfl,fun h=>absurd rfl h,fun _=>⟨hvy hall,mo,hGk⟩⟩)
structure FmC (f:Formula):Prop where
 w:fW f<=100000000
 sh:WSh (normV f)
 nw:fW (normV f)<=900000000
structure ActC (a:Action):Prop where
 params:a.params.length<=1000000
 many:a.changes.length<=1000000
 pre:FmC a.pre
 c:∀ c∈a.changes,ChgC c
def nmA (a:Action):List Bs:=a.params.map (·.name)
structure AppOk (M:Mn) (W:Wd) (s:StepM) (a:Action):Prop where
 typ:TypOk M s a
 pre:holdsW M W (nmA a) s.2 (normV a.pre)=true
 val:ValC M.d W (nmA a) s.2 a.changes
theorem TypOk.mem {s:StepM} {a:Action} (h:TypOk M s a):a∈M.d.actions:=by
 obtain ⟨k,h1,_⟩:=h.fd;exact Zm h1
theorem appl_f {v vw:Value} {s:StepM} (hM:MnR fz v M) (hW:WdR fz W vw) (hs:Ycp.rep fz s [Zk 0,Zy s.1,va]) (hA:∀ a∈M.d.actions,ActC a) (hn:s.2.length<=1000000):
 GFn prog 49 [v,vw,.agg #[Zk 0,Zy s.1,va]] fz [] (fun r fz' H'=>∃ cs l e a,r=.tuple #[.agg (List.toArray cs),l,errV e]/\actionL.rep fz' a cs/\(e≠0->(∀ a,¬AppOk M W s a)/\H'=[])/\(e=0->AppOk M W s a/\∃ n,Grow valueL 210 fz' l n H' (valC M.d W (nmA a) s.2 a.changes))):=by
 have hM0:=hM;have hW0:=hW;have hs0:=hs;obtain ⟨Wa,wn,wc,Wv,wm,wd,rfl,hWA,hWV⟩:=hW;obtain ⟨⟨g,v1,v2,v3,v4,v5,v6,a7,a8,a9,a10,a11,a12,a13,a14,a15,a16,a17,vf,A,n,c,rfl,hg,hD,hF,hO⟩,hw,hm⟩:=hM;obtain ⟨va',he,hsn,hsa⟩:=hs;simp at he;subst he;obtain ⟨B,m,d,rfl,ia⟩:=hsa;have lb:=ia.len;have sb:=ia.short;refine zF Tryz.func49 Tryz.ntmps49 (fun w0=>?_);refine pX (fun g4=>?_);refine pY (fun g5=>?_);refine zW ?_;intros;rename_i g6;refine Ya (Yh [] [_,_,_] Zz (typed_f hM0 hs0) (fun v4 fz4 H4 hle4 hR4=>?_));obtain ⟨rfl,cs,e,a,rfl,ha,hok,hno⟩:=hR4;have ha0:=ha;obtain ⟨A0,n0,c0,A1,n1,c1,A2,n2,c2,A3,n3,c3,A4,n4,c4,A5,n5,c5,rfl,hR⟩:=Ybm ha;obtain ⟨_,_,_,e0,i0⟩:=id hR.params;cases e0;have l0:=i0.len;have hg4:=hle4 _ _ hg;by_cases hc:e=0;rotate_left 1
 ·rw [Yq hc];refine zW ?_;intros;exact YaW T (vs:=[.agg #[Zy a.name,Zc A0 n0 c0,Zk a.cost,Zy a.pre.op,Zy a.pre.name,Zc A1 n1 c1,Zc A2 n2 c2,Zc A3 n3 c3,Zc A4 n4 c4,Zc A5 n5 c5],Zn,.iface 86 (Zk e)]) ⟨⟨_,_,1,_,_,_,rfl,rfl,rfl,rfl,rfl,rfl⟩,rfl,rfl,trivial⟩ (fun fz3 hle3 hf3=>⟨_,_,e,a,by rw [Yq hc],actionL.mono hle3 ha0,fun _=>⟨fun b hb=>hno hc b hb.typ,rfl⟩,fun h=>absurd h hc⟩)
 subst hc;have hto:=hok rfl;have hac:=hA a hto.mem;have hap:=hac.params;have hlt:=hto.len;rw [show errV 0=.nilIface from rfl];refine zWN ?_;intros;rename_i g9;refine YS [_,_,_,_] ?_;refine wG ?_;refine Ye (vs:=[Zy a.pre.op,Zy a.pre.name,Zc A1 n1 c1,Zc A2 n2 c2,Zc A3 n3 c3,Zc A4 n4 c4]) 0 ?_;refine Yj ?_;refine zW ?_;refine Yj ?_;refine zW ?_;refine pU ?_;refine Yf (Yh [] [_,_,_,_] Zz (YcF hR.pre hac.pre.w) (fun v6 fz6 H6 hle6 hR6=>⟨⟨hle6,Zx⟩,?_⟩));obtain ⟨rfl,x1,x2,x3,x4,rfl,hN6⟩:=hR6;refine Yf (Yh [] [_,_,_,_] Zz (Yiu (i0.mono hle6) Zi) (fun v7 fz7 H7 hle7 hR7=>⟨⟨hle6.trans hle7,Zx⟩,?_⟩));obtain ⟨rfl,N7,n7,c7,rfl,iN⟩:=hR7;have lN:=iN.len;rw [List.length_map] at lN;have hle47:=hle4.trans (hle6.trans hle7);have hnw:=hac.pre.nw;refine Ch.qk ⟨hle6.trans hle7,Zx⟩ (Xu (YfE _ (Zs _) (hM0.mono hle47) (hW0.mono hle47) (hN6.mono hle7) iN (ia.mono hle47) (by rw [List.length_map];omega) Zi Zi hac.pre.sh) (fun f1=>?_) (fun f1=>?_))
 ·refine Ch.qk ⟨hle6.trans hle7,Zx⟩ (Yni Zz ?_);refine Ch.done ?_;refine zW ?_;refine Ya (Yh [] [_,_,_,_] Zz (values_f (hM0.mono hle47) (hW0.mono hle47) (actionL.mono (hle6.trans hle7) ha0) (ia.mono hle47) Zi hap hac.c hac.many) (fun v8 fz8 H8 hle8 hR8=>?_));obtain ⟨vl,e8,rfl,hbad,hgood⟩:=hR8;refine Seq.perm (H':=[_,_,_,_]++H8) Zq ?_;by_cases hc8:e8=0
  ·subst hc8;obtain ⟨hv8,n8,hG8⟩:=hgood rfl;rw [show errV 0=.nilIface from rfl];obtain ⟨A8,c8,rfl,_,_⟩:=hG8.form;refine zW ?_;exact retN T (vs:=[.agg #[Zy a.name,Zc A0 n0 c0,Zk a.cost,Zy a.pre.op,Zy a.pre.name,Zc A1 n1 c1,Zc A2 n2 c2,Zc A3 n3 c3,Zc A4 n4 c4,Zc A5 n5 c5],Zc A8 n8 c8,.nilIface]) ⟨⟨_,_,1,_,_,_,rfl,rfl,rfl,rfl,rfl,rfl⟩,rfl,rfl,trivial⟩ Zb ⟨_,_,0,a,rfl,actionL.mono ((hle6.trans hle7).trans hle8) ha0,fun h=>absurd rfl h,fun _=>⟨⟨hto,f1,hv8⟩,n8,hG8⟩⟩
  obtain ⟨hv8,rfl⟩:=hbad hc8;rw [Yq hc8];refine zW ?_;exact YaW T (vs:=[.agg #[Zy a.name,Zc A0 n0 c0,Zk a.cost,Zy a.pre.op,Zy a.pre.name,Zc A1 n1 c1,Zc A2 n2 c2,Zc A3 n3 c3,Zc A4 n4 c4,Zc A5 n5 c5],vl,.iface 86 (Zk e8)]) ⟨⟨_,_,1,_,_,_,rfl,rfl,rfl,rfl,rfl,rfl⟩,rfl,rfl,trivial⟩ (fun fz3 hle3 hf3=>⟨_,_,e8,a,by rw [Yq hc8],actionL.mono (((hle6.trans hle7).trans hle8).trans hle3) ha0,fun _=>⟨(fun b hb=>by
   have e:=hb.typ.one hto;subst e;exact hv8 hb.val),rfl⟩,fun h=>absurd h hc8⟩)
 refine Ch.qk ⟨hle6.trans hle7,Zx⟩ (Yni Zz ?_);refine Ch.done ?_;refine zW ?_;exact YaW T (vs:=[.agg #[Zy a.name,Zc A0 n0 c0,Zk a.cost,Zy a.pre.op,Zy a.pre.name,Zc A1 n1 c1,Zc A2 n2 c2,Zc A3 n3 c3,Zc A4 n4 c4,Zc A5 n5 c5],Zn,.iface 86 (Zk 12)]) ⟨⟨_,_,1,_,_,_,rfl,rfl,rfl,rfl,rfl,rfl⟩,rfl,rfl,trivial⟩ (fun fz3 hle3 hf3=>⟨_,_,12,a,rfl,actionL.mono ((hle6.trans hle7).trans hle3) ha0,fun _=>⟨(fun b hb=>by
  have e:=hb.typ.one hto;subst e;have:=hb.pre;unfold nmA at this;rw [f1] at this;cases this),rfl⟩,Za⟩)
end Go.Proofs.YtacfpcbladaohaaGreatDoor
