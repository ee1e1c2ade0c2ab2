/- The texts QJ, QK, QM, UH, UI, laid together. Conditions: none. -/
import Derived.Test.YtbdpaoikccabhaaGreatDoorEAK
set_option linter.all false
set_option maxHeartbeats 16000000
noncomputable section
set_option maxRecDepth 20000
namespace Go.Proofs.YtbdpaoikccabhaaGreatDoor
open Go.Lx Go.RowKit
attribute [local instance 10] Classical.propDecidable
open Go.Proofs.Tryz (prog)
variable {α:Type} {f:Formula} {fz:FZ} {v va ve vk vp vb:Value} {A B:Option Addr} {c k n:Nat} {E:EnvM} {K:Kn} {a:Atom} {cs:List Value} {W:Wd} {M:Mn} {b:Bool} {L:Lay α}
theorem FormulaV.open (h:FormulaV fz f v):∃ A n c B m d C o e D q g,v=.agg #[Zy f.op,Zy f.name,Zc A n c,Zc B m d,Zc C o e,Zc D q g]/\FormulaR fz f (Zc A n c) (Zc B m d) (Zc C o e) (Zc D q g):=by
 obtain ⟨va,vp,ve,vk,rfl,hR⟩:=h;obtain ⟨⟨A,n,c,rfl,_⟩,⟨B,m,d,rfl,_⟩,⟨C,o,e,rfl,_⟩,⟨D,q,g,rfl,_⟩⟩:=id hR.sls;exact ⟨A,n,c,B,m,d,C,o,e,D,q,g,rfl,hR⟩
section
variable {P:Program} {cx:Cx} {r:Operand->Option Value} {fz:FZ} {H:HP} {V:Value->Prop} {dst:Option Nat} {ty:TypeId} {pos:String} {af:Array Edge} {gd:Option (Nat × Bool)}
theorem Ylm {t e:TypeId} {x i:Operand} {X Y:Ty} {A:Option Addr} {n c j:Nat}
 (h:V (.slice A j c)) (T:Tab P:=by exact T) (hT:T.inf t=some X:=by exact rfl) (hd:X.desc=.slice e:=by exact rfl) (hY:T.inf e=some Y:=by exact rfl) (hx:r x=some (.slice A n c):=by exact rfl) (hi:r i=some (Zk j):=by exact rfl) (hj:j<=c:=by omega):DoesQ P cx ⟨dst,.slice t x none (some i) none,ty,pos,af,gd⟩ r fz H V:=
  YL (fun ρ w hr=>by
   have hu:=run_underlying (und_plain T hT hd rfl) w;have hs:=Lx.run_sizeOf T hY w;simp [execOp,hr _ _ hx,hr _ _ hi,Instr.sliceAt,Instr.slice,Instr.sliceBounds,Instr.sliceBound,asIntOf,hu,hs,hj];intro _;cases A<;>simp [Addr.add]) h
variable {o:Oper}
theorem Does.freeze {H1 H2:HP} {K:Value->FZ->HP->Prop} (hp:H.Perm (H1++H2)) (h:∀ fz',Le fz fz'->(∀ p∈H2,fz' p.1=some p.2)->Does P cx o r fz' H1 K):Does P cx o r fz H K:=
 Does.of fun ρ w hr hi=>by
  obtain ⟨fz',a,b,c⟩:=We H2 fz H1 (hi.perm hp.symm);exact (h fz' a b).run ρ w hr c
end
theorem Yqc {xs:List α} (h:Sl L fz A n c xs) (hk:k<=n):Sl L fz A k c (xs.take k):=by
 have:=h.len;have:=h.cap;have:=h.short;refine ⟨by simp;omega,by omega,h.max,by omega,?_⟩;rcases h.elem with h0 | ⟨ad,h1,h2⟩
 ·exact .inl Zi
 refine .inr ⟨ad,h1,fun i d hd=>h2 i d ?_⟩;rw [List.getElem?_take] at hd;split at hd
 ·exact hd
 cases hd
theorem mW_take (l:List Formula) (k:Nat):((l.take k).map mW).sum<=(l.map mW).sum:=by
 have h:(l.map mW).sum=((l.take k).map mW).sum+((l.drop k).map mW).sum:=by rw [<- List.sum_append,<- List.map_append,List.take_append_drop]
 omega
def notF (k:Formula):Formula:=.mk kNot ⟨#[]⟩ [] [] [] [k]
def orF (l:List Formula):Formula:=.mk kOr ⟨#[]⟩ [] [] [] l
theorem YhR:∀ (s:Nat) {fz:FZ} {f:Formula} {va vp ve vk:Value} {sg:Bool},mW f<=s->FormulaR fz f va vp ve vk->NSh f->mW f<=1000000000->
 GFn prog 106 [.agg #[Zy f.op,Zy f.name,va,vp,ve,vk],Zo sg] fz [] (fun v fz' H'=>H'=[]/\FormulaV fz' (normM sg f) v)
 | 0,_,f,_,_,_,_,_,hse,_,_,_=>by have:=Ymy f;omega
 | s+1,fz,f,va,vp,ve,vk,sg,hse,hR,hS,hB=>by
  have hR0:=hR;obtain ⟨⟨B1,m1,d1,rfl,ia⟩,⟨B2,m2,d2,rfl,ip⟩,⟨B3,m3,d3,rfl,ie⟩,⟨B4,m4,d4,rfl,ik⟩⟩:=hR.sls;have l2:=ip.len;have l3:=ie.len;have l4:=ik.len;have hwe:=Ybu f;have hm:=YnA f;have hkl:=XR Ymy f.kids;have hk3:∀ k∈f.kids,mW k+3<=mW f:=fun k hk=>by
   have:=Xg (w:=mW) hk;rw [hm];split<;>omega
  have hkd:f.kids≠ []->∃ k,f.kids[0]?=some k:=fun h=>by
   cases hk:f.kids with
   | nil=>exact absurd hk h
   | cons k r=>exact ⟨k,rfl⟩
  refine zF Tryz.func106 Tryz.ntmps106 (fun w0=>?_);refine YN ?_;refine zWX ?_;intros;rename_i g2 g4;refine YN ?_;refine zWX ?_;refine YN (Xe (fun σ fz' H'=>∃ op':Bs,σ=[(5,Zy op'),(4,Zp g4),(2,Zp g2),(1,Zo sg)]/\fz=fz'/\H'=[(g4,Zu #[Ze,Ze,Zn,Zn,Zn,Zn] 35),(g2,Zu #[Zy f.op,Zy f.name,Zc B1 m1 d1,Zc B2 m2 d2,Zc B3 m3 d3,Zc B4 m4 d4] 35)]/\normM sg f=joinF op' (f.kids.map (normM sg))/\op'.size<=10) ?_ ?_)
  ·by_cases w1:f.op=kNot
   ·obtain ⟨x,hx⟩:=hkd (hS.head (.inl w1));have hxm:=Zm hx;have hx3:=hk3 x hxm;have hl0:0<m4:=by rw [<- l4];exact (Zg hx).1
    have eN:normM sg f=normM (!sg) x:=by rw [WG,if_pos w1,YgP hx]
    refine wI ik hx (fun p1 hp1=>?_);refine zL hp1 ?_;intro cs hcs;obtain ⟨wa,wp,we,wk,rfl,hRx⟩:=Yu hcs;obtain ⟨⟨E1,r1,q1,rfl,_⟩,⟨E2,r2,q2,rfl,_⟩,⟨E3,r3,q3,rfl,_⟩,⟨E4,r4,q4,rfl,_⟩⟩:=hRx.sls;refine zW ?_;refine Yd (Yk [] [_,_] Zz (YhR s Zi hRx (hS.kid hxm) Zi) (fun v5 fz5 H5 hle5 hR5=>?_));obtain ⟨rfl,hV5⟩:=hR5;obtain ⟨C1,s1,t1,C2,s2,t2,C3,s3,t3,C4,s4,t4,rfl,hF5⟩:=hV5.open;refine zW ?_;refine YW (i:=0) rfl (fun fz3 hle3 hf3=>⟨rfl,?_⟩);rw [eN];exact ⟨_,_,_,_,rfl,hF5.mono hle3⟩
   by_cases w2:f.op=kImply
   ·have h2:=hS.two w2;obtain ⟨x0,hx0⟩:=Yf (l:=f.kids) (k:=0) Zi;obtain ⟨x1,hx1⟩:=Yf (l:=f.kids) (k:=1) Zi;have hm0:=Zm hx0;have hm1:=Zm hx1;have hl1:1<m4:=by omega
    have hcp:=ik.cap;have hsum:mW x0+mW x1<=(f.kids.map mW).sum:=by
     cases hk:f.kids with
     | nil=>rw [hk] at hx0;simp at hx0
     | cons a r=>
      cases hr:r with
      | nil=>rw [hk,hr] at hx1;simp at hx1
      | cons b r'=>
       rw [hk] at hx0;rw [hk,hr] at hx1;simp at hx0 hx1;subst hx0 hx1;simp only [List.map_cons,List.sum_cons];omega
    rw [if_pos w2] at hm;have mN:mW (notF x0)=3+mW x0:=by
     rw [YnA,if_neg (by show ¬kNot=kImply;decide+kernel)];show 3+(mW x0+0)=_;omega
    have mO:mW (orF [notF x0,x1])=6+mW x0+mW x1:=by
     rw [YnA,if_neg (by show ¬kOr=kImply;decide+kernel)];show 3+(mW (notF x0)+(mW x1+0))=_;omega
    have hSN:NSh (notF x0):=.mk (fun _=>by show [x0]≠ [];simp) (fun h=>absurd h (by show ¬kNot=kImply;decide+kernel)) (fun h=>absurd h (by show ¬(kNot=kLt\/kNot=kLe\/kNot=kEq);decide+kernel)) (fun _ h=>absurd rfl h) (by intro k hk;rw [List.mem_singleton.1 hk];exact hS.kid hm0);have hSO:NSh (orF [notF x0,x1]):=.mk (fun h=>absurd h (by show ¬(kOr=kNot\/kOr=kForall\/kOr=kExists);decide+kernel)) (fun h=>absurd h (by show ¬kOr=kImply;decide+kernel)) (fun h=>absurd h (by show ¬(kOr=kLt\/kOr=kLe\/kOr=kEq);decide+kernel)) (fun h=>absurd rfl h) (by
     intro k hk;rcases List.mem_cons.1 hk with rfl | hk
     ·exact hSN
     rw [List.mem_singleton.1 hk];exact hS.kid hm1)
    have eN:normM sg f=normM sg (orF [notF x0,x1]):=by
     have a1:¬kOr=kNot:=by decide+kernel
     have a2:¬kOr=kImply:=by decide+kernel
     have a3:¬kOr=kAnd:=by decide+kernel
     have a4:normM sg (notF x0)=normM (!sg) x0:=by rw [WG,if_pos (show (notF x0).op=kNot from rfl)];rfl
     have b1:normM sg (orF [notF x0,x1])=joinF (if sg=true then kOr else kAnd) ((orF [notF x0,x1]).kids.map (normM sg)):=by
      rw [WG,if_neg (show ¬(orF _).op=kNot from a1),if_neg (show ¬(orF _).op=kImply from a2),if_neg (show ¬(orF _).op=kAnd from a3),if_pos (show (orF _).op=kOr from rfl)]
     rw [b1,WG,if_neg w1,if_pos w2,YgP hx0,secN_map hx1];show _=joinF _ [normM sg (notF x0),normM sg x1];rw [a4]
    refine zWN ?_;refine Y6 [_,_] ?_;refine wG ?_;refine Ylm (j:=1) ?_;refine wI ik hx1 (fun p1 hp1=>?_);refine zL hp1 ?_;intro cs hcs;obtain ⟨wa,wp,we,wk,rfl,hRx⟩:=Yu hcs;obtain ⟨⟨E1,r1,q1,rfl,_⟩,⟨E2,r2,q2,rfl,_⟩,⟨E3,r3,q3,rfl,_⟩,⟨E4,r4,q4,rfl,_⟩⟩:=hRx.sls;refine Yl (Yl ?_);refine zW ?_;refine pU ?_;refine Yg (Yc (cs:=[Zy kNot,Ze,Zn,Zn,Zn,Zc B4 1 d4,Zy x1.op,Zy x1.name,Zc E1 r1 q1,Zc E2 r2 q2,Zc E3 r3 q3,Zc E4 r4 q4]) (fun gb=>⟨⟨Zd,Zx⟩,?_⟩));refine Ch.qk ⟨Zd,Zx⟩ (XH ?_);refine Yg (Does.freeze (H1:=[_,_]) (H2:=[_]) (Zq (l₁:=[_])) (fun fz4 hle4 hf4=>?_));have hgb:Grow formulaL 35 fz (Zv gb 2 2) 2 [(gb,Zu #[Zy kNot,Ze,Zn,Zn,Zn,Zc B4 1 d4,Zy x1.op,Zy x1.name,Zc E1 r1 q1,Zc E2 r2 q2,Zc E3 r3 q3,Zc E4 r4 q4] 35)] [notF x0,x1]:=
     Grow.block (ys:=[(notF x0,_),(x1,_)]) rfl rfl (by
      intro p hp;simp at hp;have e1:f.kids.take 1=[x0]:=by rw [List.take_add_one,hx0];rfl
      have hs1:=Yqc ik (k:=1) Zi;rw [e1] at hs1;rcases hp with rfl | rfl
      ·exact YV (x:=notF x0) ⟨(by show kNot.size<=_;decide+kernel),Z0 _,IsSl.nil,IsSl.nil,IsSl.nil,hs1.is⟩
      exact YV hRx) rfl
    obtain ⟨B6,d6,e6,hS6⟩:=hgb.sl hle4 hf4 Zh;injection e6 with e61 e62 e63
    subst e61;subst e63;have hRO:FormulaR fz4 (orF [notF x0,x1]) Zn Zn Zn (Zv gb 2 2):=⟨(by show kOr.size<=_;decide+kernel),Z0 _,IsSl.nil,IsSl.nil,IsSl.nil,hS6.is⟩;refine Yk [] [_,_] Zz (YhR s Zi hRO hSO Zi) (fun v5 fz5 H5 hle5 hR5=>⟨⟨hle4.trans hle5,Zx⟩,?_⟩);obtain ⟨rfl,hV5⟩:=hR5;obtain ⟨C1,s1,t1,C2,s2,t2,C3,s3,t3,C4,s4,t4,rfl,hF5⟩:=hV5.open;refine Ch.hard0 (Yy ?_);refine Ch.done ?_;refine zW ?_;refine YW (i:=0) rfl (fun fz3 hle3 hf3=>⟨rfl,?_⟩);rw [eN];exact ⟨_,_,_,_,rfl,hF5.mono hle3⟩
   by_cases w3:f.op=kAnd
   ·refine wc (Yh3 (a:=kAnd) (b:=kOr) (s:=sg)) ?_;exact wN (h:=by exact ⟨_,rfl,rfl,rfl,by rw [WG,if_neg w1,if_neg w2,if_pos w3],by split<;>decide+kernel⟩)
   by_cases w4:f.op=kOr
   ·refine wc (Yh3 (a:=kOr) (b:=kAnd) (s:=sg)) ?_;exact wN (h:=by exact ⟨_,rfl,rfl,rfl,by rw [WG,if_neg w1,if_neg w2,if_neg w3,if_pos w4],by split<;>decide+kernel⟩)
   have hfw:=hS.w w4 w1;by_cases hq:QuF f.op
   ·obtain ⟨x,hx⟩:=hkd (hS.head (.inr hq));have hxm:=Zm hx;have hx3:=hk3 x hxm;have hl0:0<m4:=by rw [<- l4];exact (Zg hx).1
    have eN:normM sg f=.mk (if sg=true then f.op else if f.op=kForall then kExists else kForall) ⟨#[]⟩ [] f.params [] [normM sg x]:=by rw [WG,if_neg w1,if_neg w2,if_neg w3,if_neg w4,if_pos hq,YgP hx]
    rcases hq with w5 | w5
    ·rw [if_pos w5] at eN;refine wc (Yh3 (a:=kExists) (b:=kForall) (s:=true)) ?_;refine wc (Yh3 (a:=f.op) (b:=kExists) (s:=sg)) ?_;refine zWN ?_;refine Y6 [_,_] ?_;refine zW ?_;refine Yl ?_;refine wI ik hx (fun p1 hp1=>?_);refine zL hp1 ?_;intro cs hcs;obtain ⟨wa,wp,we,wk,rfl,hRx⟩:=Yu hcs;obtain ⟨⟨E1,r1,q1,rfl,_⟩,⟨E2,r2,q2,rfl,_⟩,⟨E3,r3,q3,rfl,_⟩,⟨E4,r4,q4,rfl,_⟩⟩:=hRx.sls;refine zW ?_;refine pU ?_;refine Yg (Yk [] [_,_] Zz (Ybg ip Zi) (fun v6 fz6 H6 hle6 hR6=>⟨⟨hle6,Zx⟩,?_⟩));obtain ⟨A6,c6,rfl,_,_⟩:=hR6.form;refine Yg (Yk [] (H6++ [_,_]) Zz (YhR s Zi (hRx.mono hle6) (hS.kid hxm) Zi) (fun v5 fz5 H5 hle5 hR5=>⟨⟨hle6.trans hle5,Zx⟩,?_⟩));obtain ⟨rfl,hV5⟩:=hR5;obtain ⟨C1,s1,t1,C2,s2,t2,C3,s3,t3,C4,s4,t4,rfl,hF5⟩:=hV5.open;refine Yg (Yc (cs:=[Zy (normM sg x).op,Zy (normM sg x).name,Zc C1 s1 t1,Zc C2 s2 t2,Zc C3 s3 t3,Zc C4 s4 t4]) (fun gb=>⟨⟨hle6.trans hle5,Zx⟩,?_⟩));refine Ch.qk ⟨hle6.trans hle5,Zx⟩ (XH ?_);refine Ch.hard0 (Does.perm (H':=_::_::_::H6) (Zq (l₁:=[_,_]) (l₂:=_::H6)) (Yy ?_));refine Ch.done ?_;refine zW ?_;refine YW (i:=0) rfl (fun fz3 hle3 hf3=>⟨rfl,?_⟩);have hgb:Grow formulaL 35 fz5 (Zv gb 1 1) 1 [(gb,Zu #[Zy (normM sg x).op,Zy (normM sg x).name,Zc C1 s1 t1,Zc C2 s2 t2,Zc C3 s3 t3,Zc C4 s4 t4] 35)] [normM sg x]:=
      Grow.block (ys:=[(normM sg x,_)]) rfl rfl (by intro p hp;simp at hp;subst hp;exact YV hF5) rfl
     obtain ⟨B7,d7,e7,hS7⟩:=hgb.sl hle3 (fun p hp=>hf3 p (by simp at hp;subst hp;simp)) Zh;obtain ⟨B8,d8,e8,hS8⟩:=hR6.sl (hle5.trans hle3) (fun p hp=>hf3 p (by simp [hp])) Zi;rw [eN];refine ⟨_,_,_,_,rfl,⟨?_,Z0 _,IsSl.nil,⟨B8,_,d8,e8,hS8⟩,IsSl.nil,⟨B7,_,d7,e7,hS7⟩⟩⟩;show Short (if sg=true then f.op else kExists);split
     ·exact hR.op
     show ByteArray.size _<=_;decide+kernel
    have w6:¬f.op=kForall:=by rw [w5];decide+kernel
    rw [if_neg w6] at eN;refine wc (Yh3 (a:=kExists) (b:=kForall) (s:=false)) ?_;refine wc (Yh3 (a:=f.op) (b:=kForall) (s:=sg)) ?_;refine zWN ?_;refine Y6 [_,_] ?_;refine zW ?_;refine Yl ?_;refine wI ik hx (fun p1 hp1=>?_);refine zL hp1 ?_;intro cs hcs;obtain ⟨wa,wp,we,wk,rfl,hRx⟩:=Yu hcs;obtain ⟨⟨E1,r1,q1,rfl,_⟩,⟨E2,r2,q2,rfl,_⟩,⟨E3,r3,q3,rfl,_⟩,⟨E4,r4,q4,rfl,_⟩⟩:=hRx.sls;refine zW ?_;refine pU ?_;refine Yg (Yk [] [_,_] Zz (Ybg ip Zi) (fun v6 fz6 H6 hle6 hR6=>⟨⟨hle6,Zx⟩,?_⟩));obtain ⟨A6,c6,rfl,_,_⟩:=hR6.form;refine Yg (Yk [] (H6++ [_,_]) Zz (YhR s Zi (hRx.mono hle6) (hS.kid hxm) Zi) (fun v5 fz5 H5 hle5 hR5=>⟨⟨hle6.trans hle5,Zx⟩,?_⟩));obtain ⟨rfl,hV5⟩:=hR5;obtain ⟨C1,s1,t1,C2,s2,t2,C3,s3,t3,C4,s4,t4,rfl,hF5⟩:=hV5.open;refine Yg (Yc (cs:=[Zy (normM sg x).op,Zy (normM sg x).name,Zc C1 s1 t1,Zc C2 s2 t2,Zc C3 s3 t3,Zc C4 s4 t4]) (fun gb=>⟨⟨hle6.trans hle5,Zx⟩,?_⟩));refine Ch.qk ⟨hle6.trans hle5,Zx⟩ (XH ?_);refine Ch.hard0 (Does.perm (H':=_::_::_::H6) (Zq (l₁:=[_,_]) (l₂:=_::H6)) (Yy ?_));refine Ch.done ?_;refine zW ?_;refine YW (i:=0) rfl (fun fz3 hle3 hf3=>⟨rfl,?_⟩);have hgb:Grow formulaL 35 fz5 (Zv gb 1 1) 1 [(gb,Zu #[Zy (normM sg x).op,Zy (normM sg x).name,Zc C1 s1 t1,Zc C2 s2 t2,Zc C3 s3 t3,Zc C4 s4 t4] 35)] [normM sg x]:=
     Grow.block (ys:=[(normM sg x,_)]) rfl rfl (by intro p hp;simp at hp;subst hp;exact YV hF5) rfl
    obtain ⟨B7,d7,e7,hS7⟩:=hgb.sl hle3 (fun p hp=>hf3 p (by simp at hp;subst hp;simp)) Zh;obtain ⟨B8,d8,e8,hS8⟩:=hR6.sl (hle5.trans hle3) (fun p hp=>hf3 p (by simp [hp])) Zi;rw [eN];refine ⟨_,_,_,_,rfl,⟨?_,Z0 _,IsSl.nil,⟨B8,_,d8,e8,hS8⟩,IsSl.nil,⟨B7,_,d7,e7,hS7⟩⟩⟩;show Short (if sg=true then f.op else kForall);split
    ·exact hR.op
    show ByteArray.size _<=_;decide+kernel
   have w5:¬f.op=kForall:=fun h=>hq (.inl h)
   have w6:¬f.op=kExists:=fun h=>hq (.inr h)
   have eN:normM sg f=if f.op=kLt then (if sg=true then cmpF kLt (exprAt f.exprs 0) (exprAt f.exprs 1) else cmpF kLe (exprAt f.exprs 1) (exprAt f.exprs 0))
    else if f.op=kLe then (if sg=true then cmpF kLe (exprAt f.exprs 0) (exprAt f.exprs 1) else cmpF kLt (exprAt f.exprs 1) (exprAt f.exprs 0))
    else if f.op=kEq then (if sg=true then cmpF kEq (exprAt f.exprs 0) (exprAt f.exprs 1) else .mk kOr ⟨#[]⟩ [] [] [] [cmpF kLt (exprAt f.exprs 0) (exprAt f.exprs 1),cmpF kLt (exprAt f.exprs 1) (exprAt f.exprs 0)])
    else if sg=true then f else .mk kNot ⟨#[]⟩ [] [] [] [f]:=by rw [WG,if_neg w1,if_neg w2,if_neg w3,if_neg w4,if_neg hq]
   have hxw:∀ e∈f.exprs,eW e<=1000000000:=fun e he=>by have:=Xg (w:=eW) he;omega
   by_cases hc:f.op=kLt\/f.op=kLe\/f.op=kEq
   ·have h2:=hS.cmp hc;obtain ⟨x0,hx0⟩:=Yf (l:=f.exprs) (k:=0) Zi;obtain ⟨x1,hx1⟩:=Yf (l:=f.exprs) (k:=1) Zi;have hl0:0<m3:=by omega
    have hl1:1<m3:=by omega
    have y0:exprAt f.exprs 0=x0:=by unfold exprAt;rw [hx0];rfl
    have y1:exprAt f.exprs 1=x1:=by unfold exprAt;rw [hx1];rfl
    rw [y0,y1] at eN;by_cases w7:f.op=kLt
    ·rw [if_pos w7] at eN;cases sg with
     | true=>
      rw [if_pos rfl] at eN;refine zW ?_;refine zWN ?_;refine Y6 [_,_] ?_;refine wI ie hx0 (fun p0 hp0=>?_);refine zL hp0 ?_;intro cs0 hcs0;obtain ⟨ea0,ek0,rfl,hX0⟩:=YF hcs0;obtain ⟨⟨G0,ga0,gb0,rfl,_⟩,⟨J0,ja0,jb0,rfl,_⟩⟩:=hX0.sls;refine wI ie hx1 (fun p1 hp1=>?_);refine zL hp1 ?_;intro cs1 hcs1;obtain ⟨ea1,ek1,rfl,hX1⟩:=YF hcs1;obtain ⟨⟨G1,ga1,gb1,rfl,_⟩,⟨J1,ja1,jb1,rfl,_⟩⟩:=hX1.sls;refine pU ?_;refine Yg (Yk [] [_,_] Zz (YgD (op:=kLt) (by show ByteArray.size _<=_;decide+kernel) hX0 hX1 (hxw _ (Zm hx0)) (hxw _ (Zm hx1))) (fun v5 fz5 H5 hle5 hR5=>⟨⟨hle5,Zx⟩,?_⟩));obtain ⟨rfl,hV5⟩:=hR5;obtain ⟨C1,s1,t1,C2,s2,t2,C3,s3,t3,C4,s4,t4,rfl,hF5⟩:=hV5.open;refine Ch.hard0 (Yy ?_);refine Ch.done ?_;refine zW ?_;refine YW (i:=0) rfl (fun fz3 hle3 hf3=>⟨rfl,?_⟩);rw [eN];exact ⟨_,_,_,_,rfl,hF5.mono hle3⟩
     | false=>
      rw [if_neg Zh] at eN;refine zW ?_;refine zWN ?_;refine Y6 [_,_] ?_;refine wI ie hx1 (fun p1 hp1=>?_);refine zL hp1 ?_;intro cs1 hcs1;obtain ⟨ea1,ek1,rfl,hX1⟩:=YF hcs1;obtain ⟨⟨G1,ga1,gb1,rfl,_⟩,⟨J1,ja1,jb1,rfl,_⟩⟩:=hX1.sls;refine wI ie hx0 (fun p0 hp0=>?_);refine zL hp0 ?_;intro cs0 hcs0;obtain ⟨ea0,ek0,rfl,hX0⟩:=YF hcs0;obtain ⟨⟨G0,ga0,gb0,rfl,_⟩,⟨J0,ja0,jb0,rfl,_⟩⟩:=hX0.sls;refine pU ?_;refine Yg (Yk [] [_,_] Zz (YgD (op:=kLe) (by show ByteArray.size _<=_;decide+kernel) hX1 hX0 (hxw _ (Zm hx1)) (hxw _ (Zm hx0))) (fun v5 fz5 H5 hle5 hR5=>⟨⟨hle5,Zx⟩,?_⟩));obtain ⟨rfl,hV5⟩:=hR5;obtain ⟨C1,s1,t1,C2,s2,t2,C3,s3,t3,C4,s4,t4,rfl,hF5⟩:=hV5.open;refine Ch.hard0 (Yy ?_);refine Ch.done ?_;refine zW ?_;refine YW (i:=0) rfl (fun fz3 hle3 hf3=>⟨rfl,?_⟩);rw [eN];exact ⟨_,_,_,_,rfl,hF5.mono hle3⟩
    rw [if_neg w7] at eN;by_cases w8:f.op=kLe
    ·rw [if_pos w8] at eN;cases sg with
     | true=>
      rw [if_pos rfl] at eN;refine zW ?_;refine zWN ?_;refine Y6 [_,_] ?_;refine wI ie hx0 (fun p0 hp0=>?_);refine zL hp0 ?_;intro cs0 hcs0;obtain ⟨ea0,ek0,rfl,hX0⟩:=YF hcs0;obtain ⟨⟨G0,ga0,gb0,rfl,_⟩,⟨J0,ja0,jb0,rfl,_⟩⟩:=hX0.sls;refine wI ie hx1 (fun p1 hp1=>?_);refine zL hp1 ?_;intro cs1 hcs1;obtain ⟨ea1,ek1,rfl,hX1⟩:=YF hcs1;obtain ⟨⟨G1,ga1,gb1,rfl,_⟩,⟨J1,ja1,jb1,rfl,_⟩⟩:=hX1.sls;refine pU ?_;refine Yg (Yk [] [_,_] Zz (YgD (op:=kLe) (by show ByteArray.size _<=_;decide+kernel) hX0 hX1 (hxw _ (Zm hx0)) (hxw _ (Zm hx1))) (fun v5 fz5 H5 hle5 hR5=>⟨⟨hle5,Zx⟩,?_⟩));obtain ⟨rfl,hV5⟩:=hR5;obtain ⟨C1,s1,t1,C2,s2,t2,C3,s3,t3,C4,s4,t4,rfl,hF5⟩:=hV5.open;refine Ch.hard0 (Yy ?_);refine Ch.done ?_;refine zW ?_;refine YW (i:=0) rfl (fun fz3 hle3 hf3=>⟨rfl,?_⟩);rw [eN];exact ⟨_,_,_,_,rfl,hF5.mono hle3⟩
     | false=>
      rw [if_neg Zh] at eN;refine zW ?_;refine zWN ?_;refine Y6 [_,_] ?_;refine wI ie hx1 (fun p1 hp1=>?_);refine zL hp1 ?_;intro cs1 hcs1;obtain ⟨ea1,ek1,rfl,hX1⟩:=YF hcs1;obtain ⟨⟨G1,ga1,gb1,rfl,_⟩,⟨J1,ja1,jb1,rfl,_⟩⟩:=hX1.sls;refine wI ie hx0 (fun p0 hp0=>?_);refine zL hp0 ?_;intro cs0 hcs0;obtain ⟨ea0,ek0,rfl,hX0⟩:=YF hcs0;obtain ⟨⟨G0,ga0,gb0,rfl,_⟩,⟨J0,ja0,jb0,rfl,_⟩⟩:=hX0.sls;refine pU ?_;refine Yg (Yk [] [_,_] Zz (YgD (op:=kLt) (by show ByteArray.size _<=_;decide+kernel) hX1 hX0 (hxw _ (Zm hx1)) (hxw _ (Zm hx0))) (fun v5 fz5 H5 hle5 hR5=>⟨⟨hle5,Zx⟩,?_⟩));obtain ⟨rfl,hV5⟩:=hR5;obtain ⟨C1,s1,t1,C2,s2,t2,C3,s3,t3,C4,s4,t4,rfl,hF5⟩:=hV5.open;refine Ch.hard0 (Yy ?_);refine Ch.done ?_;refine zW ?_;refine YW (i:=0) rfl (fun fz3 hle3 hf3=>⟨rfl,?_⟩);rw [eN];exact ⟨_,_,_,_,rfl,hF5.mono hle3⟩
    have w9:f.op=kEq:=(hc.resolve_left w7).resolve_left w8;rw [if_neg w8,if_pos w9] at eN;cases sg with
    | true=>
     rw [if_pos rfl] at eN;refine zW ?_;refine zWN ?_;refine Y6 [_,_] ?_;refine wI ie hx0 (fun p0 hp0=>?_);refine zL hp0 ?_;intro cs0 hcs0;obtain ⟨ea0,ek0,rfl,hX0⟩:=YF hcs0;obtain ⟨⟨G0,ga0,gb0,rfl,_⟩,⟨J0,ja0,jb0,rfl,_⟩⟩:=hX0.sls;refine wI ie hx1 (fun p1 hp1=>?_);refine zL hp1 ?_;intro cs1 hcs1;obtain ⟨ea1,ek1,rfl,hX1⟩:=YF hcs1;obtain ⟨⟨G1,ga1,gb1,rfl,_⟩,⟨J1,ja1,jb1,rfl,_⟩⟩:=hX1.sls;refine pU ?_;refine Yg (Yk [] [_,_] Zz (YgD (op:=kEq) (by show ByteArray.size _<=_;decide+kernel) hX0 hX1 (hxw _ (Zm hx0)) (hxw _ (Zm hx1))) (fun v5 fz5 H5 hle5 hR5=>⟨⟨hle5,Zx⟩,?_⟩));obtain ⟨rfl,hV5⟩:=hR5;obtain ⟨C1,s1,t1,C2,s2,t2,C3,s3,t3,C4,s4,t4,rfl,hF5⟩:=hV5.open;refine Ch.hard0 (Yy ?_);refine Ch.done ?_;refine zW ?_;refine YW (i:=0) rfl (fun fz3 hle3 hf3=>⟨rfl,?_⟩);rw [eN];exact ⟨_,_,_,_,rfl,hF5.mono hle3⟩
    | false=>
     refine zW ?_;refine zWN ?_;refine Y6 [_,_] ?_;refine wI ie hx0 (fun p0 hp0=>?_);refine zL hp0 ?_;intro cs0 hcs0;obtain ⟨ea0,ek0,rfl,hX0⟩:=YF hcs0;obtain ⟨⟨G0,ga0,gb0,rfl,_⟩,⟨J0,ja0,jb0,rfl,_⟩⟩:=hX0.sls;refine wI ie hx1 (fun p1 hp1=>?_);refine zL hp1 ?_;intro cs1 hcs1;obtain ⟨ea1,ek1,rfl,hX1⟩:=YF hcs1;obtain ⟨⟨G1,ga1,gb1,rfl,_⟩,⟨J1,ja1,jb1,rfl,_⟩⟩:=hX1.sls;refine Yl ?_;refine wI ie hx1 (fun p1b hp1b=>?_);refine zL hp1b ?_;intro cs1b hcs1b;obtain ⟨ea1b,ek1b,rfl,hX1b⟩:=YF hcs1b;obtain ⟨⟨G1b,ga1b,gb1b,rfl,_⟩,⟨J1b,ja1b,jb1b,rfl,_⟩⟩:=hX1b.sls;refine wI ie hx0 (fun p0b hp0b=>?_);refine zL hp0b ?_;intro cs0b hcs0b;obtain ⟨ea0b,ek0b,rfl,hX0b⟩:=YF hcs0b;obtain ⟨⟨G0b,ga0b,gb0b,rfl,_⟩,⟨J0b,ja0b,jb0b,rfl,_⟩⟩:=hX0b.sls;refine pU ?_;refine Yg (Yk [] [_,_] Zz (YgD (op:=kLt) (by show ByteArray.size _<=_;decide+kernel) hX0 hX1 (hxw _ (Zm hx0)) (hxw _ (Zm hx1))) (fun v5 fz5 H5 hle5 hR5=>⟨⟨hle5,Zx⟩,?_⟩));obtain ⟨rfl,hV5⟩:=hR5;obtain ⟨C1,s1,t1,C2,s2,t2,C3,s3,t3,C4,s4,t4,rfl,hF5⟩:=hV5.open;refine Yg (Yk [] [_,_] Zz (YgD (op:=kLt) (by show ByteArray.size _<=_;decide+kernel) (hX1b.mono hle5) (hX0b.mono hle5) (hxw _ (Zm hx1)) (hxw _ (Zm hx0))) (fun v6 fz6 H6 hle6 hR6=>⟨⟨hle5.trans hle6,Zx⟩,?_⟩));obtain ⟨rfl,hV6⟩:=hR6;obtain ⟨D1,u1,v1,D2,u2,v2,D3,u3,v3,D4,u4,v4,rfl,hF6⟩:=hV6.open;refine Yg (Yc (cs:=[Zy (cmpF kLt x0 x1).op,Zy (cmpF kLt x0 x1).name,Zc C1 s1 t1,Zc C2 s2 t2,Zc C3 s3 t3,Zc C4 s4 t4,Zy (cmpF kLt x1 x0).op,Zy (cmpF kLt x1 x0).name,Zc D1 u1 v1,Zc D2 u2 v2,Zc D3 u3 v3,Zc D4 u4 v4]) (fun gb=>⟨⟨hle5.trans hle6,Zx⟩,?_⟩));refine Ch.qk ⟨hle5.trans hle6,Zx⟩ (XH ?_);refine Ch.hard0 (YX ?_);refine Ch.done ?_;refine zW ?_;refine YW (i:=1) rfl (fun fz3 hle3 hf3=>⟨rfl,?_⟩);have hgb:Grow formulaL 35 fz6 (Zv gb 2 2) 2 [(gb,Zu #[Zy (cmpF kLt x0 x1).op,Zy (cmpF kLt x0 x1).name,Zc C1 s1 t1,Zc C2 s2 t2,Zc C3 s3 t3,Zc C4 s4 t4,Zy (cmpF kLt x1 x0).op,Zy (cmpF kLt x1 x0).name,Zc D1 u1 v1,Zc D2 u2 v2,Zc D3 u3 v3,Zc D4 u4 v4] 35)] [cmpF kLt x0 x1,cmpF kLt x1 x0]:=
      Grow.block (ys:=[(cmpF kLt x0 x1,_),(cmpF kLt x1 x0,_)]) rfl rfl (by intro p hp;simp at hp;rcases hp with rfl | rfl;exact YV (hF5.mono hle6);exact YV hF6) rfl
     obtain ⟨B7,d7,e7,hS7⟩:=hgb.sl hle3 (fun p hp=>hf3 p (by simp at hp;subst hp;simp)) Zh;rw [eN,if_neg Zh];exact ⟨_,_,_,_,rfl,⟨(by show kOr.size<=_;decide+kernel),Z0 _,IsSl.nil,IsSl.nil,IsSl.nil,⟨B7,_,d7,e7,hS7⟩⟩⟩
   have w7:¬f.op=kLt:=fun h=>hc (.inl h)
   have w8:¬f.op=kLe:=fun h=>hc (.inr (.inl h))
   have w9:¬f.op=kEq:=fun h=>hc (.inr (.inr h))
   rw [if_neg w7,if_neg w8,if_neg w9] at eN;refine zW ?_;refine Yd (Yk [] [_,_] Zz (bind_f (c:=0) _ (Zs _) hR0 (.inl rfl) (Sl.nil) Zi) (fun v5 fz5 H5 hle5 hR5=>?_));obtain ⟨rfl,hV5⟩:=hR5;obtain ⟨C1,s1,t1,C2,s2,t2,C3,s3,t3,C4,s4,t4,rfl,hF5⟩:=hV5.open;cases sg with
   | true=>
    rw [if_pos rfl] at eN;refine zW ?_;intros;refine YW (i:=1) rfl (fun fz3 hle3 hf3=>⟨rfl,?_⟩);rw [eN];exact ⟨_,_,_,_,rfl,hF5.mono hle3⟩
   | false=>
    rw [if_neg Zh] at eN;refine zW ?_;intros;refine Yd (Yc (cs:=[Zy f.op,Zy f.name,Zc C1 s1 t1,Zc C2 s2 t2,Zc C3 s3 t3,Zc C4 s4 t4]) (fun gb=>?_));refine zW ?_;refine YW (i:=2) rfl (fun fz3 hle3 hf3=>⟨rfl,?_⟩);have hgb:Grow formulaL 35 fz5 (Zv gb 1 1) 1 [(gb,Zu #[Zy f.op,Zy f.name,Zc C1 s1 t1,Zc C2 s2 t2,Zc C3 s3 t3,Zc C4 s4 t4] 35)] [f]:=
     Grow.block (ys:=[(f,_)]) rfl rfl (by intro p hp;simp at hp;subst hp;exact YV hF5) rfl
    obtain ⟨B6,d6,e6,hS6⟩:=hgb.sl hle3 (fun p hp=>hf3 p (by simp at hp;subst hp;simp)) Zh;rw [eN];exact ⟨_,_,_,_,rfl,⟨(by show kNot.size<=_;decide+kernel),Z0 _,IsSl.nil,IsSl.nil,IsSl.nil,⟨B6,_,d6,e6,hS6⟩⟩⟩
  rintro σ fz1 H' ⟨op',rfl,rfl,rfl,hN,hop⟩;refine zW ?_;intros;rename_i g7;refine Yn (fun q σ fz' H'=>∃ (k nn:Nat) (u:Value) (Hs:HP),k<=m4/\q=m4 - k/\σ=[(156,Zk k),(155,Zk m4),(154,Zc B4 m4 d4),(7,Zp g7),(5,Zy op'),(4,Zp g4),(1,Zo sg)]/\Le fz fz'/\
   H'=(g7,Zu #[Zy op',Ze,Zn,Zn,Zn,u] 35)::(g4,Zu #[Ze,Ze,Zn,Zn,Zn,Zn] 35)::Hs/\
   Grow formulaL 35 fz' u nn Hs (joinL op' ((f.kids.take k).map (normM sg)))) ⟨0,0,_,[],Z0 _,rfl,rfl,Zd,rfl,Grow.nil _ _ _⟩ Zw Zb ?_
  rintro q σ fz' H' ⟨k,nn,u,Hs,hk,rfl,rfl,hle,rfl,hG⟩;obtain ⟨Au,cu,rfl,_,_⟩:=hG.form;have hnn:=hG.len;have hnl:nn<=mW f:=by
   have h1:=Yeh (op:=op') (ks:=f.kids.take k) (g:=normM sg) (fun y _=>Ye0 _ sg (Zs _));have h2:=mW_take f.kids k;have h3:(f.kids.map mW).sum<=mW f:=by omega
   omega
  refine wC ?_ ?_<;>intro c1
  ·obtain ⟨x,hx⟩:=Yf (l:=f.kids) (k:=k) Zi;have hxm:=Zm hx;have hx3:=hk3 x hxm;have hnk:=Ye0 _ sg (Zs (SizeOf.sizeOf x));have e5:joinL op' ((f.kids.take (k+1)).map (normM sg))=joinL op' ((f.kids.take k).map (normM sg))++(if (normM sg x).op=op' then (normM sg x).kids else [normM sg x]):=by
    rw [List.take_add_one,hx,Option.toList_some,List.map_append];simp [joinL]
   refine wI (ik.mono hle) hx (fun p1 hp1=>?_);refine zL hp1 ?_;intro cs hcs;obtain ⟨wa,wp,we,wk,rfl,hRx⟩:=Yu hcs;obtain ⟨⟨E1,r1,q1,rfl,_⟩,⟨E2,r2,q2,rfl,_⟩,⟨E3,r3,q3,rfl,_⟩,⟨E4,r4,q4,rfl,_⟩⟩:=hRx.sls;refine zW ?_;intros;refine Yd (Yk [] (_::_::_::Hs) Zz (YhR s Zi hRx (hS.kid hxm) Zi) (fun v5 fz5 H5 hle5 hR5=>?_));obtain ⟨rfl,hV5⟩:=hR5;obtain ⟨C1,s1,t1,C2,s2,t2,C3,s3,t3,C4,s4,t4,rfl,hF5⟩:=hV5.open;obtain ⟨C4',s4',t4',e4,hK5⟩:=hF5.kids;injection e4 with e41 e42 e43
   subst e41;subst e42;subst e43;have lk5:=hK5.len;refine zW ?_;intros;refine zC ?_ ?_<;>intro c2
   ·rw [if_pos c2] at e5;refine zW ?_;refine Yd (XW T (Hr:=[_,_,_,_]) Zz Zz Zz Zz Zz Zz Zz Zz (Zr _) (hG.mono hle5) YfX hK5 (by show _*128<=_;omega) Zi (fun v6 H6 hO6=>?_));obtain ⟨A6,c6,rfl,_,_⟩:=hO6.form;exact wP (h:=by exact ⟨k+1,_,_,H6,by omega,rfl,rfl,hle.trans hle5,rfl,hO6.of e5.symm rfl⟩)
   rw [if_neg c2] at e5;refine zW ?_;refine Yd (Yc (cs:=[Zy (normM sg x).op,Zy (normM sg x).name,Zc C1 s1 t1,Zc C2 s2 t2,Zc C3 s3 t3,Zc C4 s4 t4]) (fun gb=>?_));refine Yd (YG (Hr:=[_,_,_,_,_]) (d:=normM sg x) (Zr _) (hG.mono hle5) YfX (.head _) (YV hF5) (fun v6 H6 hO6=>?_));obtain ⟨A6,c6,rfl,_,_⟩:=hO6.form;exact wP (h:=by exact ⟨k+1,_,_,H6,by omega,rfl,rfl,hle.trans hle5,rfl,hO6.of e5.symm rfl⟩)
  have hk2:k=m4:=by omega
  subst hk2;rw [Zl Zi] at hG;refine zW ?_;refine YW (i:=1) rfl (fun fz3 hle3 hf3=>⟨rfl,?_⟩);obtain ⟨B7,d7,e7,hS7⟩:=hG.sl hle3 (fun p hp=>hf3 p (by simp [hp])) Zi;rw [hN];exact ⟨_,_,_,_,rfl,⟨Nat.le_trans hop Zh,Z0 _,IsSl.nil,IsSl.nil,IsSl.nil,⟨B7,_,d7,e7,hS7⟩⟩⟩
theorem YeN {α:Type} {w n:α->Nat} {k:Nat}:∀ {l:List α},(∀ x∈l,n x<=k*w x)->(l.map n).sum<=k*(l.map w).sum
 | [],_=>by simp
 | a::r,h=>by
  have h1:=h a (by simp);have h2:=YeN (l:=r) (fun x hx=>h x (by simp [hx]));simp only [List.map_cons,List.sum_cons,Nat.mul_add];omega
theorem mW_le:∀ (s:Nat) {f:Formula},SizeOf.sizeOf f<=s->mW f<=7*fW f
 | 0,f,h=>by cases f;simp at h
 | s+1,f,h=>by
  have h1:=YeN (w:=fW) (n:=mW) (k:=7) (l:=f.kids) (fun k hk=>mW_le s (by have:=Formula.kids_lt hk;omega));rw [YnA,Ybu];split<;>omega
theorem Yp4:∀ (s:Nat) {e:Lx.Expr},SizeOf.sizeOf e<=s->eW e<=1000000000->ESm e
 | 0,e,h,_=>by cases e;simp at h
 | s+1,e,h,hw=>by
  rw [YnN] at hw;refine YbO.2 ⟨by unfold ESmN;omega,fun k hk=>Yp4 s (by have:=Lx.Expr.kids_lt hk;omega) (by have:=Xg (w:=eW) hk;omega)⟩
theorem YfA:∀ (s:Nat) {f:Formula},SizeOf.sizeOf f<=s->fW f<=1000000000->FSm f
 | 0,e,h,_=>by cases e;simp at h
 | s+1,f,h,hw=>by
  rw [Ybu] at hw;have hl:=XR YpV f.kids;refine WQ.2 ⟨by unfold FSmN;omega,fun e he=>Yp4 _ (Zs _) (by have:=Xg (w:=eW) he;omega),fun k hk=>YfA s (by have:=Formula.kids_lt hk;omega) (by have:=Xg (w:=fW) hk;omega)⟩
theorem Ylx:kNot≠kAtom/\kNot≠kSame/\¬CmpOp kNot/\kNot≠kAnd/\kNot≠kOr:=by
 refine ⟨by decide+kernel,by decide+kernel,?_,by decide+kernel,by decide+kernel⟩;show ¬(_\/_\/_);decide+kernel
theorem Yo8:∀ (s:Nat) {f:Formula},SizeOf.sizeOf f<=s->FOk f->fW f<=1000000000->NSh f
 | 0,f,h,_,_=>by cases f;simp at h
 | s+1,f,h,h1,hW=>by
  have h3:=WQ.1 h1;obtain ⟨_,⟨k,hk,hr⟩,_⟩:=h3.1;have c1:¬(kNot=kAtom\/kNot=kSame):=by decide+kernel
  have c2:¬CmpOp kNot:=Ylx.2.2.1;have c3:¬(kNot=kAnd\/kNot=kOr):=by decide+kernel
  have i1:¬(kImply=kAtom\/kImply=kSame):=by decide+kernel
  have i2:¬CmpOp kImply:=by show ¬(_\/_\/_);decide+kernel
  have i3:¬(kImply=kAnd\/kImply=kOr):=by decide+kernel
  have i4:¬kImply=kNot:=by decide+kernel
  have q1:∀ op,op=kForall\/op=kExists->¬(op=kAtom\/op=kSame)/\¬CmpOp op/\¬(op=kAnd\/op=kOr)/\¬op=kNot/\¬op=kImply:=by
   intro op ho;rcases ho with rfl | rfl
   ·refine ⟨by decide+kernel,?_,by decide+kernel,by decide+kernel,by decide+kernel⟩;show ¬(_\/_\/_);decide+kernel
   refine ⟨by decide+kernel,?_,by decide+kernel,by decide+kernel,by decide+kernel⟩;show ¬(_\/_\/_);decide+kernel
  refine .mk (fun ho=>?_) (fun ho=>?_) (fun ho=>?_) (fun _ _=>hW) (fun k hk=>Yo8 s (by have:=Formula.kids_lt hk;omega) (h3.2.2 k hk) (by have:=Xg (w:=fW) hk;have:=Ybu f;omega))
  ·rcases ho with ho | ho
   ·rw [WW,ho,if_neg c1,if_neg c2,if_neg c3,if_pos rfl] at hk;cases hk;intro h0;have:=hr.2.2.1;rw [h0] at this;cases this
   obtain ⟨a1,a2,a3,a4,a5⟩:=q1 _ ho;rw [WW,if_neg a1,if_neg a2,if_neg a3,if_neg a4,if_neg a5,if_pos ho] at hk;cases hk;intro h0;have:=hr.2.2.1;rw [h0] at this;cases this
  ·rw [WW,ho,if_neg i1,if_neg i2,if_neg i3,if_neg i4,if_pos rfl] at hk;cases hk;exact Nat.le_of_eq hr.2.2.1.symm
  have hc:CmpOp f.op:=by
   rcases ho with ho | ho | ho
   ·rw [ho];show (_\/_\/_);decide+kernel
   ·rw [ho];show (_\/_\/_);decide+kernel
   rw [ho];show (_\/_\/_);decide+kernel
  have hn:¬(f.op=kAtom\/f.op=kSame):=by
   rcases ho with ho | ho | ho<;>rw [ho]<;>decide+kernel
  rw [WW,if_neg hn,if_pos hc] at hk;cases hk;exact Nat.le_of_eq hr.2.1.symm
def normV (f:Formula):Formula:=if FVal f then normM true f else Yds
theorem YeD (hR:FormulaR fz f va vp ve vk) (hW:fW f<=100000000):
 GFn prog 55 [.agg #[Zy f.op,Zy f.name,va,vp,ve,vk]] fz [] (fun v fz' H'=>H'=[]/\FormulaV fz' (normV f) v):=by
 have hR0:=hR;have hm:=mW_le _ (Zs (SizeOf.sizeOf f));obtain ⟨⟨B1,m1,d1,rfl,ia⟩,⟨B2,m2,d2,rfl,ip⟩,⟨B3,m3,d3,rfl,ie⟩,⟨B4,m4,d4,rfl,ik⟩⟩:=hR.sls;refine zF Tryz.func55 Tryz.ntmps55 (fun w0=>?_);refine zW ?_;intros
 ((refine zG ?_);refine XS (YmL hR0 (YfA _ (Zs _) Zi)) (fun f1=>?_) (fun f1=>?_))
 ·have hv:=Zt f1;refine zW ?_;refine Yd (Yk [] [_,_] Zz (YhR _ (Zs _) hR0 (Yo8 _ (Zs _) hv.1 Zi) Zi) (fun v5 fz5 H5 hle5 hR5=>?_));obtain ⟨rfl,hV5⟩:=hR5;obtain ⟨C1,s1,t1,C2,s2,t2,C3,s3,t3,C4,s4,t4,rfl,hF5⟩:=hV5.open;refine zW ?_;refine YW (i:=0) rfl (fun fz3 hle3 hf3=>⟨rfl,?_⟩);rw [normV,if_pos hv];exact ⟨_,_,_,_,rfl,hF5.mono hle3⟩
 refine zW ?_;refine YW (i:=0) rfl (fun fz3 hle3 hf3=>⟨rfl,?_⟩);rw [normV,if_neg (Zf f1)];exact ⟨_,_,_,_,rfl,⟨Z0 _,Z0 _,IsSl.nil,IsSl.nil,IsSl.nil,IsSl.nil⟩⟩
def andF (l:List Formula):Formula:=.mk kAnd ⟨#[]⟩ [] [] [] l
theorem and_f {l:List Formula} (h:Sl formulaL fz A n c l) (hW:fW (andF l)<=100000000):
 GFn prog 86 [Zc A n c] fz [] (fun v fz' H'=>H'=[]/\FormulaV fz' (normV (andF l)) v):=by
 have hR:FormulaR fz (andF l) Zn Zn Zn (Zc A n c):=⟨(by show kAnd.size<=_;decide+kernel),Z0 _,IsSl.nil,IsSl.nil,IsSl.nil,h.is⟩;refine zF Tryz.func86 Tryz.ntmps86 (fun w0=>?_);refine zW ?_;intros;refine Yd (Yk [] [_] Zz (YeD hR hW) (fun v5 fz5 H5 hle5 hR5=>?_));obtain ⟨rfl,hV5⟩:=hR5;obtain ⟨C1,s1,t1,C2,s2,t2,C3,s3,t3,C4,s4,t4,rfl,hF5⟩:=hV5.open;refine zW ?_;refine YW (i:=0) rfl (fun fz3 hle3 hf3=>⟨rfl,?_⟩);exact ⟨_,_,_,_,rfl,hF5.mono hle3⟩
theorem Ydr:OneC changeL:=by
 intro fz d cs h u hu;obtain ⟨u1,u2,u3,u4,u5,u6,u7,u8,rfl,hR⟩:=Xb h;obtain ⟨A1,n1,c1,rfl,_⟩:=hR.params;obtain ⟨⟨A2,n2,c2,rfl,_⟩,⟨A3,n3,c3,rfl,_⟩,⟨A4,n4,c4,rfl,_⟩,⟨A5,n5,c5,rfl,_⟩⟩:=hR.when_.sls;obtain ⟨A6,n6,c6,rfl,_⟩:=hR.args;obtain ⟨⟨A7,n7,c7,rfl,_⟩,⟨A8,n8,c8,rfl,_⟩⟩:=hR.value.sls;simp at hu;rcases hu with rfl | rfl | rfl | rfl | rfl | rfl | rfl | rfl | rfl | rfl | rfl | rfl | rfl | rfl | rfl<;>rfl
def normC (l:List Change):List Change:=(l.filter fun c=>decide (c.kind=1)).map fun c=>{c with when_:=normV c.when_}
theorem Ynu {l:List Change} {x:Change} (hx:l[k]?=some x):normC (l.take (k+1))=normC (l.take k)++(if x.kind=1 then [{x with when_:=normV x.when_}] else []):=by
 unfold normC;rw [List.take_add_one,hx,Option.toList_some,List.filter_append,List.map_append];by_cases h:x.kind=1
 ·rw [if_pos h];simp [h]
 rw [if_neg h];simp [h]
theorem Ygk {l:List Change} (h:Sl changeL fz A n c l) (hn:n<=1000000000) (hW:∀ x∈l,fW x.when_<=100000000):
 GFn prog 85 [Zc A n c] fz [] (fun v fz' H'=>H'=[]/\IsSl changeL fz' v (normC l)):=by
 have ln:=h.len;refine zF Tryz.func85 Tryz.ntmps85 (fun w0=>?_);refine zW ?_;refine Yn (fun q σ fz' H'=>∃ (k m:Nat) (u:Value) (Hs:HP),k<=n/\q=n - k/\m<=k/\σ=[(8,Zk k),(7,Zk n),(6,Zc A n c),(3,u)]/\Le fz fz'/\H'=Hs/\Grow changeL 71 fz' u m Hs (normC (l.take k))) ⟨0,0,_,[],Z0 _,rfl,Zs _,rfl,Zd,rfl,Grow.nil _ _ _⟩ Zw Zb ?_;rintro q σ fz' H' ⟨k,m,u,Hs,hk,rfl,hmk,rfl,hle,rfl,hG⟩;obtain ⟨Au,cu,rfl,_,_⟩:=hG.form;refine wC ?_ ?_<;>intro c1
 ·obtain ⟨x,hx⟩:=Yf (l:=l) (k:=k) Zi;have e1:=Ynu hx;refine wI (h.mono hle) hx (fun p1 hp1=>?_);refine zL hp1 ?_;intro cs hcs;obtain ⟨u1,u2,u3,u4,u5,u6,u7,u8,rfl,hR⟩:=Xb hcs;obtain ⟨A1,n1,c1',rfl,_⟩:=id hR.params;obtain ⟨⟨A2,n2,c2',rfl,_⟩,⟨A3,n3,c3',rfl,_⟩,⟨A4,n4,c4',rfl,_⟩,⟨A5,n5,c5',rfl,_⟩⟩:=id hR.when_.sls;obtain ⟨A6,n6,c6',rfl,_⟩:=id hR.args;obtain ⟨⟨A7,n7,c7',rfl,_⟩,⟨A8,n8,c8',rfl,_⟩⟩:=id hR.value.sls;refine zW ?_;intros;refine zC ?_ ?_<;>intro c2
  ·rw [if_pos c2] at e1;refine wG ?_;refine Yh (vs:=[Zy x.when_.op,Zy x.when_.name,Zc A2 n2 c2',Zc A3 n3 c3',Zc A4 n4 c4',Zc A5 n5 c5']) 0 ?_;refine Yd (Yk [] (_::H') Zz (YeD hR.when_ (hW x (Zm hx))) (fun v5 fz5 H5 hle5 hR5=>?_));obtain ⟨rfl,hV5⟩:=hR5;obtain ⟨C1,s1,t1,C2,s2,t2,C3,s3,t3,C4,s4,t4,rfl,hF5⟩:=hV5.open;refine zW ?_;refine Yd (Yc (cs:=[Zk x.kind,Zc A1 n1 c1',Zy (normV x.when_).op,Zy (normV x.when_).name,Zc C1 s1 t1,Zc C2 s2 t2,Zc C3 s3 t3,Zc C4 s4 t4,Zy x.name,Zc A6 n6 c6',Zy x.value.op,Zy x.value.name,Zk x.value.n,Zc A7 n7 c7',Zc A8 n8 c8']) (fun gb=>?_));have hRn:=hR.mono hle5;refine Yd (YG (Hr:=[_,_]) (d:={x with when_:=normV x.when_}) (Zr _) (hG.mono hle5) Ydr (.head _) (YbJ (x:={x with when_:=normV x.when_}) ⟨hRn.kind,hRn.params,hF5,hRn.name,hRn.args,hRn.value⟩) (fun v6 H6 hO6=>?_));obtain ⟨A9,c9,rfl,_,_⟩:=hO6.form;exact wP (h:=by exact ⟨k+1,m+1,_,H6,by omega,rfl,by omega,rfl,hle.trans hle5,rfl,hO6.of e1.symm rfl⟩)
  rw [if_neg c2,List.append_nil] at e1;exact wP (h:=by exact ⟨k+1,m,_,H',by omega,rfl,by omega,rfl,hle,rfl,hG.of e1.symm rfl⟩)
 have hk2:k=n:=by omega
 subst hk2;rw [Zl Zi] at hG;refine zW ?_;refine Yb1 rfl rfl (fun fz3 hle3 hf3=>⟨rfl,?_⟩);obtain ⟨A9,c9,e9,h9⟩:=hG.sl hle3 hf3 Zi;exact ⟨A9,_,c9,e9,h9⟩
def EnvP (E:EnvM):Prop:=∀ x y,E x=some y->PlnS y
def quantV (K:Kn) (al:Bool) (hb:EnvM->Bool):List Param->EnvM->Bool
 | [],E=>hb E
 | p::ps,E=>if al=true then (ofK K p.typ).all fun o=>quantV K al hb ps (setE E p.name o) else (ofK K p.typ).any fun o=>quantV K al hb ps (setE E p.name o)
theorem Ynn {al:Bool} {hb:EnvM->Bool} {p:Param} {ps:List Param} {o:Bs} (ho:o∈ofK K p.typ) (h:quantV K al hb ps (setE E p.name o)≠al):quantV K al hb (p::ps) E=!al:=by
 rw [quantV];cases al with
 | true=>
  rw [if_pos rfl];have:quantV K true hb ps (setE E p.name o)=false:=by simpa using h
  exact List.all_eq_false.2 ⟨o,ho,by rw [this];decide⟩
 | false=>
  rw [if_neg Zh];have:quantV K false hb ps (setE E p.name o)=true:=by simpa using h
  exact List.any_eq_true.2 ⟨o,ho,this⟩
theorem Yno {al:Bool} {hb:EnvM->Bool} {p:Param} {ps:List Param} (h:∀ o∈ofK K p.typ,quantV K al hb ps (setE E p.name o)=al):quantV K al hb (p::ps) E=al:=by
 rw [quantV];cases al with
 | true=>
  rw [if_pos rfl];exact List.all_eq_true.2 h
 | false=>
  rw [if_neg Zh];exact List.any_eq_false.2 (fun o ho=>by rw [h o ho];decide)
theorem EnvP.set (h:EnvP E) {x a:Bs} (ha:PlnS a):EnvP (setE E x a):=by
 intro y z hz;unfold setE at hz;split at hz
 ·injection hz with hz;subst hz;exact ha
 exact h y z hz
theorem Ylq {t o:Bs} (h:o∈ofK K t):∃ p∈K.os,p.name=o:=by
 unfold ofK ofT at h;obtain ⟨p,hp,e⟩:=List.mem_map.1 h;exact ⟨p,(List.mem_filter.1 hp).1,e⟩
theorem Ymm:∀ (ps:List Param) {fz:FZ} {v:Value} {K:Kn} {gs:Nat} {f g:Formula} {rest:List Formula} {va vp ve vk vat:Value} {E:EnvM} {hb:EnvM->Bool} {A:Option Addr} {n c:Nat},
 KnR fz v K->(∀ o∈K.os,PlnS o.name)->FormulaR fz f va vp ve vk->f.kids=g::rest->Sl paramL fz A n c ps->n<=2000000->EnvR fz vat E->EnvP E->
 (∀ {fz':FZ} {E':EnvM} {vat' wa wp we wk:Value},Le fz fz'->EnvR fz' vat' E'->EnvP E'->FormulaR fz' g wa wp we wk->QFn prog 91 [v,.map (some gs),.agg #[Zy g.op,Zy g.name,wa,wp,we,wk],vat'] fz' (Zo (hb E')))->
 QFn prog 182 [v,.map (some gs),.agg #[Zy f.op,Zy f.name,va,vp,ve,vk],Zc A n c,vat] fz (Zo (quantV K (decide (f.op=kForall)) hb ps E))
 | ps,fz,v,K,gs,f,g,rest,va,vp,ve,vk,vat,E,hb,A,n,c,hK,hOs,hR,hk,hps,hn,hE,hP,ih=>by
  have hR0:=hR;obtain ⟨⟨B1,m1,d1,rfl,ia⟩,⟨B2,m2,d2,rfl,ip⟩,⟨B3,m3,d3,rfl,ie⟩,⟨B4,m4,d4,rfl,ik⟩⟩:=hR.sls;have l4:=ik.len;have lp:=hps.len;have hg0:f.kids[0]?=some g:=by rw [hk];rfl
  have hm4:0<m4:=by rw [<- l4,hk];simp
  have hK0:=hK;obtain ⟨⟨gk,a0,a1,a2,a3,a4,a5,a6,a7,a8,a9,a10,a11,a12,a13,a14,a15,a16,a17,vf,Ao,no,co,gc,gi,mc,mi,rfl,hg,hF,hO,h5,h6,h7,h8⟩,hw,hmany⟩:=hK;have hE0:=hE;obtain ⟨ge,me,rfl,hge,hne,hee⟩:=hE;refine qF Tryz.func182 Tryz.ntmps182 (fun w0=>?_);refine pX (fun g7=>?_);cases ps with
  | nil=>
   have:n=0:=by rw [<- lp];rfl
   subst this;refine wC ?_ ?_<;>intro c1
   ·refine wI ik hg0 (fun p1 hp1=>?_);refine zL hp1 ?_;intro cs hcs;obtain ⟨wa,wp,we,wk,rfl,hRg⟩:=Yu hcs;obtain ⟨⟨E1,r1,q1,rfl,_⟩,⟨E2,r2,q2,rfl,_⟩,⟨E3,r3,q3,rfl,_⟩,⟨E4,r4,q4,rfl,_⟩⟩:=id hRg.sls;refine wG ?_;refine Yt (ih Zd hE0 hP hRg) ?_;exact wR (h:=rfl)
   exact absurd rfl c1
  | cons p ps=>
   have hn1:n=ps.length+1:=by rw [<- lp];rfl
   subst hn1;have hp0:(p::ps)[0]?=some p:=rfl;refine wC ?_ ?_<;>intro c1
   ·exact absurd c1 Zi
   have hcap:=hps.cap;have hN:fz=fz:=rfl;clear hN;refine zWX ?_;refine YN (Xe (fun σ fz' H'=>σ=[(11,Zo (decide (f.op=kForall))),(7,Zp g7),(4,.map (some ge)),(3,Zc A (ps.length+1) c),(1,.map (some gs)),(0,Zp gk)]/\fz=fz'/\H'=[(g7,Zu #[Zy f.op,Zy f.name,Zc B1 m1 d1,Zc B2 m2 d2,Zc B3 m3 d3,Zc B4 m4 d4] 35)]) ?_ ?_)
   ·by_cases wf:f.op=kForall
    ·rw [decide_eq_true wf];exact wN (h:=by exact ⟨rfl,rfl,rfl⟩)
    rw [decide_eq_false wf];exact wN (h:=by exact ⟨rfl,rfl,rfl⟩)
   rintro σ fz1 H' ⟨rfl,rfl,rfl⟩;generalize hal:decide (f.op=kForall)=al;refine wI hps hp0 (fun p1 hp1=>?_);refine wH hp1.Param_typ (fun hst=>?_);refine zW ?_;refine Yd (Yk [] [_] Zz (kof_f (t:=p.typ) hK0) (fun v4 fz4 H4 hle4 hR4=>?_));obtain ⟨rfl,Bo,mo,do_,rfl,hSo⟩:=hR4;have lo:=hSo.len;have so:=hSo.short;refine zW ?_;refine Yn (fun q σ fz' H'=>∃ k:Nat,k<=mo/\q=mo - k/\σ=[(35,Zk k),(34,Zk mo),(33,Zc Bo mo do_),(11,Zo al),(7,Zp g7),(4,.map (some ge)),(3,Zc A (ps.length+1) c),(1,.map (some gs)),(0,Zp gk)]/\Le fz4 fz'/\H'=[(g7,Zu #[Zy f.op,Zy f.name,Zc B1 m1 d1,Zc B2 m2 d2,Zc B3 m3 d3,Zc B4 m4 d4] 35)]/\∀ i,i<k->∀ o,(ofK K p.typ)[i]?=some o->quantV K al hb ps (setE E p.name o)=al) ⟨0,Z0 _,rfl,rfl,Zd,rfl,fun i hi=>absurd hi Zi⟩ Zw Zb ?_;rintro q σ fz5 H' ⟨k,hk5,rfl,rfl,hle5,rfl,hall⟩;refine wC ?_ ?_<;>intro c2
   ·obtain ⟨o,ho⟩:=Yf (l:=ofK K p.typ) (k:=k) Zi;have hom:=Zm ho;obtain ⟨po,hpo,epo⟩:=Ylq hom;have hoP:PlnS o:=epo ▸ hOs po hpo;have hle45:=hle4.trans hle5;refine wI (hSo.mono hle5) ho (fun p2 hp2=>?_);refine zH hp2 (fun hso=>?_);refine zWN ?_;refine Y6 [_] ?_;refine wG ?_;refine Yfq (j:=1) (hps.mono hle45) (fun A' hS'=>?_);refine wG ?_;refine Ylm (j:=1) ?_;refine zW ?_;refine Yl ?_;refine zW ?_;refine Yl (Yl ?_);refine zW ?_;refine pU ?_;refine Yg (Yc (cs:=[Zy o]) (fun gb=>⟨⟨Zd,Zx⟩,?_⟩));refine Yg (Does.freeze (H1:=[_]) (H2:=[_]) (Zq (l₁:=[_])) (fun fz6 hle6 hf6=>?_));have hgb:Grow strL 9 fz5 (Zv gb 1 1) 1 [(gb,Zu #[Zy o] 9)] [o]:=
     Grow.block (ys:=[(o,[Value.string o])]) rfl rfl (by intro q hq;simp at hq;subst hq;exact ⟨rfl,hso⟩) rfl
    obtain ⟨B7,d7,e7,hS7⟩:=hgb.sl hle6 hf6 Zh;injection e7 with e71 e72 e73
    subst e71;subst e73;have hcut:=Yqc (hps.mono (hle45.trans hle6)) (k:=1) Zi;refine Yk [] [_] Zz (env_f hcut hS7 (Zs _) (.inr (hE0.mono (hle45.trans hle6)))) (fun v7 fz7 H7 hle7 hR7=>⟨⟨hle6.trans hle7,Zx⟩,?_⟩);obtain ⟨rfl,hE7⟩:=hR7;have hE8:EnvR fz7 v7 (setE E p.name o):=hE7;have hx7:=hle45.trans (hle6.trans hle7);refine Ch.qk ⟨hle6.trans hle7,Zx⟩ (Yt (Ymm ps (hK0.mono hx7) hOs (hR0.mono hx7) hk (hS'.mono (hle6.trans hle7)) Zi hE8 (hP.set hoP) (fun hl hE9 hP9 hR9=>ih (hx7.trans hl) hE9 hP9 hR9)) ?_);rw [hal];refine Ch.qk ⟨hle6.trans hle7,Zx⟩ (Ylj T Zz Zz Zz Zz (fun h8=>?_) (fun h8=>?_))
    ·refine Ch.done ?_;exact wR (h:=by rw [Ynn hom h8])
    refine Ch.done ?_;exact wP (h:=by exact ⟨k+1,by omega,rfl,rfl,hle5.trans (hle6.trans hle7),rfl,YH hall ho (by simpa using h8)⟩)
   have hA:=Xc hall Zi;exact wR (h:=by rw [Yno hA])
theorem is1_q {b:Atom} {g3:Nat} {t3:TypeId} (ha:AtomR fz a va) (h3:fz g3=some (.cells #[Zy a.name,va] t3 (0,0))) (hcs:atomL.rep fz b cs):
 QFn prog 60 (.agg cs.toArray:: [Zp g3]) fz (Zo (decide (a=b))):=by
 obtain ⟨vb,rfl,hb⟩:=Xy hcs;have ha0:=ha;have hb0:=hb;obtain ⟨A,n,c,rfl,ia⟩:=ha.args;obtain ⟨B,m,d,rfl,ib⟩:=hb.args;refine qF Tryz.func60 Tryz.ntmps60 (fun w0=>?_);refine pX (fun g9=>?_);refine wc (Ybc ha0 hb0) ?_;exact wR (h:=rfl)
theorem wis_q (hW:WdR fz W v) (ha:AtomR fz a va):
 QFn prog 25 [v,.agg #[Zy a.name,va]] fz (Zo (decide (a∈W.atoms))):=by
 obtain ⟨A1,n1,b1,A2,n2,b2,rfl,hA,_⟩:=hW;have ha0:=ha;obtain ⟨A,n,c,rfl,ia⟩:=ha.args;refine qF Tryz.func25 Tryz.ntmps25 (fun w0=>?_);refine pX (fun g2=>?_);refine pY (fun g3=>?_)
 first | refine Wp.freeze Zz (fun fz0 hle0 hf0=>?_) | refine Seq.freeze Zz (fun fz0 hle0 hf0=>?_)
 refine wG ?_;refine Y0 ?_
 ((refine zG ?_);refine XS (Yg7 (cap:=[Zp g3]) (p:=fun b=>a=b) (hA.mono hle0) (fun b _ cs hcs=>is1_q (ha0.mono hle0) hf0 hcs)) (fun f1=>?_) (fun f1=>?_))
 ·obtain ⟨b,hb,e⟩:=Zt f1;exact wR (h:=by exact Ys (e ▸ hb))
 exact wR (h:=by exact Yj (fun h=>Zf f1 ⟨a,h,rfl⟩))
def quantW (M:Mn) (al:Bool) (hb:List Bs->List Bs->Bool):List Param->List Bs->List Bs->Bool
 | [],ns,bs=>hb ns bs
 | p::ps,ns,bs=>if al=true then (ofN M p.typ).all fun o=>quantW M al hb ps (p.name::ns) (o::bs) else (ofN M p.typ).any fun o=>quantW M al hb ps (p.name::ns) (o::bs)
theorem YhJ {al:Bool} {hb:List Bs->List Bs->Bool} {p:Param} {ps:List Param} {ns bs:List Bs} {o:Bs} (ho:o∈ofN M p.typ) (h:quantW M al hb ps (p.name::ns) (o::bs)≠al):quantW M al hb (p::ps) ns bs=!al:=by
 rw [quantW];cases al with
 | true=>
  rw [if_pos rfl];have:quantW M true hb ps (p.name::ns) (o::bs)=false:=by simpa using h
  exact List.all_eq_false.2 ⟨o,ho,by rw [this];decide⟩
 | false=>
  rw [if_neg Zh];have:quantW M false hb ps (p.name::ns) (o::bs)=true:=by simpa using h
  exact List.any_eq_true.2 ⟨o,ho,this⟩
theorem YhK {al:Bool} {hb:List Bs->List Bs->Bool} {p:Param} {ps:List Param} {ns bs:List Bs} (h:∀ o∈ofN M p.typ,quantW M al hb ps (p.name::ns) (o::bs)=al):quantW M al hb (p::ps) ns bs=al:=by
 rw [quantW];cases al with
 | true=>
  rw [if_pos rfl];exact List.all_eq_true.2 h
 | false=>
  rw [if_neg Zh];exact List.any_eq_false.2 (fun o ho=>by rw [h o ho];decide)
theorem consS {a:Bs} {gb:Nat} (ha:Short a):Grow strL 9 fz (Zv gb 1 1) 1 [(gb,Zu #[Zy a] 9)] [a]:=
 Grow.block (ys:=[(a,[Value.string a])]) rfl rfl (by intro q hq;simp at hq;subst hq;exact ⟨rfl,ha⟩) rfl
theorem Ymn:∀ (j:Nat) {k:Nat} {fz:FZ} {M:Mn} {W:Wd} {v vw va vp ve vk:Value} {f g:Formula} {rest:List Formula} {hb:List Bs->List Bs->Bool} {B C:Option Addr} {m d q c:Nat} {ns bs:List Bs},
 MnR fz v M->WdR fz W vw->FormulaR fz f va vp ve vk->(f.op=kForall\/f.op=kExists)->f.kids=g::rest->k+j=f.params.length->Sl strL fz B m d ns->Sl strL fz C q c bs->ns.length<=bs.length->m+j<=1000000000->q+j<=1000000000->
 (∀ {fz':FZ} {ns' bs':List Bs} {B' C':Option Addr} {m' d' q' c':Nat} {wa wp we wk:Value},Le fz fz'->Sl strL fz' B' m' d' ns'->Sl strL fz' C' q' c' bs'->ns'.length<=bs'.length->m'<=m+j->q'<=q+j->FormulaR fz' g wa wp we wk->
  QFn prog 54 [v,vw,.agg #[Zy g.op,Zy g.name,wa,wp,we,wk],Zc B' m' d',Zc C' q' c'] fz' (Zo (hb ns' bs')))->
 QFn prog 102 [v,vw,.agg #[Zy f.op,Zy f.name,va,vp,ve,vk],Zk k,Zc B m d,Zc C q c] fz (Zo (quantW M (decide (f.op=kForall)) hb (f.params.drop k) ns bs))
 | j,k,fz,M,W,v,vw,va,vp,ve,vk,f,g,rest,hb,B,C,m,d,q,c,ns,bs,hM,hW,hR,hQ,hk,hj,hN,hB,hl,hm,hq,ih=>by
  have hR0:=hR;have hM0:=hM;have hW0:=hW;obtain ⟨⟨B1,m1,d1,rfl,ia⟩,⟨B2,m2,d2,rfl,ip⟩,⟨B3,m3,d3,rfl,ie⟩,⟨B4,m4,d4,rfl,ik⟩⟩:=hR.sls;obtain ⟨A5,n5,b5,A6,n6,b6,rfl,_,_⟩:=hW;obtain ⟨⟨gm,v1,v2,v3,v4,v5,v6,a7,a8,a9,a10,a11,a12,a13,a14,a15,a16,a17,vf,Ao,no,co,rfl,hg,hD,hF,hO⟩,hw,hmany⟩:=hM;have l2:=ip.len;have s2:=ip.short;have l4:=ik.len;have lN:=hN.len;have lB:=hB.len;have hg0:f.kids[0]?=some g:=by rw [hk];rfl
  have hm4:0<m4:=by rw [<- l4,hk];simp
  refine qF Tryz.func102 Tryz.ntmps102 (fun w0=>?_);refine pX (fun g7=>?_);refine pY (fun g8=>?_);refine wC ?_ ?_<;>intro c1
  ·have hj0:j=0:=by omega
   subst hj0;rw [List.drop_eq_nil_of_le Zi,quantW];refine wI ik hg0 (fun p1 hp1=>?_);refine zL hp1 ?_;intro cs hcs;obtain ⟨wa,wp,we,wk,rfl,hRg⟩:=Yu hcs;obtain ⟨⟨E1,r1,q1,rfl,_⟩,⟨E2,r2,q2,rfl,_⟩,⟨E3,r3,q3,rfl,_⟩,⟨E4,r4,q4,rfl,_⟩⟩:=id hRg.sls;refine wG ?_;refine Yt (ih Zd hN hB hl Zi Zi hRg) ?_;exact wR (h:=rfl)
  obtain ⟨j,rfl⟩:∃ j',j=j'+1:=⟨j - 1,by omega⟩;obtain ⟨p,hp⟩:=Yf (l:=f.params) (k:=k) Zi;have hdrop:f.params.drop k=p::f.params.drop (k+1):=by
   have hkl:=(Zg hp).1;rw [List.drop_eq_getElem_cons hkl]
   congr 1
   exact (Zg hp).2
  rw [hdrop];obtain ⟨al,hal,hnx⟩:∃ al,decide (f.op=kForall)=al/\decide (f.op=kExists)=!al:=by
   rcases hQ with h | h
   ·exact ⟨true,decide_eq_true h,decide_eq_false (by rw [h];decide)⟩
   exact ⟨false,decide_eq_false (by rw [h];decide),decide_eq_true h⟩
  rw [hal];refine wI ip hp (fun p1 hp1=>?_);refine wH hp1.Param_typ (fun hst=>?_);refine zW ?_;refine Yd (Yk [] [_,_] Zz (Ynx (t:=p.typ) hM0) (fun v4 fz4 H4 hle4 hR4=>?_));obtain ⟨rfl,Bo,mo,do_,rfl,hSo⟩:=hR4;have lo:=hSo.len;have so:=hSo.short;refine zW ?_;refine Yn (fun q' σ fz' H'=>∃ i:Nat,i<=mo/\q'=mo - i/\σ=[(40,Zk i),(39,Zk mo),(38,Zc Bo mo do_),(8,Zp g8),(7,Zp g7),(5,Zc C q c),(4,Zc B m d),(3,Zk k),(0,Zp gm)]/\Le fz4 fz'/\H'=[(g8,Zu #[Zy f.op,Zy f.name,Zc B1 m1 d1,Zc B2 m2 d2,Zc B3 m3 d3,Zc B4 m4 d4] 35),(g7,Zu #[Zc A5 n5 b5,Zc A6 n6 b6] 41)]/\∀ i',i'<i->∀ o,(ofN M p.typ)[i']?=some o->quantW M al hb (f.params.drop (k+1)) (p.name::ns) (o::bs)=al) ⟨0,Z0 _,rfl,rfl,Zd,rfl,fun i hi=>absurd hi Zi⟩ Zw Zb ?_;rintro q' σ fz5 H' ⟨i,hi5,rfl,rfl,hle5,rfl,hall⟩;have hle45:=hle4.trans hle5;refine wC ?_ ?_<;>intro c2
  ·obtain ⟨o,ho⟩:=Yf (l:=ofN M p.typ) (k:=i) Zi;refine wI (hSo.mono hle5) ho (fun p2 hp2=>?_);refine zH hp2 (fun hso=>?_);refine wI (ip.mono hle45) hp (fun p3 hp3=>?_);refine wH hp3.Param_name (fun hsn=>?_);refine zW ?_;refine Yd (Yc (cs:=[Zy p.name]) (fun gb=>?_));refine zW ?_;refine Yd (XW T (Hr:=[_,_]) (n:=1) (l:=[p.name]) Zz Zz Zz Zz Zz Zz Zz Zz (List.perm_append_singleton _ _).symm (consS hsn) WY (hN.mono hle45) (by show _*16<=_;omega) Zi (fun v6 H6 hO6=>?_));obtain ⟨A6',c6',rfl,_,_⟩:=hO6.form;refine Seq.freezeAll (H1:=[_,_]) (H2:=H6) (Zr _) (fun fz6 hle6 hf6=>?_);obtain ⟨B7,d7,e7,hS7⟩:=hO6.sl hle6 hf6 Zi;injection e7 with e71 e72 e73
   subst e71;subst e73;refine zW ?_;refine Yd (Yc (cs:=[Zy o]) (fun gc=>?_));refine zW ?_;refine Yd (XW T (Hr:=[_,_]) (n:=1) (l:=[o]) Zz Zz Zz Zz Zz Zz Zz Zz (List.perm_append_singleton _ _).symm (consS hso) WY (hB.mono (hle45.trans hle6)) (by show _*16<=_;omega) Zi (fun v8 H8 hO8=>?_));obtain ⟨A8',c8',rfl,_,_⟩:=hO8.form;refine Seq.freezeAll (H1:=[_,_]) (H2:=H8) (Zr _) (fun fz8 hle8 hf8=>?_);obtain ⟨B9,d9,e9,hS9⟩:=hO8.sl hle8 hf8 Zi;injection e9 with e91 e92 e93
   subst e91;subst e93;have hle48:=hle45.trans (hle6.trans hle8);refine wG ?_;refine Yt (Ymn j (k:=k+1) (hb:=hb) (hM0.mono hle48) (hW0.mono hle48) (hR0.mono hle48) hQ hk Zi (hS7.mono hle8) hS9 (by simp;omega) Zi Zi (fun hl' h1 h2 h3 h4 h5 h6=>ih (hle48.trans hl') h1 h2 h3 Zi Zi h6)) ?_;rw [hal];have hom:=Zm ho;rcases hQ with hf | he
   ·obtain rfl:al=true:=by rw [<- hal];exact decide_eq_true hf
    have hne:¬f.op=kExists:=by rw [hf];decide
    refine wG ?_;refine Ygo (fun h8=>?_) (fun h8=>?_)
    ·exact wR (h:=by rw [YhJ hom (fun h9:quantW M true hb (f.params.drop (k+1)) (p.name::ns) (o::bs)=true=>absurd (h8.symm.trans h9) Zh)];rfl)
    exact wP (h:=by exact ⟨i+1,by omega,rfl,rfl,hle5.trans (hle6.trans hle8),rfl,YH hall ho (by simpa using h8)⟩)
   obtain rfl:al=false:=by rw [<- hal];exact decide_eq_false (by rw [he];decide)
   refine wG ?_;refine Ygo (fun h8=>?_) (fun h8=>?_)
   ·exact wR (h:=by rw [YhJ hom (fun h9:quantW M false hb (f.params.drop (k+1)) (p.name::ns) (o::bs)=false=>absurd (h8.symm.trans h9) Zh)];rfl)
   exact wP (h:=by exact ⟨i+1,by omega,rfl,rfl,hle5.trans (hle6.trans hle8),rfl,YH hall ho (by simpa using h8)⟩)
  have hA:=Xc hall Zi;rcases hQ with hf | he
  ·obtain rfl:al=true:=by rw [<- hal];exact decide_eq_true hf
   exact wR (h:=by rw [YhK hA])
  obtain rfl:al=false:=by rw [<- hal];exact decide_eq_false (by rw [he];decide)
  have hne:¬f.op=kForall:=by rw [he];decide
  exact wR (h:=by rw [YhK hA])
mutual
def holdsW (M:Mn) (W:Wd):List Bs->List Bs->Formula->Bool
 | ns,bs,.mk op name args params exprs kids=>
  if op=kAtom then decide ((⟨name,args.map (valN ns bs)⟩:Atom)∈W.atoms)
  else if op=kSame then decide (valN ns bs ((args[0]?).getD ⟨#[]⟩)=valN ns bs ((args[1]?).getD ⟨#[]⟩))
  else if op=kNot then !headW M W ns bs kids
  else if op=kAnd then allWH M W ns bs kids
  else if op=kOr then anyWH M W ns bs kids
  else if QuF op then quantW M (decide (op=kForall)) (fun ns' bs'=>headW M W ns' bs' kids) params ns bs
  else cmpW W op (exprs.map (bE ns bs))
def allWH (M:Mn) (W:Wd):List Bs->List Bs->List Formula->Bool
 | _,_,[]=>true
 | ns,bs,g::r=>holdsW M W ns bs g && allWH M W ns bs r
def anyWH (M:Mn) (W:Wd):List Bs->List Bs->List Formula->Bool
 | _,_,[]=>false
 | ns,bs,g::r=>holdsW M W ns bs g || anyWH M W ns bs r
def headW (M:Mn) (W:Wd):List Bs->List Bs->List Formula->Bool
 | _,_,[]=>true
 | ns,bs,g::_=>holdsW M W ns bs g
end
theorem Yej {ns bs:List Bs} (f:Formula):holdsW M W ns bs f=
 if f.op=kAtom then decide ((⟨f.name,f.args.map (valN ns bs)⟩:Atom)∈W.atoms)
 else if f.op=kSame then decide (valN ns bs ((f.args[0]?).getD ⟨#[]⟩)=valN ns bs ((f.args[1]?).getD ⟨#[]⟩))
 else if f.op=kNot then !headW M W ns bs f.kids
 else if f.op=kAnd then allWH M W ns bs f.kids
 else if f.op=kOr then anyWH M W ns bs f.kids
 else if QuF f.op then quantW M (decide (f.op=kForall)) (fun ns' bs'=>headW M W ns' bs' f.kids) f.params ns bs
 else cmpW W f.op (f.exprs.map (bE ns bs)):=by cases f;rw [holdsW];rfl
theorem Yf5 {M:Mn} {W:Wd} {ns bs:List Bs}:∀ l:List Formula,allWH M W ns bs l=!decide (∃ g∈l,¬holdsW M W ns bs g=true)
 | []=>by rw [allWH];simp
 | g::r=>by
  rw [allWH,Yf5 r];cases h:holdsW M W ns bs g<;>simp [h]
theorem Yf4 {M:Mn} {W:Wd} {ns bs:List Bs}:∀ l:List Formula,anyWH M W ns bs l=decide (∃ g∈l,holdsW M W ns bs g=true)
 | []=>by rw [anyWH];simp
 | g::r=>by
  rw [anyWH,Yf4 r];cases h:holdsW M W ns bs g<;>simp [h]
inductive WSh:Formula->Prop
 | mk {f:Formula} (h1:f.op=kSame->2<=f.args.length) (h2:f.op=kNot\/QuF f.op->f.kids≠ []) (h3:f.op=kAtom\/f.op=kSame\/f.op=kNot\/f.op=kAnd\/f.op=kOr\/QuF f.op\/(2<=f.exprs.length/\∀ e∈f.exprs,VSh e)) (h6:∀ k∈f.kids,WSh k):WSh f
theorem WSh.same (h:WSh f):f.op=kSame->2<=f.args.length:=by cases h with | mk h1 _ _ _=>exact h1
theorem WSh.head (h:WSh f):f.op=kNot\/QuF f.op->f.kids≠ []:=by cases h with | mk _ h1 _ _=>exact h1
theorem WSh.kinds (h:WSh f):f.op=kAtom\/f.op=kSame\/f.op=kNot\/f.op=kAnd\/f.op=kOr\/QuF f.op\/(2<=f.exprs.length/\∀ e∈f.exprs,VSh e):=by cases h with | mk _ _ h1 _=>exact h1
theorem WSh.kid {k:Formula} (h:WSh f) (hk:k∈f.kids):WSh k:=by cases h with | mk _ _ _ h1=>exact h1 k hk
theorem Yob {ns bs:List Bs}:∀ (s:Nat) {e:Lx.Expr},SizeOf.sizeOf e<=s->VSh e->VSh (bE ns bs e)
 | 0,e,hs,_=>by cases e;simp at hs
 | s+1,e,hs,h=>by
  rw [bE_eq];refine .mk ?_ (fun k hk=>?_)
  ·rcases h.two with h1 | h1 | h1
   ·exact .inl h1
   ·exact .inr (.inl h1)
   exact .inr (.inr (by show 2<=(e.kids.map _).length;rw [List.length_map];exact h1))
  obtain ⟨k',hk',rfl⟩:=List.mem_map.1 hk;exact Yob s (by have:=Lx.Expr.kids_lt hk';omega) (h.kid hk')
theorem Yn8 {vw vn:Value} {g5 g6 g8 g9:Nat} {t5 t6 t8 t9:TypeId} {gm:Nat} {A5 A6 C:Option Addr} {n5 b5 n6 b6 m d q:Nat} (hR:FormulaR fz f va vp ve vk) (hv:v=Zp gm) (hw:vw=.agg #[Zc A5 n5 b5,Zc A6 n6 b6]) (hn:vn=Zc B m d) (hb:vb=Zc C q c)
 (h5:fz g5=some (.cells #[v] t5 (0,0))) (h6:fz g6=some (.cells #[Zc A5 n5 b5,Zc A6 n6 b6] t6 (0,0))) (h8:fz g8=some (.cells #[vn] t8 (0,0))) (h9:fz g9=some (.cells #[vb] t9 (0,0)))
 (hh:QFn prog 54 [v,vw,.agg #[Zy f.op,Zy f.name,va,vp,ve,vk],vn,vb] fz (Zo b)):
 QFn prog 100 [.agg #[Zy f.op,Zy f.name,va,vp,ve,vk],Zp g5,Zp g6,Zp g8,Zp g9] fz (Zo (!b)):=by
 subst hv hw hn hb;obtain ⟨⟨B1,m1,d1,rfl,ia⟩,⟨B2,m2,d2,rfl,ip⟩,⟨B3,m3,d3,rfl,ie⟩,⟨B4,m4,d4,rfl,ik⟩⟩:=hR.sls;refine qF Tryz.func100 Tryz.ntmps100 (fun w0=>?_);refine pX (fun g1=>?_);refine wc hh ?_;exact wR (h:=rfl)
theorem Yn7 {vw vn:Value} {g5 g6 g8 g9:Nat} {t5 t6 t8 t9:TypeId} {gm:Nat} {A5 A6 C:Option Addr} {n5 b5 n6 b6 m d q:Nat} (hR:FormulaR fz f va vp ve vk) (hv:v=Zp gm) (hw:vw=.agg #[Zc A5 n5 b5,Zc A6 n6 b6]) (hn:vn=Zc B m d) (hb:vb=Zc C q c)
 (h5:fz g5=some (.cells #[v] t5 (0,0))) (h6:fz g6=some (.cells #[Zc A5 n5 b5,Zc A6 n6 b6] t6 (0,0))) (h8:fz g8=some (.cells #[vn] t8 (0,0))) (h9:fz g9=some (.cells #[vb] t9 (0,0)))
 (hh:QFn prog 54 [v,vw,.agg #[Zy f.op,Zy f.name,va,vp,ve,vk],vn,vb] fz (Zo b)):
 QFn prog 101 [.agg #[Zy f.op,Zy f.name,va,vp,ve,vk],Zp g5,Zp g6,Zp g8,Zp g9] fz (Zo b):=by
 subst hv hw hn hb;obtain ⟨⟨B1,m1,d1,rfl,ia⟩,⟨B2,m2,d2,rfl,ip⟩,⟨B3,m3,d3,rfl,ie⟩,⟨B4,m4,d4,rfl,ik⟩⟩:=hR.sls;refine qF Tryz.func101 Tryz.ntmps101 (fun w0=>?_);refine pX (fun g1=>?_);refine wc hh ?_;exact wR (h:=rfl)
theorem Yig:∀ (s:Nat) {fz:FZ} {M:Mn} {W:Wd} {v vw va vp ve vk:Value} {f:Formula} {B C:Option Addr} {m d q c:Nat} {ns bs:List Bs},
 SizeOf.sizeOf f<=s->MnR fz v M->WdR fz W vw->FormulaR fz f va vp ve vk->Sl strL fz B m d ns->Sl strL fz C q c bs->ns.length<=bs.length->m+fW f<=1000000000->q+fW f<=1000000000->WSh f->
 QFn prog 54 [v,vw,.agg #[Zy f.op,Zy f.name,va,vp,ve,vk],Zc B m d,Zc C q c] fz (Zo (holdsW M W ns bs f))
 | 0,_,_,_,_,_,_,_,_,_,f,_,_,_,_,_,_,_,_,hs,_,_,_,_,_,_,_,_,_=>by cases f;simp at hs
 | s+1,fz,M,W,v,vw,va,vp,ve,vk,f,B,C,m,d,q,c,ns,bs,hs,hM,hW,hR,hN,hB,hl,hmf,hqf,hS=>by
  have hR0:=hR;have hM0:=hM;have hW0:=hW;have hwe:=Ybu f;have hkl:=XR YpV f.kids;have hel:=XR YmU f.exprs;obtain ⟨⟨B1,m1,d1,rfl,ia⟩,⟨B2,m2,d2,rfl,ip⟩,⟨B3,m3,d3,rfl,ie⟩,⟨B4,m4,d4,rfl,ik⟩⟩:=hR.sls;obtain ⟨A5,n5,b5,A6,n6,b6,rfl,_,_⟩:=hW;obtain ⟨⟨gm,v1,v2,v3,v4,v5,v6,a7,a8,a9,a10,a11,a12,a13,a14,a15,a16,a17,vf,Ao,no,co,rfl,hg,hD,hF,hO⟩,hw,hmany⟩:=hM;have l1:=ia.len;have l3:=ie.len;have s3:=ie.short;have l4:=ik.len;have hM1:=Yej (M:=M) (W:=W) (ns:=ns) (bs:=bs) f;refine qF Tryz.func54 Tryz.ntmps54 (fun w0=>?_);refine pX (fun g5=>?_);refine pY (fun g6=>?_);refine pY (fun g7=>?_);refine pY (fun g8=>?_);refine pY (fun g9=>?_);refine Seq.freezeAll (H1:=[]) (H2:=[_,_,_,_,_]) (Zr _) (fun fz0 hle0 hf0=>?_);have b9:=hf0 _ (.head _);have b8:=hf0 _ (.tail _ (.head _));have b7:=hf0 _ (.tail _ (.tail _ (.head _)));have b6':=hf0 _ (.tail _ (.tail _ (.tail _ (.head _))));have b5':=hf0 _ (.tail _ (.tail _ (.tail _ (.tail _ (.head _)))));simp only at b9 b8 b7 b6' b5';refine wC ?_ ?_<;>intro c1
  ·rw [if_pos (show f.op=kAtom from c1)] at hM1;refine zWN ?_;refine Y6 [] ?_;refine zW ?_;refine pU ?_;refine Yg (Yk [] [] Zz (Yh8 (ia.mono hle0) Zi (hN.mono hle0) (hB.mono hle0) hl) (fun v2 fz2 H2 hle2 hR2=>⟨⟨hle2,by intro p hp;cases hp⟩,?_⟩));obtain ⟨rfl,A',c',rfl,ia2⟩:=hR2;refine Ch.qk ⟨hle2,by intro p hp;cases hp⟩ (XH ?_);refine Ch.qk ⟨hle2,by intro p hp;cases hp⟩ (Yt (wis_q (a:=⟨f.name,f.args.map (valN ns bs)⟩) (hW0.mono (hle0.trans hle2)) ⟨hR0.name,⟨_,_,_,rfl,ia2⟩⟩) ?_);refine Ch.qk ⟨hle2,by intro p hp;cases hp⟩ (YR ?_);refine Ch.done ?_;exact wR (h:=by rw [hM1])
  rw [if_neg (show ¬f.op=kAtom from c1)] at hM1;refine wC ?_ ?_<;>intro c2
  ·rw [if_pos (show f.op=kSame from c2)] at hM1;have h2:=hS.same c2;obtain ⟨x,hx⟩:=Yf (l:=f.args) (k:=0) Zi;obtain ⟨y,hy⟩:=Yf (l:=f.args) (k:=1) Zi;rw [hx,hy] at hM1;have hx':(f.args.map (valN ns bs))[0]?=some (valN ns bs x):=by rw [List.getElem?_map,hx];rfl
   have hy':(f.args.map (valN ns bs))[1]?=some (valN ns bs y):=by rw [List.getElem?_map,hy];rfl
   refine zW ?_;refine Yd (Yk [] [] Zz (Yh8 (ia.mono hle0) Zi (hN.mono hle0) (hB.mono hle0) hl) (fun v2 fz2 H2 hle2 hR2=>?_));obtain ⟨rfl,A',c',rfl,ia2⟩:=hR2;have l6:=ia2.len;rw [List.length_map] at l6;refine wI ia2 hx' (fun p1 hp1=>?_);refine zH hp1 (fun hs1=>?_);refine wI ia2 hy' (fun p2 hp2=>?_);refine zH hp2 (fun hs2=>?_);refine wC ?_ ?_<;>intro c3
   ·exact wR (h:=by rw [hM1];exact Ys c3)
   exact wR (h:=by rw [hM1];exact Yj c3)
  rw [if_neg (show ¬f.op=kSame from c2)] at hM1;have ihk:∀ {x:Formula} {fz':FZ} {ns' bs':List Bs} {B' C':Option Addr} {m' d' q' c':Nat} {wa wp we wk:Value},x∈f.kids->Le fz fz'->Sl strL fz' B' m' d' ns'->Sl strL fz' C' q' c' bs'->ns'.length<=bs'.length->m'<=m+f.params.length->q'<=q+f.params.length->FormulaR fz' x wa wp we wk->
   QFn prog 54 [Zp gm,.agg #[Zc A5 n5 b5,Zc A6 n6 b6],.agg #[Zy x.op,Zy x.name,wa,wp,we,wk],Zc B' m' d',Zc C' q' c'] fz' (Zo (holdsW M W ns' bs' x)):=fun hxm hle h1 h2 h3 h4 h5 h6=>by
   have hxw:=Xg (w:=fW) hxm;exact Yig s (by have:=Formula.kids_lt hxm;omega) (hM0.mono hle) (hW0.mono hle) h6 h1 h2 h3 Zi Zi (hS.kid hxm)
  refine wC ?_ ?_<;>intro c3
  ·rw [if_pos (show f.op=kNot from c3)] at hM1;obtain ⟨x,rest,hkd⟩:∃ x rest,f.kids=x::rest:=by
    cases hf:f.kids with
    | nil=>exact absurd hf (hS.head (.inl c3))
    | cons x rest=>exact ⟨x,rest,rfl⟩
   have hx:f.kids[0]?=some x:=by rw [hkd];rfl
   have hl0:0<m4:=by rw [<- l4,hkd];simp
   rw [hkd,headW] at hM1;refine wI (ik.mono hle0) hx (fun p1 hp1=>?_);refine zL hp1 ?_;intro cs hcs;obtain ⟨wa,wp,we,wk,rfl,hRx⟩:=Yu hcs;obtain ⟨⟨E1,r1,q1,rfl,_⟩,⟨E2,r2,q2,rfl,_⟩,⟨E3,r3,q3,rfl,_⟩,⟨E4,r4,q4,rfl,_⟩⟩:=id hRx.sls;refine wG ?_;refine Yt (ihk (Zm hx) hle0 (hN.mono hle0) (hB.mono hle0) hl Zi Zi hRx) ?_;exact wR (h:=by rw [hM1])
  rw [if_neg (show ¬f.op=kNot from c3)] at hM1;refine wC ?_ ?_<;>intro c4
  ·rw [if_pos (show f.op=kAnd from c4),Yf5] at hM1;refine wG ?_;refine Y0 ?_
   (refine zG ?_);refine Yt (XL (cap:=[Zp g5,Zp g6,Zp g8,Zp g9]) (p:=fun x=>¬holdsW M W ns bs x=true) (ik.mono hle0) (fun x hx cs hcs=>by
    obtain ⟨wa,wp,we,wk,rfl,hRx⟩:=Yu hcs;rw [show decide (¬holdsW M W ns bs x=true)=!(holdsW M W ns bs x) from by cases holdsW M W ns bs x<;>simp];exact Yn8 hRx rfl rfl rfl rfl b5' b6' b8 b9 (ihk hx hle0 (hN.mono hle0) (hB.mono hle0) hl Zi Zi hRx))) ?_
   exact wR (h:=by rw [hM1])
  rw [if_neg (show ¬f.op=kAnd from c4)] at hM1;refine wC ?_ ?_<;>intro c5
  ·rw [if_pos (show f.op=kOr from c5),Yf4] at hM1;refine wG ?_;refine Y0 ?_
   (refine zG ?_);refine Yt (XL (cap:=[Zp g5,Zp g6,Zp g8,Zp g9]) (p:=fun x=>holdsW M W ns bs x=true) (ik.mono hle0) (fun x hx cs hcs=>by
    obtain ⟨wa,wp,we,wk,rfl,hRx⟩:=Yu hcs;rw [show decide (holdsW M W ns bs x=true)=holdsW M W ns bs x from by cases holdsW M W ns bs x<;>simp];exact Yn7 hRx rfl rfl rfl rfl b5' b6' b8 b9 (ihk hx hle0 (hN.mono hle0) (hB.mono hle0) hl Zi Zi hRx))) ?_
   exact wR (h:=by rw [hM1])
  rw [if_neg (show ¬f.op=kOr from c5)] at hM1;by_cases hq:QuF f.op
  ·rw [if_pos hq] at hM1;obtain ⟨x,rest,hkd⟩:∃ x rest,f.kids=x::rest:=by
    cases hf:f.kids with
    | nil=>exact absurd hf (hS.head (.inr hq))
    | cons x rest=>exact ⟨x,rest,rfl⟩
   have hxm:x∈f.kids:=by rw [hkd];simp
   have hcall:=Ymn f.params.length (k:=0) (hb:=fun ns' bs'=>headW M W ns' bs' f.kids) (hM0.mono hle0) (hW0.mono hle0) (hR0.mono hle0) hq hkd Zi (hN.mono hle0) (hB.mono hle0) hl Zi Zi (fun hle' h1 h2 h3 h4 h5 h6=>by
    have:=ihk hxm (hle0.trans hle') h1 h2 h3 h4 h5 h6;rw [hkd,headW];exact this)
   rw [List.drop_zero] at hcall;rcases hq with w6 | w7
   ·refine wc hcall ?_;exact wR (h:=by rw [hM1])
   have w6:¬f.op=kForall:=by rw [w7];decide+kernel
   refine wc hcall ?_;exact wR (h:=by rw [hM1])
  rw [if_neg hq] at hM1;have w6:¬f.op=kForall:=fun h=>hq (.inl h)
  have w7:¬f.op=kExists:=fun h=>hq (.inr h)
  obtain ⟨he2,hes⟩:2<=f.exprs.length/\∀ e∈f.exprs,VSh e:=by
   rcases hS.kinds with h | h | h | h | h | h | h
   ·exact absurd h c1
   ·exact absurd h c2
   ·exact absurd h c3
   ·exact absurd h c4
   ·exact absurd h c5
   ·exact absurd h hq
   exact h
  refine zW ?_;intros;rename_i g12;refine Yn (fun q' σ fz' H'=>∃ (k:Nat) (vo:Value) (Hk:HP),k<=m3/\q'=m3 - k/\σ=[(83,Zk k),(82,Zk m3),(81,Zc B3 m3 d3),(12,Zp g12),(9,Zp g9),(8,Zp g8),(6,Zp g6)]/\Le fz0 fz'/\
   H'=(g12,Zu #[Zy f.op,Ze,Zn,Zn,vo,Zn] 35)::Hk/\Grow exprL 69 fz' vo k Hk ((f.exprs.take k).map (bE ns bs))) ⟨0,_,[],Z0 _,rfl,rfl,Zd,rfl,Grow.nil _ _ _⟩ Zw Zb ?_
  rintro q' σ fz5 H' ⟨k,vo,Hk,hk,rfl,rfl,hle5,rfl,hG⟩;obtain ⟨Ao',co',rfl,_,_⟩:=hG.form;have hle05:=hle0.trans hle5;have b9:=hle5 _ _ b9;have b8:=hle5 _ _ b8;have b6':=hle5 _ _ b6';refine wC ?_ ?_<;>intro c8
  ·obtain ⟨x,hx⟩:=Yf (l:=f.exprs) (k:=k) Zi;have hxm:=Zm hx;have hxw:=Xg (w:=eW) hxm;refine wI (ie.mono hle05) hx (fun p1 hp1=>?_);refine zL hp1 ?_;intro cs hcs;obtain ⟨wa,wk,rfl,hRx⟩:=YF hcs;obtain ⟨⟨E1,r1,q1,rfl,_⟩,⟨E2,r2,q2,rfl,_⟩⟩:=id hRx.sls;refine zWN ?_;intros;rename_i g14;refine Y6 [_,_] ?_;refine zW ?_;refine Yl (Yl (Yl ?_));refine zW ?_;refine pU ?_;refine Yg (Yk [] (_::_::Hk) Zz (Yjl _ (Zs _) hRx (hN.mono hle05) (hB.mono hle05) hl Zi) (fun v6 fz6 H6 hle6 hR6=>⟨⟨hle6,Zx⟩,?_⟩));obtain ⟨rfl,wa6,wk6,rfl,hR6⟩:=hR6;refine Yg (Yc (cs:=[Zy (bE ns bs x).op,Zy (bE ns bs x).name,Zk (bE ns bs x).n,wa6,wk6]) (fun gb=>⟨⟨hle6,Zx⟩,?_⟩));refine Yg (YG (Hr:=[_,_,_]) (d:=bE ns bs x) (Zr _) (hG.mono hle6) Yes (.head _) (WL hR6) (fun v' Hs' hO'=>⟨⟨hle6,Zx⟩,?_⟩));obtain ⟨Av',cv',rfl,_,_⟩:=hO'.form;refine Ch.hard0 (XK ?_);refine Ch.done ?_;exact wP (h:=by exact ⟨k+1,_,Hs',by omega,rfl,rfl,hle5.trans hle6,rfl,hO'.of (by rw [List.take_add_one,hx];simp) rfl⟩)
  have hk2:m3=k:=by omega
  subst hk2;rw [show f.exprs.take m3=f.exprs from Zl Zi] at hG
  first
  | refine Wp.freezeAll (H1:=[_]) (H2:=Hk) (Zr _) (fun fz9 hle9 hf9=>?_)
  | refine Seq.freezeAll (H1:=[_]) (H2:=Hk) (Zr _) (fun fz9 hle9 hf9=>?_)
  obtain ⟨B9,d9,e9,hS9⟩:=hG.sl hle9 hf9 Zi;injection e9 with e91 e92 e93
  subst e91;subst e93;have b6':=hle9 _ _ b6';refine zW ?_;have hfr:FormulaR fz9 (.mk f.op ⟨#[]⟩ [] [] (f.exprs.map (bE ns bs)) []) Zn Zn (Zc Ao' m3 co') Zn:={op:=hR0.op,name:=Y5,args:=IsSl.nil,params:=IsSl.nil,exprs:=hS9.is,kids:=IsSl.nil};have hv2:2<=(f.exprs.map (bE ns bs)).length:=by rw [List.length_map];exact he2
  have hvs:∀ e∈f.exprs.map (bE ns bs),VSh e:=fun e he=>by
   obtain ⟨e',he',rfl⟩:=List.mem_map.1 he;exact Yob _ (Zs _) (hes e' he')
  refine zc (YnQ (hW0.mono (hle05.trans hle9)) hfr hv2 hvs) ?_;exact wR (h:=by rw [hM1];rfl)
end Go.Proofs.YtbdpaoikccabhaaGreatDoor
