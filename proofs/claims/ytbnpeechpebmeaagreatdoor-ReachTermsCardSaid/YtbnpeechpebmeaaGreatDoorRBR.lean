/- The texts QJ, QK, QM, QN, laid together. Conditions: none. -/
import Derived.Test.YtbnpeechpebmeaaGreatDoorRBQ
set_option linter.all false
noncomputable section
set_option maxRecDepth 20000
namespace Go.Proofs.YtbnpeechpebmeaaGreatDoor
open Go.Lx Go.RowKit
attribute [local instance 10] Classical.propDecidable
open Go.Proofs.Tryz (prog)
variable {f:Formula} {fz:FZ} {v:Value}
theorem FormulaV.open (h:FormulaV fz f v):∃ A n c B m d C o e D q g,v=.agg #[.string f.op,.string f.name,.slice A n c,.slice B m d,.slice C o e,.slice D q g]∧FormulaR fz f (.slice A n c) (.slice B m d) (.slice C o e) (.slice D q g):=by
 obtain ⟨va,vp,ve,vk,rfl,hR⟩:=h
 obtain ⟨A,n,c,rfl,_⟩:=id hR.args
 obtain ⟨B,m,d,rfl,_⟩:=id hR.params
 obtain ⟨C,o,e,rfl,_⟩:=id hR.exprs
 obtain ⟨D,q,g,rfl,_⟩:=id hR.kids
 exact ⟨A,n,c,B,m,d,C,o,e,D,q,g,rfl,hR⟩
section
variable {P:Program} {cx:Cx} {r:Operand→Option Value} {fz:FZ} {H:HP} {V:Value→Prop} {dst:Option Nat} {ty:TypeId} {pos:String} {af:Array Edge} {gd:Option (Nat × Bool)}
variable {A:Option Addr} {X Y:Ty} {c j n:Nat} {t:TypeId} {x:Operand}
theorem Yip (T:Tab P) {e:TypeId} {i:Operand} (hT:T.inf t=some X) (hd:X.desc=.slice e) (hY:T.inf e=some Y)
 (hx:r x=some (.slice A n c)) (hi:r i=some (.int .i64 j)) (hj:j≤c) (h:V (.slice A j c)):DoesQ P cx ⟨dst,.slice t x none (some i) none,ty,pos,af,gd⟩ r fz H V:=
 YN (fun ρ w hr=>by
  have hu:=run_underlying (und_plain T hT hd rfl) w
  have hs:=Lx.run_sizeOf T hY w
  simp [execOp,hr _ _ hx,hr _ _ hi,Instr.sliceAt,Instr.slice,Instr.sliceBounds,Instr.sliceBound,asIntOf,hu,hs,hj]
  intro _
  cases A<;>simp [Addr.add]) h
theorem Does.freeze {o:Oper} {H1 H2:HP} {K:Value→FZ→HP→Prop} (hp:H.Perm (H1++H2)) (h:∀ fz',Le fz fz'→(∀ p∈H2,fz' p.1=some p.2)→Does P cx o r fz' H1 K):Does P cx o r fz H K:=
 Does.of fun ρ w hr hi=>by
  obtain ⟨fz',a,b,c⟩:=XM H2 fz H1 (hi.perm hp.symm)
  exact (h fz' a b).run ρ w hr c
end
variable {A:Option Addr} {c k n:Nat}
theorem Ymh {α:Type} {L:Lay α} {xs:List α} (h:Sl L fz A n c xs) (hk:k≤n):Sl L fz A k c (xs.take k):=by
 have:=h.len
 have:=h.cap
 have:=h.short
 refine ⟨by simp;omega,by omega,h.max,by omega,?_⟩
 rcases h.elem with h0 | ⟨ad,h1,h2⟩
 ·exact .inl Zi
 ·refine .inr ⟨ad,h1,fun i d hd=>h2 i d ?_⟩
  rw [List.getElem?_take] at hd
  split at hd
  ·exact hd
  ·cases hd
theorem mW_take (l:List Formula) (k:Nat):((l.take k).map mW).sum≤(l.map mW).sum:=by
 have h:(l.map mW).sum=((l.take k).map mW).sum+((l.drop k).map mW).sum:=by rw [← List.sum_append,← List.map_append,List.take_append_drop]
 omega
def notF (k:Formula):Formula:=.mk kNot ⟨#[]⟩ [] [] [] [k]
def orF (l:List Formula):Formula:=.mk kOr ⟨#[]⟩ [] [] [] l
set_option maxHeartbeats 16000000 in
theorem YfA:∀ (s:Nat) {fz:FZ} {f:Formula} {va vp ve vk:Value} {sg:Bool},mW f≤s→FormulaR fz f va vp ve vk→NSh f→mW f≤1000000000→
 GFn prog 158 [.agg #[.string f.op,.string f.name,va,vp,ve,vk],.bool sg] fz [] (fun v fz' H'=>H'=[]∧FormulaV fz' (normM sg f) v)
 | 0,_,f,_,_,_,_,_,hse,_,_,_=>by have:=Yjl f;omega
 | s+1,fz,f,va,vp,ve,vk,sg,hse,hR,hS,hB=>by
  have hR0:=hR
  obtain ⟨B1,m1,d1,rfl,ia⟩:=hR.args
  obtain ⟨B2,m2,d2,rfl,ip⟩:=hR.params
  obtain ⟨B3,m3,d3,rfl,ie⟩:=hR.exprs
  obtain ⟨B4,m4,d4,rfl,ik⟩:=hR.kids
  have l2:=ip.len
  have l3:=ie.len
  have l4:=ik.len
  have hwe:=Yca f
  have hm:=Ykj f
  have hkl:=Wx Yjl f.kids
  have hk3:∀ k∈f.kids,mW k+3≤mW f:=fun k hk=>by
   have:=Xz (w:=mW) hk
   rw [hm];split<;>omega
  have hkd:f.kids≠ []→∃ k,f.kids[0]?=some k:=fun h=>by
   cases hk:f.kids with
   | nil=>exact absurd hk h
   | cons k r=>exact ⟨k,rfl⟩
  refine zF Tryz.func158 Tryz.ntmps158 (fun w0=>?_)
  refine Yp ?_
  refine zWX ?_;intros
  rename_i g2 g4
  refine Yp ?_
  refine zWX ?_;intros
  refine Yp (Wp.mid (fun σ fz' H'=>∃ op':Bs,σ=[(5,.string op'),(4,.pointer (some ⟨g4,0,none⟩)),(2,.pointer (some ⟨g2,0,none⟩)),(1,.bool sg)]∧fz=fz'∧H'=[(g4,.cells #[.string ⟨#[]⟩,.string ⟨#[]⟩,.slice none 0 0,.slice none 0 0,.slice none 0 0,.slice none 0 0] 29 (0,0)),(g2,.cells #[.string f.op,.string f.name,.slice B1 m1 d1,.slice B2 m2 d2,.slice B3 m3 d3,.slice B4 m4 d4] 29 (0,0))]∧normM sg f=joinF op' (f.kids.map (normM sg))∧op'.size≤10) ?_ ?_)
  ·by_cases w1:f.op=kNot
   ·obtain ⟨x,hx⟩:=hkd (hS.head (.inl w1))
    have hxm:=Zm hx
    have hx3:=hk3 x hxm
    have hl0:0<m4:=by rw [← l4];exact (Zg hx).1
    have eN:normM sg f=normM (!sg) x:=by rw [Wk,if_pos w1,YeJ hx]
    refine zW ?_;intros
    refine zI ik hx (fun p1 hp1=>?_)
    refine zL hp1 ?_
    intro cs hcs
    obtain ⟨wa,wp,we,wk,rfl,hRx⟩:=YM hcs
    obtain ⟨E1,r1,q1,rfl,_⟩:=hRx.args
    obtain ⟨E2,r2,q2,rfl,_⟩:=hRx.params
    obtain ⟨E3,r3,q3,rfl,_⟩:=hRx.exprs
    obtain ⟨E4,r4,q4,rfl,_⟩:=hRx.kids
    refine zW ?_;intros
    refine Yb Zz (Yl [] [_,_] Zz Zz Zz (YfA s Zi hRx (hS.kid hxm) Zi) (fun v5 fz5 H5 hle5 hR5=>?_))
    obtain ⟨rfl,hV5⟩:=hR5
    obtain ⟨C1,s1,t1,C2,s2,t2,C3,s3,t3,C4,s4,t4,rfl,hF5⟩:=hV5.open
    refine zW ?_;intros
    refine Y1 T (i:=0) rfl Zz Zz Zz Zz Zz (fun fz3 hle3 hf3=>⟨rfl,?_⟩)
    rw [eN]
    exact ⟨_,_,_,_,rfl,hF5.mono hle3⟩
   ·by_cases w2:f.op=kImply
    ·have h2:=hS.two w2
     obtain ⟨x0,hx0⟩:=Yg (l:=f.kids) (k:=0) Zi
     obtain ⟨x1,hx1⟩:=Yg (l:=f.kids) (k:=1) Zi
     have hm0:=Zm hx0
     have hm1:=Zm hx1
     have hl1:1<m4:=by omega
     have hcp:=ik.cap
     have hsum:mW x0+mW x1≤(f.kids.map mW).sum:=by
      cases hk:f.kids with
      | nil=>rw [hk] at hx0;simp at hx0
      | cons a r=>
       cases hr:r with
       | nil=>rw [hk,hr] at hx1;simp at hx1
       | cons b r'=>
        rw [hk] at hx0;rw [hk,hr] at hx1
        simp at hx0 hx1
        subst hx0 hx1
        simp only [List.map_cons,List.sum_cons];omega
     rw [if_pos w2] at hm
     have mN:mW (notF x0)=3+mW x0:=by
      rw [Ykj,if_neg (by show ¬kNot=kImply;decide+kernel)];show 3+(mW x0+0)=_;omega
     have mO:mW (orF [notF x0,x1])=6+mW x0+mW x1:=by
      rw [Ykj,if_neg (by show ¬kOr=kImply;decide+kernel)];show 3+(mW (notF x0)+(mW x1+0))=_;omega
     have hSN:NSh (notF x0):=.mk (fun _=>by show [x0]≠ [];simp) (fun h=>absurd h (by show ¬kNot=kImply;decide+kernel)) (fun h=>absurd h (by show ¬(kNot=kLt∨kNot=kLe∨kNot=kEq);decide+kernel)) (fun _ h=>absurd rfl h) (by intro k hk;rw [List.mem_singleton.1 hk];exact hS.kid hm0)
     have hSO:NSh (orF [notF x0,x1]):=.mk (fun h=>absurd h (by show ¬(kOr=kNot∨kOr=kForall∨kOr=kExists);decide+kernel)) (fun h=>absurd h (by show ¬kOr=kImply;decide+kernel)) (fun h=>absurd h (by show ¬(kOr=kLt∨kOr=kLe∨kOr=kEq);decide+kernel)) (fun h=>absurd rfl h) (by
      intro k hk
      rcases List.mem_cons.1 hk with rfl | hk
      ·exact hSN
      ·rw [List.mem_singleton.1 hk];exact hS.kid hm1)
     have eN:normM sg f=normM sg (orF [notF x0,x1]):=by
      have a1:¬kOr=kNot:=by decide+kernel
      have a2:¬kOr=kImply:=by decide+kernel
      have a3:¬kOr=kAnd:=by decide+kernel
      have a4:normM sg (notF x0)=normM (!sg) x0:=by rw [Wk,if_pos (show (notF x0).op=kNot from rfl)];rfl
      have b1:normM sg (orF [notF x0,x1])=joinF (if sg=true then kOr else kAnd) ((orF [notF x0,x1]).kids.map (normM sg)):=by
       rw [Wk,if_neg (show ¬(orF _).op=kNot from a1),if_neg (show ¬(orF _).op=kImply from a2),if_neg (show ¬(orF _).op=kAnd from a3),if_pos (show (orF _).op=kOr from rfl)]
      rw [b1,Wk,if_neg w1,if_pos w2,YeJ hx0,secN_map hx1]
      show _=joinF _ [normM sg (notF x0),normM sg x1]
      rw [a4]
     refine zWN ?_;intros
     refine Wp.drawK (Hq:=[_,_]) T.mixed Zj Zj Zb ?_
     refine zW ?_;intros
     refine zG ?_;refine Yip (j:=1) T Zz Zz Zz Zz Zz Zi ?_
     refine zW ?_;intros
     refine zI ik hx1 (fun p1 hp1=>?_)
     refine zL hp1 ?_
     intro cs hcs
     obtain ⟨wa,wp,we,wk,rfl,hRx⟩:=YM hcs
     obtain ⟨E1,r1,q1,rfl,_⟩:=hRx.args
     obtain ⟨E2,r2,q2,rfl,_⟩:=hRx.params
     obtain ⟨E3,r3,q3,rfl,_⟩:=hRx.exprs
     obtain ⟨E4,r4,q4,rfl,_⟩:=hRx.kids
     refine Ye ?_
     refine Ye ?_
     refine zW ?_;intros
     refine Ye ?_
     refine Ye ?_
     refine YD ⟨by kernel_rfl,?_⟩
     refine Yj (Yc T (cs:=[.string kNot,.string ⟨#[]⟩,.slice none 0 0,.slice none 0 0,.slice none 0 0,.slice B4 1 d4,.string x1.op,.string x1.name,.slice E1 r1 q1,.slice E2 r2 q2,.slice E3 r3 q3,.slice E4 r4 q4]) Zz Zz Zz Zz Zz Zz Zz Zz (fun gb=>⟨(⟨(Le.refl _),Zx⟩),?_⟩))
     refine Ch.qk (⟨(Le.refl _),Zx⟩) (YS T Zz Zz Zz Zz Zz ?_)
     refine Yj (Does.freeze (H1:=[_,_]) (H2:=[_]) (Zq (l₁:=[_])) (fun fz4 hle4 hf4=>?_))
     have hgb:Grow formulaL 29 fz (.slice (some ⟨gb,0,none⟩) 2 2) 2 [(gb,.cells #[.string kNot,.string ⟨#[]⟩,.slice none 0 0,.slice none 0 0,.slice none 0 0,.slice B4 1 d4,.string x1.op,.string x1.name,.slice E1 r1 q1,.slice E2 r2 q2,.slice E3 r3 q3,.slice E4 r4 q4] 29 (0,0))] [notF x0,x1]:=
      Grow.block (ys:=[(notF x0,_),(x1,_)]) rfl rfl (by
       intro p hp
       simp at hp
       have e1:f.kids.take 1=[x0]:=by rw [List.take_add_one,hx0];rfl
       have hs1:=Ymh ik (k:=1) Zi
       rw [e1] at hs1
       rcases hp with rfl | rfl
       ·exact YX (x:=notF x0) ⟨(by show kNot.size≤_;decide+kernel),Z0 _,IsSl.nil,IsSl.nil,IsSl.nil,hs1.is⟩
       ·exact YX hRx) rfl Zh
     obtain ⟨B6,d6,e6,hS6⟩:=hgb.sl hle4 hf4 Zh
     injection e6 with e61 e62 e63
     subst e61;subst e63
     have hRO:FormulaR fz4 (orF [notF x0,x1]) (.slice none 0 0) (.slice none 0 0) (.slice none 0 0) (.slice (some ⟨gb,0,none⟩) 2 2):=⟨(by show kOr.size≤_;decide+kernel),Z0 _,IsSl.nil,IsSl.nil,IsSl.nil,hS6.is⟩
     refine Yl [] [_,_] Zz Zz Zz (YfA s Zi hRO hSO Zi) (fun v5 fz5 H5 hle5 hR5=>⟨(⟨(hle4.trans hle5),Zx⟩),?_⟩)
     obtain ⟨rfl,hV5⟩:=hR5
     obtain ⟨C1,s1,t1,C2,s2,t2,C3,s3,t3,C4,s4,t4,rfl,hF5⟩:=hV5.open
     refine Ch.hard0 Zj (Yy T Zz Zz Zz Zz Zz Zz ?_)
     refine Ch.done ?_
     refine zW ?_;intros
     refine Y1 T (i:=0) rfl Zz Zz Zz Zz Zz (fun fz3 hle3 hf3=>⟨rfl,?_⟩)
     rw [eN]
     exact ⟨_,_,_,_,rfl,hF5.mono hle3⟩
    ·by_cases w3:f.op=kAnd
     ·refine zW ?_;intros
      refine zc (YfK (a:=kAnd) (b:=kOr) (s:=sg)) ?_
      refine zW ?_;intros
      exact midN ⟨_,rfl,rfl,rfl,by rw [Wk,if_neg w1,if_neg w2,if_pos w3],by split<;>decide+kernel⟩ Zw Zb
     ·by_cases w4:f.op=kOr
      ·refine zW ?_;intros
       refine zc (YfK (a:=kOr) (b:=kAnd) (s:=sg)) ?_
       refine zW ?_;intros
       exact midN ⟨_,rfl,rfl,rfl,by rw [Wk,if_neg w1,if_neg w2,if_neg w3,if_pos w4],by split<;>decide+kernel⟩ Zw Zb
      ·have hfw:=hS.w w4 w1
       by_cases hq:QuF f.op
       ·obtain ⟨x,hx⟩:=hkd (hS.head (.inr hq))
        have hxm:=Zm hx
        have hx3:=hk3 x hxm
        have hl0:0<m4:=by rw [← l4];exact (Zg hx).1
        have eN:normM sg f=.mk (if sg=true then f.op else if f.op=kForall then kExists else kForall) ⟨#[]⟩ [] f.params [] [normM sg x]:=by rw [Wk,if_neg w1,if_neg w2,if_neg w3,if_neg w4,if_pos hq,YeJ hx]
        rcases hq with w5 | w5
        ·rw [if_pos w5] at eN
         refine zW ?_;intros
         refine zc (YfK (a:=kExists) (b:=kForall) (s:=true)) ?_
         refine zW ?_;intros
         refine zc (YfK (a:=f.op) (b:=kExists) (s:=sg)) ?_
         refine zWN ?_;intros
         refine Wp.drawK (Hq:=[_,_]) T.mixed Zj Zj Zb ?_
         refine zW ?_;intros
         refine Ye ?_
         refine zW ?_;intros
         refine zI ik hx (fun p1 hp1=>?_)
         refine zL hp1 ?_
         intro cs hcs
         obtain ⟨wa,wp,we,wk,rfl,hRx⟩:=YM hcs
         obtain ⟨E1,r1,q1,rfl,_⟩:=hRx.args
         obtain ⟨E2,r2,q2,rfl,_⟩:=hRx.params
         obtain ⟨E3,r3,q3,rfl,_⟩:=hRx.exprs
         obtain ⟨E4,r4,q4,rfl,_⟩:=hRx.kids
         refine zW ?_;intros
         refine Ye ?_
         refine Ye ?_
         refine Ye ?_
         refine Ye ?_
         refine YD ⟨by kernel_rfl,?_⟩
         refine Yj (Yl [] [_,_] Zz Zz Zz (YaD ip Zi) (fun v6 fz6 H6 hle6 hR6=>⟨(⟨hle6,Zx⟩),?_⟩))
         obtain ⟨A6,c6,rfl,_,_⟩:=hR6.form
         refine Yj (Yl [] (H6++ [_,_]) Zz Zz Zz (YfA s Zi (hRx.mono hle6) (hS.kid hxm) Zi) (fun v5 fz5 H5 hle5 hR5=>⟨(⟨(hle6.trans hle5),Zx⟩),?_⟩))
         obtain ⟨rfl,hV5⟩:=hR5
         obtain ⟨C1,s1,t1,C2,s2,t2,C3,s3,t3,C4,s4,t4,rfl,hF5⟩:=hV5.open
         refine Yj (Yc T (cs:=[.string (normM sg x).op,.string (normM sg x).name,.slice C1 s1 t1,.slice C2 s2 t2,.slice C3 s3 t3,.slice C4 s4 t4]) Zz Zz Zz Zz Zz Zz Zz Zz (fun gb=>⟨(⟨(hle6.trans hle5),Zx⟩),?_⟩))
         refine Ch.qk (⟨(hle6.trans hle5),Zx⟩) (YS T Zz Zz Zz Zz Zz ?_)
         refine Ch.hard0 Zj (Does.perm (H':=_::_::_::H6) (Zq (l₁:=[_,_]) (l₂:=_::H6)) (Yy T Zz Zz Zz Zz Zz Zz ?_))
         refine Ch.done ?_
         refine zW ?_;intros
         refine Y1 T (i:=0) rfl Zz Zz Zz Zz Zz (fun fz3 hle3 hf3=>⟨rfl,?_⟩)
         have hgb:Grow formulaL 29 fz5 (.slice (some ⟨gb,0,none⟩) 1 1) 1 [(gb,.cells #[.string (normM sg x).op,.string (normM sg x).name,.slice C1 s1 t1,.slice C2 s2 t2,.slice C3 s3 t3,.slice C4 s4 t4] 29 (0,0))] [normM sg x]:=
          Grow.block (ys:=[(normM sg x,_)]) rfl rfl (by intro p hp;simp at hp;subst hp;exact YX hF5) rfl Zh
         obtain ⟨B7,d7,e7,hS7⟩:=hgb.sl hle3 (fun p hp=>hf3 p (by simp at hp;subst hp;simp)) Zh
         obtain ⟨B8,d8,e8,hS8⟩:=hR6.sl (hle5.trans hle3) (fun p hp=>hf3 p (by simp [hp])) Zi
         rw [eN]
         refine ⟨_,_,_,_,rfl,⟨?_,Z0 _,IsSl.nil,⟨B8,_,d8,e8,hS8⟩,IsSl.nil,⟨B7,_,d7,e7,hS7⟩⟩⟩
         show Short (if sg=true then f.op else kExists)
         split
         ·exact hR.op
         ·show ByteArray.size _≤_
          decide+kernel
        ·have w6:¬f.op=kForall:=by rw [w5];decide+kernel
         rw [if_neg w6] at eN
         refine zW ?_;intros
         refine zc (YfK (a:=kExists) (b:=kForall) (s:=false)) ?_
         refine zW ?_;intros
         refine zc (YfK (a:=f.op) (b:=kForall) (s:=sg)) ?_
         refine zWN ?_;intros
         refine Wp.drawK (Hq:=[_,_]) T.mixed Zj Zj Zb ?_
         refine zW ?_;intros
         refine Ye ?_
         refine zW ?_;intros
         refine zI ik hx (fun p1 hp1=>?_)
         refine zL hp1 ?_
         intro cs hcs
         obtain ⟨wa,wp,we,wk,rfl,hRx⟩:=YM hcs
         obtain ⟨E1,r1,q1,rfl,_⟩:=hRx.args
         obtain ⟨E2,r2,q2,rfl,_⟩:=hRx.params
         obtain ⟨E3,r3,q3,rfl,_⟩:=hRx.exprs
         obtain ⟨E4,r4,q4,rfl,_⟩:=hRx.kids
         refine zW ?_;intros
         refine Ye ?_
         refine Ye ?_
         refine Ye ?_
         refine Ye ?_
         refine YD ⟨by kernel_rfl,?_⟩
         refine Yj (Yl [] [_,_] Zz Zz Zz (YaD ip Zi) (fun v6 fz6 H6 hle6 hR6=>⟨(⟨hle6,Zx⟩),?_⟩))
         obtain ⟨A6,c6,rfl,_,_⟩:=hR6.form
         refine Yj (Yl [] (H6++ [_,_]) Zz Zz Zz (YfA s Zi (hRx.mono hle6) (hS.kid hxm) Zi) (fun v5 fz5 H5 hle5 hR5=>⟨(⟨(hle6.trans hle5),Zx⟩),?_⟩))
         obtain ⟨rfl,hV5⟩:=hR5
         obtain ⟨C1,s1,t1,C2,s2,t2,C3,s3,t3,C4,s4,t4,rfl,hF5⟩:=hV5.open
         refine Yj (Yc T (cs:=[.string (normM sg x).op,.string (normM sg x).name,.slice C1 s1 t1,.slice C2 s2 t2,.slice C3 s3 t3,.slice C4 s4 t4]) Zz Zz Zz Zz Zz Zz Zz Zz (fun gb=>⟨(⟨(hle6.trans hle5),Zx⟩),?_⟩))
         refine Ch.qk (⟨(hle6.trans hle5),Zx⟩) (YS T Zz Zz Zz Zz Zz ?_)
         refine Ch.hard0 Zj (Does.perm (H':=_::_::_::H6) (Zq (l₁:=[_,_]) (l₂:=_::H6)) (Yy T Zz Zz Zz Zz Zz Zz ?_))
         refine Ch.done ?_
         refine zW ?_;intros
         refine Y1 T (i:=0) rfl Zz Zz Zz Zz Zz (fun fz3 hle3 hf3=>⟨rfl,?_⟩)
         have hgb:Grow formulaL 29 fz5 (.slice (some ⟨gb,0,none⟩) 1 1) 1 [(gb,.cells #[.string (normM sg x).op,.string (normM sg x).name,.slice C1 s1 t1,.slice C2 s2 t2,.slice C3 s3 t3,.slice C4 s4 t4] 29 (0,0))] [normM sg x]:=
          Grow.block (ys:=[(normM sg x,_)]) rfl rfl (by intro p hp;simp at hp;subst hp;exact YX hF5) rfl Zh
         obtain ⟨B7,d7,e7,hS7⟩:=hgb.sl hle3 (fun p hp=>hf3 p (by simp at hp;subst hp;simp)) Zh
         obtain ⟨B8,d8,e8,hS8⟩:=hR6.sl (hle5.trans hle3) (fun p hp=>hf3 p (by simp [hp])) Zi
         rw [eN]
         refine ⟨_,_,_,_,rfl,⟨?_,Z0 _,IsSl.nil,⟨B8,_,d8,e8,hS8⟩,IsSl.nil,⟨B7,_,d7,e7,hS7⟩⟩⟩
         show Short (if sg=true then f.op else kForall)
         split
         ·exact hR.op
         ·show ByteArray.size _≤_
          decide+kernel
       ·have w5:¬f.op=kForall:=fun h=>hq (.inl h)
        have w6:¬f.op=kExists:=fun h=>hq (.inr h)
        have eN:normM sg f=if f.op=kLt then (if sg=true then cmpF kLt (exprAt f.exprs 0) (exprAt f.exprs 1) else cmpF kLe (exprAt f.exprs 1) (exprAt f.exprs 0))
         else if f.op=kLe then (if sg=true then cmpF kLe (exprAt f.exprs 0) (exprAt f.exprs 1) else cmpF kLt (exprAt f.exprs 1) (exprAt f.exprs 0))
         else if f.op=kEq then (if sg=true then cmpF kEq (exprAt f.exprs 0) (exprAt f.exprs 1) else .mk kOr ⟨#[]⟩ [] [] [] [cmpF kLt (exprAt f.exprs 0) (exprAt f.exprs 1),cmpF kLt (exprAt f.exprs 1) (exprAt f.exprs 0)])
         else if sg=true then f else .mk kNot ⟨#[]⟩ [] [] [] [f]:=by rw [Wk,if_neg w1,if_neg w2,if_neg w3,if_neg w4,if_neg hq]
        have hxw:∀ e∈f.exprs,eW e≤1000000000:=fun e he=>by have:=Xz (w:=eW) he;omega
        by_cases hc:f.op=kLt∨f.op=kLe∨f.op=kEq
        ·have h2:=hS.cmp hc
         obtain ⟨x0,hx0⟩:=Yg (l:=f.exprs) (k:=0) Zi
         obtain ⟨x1,hx1⟩:=Yg (l:=f.exprs) (k:=1) Zi
         have hl0:0<m3:=by omega
         have hl1:1<m3:=by omega
         have y0:exprAt f.exprs 0=x0:=by unfold exprAt;rw [hx0];rfl
         have y1:exprAt f.exprs 1=x1:=by unfold exprAt;rw [hx1];rfl
         rw [y0,y1] at eN
         by_cases w7:f.op=kLt
         ·rw [if_pos w7] at eN
          cases sg with
          | true=>
           rw [if_pos rfl] at eN
           refine zW ?_;intros
           refine zWN ?_;intros
           refine Wp.drawK (Hq:=[_,_]) T.mixed Zj Zj Zb ?_
           refine zW ?_;intros
           refine zI ie hx0 (fun p0 hp0=>?_)
           refine zL hp0 ?_
           intro cs0 hcs0
           obtain ⟨ea0,ek0,rfl,hX0⟩:=YP hcs0
           obtain ⟨G0,ga0,gb0,rfl,_⟩:=hX0.args
           obtain ⟨J0,ja0,jb0,rfl,_⟩:=hX0.kids
           refine zW ?_;intros
           refine zI ie hx1 (fun p1 hp1=>?_)
           refine zL hp1 ?_
           intro cs1 hcs1
           obtain ⟨ea1,ek1,rfl,hX1⟩:=YP hcs1
           obtain ⟨G1,ga1,gb1,rfl,_⟩:=hX1.args
           obtain ⟨J1,ja1,jb1,rfl,_⟩:=hX1.kids
           refine Ye ?_
           refine Ye ?_
           refine YD ⟨by kernel_rfl,?_⟩
           refine Yj (Yl [] [_,_] Zz Zz Zz (YeA (op:=kLt) (by show ByteArray.size _≤_;decide+kernel) hX0 hX1 (hxw _ (Zm hx0)) (hxw _ (Zm hx1))) (fun v5 fz5 H5 hle5 hR5=>⟨(⟨hle5,Zx⟩),?_⟩))
           obtain ⟨rfl,hV5⟩:=hR5
           obtain ⟨C1,s1,t1,C2,s2,t2,C3,s3,t3,C4,s4,t4,rfl,hF5⟩:=hV5.open
           refine Ch.hard0 Zj (Yy T Zz Zz Zz Zz Zz Zz ?_)
           refine Ch.done ?_
           refine zW ?_;intros
           refine Y1 T (i:=0) rfl Zz Zz Zz Zz Zz (fun fz3 hle3 hf3=>⟨rfl,?_⟩)
           rw [eN]
           exact ⟨_,_,_,_,rfl,hF5.mono hle3⟩
          | false=>
           rw [if_neg Zh] at eN
           refine zW ?_;intros
           refine zWN ?_;intros
           refine Wp.drawK (Hq:=[_,_]) T.mixed Zj Zj Zb ?_
           refine zW ?_;intros
           refine zI ie hx1 (fun p1 hp1=>?_)
           refine zL hp1 ?_
           intro cs1 hcs1
           obtain ⟨ea1,ek1,rfl,hX1⟩:=YP hcs1
           obtain ⟨G1,ga1,gb1,rfl,_⟩:=hX1.args
           obtain ⟨J1,ja1,jb1,rfl,_⟩:=hX1.kids
           refine zW ?_;intros
           refine zI ie hx0 (fun p0 hp0=>?_)
           refine zL hp0 ?_
           intro cs0 hcs0
           obtain ⟨ea0,ek0,rfl,hX0⟩:=YP hcs0
           obtain ⟨G0,ga0,gb0,rfl,_⟩:=hX0.args
           obtain ⟨J0,ja0,jb0,rfl,_⟩:=hX0.kids
           refine Ye ?_
           refine Ye ?_
           refine YD ⟨by kernel_rfl,?_⟩
           refine Yj (Yl [] [_,_] Zz Zz Zz (YeA (op:=kLe) (by show ByteArray.size _≤_;decide+kernel) hX1 hX0 (hxw _ (Zm hx1)) (hxw _ (Zm hx0))) (fun v5 fz5 H5 hle5 hR5=>⟨(⟨hle5,Zx⟩),?_⟩))
           obtain ⟨rfl,hV5⟩:=hR5
           obtain ⟨C1,s1,t1,C2,s2,t2,C3,s3,t3,C4,s4,t4,rfl,hF5⟩:=hV5.open
           refine Ch.hard0 Zj (Yy T Zz Zz Zz Zz Zz Zz ?_)
           refine Ch.done ?_
           refine zW ?_;intros
           refine Y1 T (i:=0) rfl Zz Zz Zz Zz Zz (fun fz3 hle3 hf3=>⟨rfl,?_⟩)
           rw [eN]
           exact ⟨_,_,_,_,rfl,hF5.mono hle3⟩
         ·rw [if_neg w7] at eN
          by_cases w8:f.op=kLe
          ·rw [if_pos w8] at eN
           cases sg with
           | true=>
            rw [if_pos rfl] at eN
            refine zW ?_;intros
            refine zWN ?_;intros
            refine Wp.drawK (Hq:=[_,_]) T.mixed Zj Zj Zb ?_
            refine zW ?_;intros
            refine zI ie hx0 (fun p0 hp0=>?_)
            refine zL hp0 ?_
            intro cs0 hcs0
            obtain ⟨ea0,ek0,rfl,hX0⟩:=YP hcs0
            obtain ⟨G0,ga0,gb0,rfl,_⟩:=hX0.args
            obtain ⟨J0,ja0,jb0,rfl,_⟩:=hX0.kids
            refine zW ?_;intros
            refine zI ie hx1 (fun p1 hp1=>?_)
            refine zL hp1 ?_
            intro cs1 hcs1
            obtain ⟨ea1,ek1,rfl,hX1⟩:=YP hcs1
            obtain ⟨G1,ga1,gb1,rfl,_⟩:=hX1.args
            obtain ⟨J1,ja1,jb1,rfl,_⟩:=hX1.kids
            refine Ye ?_
            refine Ye ?_
            refine YD ⟨by kernel_rfl,?_⟩
            refine Yj (Yl [] [_,_] Zz Zz Zz (YeA (op:=kLe) (by show ByteArray.size _≤_;decide+kernel) hX0 hX1 (hxw _ (Zm hx0)) (hxw _ (Zm hx1))) (fun v5 fz5 H5 hle5 hR5=>⟨(⟨hle5,Zx⟩),?_⟩))
            obtain ⟨rfl,hV5⟩:=hR5
            obtain ⟨C1,s1,t1,C2,s2,t2,C3,s3,t3,C4,s4,t4,rfl,hF5⟩:=hV5.open
            refine Ch.hard0 Zj (Yy T Zz Zz Zz Zz Zz Zz ?_)
            refine Ch.done ?_
            refine zW ?_;intros
            refine Y1 T (i:=0) rfl Zz Zz Zz Zz Zz (fun fz3 hle3 hf3=>⟨rfl,?_⟩)
            rw [eN]
            exact ⟨_,_,_,_,rfl,hF5.mono hle3⟩
           | false=>
            rw [if_neg Zh] at eN
            refine zW ?_;intros
            refine zWN ?_;intros
            refine Wp.drawK (Hq:=[_,_]) T.mixed Zj Zj Zb ?_
            refine zW ?_;intros
            refine zI ie hx1 (fun p1 hp1=>?_)
            refine zL hp1 ?_
            intro cs1 hcs1
            obtain ⟨ea1,ek1,rfl,hX1⟩:=YP hcs1
            obtain ⟨G1,ga1,gb1,rfl,_⟩:=hX1.args
            obtain ⟨J1,ja1,jb1,rfl,_⟩:=hX1.kids
            refine zW ?_;intros
            refine zI ie hx0 (fun p0 hp0=>?_)
            refine zL hp0 ?_
            intro cs0 hcs0
            obtain ⟨ea0,ek0,rfl,hX0⟩:=YP hcs0
            obtain ⟨G0,ga0,gb0,rfl,_⟩:=hX0.args
            obtain ⟨J0,ja0,jb0,rfl,_⟩:=hX0.kids
            refine Ye ?_
            refine Ye ?_
            refine YD ⟨by kernel_rfl,?_⟩
            refine Yj (Yl [] [_,_] Zz Zz Zz (YeA (op:=kLt) (by show ByteArray.size _≤_;decide+kernel) hX1 hX0 (hxw _ (Zm hx1)) (hxw _ (Zm hx0))) (fun v5 fz5 H5 hle5 hR5=>⟨(⟨hle5,Zx⟩),?_⟩))
            obtain ⟨rfl,hV5⟩:=hR5
            obtain ⟨C1,s1,t1,C2,s2,t2,C3,s3,t3,C4,s4,t4,rfl,hF5⟩:=hV5.open
            refine Ch.hard0 Zj (Yy T Zz Zz Zz Zz Zz Zz ?_)
            refine Ch.done ?_
            refine zW ?_;intros
            refine Y1 T (i:=0) rfl Zz Zz Zz Zz Zz (fun fz3 hle3 hf3=>⟨rfl,?_⟩)
            rw [eN]
            exact ⟨_,_,_,_,rfl,hF5.mono hle3⟩
          ·have w9:f.op=kEq:=(hc.resolve_left w7).resolve_left w8
           rw [if_neg w8,if_pos w9] at eN
           cases sg with
           | true=>
            rw [if_pos rfl] at eN
            refine zW ?_;intros
            refine zWN ?_;intros
            refine Wp.drawK (Hq:=[_,_]) T.mixed Zj Zj Zb ?_
            refine zW ?_;intros
            refine zI ie hx0 (fun p0 hp0=>?_)
            refine zL hp0 ?_
            intro cs0 hcs0
            obtain ⟨ea0,ek0,rfl,hX0⟩:=YP hcs0
            obtain ⟨G0,ga0,gb0,rfl,_⟩:=hX0.args
            obtain ⟨J0,ja0,jb0,rfl,_⟩:=hX0.kids
            refine zW ?_;intros
            refine zI ie hx1 (fun p1 hp1=>?_)
            refine zL hp1 ?_
            intro cs1 hcs1
            obtain ⟨ea1,ek1,rfl,hX1⟩:=YP hcs1
            obtain ⟨G1,ga1,gb1,rfl,_⟩:=hX1.args
            obtain ⟨J1,ja1,jb1,rfl,_⟩:=hX1.kids
            refine Ye ?_
            refine Ye ?_
            refine YD ⟨by kernel_rfl,?_⟩
            refine Yj (Yl [] [_,_] Zz Zz Zz (YeA (op:=kEq) (by show ByteArray.size _≤_;decide+kernel) hX0 hX1 (hxw _ (Zm hx0)) (hxw _ (Zm hx1))) (fun v5 fz5 H5 hle5 hR5=>⟨(⟨hle5,Zx⟩),?_⟩))
            obtain ⟨rfl,hV5⟩:=hR5
            obtain ⟨C1,s1,t1,C2,s2,t2,C3,s3,t3,C4,s4,t4,rfl,hF5⟩:=hV5.open
            refine Ch.hard0 Zj (Yy T Zz Zz Zz Zz Zz Zz ?_)
            refine Ch.done ?_
            refine zW ?_;intros
            refine Y1 T (i:=0) rfl Zz Zz Zz Zz Zz (fun fz3 hle3 hf3=>⟨rfl,?_⟩)
            rw [eN]
            exact ⟨_,_,_,_,rfl,hF5.mono hle3⟩
           | false=>
            refine zW ?_;intros
            refine zWN ?_;intros
            refine Wp.drawK (Hq:=[_,_]) T.mixed Zj Zj Zb ?_
            refine zW ?_;intros
            refine zI ie hx0 (fun p0 hp0=>?_)
            refine zL hp0 ?_
            intro cs0 hcs0
            obtain ⟨ea0,ek0,rfl,hX0⟩:=YP hcs0
            obtain ⟨G0,ga0,gb0,rfl,_⟩:=hX0.args
            obtain ⟨J0,ja0,jb0,rfl,_⟩:=hX0.kids
            refine zW ?_;intros
            refine zI ie hx1 (fun p1 hp1=>?_)
            refine zL hp1 ?_
            intro cs1 hcs1
            obtain ⟨ea1,ek1,rfl,hX1⟩:=YP hcs1
            obtain ⟨G1,ga1,gb1,rfl,_⟩:=hX1.args
            obtain ⟨J1,ja1,jb1,rfl,_⟩:=hX1.kids
            refine Ye ?_
            refine zW ?_;intros
            refine zI ie hx1 (fun p1b hp1b=>?_)
            refine zL hp1b ?_
            intro cs1b hcs1b
            obtain ⟨ea1b,ek1b,rfl,hX1b⟩:=YP hcs1b
            obtain ⟨G1b,ga1b,gb1b,rfl,_⟩:=hX1b.args
            obtain ⟨J1b,ja1b,jb1b,rfl,_⟩:=hX1b.kids
            refine zW ?_;intros
            refine zI ie hx0 (fun p0b hp0b=>?_)
            refine zL hp0b ?_
            intro cs0b hcs0b
            obtain ⟨ea0b,ek0b,rfl,hX0b⟩:=YP hcs0b
            obtain ⟨G0b,ga0b,gb0b,rfl,_⟩:=hX0b.args
            obtain ⟨J0b,ja0b,jb0b,rfl,_⟩:=hX0b.kids
            refine Ye ?_
            refine Ye ?_
            refine Ye ?_
            refine Ye ?_
            refine YD ⟨by kernel_rfl,?_⟩
            refine Yj (Yl [] [_,_] Zz Zz Zz (YeA (op:=kLt) (by show ByteArray.size _≤_;decide+kernel) hX0 hX1 (hxw _ (Zm hx0)) (hxw _ (Zm hx1))) (fun v5 fz5 H5 hle5 hR5=>⟨(⟨hle5,Zx⟩),?_⟩))
            obtain ⟨rfl,hV5⟩:=hR5
            obtain ⟨C1,s1,t1,C2,s2,t2,C3,s3,t3,C4,s4,t4,rfl,hF5⟩:=hV5.open
            refine Yj (Yl [] [_,_] Zz Zz Zz (YeA (op:=kLt) (by show ByteArray.size _≤_;decide+kernel) (hX1b.mono hle5) (hX0b.mono hle5) (hxw _ (Zm hx1)) (hxw _ (Zm hx0))) (fun v6 fz6 H6 hle6 hR6=>⟨(⟨(hle5.trans hle6),Zx⟩),?_⟩))
            obtain ⟨rfl,hV6⟩:=hR6
            obtain ⟨D1,u1,v1,D2,u2,v2,D3,u3,v3,D4,u4,v4,rfl,hF6⟩:=hV6.open
            refine Yj (Yc T (cs:=[.string (cmpF kLt x0 x1).op,.string (cmpF kLt x0 x1).name,.slice C1 s1 t1,.slice C2 s2 t2,.slice C3 s3 t3,.slice C4 s4 t4,.string (cmpF kLt x1 x0).op,.string (cmpF kLt x1 x0).name,.slice D1 u1 v1,.slice D2 u2 v2,.slice D3 u3 v3,.slice D4 u4 v4]) Zz Zz Zz Zz Zz Zz Zz Zz (fun gb=>⟨(⟨(hle5.trans hle6),Zx⟩),?_⟩))
            refine Ch.qk (⟨(hle5.trans hle6),Zx⟩) (YS T Zz Zz Zz Zz Zz ?_)
            refine Ch.hard0 Zj (YZ T Zz Zz Zz Zz Zz Zz ?_)
            refine Ch.done ?_
            refine zW ?_;intros
            refine Y1 T (i:=1) rfl Zz Zz Zz Zz Zz (fun fz3 hle3 hf3=>⟨rfl,?_⟩)
            have hgb:Grow formulaL 29 fz6 (.slice (some ⟨gb,0,none⟩) 2 2) 2 [(gb,.cells #[.string (cmpF kLt x0 x1).op,.string (cmpF kLt x0 x1).name,.slice C1 s1 t1,.slice C2 s2 t2,.slice C3 s3 t3,.slice C4 s4 t4,.string (cmpF kLt x1 x0).op,.string (cmpF kLt x1 x0).name,.slice D1 u1 v1,.slice D2 u2 v2,.slice D3 u3 v3,.slice D4 u4 v4] 29 (0,0))] [cmpF kLt x0 x1,cmpF kLt x1 x0]:=
             Grow.block (ys:=[(cmpF kLt x0 x1,_),(cmpF kLt x1 x0,_)]) rfl rfl (by intro p hp;simp at hp;rcases hp with rfl | rfl;exact YX (hF5.mono hle6);exact YX hF6) rfl Zh
            obtain ⟨B7,d7,e7,hS7⟩:=hgb.sl hle3 (fun p hp=>hf3 p (by simp at hp;subst hp;simp)) Zh
            rw [eN,if_neg Zh]
            exact ⟨_,_,_,_,rfl,⟨(by show kOr.size≤_;decide+kernel),Z0 _,IsSl.nil,IsSl.nil,IsSl.nil,⟨B7,_,d7,e7,hS7⟩⟩⟩
        ·have w7:¬f.op=kLt:=fun h=>hc (.inl h)
         have w8:¬f.op=kLe:=fun h=>hc (.inr (.inl h))
         have w9:¬f.op=kEq:=fun h=>hc (.inr (.inr h))
         rw [if_neg w7,if_neg w8,if_neg w9] at eN
         refine zW ?_;intros
         refine Yb Zz (Yl [] [_,_] Zz Zz Zz (bind_f _ (Zs _) hR0 (.inl rfl) (Sl.nil Zi) Zi) (fun v5 fz5 H5 hle5 hR5=>?_))
         obtain ⟨rfl,hV5⟩:=hR5
         obtain ⟨C1,s1,t1,C2,s2,t2,C3,s3,t3,C4,s4,t4,rfl,hF5⟩:=hV5.open
         cases sg with
         | true=>
          rw [if_pos rfl] at eN
          refine zW ?_;intros
          refine Y1 T (i:=1) rfl Zz Zz Zz Zz Zz (fun fz3 hle3 hf3=>⟨rfl,?_⟩)
          rw [eN]
          exact ⟨_,_,_,_,rfl,hF5.mono hle3⟩
         | false=>
          rw [if_neg Zh] at eN
          refine zW ?_;intros
          refine Yb Zz (Yc T (cs:=[.string f.op,.string f.name,.slice C1 s1 t1,.slice C2 s2 t2,.slice C3 s3 t3,.slice C4 s4 t4]) Zz Zz Zz Zz Zz Zz Zz Zz (fun gb=>?_))
          refine zW ?_;intros
          refine Y1 T (i:=2) rfl Zz Zz Zz Zz Zz (fun fz3 hle3 hf3=>⟨rfl,?_⟩)
          have hgb:Grow formulaL 29 fz5 (.slice (some ⟨gb,0,none⟩) 1 1) 1 [(gb,.cells #[.string f.op,.string f.name,.slice C1 s1 t1,.slice C2 s2 t2,.slice C3 s3 t3,.slice C4 s4 t4] 29 (0,0))] [f]:=
           Grow.block (ys:=[(f,_)]) rfl rfl (by intro p hp;simp at hp;subst hp;exact YX hF5) rfl Zh
          obtain ⟨B6,d6,e6,hS6⟩:=hgb.sl hle3 (fun p hp=>hf3 p (by simp at hp;subst hp;simp)) Zh
          rw [eN]
          exact ⟨_,_,_,_,rfl,⟨(by show kNot.size≤_;decide+kernel),Z0 _,IsSl.nil,IsSl.nil,IsSl.nil,⟨B6,_,d6,e6,hS6⟩⟩⟩
  ·rintro σ fz1 H' ⟨op',rfl,rfl,rfl,hN,hop⟩
   refine zW ?_;intros
   rename_i g7
   refine Yk (fun q σ fz' H'=>∃ (k nn:Nat) (u:Value) (Hs:HP),k≤m4∧q=m4 - k∧σ=[(156,.int .i64 k),(155,.int .i64 m4),(154,.slice B4 m4 d4),(7,.pointer (some ⟨g7,0,none⟩)),(5,.string op'),(4,.pointer (some ⟨g4,0,none⟩)),(1,.bool sg)]∧Le fz fz'∧
    H'=(g7,.cells #[.string op',.string ⟨#[]⟩,.slice none 0 0,.slice none 0 0,.slice none 0 0,u] 29 (0,0))::(g4,.cells #[.string ⟨#[]⟩,.string ⟨#[]⟩,.slice none 0 0,.slice none 0 0,.slice none 0 0,.slice none 0 0] 29 (0,0))::Hs∧
    Grow formulaL 29 fz' u nn Hs (joinL op' ((f.kids.take k).map (normM sg)))) ⟨0,0,_,[],Z0 _,rfl,rfl,Le.refl _,rfl,Grow.nil _ _ _⟩ Zw Zb ?_
   rintro q σ fz' H' ⟨k,nn,u,Hs,hk,rfl,rfl,hle,rfl,hG⟩
   obtain ⟨Au,cu,rfl,_,_⟩:=hG.form
   have hnn:=hG.len
   have hnl:nn≤mW f:=by
    have h1:=YcO (op:=op') (ks:=f.kids.take k) (g:=normM sg) (fun y _=>Ydi _ sg (Zs _))
    have h2:=mW_take f.kids k
    have h3:(f.kids.map mW).sum≤mW f:=by omega
    omega
   refine zW ?_;intros
   refine zC (fun c1=>?_) (fun c1=>?_)
   ·obtain ⟨x,hx⟩:=Yg (l:=f.kids) (k:=k) Zi
    have hxm:=Zm hx
    have hx3:=hk3 x hxm
    have hnk:=Ydi _ sg (Zs (SizeOf.sizeOf x))
    have e5:joinL op' ((f.kids.take (k+1)).map (normM sg))=joinL op' ((f.kids.take k).map (normM sg))++(if (normM sg x).op=op' then (normM sg x).kids else [normM sg x]):=by
     rw [List.take_add_one,hx,Option.toList_some,List.map_append]
     simp [joinL]
    refine zW ?_;intros
    refine zI (ik.mono hle) hx (fun p1 hp1=>?_)
    refine zL hp1 ?_
    intro cs hcs
    obtain ⟨wa,wp,we,wk,rfl,hRx⟩:=YM hcs
    obtain ⟨E1,r1,q1,rfl,_⟩:=hRx.args
    obtain ⟨E2,r2,q2,rfl,_⟩:=hRx.params
    obtain ⟨E3,r3,q3,rfl,_⟩:=hRx.exprs
    obtain ⟨E4,r4,q4,rfl,_⟩:=hRx.kids
    refine zW ?_;intros
    refine Yb Zz (Yl [] (_::_::_::Hs) Zz Zz Zz (YfA s Zi hRx (hS.kid hxm) Zi) (fun v5 fz5 H5 hle5 hR5=>?_))
    obtain ⟨rfl,hV5⟩:=hR5
    obtain ⟨C1,s1,t1,C2,s2,t2,C3,s3,t3,C4,s4,t4,rfl,hF5⟩:=hV5.open
    obtain ⟨C4',s4',t4',e4,hK5⟩:=hF5.kids
    injection e4 with e41 e42 e43
    subst e41;subst e42;subst e43
    have lk5:=hK5.len
    refine zW ?_;intros
    refine zC (fun c2=>?_) (fun c2=>?_)
    ·rw [if_pos c2] at e5
     refine zW ?_;intros
     refine Yb Zz (X8 T (Hr:=[_,_,_,_]) Zz Zz Zz Zz Zz Zz Zz Zz (Zr _) (hG.mono hle5) Yb3 hK5 (by show _*128≤_;omega) Zi (fun v6 H6 hO6=>?_))
     obtain ⟨A6,c6,rfl,_,_⟩:=hO6.form
     refine zW ?_;intros
     exact YA ⟨k+1,_,_,H6,by omega,rfl,rfl,hle.trans hle5,rfl,hO6.of e5.symm rfl⟩ Zi Zw Zb
    ·rw [if_neg c2] at e5
     refine zW ?_;intros
     refine Yb Zz (Yc T (cs:=[.string (normM sg x).op,.string (normM sg x).name,.slice C1 s1 t1,.slice C2 s2 t2,.slice C3 s3 t3,.slice C4 s4 t4]) Zz Zz Zz Zz Zz Zz Zz Zz (fun gb=>?_))
     refine Yb Zz (YK T (Hr:=[_,_,_,_,_]) (d:=normM sg x) Zz Zz Zz Zz Zz Zz Zz Zz (Zr _) (hG.mono hle5) Yb3 (.head _) (YX hF5) (by show _*128≤_;omega) Zi (fun v6 H6 hO6=>?_))
     obtain ⟨A6,c6,rfl,_,_⟩:=hO6.form
     refine zW ?_;intros
     exact YA ⟨k+1,_,_,H6,by omega,rfl,rfl,hle.trans hle5,rfl,hO6.of e5.symm rfl⟩ Zi Zw Zb
   ·have hk2:k=m4:=by omega
    subst hk2
    rw [Zl Zi] at hG
    refine zW ?_;intros
    refine Y1 T (i:=1) rfl Zz Zz Zz Zz Zz (fun fz3 hle3 hf3=>⟨rfl,?_⟩)
    obtain ⟨B7,d7,e7,hS7⟩:=hG.sl hle3 (fun p hp=>hf3 p (by simp [hp])) Zi
    rw [hN]
    exact ⟨_,_,_,_,rfl,⟨Nat.le_trans hop Zh,Z0 _,IsSl.nil,IsSl.nil,IsSl.nil,⟨B7,_,d7,e7,hS7⟩⟩⟩
theorem Yfp {α:Type} {w n:α→Nat} {k:Nat}:∀ {l:List α},(∀ x∈l,n x≤k*w x)→(l.map n).sum≤k*(l.map w).sum
 | [],_=>by simp
 | a::r,h=>by
  have h1:=h a (by simp)
  have h2:=Yfp (l:=r) (fun x hx=>h x (by simp [hx]))
  simp only [List.map_cons,List.sum_cons,Nat.mul_add];omega
theorem mW_le:∀ (s:Nat) {f:Formula},SizeOf.sizeOf f≤s→mW f≤7*fW f
 | 0,f,h=>by cases f;simp at h
 | s+1,f,h=>by
  have h1:=Yfp (w:=fW) (n:=mW) (k:=7) (l:=f.kids) (fun k hk=>mW_le s (by have:=Formula.kids_lt hk;omega))
  rw [Ykj,Yca]
  split<;>omega
theorem Ymb:∀ (s:Nat) {e:Lx.Expr},SizeOf.sizeOf e≤s→eW e≤1000000000→ESm e
 | 0,e,h,_=>by cases e;simp at h
 | s+1,e,h,hw=>by
  rw [eW_eq] at hw
  refine YbH.2 ⟨by unfold ESmN;omega,fun k hk=>Ymb s (by have:=Lx.Expr.kids_lt hk;omega) (by have:=Xz (w:=eW) hk;omega)⟩
theorem YdL:∀ (s:Nat) {f:Formula},SizeOf.sizeOf f≤s→fW f≤1000000000→FSm f
 | 0,e,h,_=>by cases e;simp at h
 | s+1,f,h,hw=>by
  rw [Yca] at hw
  have hl:=Wx fW_pos f.kids
  refine Wv.2 ⟨by unfold FSmN;omega,fun e he=>Ymb _ (Zs _) (by have:=Xz (w:=eW) he;omega),fun k hk=>YdL s (by have:=Formula.kids_lt hk;omega) (by have:=Xz (w:=fW) hk;omega)⟩
theorem Yix:kNot≠kAtom∧kNot≠kSame∧¬CmpOp kNot∧kNot≠kAnd∧kNot≠kOr:=by
 refine ⟨by decide+kernel,by decide+kernel,?_,by decide+kernel,by decide+kernel⟩
 show ¬(_∨_∨_)
 decide+kernel
theorem nsh_of:∀ (s:Nat) {f:Formula},SizeOf.sizeOf f≤s→FOk f→fW f≤1000000000→NSh f
 | 0,f,h,_,_=>by cases f;simp at h
 | s+1,f,h,h1,hW=>by
  have h3:=Wv.1 h1
  obtain ⟨_,⟨k,hk,hr⟩,_⟩:=h3.1
  have c1:¬(kNot=kAtom∨kNot=kSame):=by decide+kernel
  have c2:¬CmpOp kNot:=Yix.2.2.1
  have c3:¬(kNot=kAnd∨kNot=kOr):=by decide+kernel
  have i1:¬(kImply=kAtom∨kImply=kSame):=by decide+kernel
  have i2:¬CmpOp kImply:=by show ¬(_∨_∨_);decide+kernel
  have i3:¬(kImply=kAnd∨kImply=kOr):=by decide+kernel
  have i4:¬kImply=kNot:=by decide+kernel
  have q1:∀ op,op=kForall∨op=kExists→¬(op=kAtom∨op=kSame)∧¬CmpOp op∧¬(op=kAnd∨op=kOr)∧¬op=kNot∧¬op=kImply:=by
   intro op ho
   rcases ho with rfl | rfl
   ·refine ⟨by decide+kernel,?_,by decide+kernel,by decide+kernel,by decide+kernel⟩
    show ¬(_∨_∨_);decide+kernel
   ·refine ⟨by decide+kernel,?_,by decide+kernel,by decide+kernel,by decide+kernel⟩
    show ¬(_∨_∨_);decide+kernel
  refine .mk (fun ho=>?_) (fun ho=>?_) (fun ho=>?_) (fun _ _=>hW) (fun k hk=>nsh_of s (by have:=Formula.kids_lt hk;omega) (h3.2.2 k hk) (by have:=Xz (w:=fW) hk;have:=Yca f;omega))
  ·rcases ho with ho | ho
   ·rw [YaU,ho,if_neg c1,if_neg c2,if_neg c3,if_pos rfl] at hk
    cases hk
    intro h0
    have:=hr.2.2.1
    rw [h0] at this;cases this
   ·obtain ⟨a1,a2,a3,a4,a5⟩:=q1 _ ho
    rw [YaU,if_neg a1,if_neg a2,if_neg a3,if_neg a4,if_neg a5,if_pos ho] at hk
    cases hk
    intro h0
    have:=hr.2.2.1
    rw [h0] at this;cases this
  ·rw [YaU,ho,if_neg i1,if_neg i2,if_neg i3,if_neg i4,if_pos rfl] at hk
   cases hk
   exact Nat.le_of_eq hr.2.2.1.symm
  ·have hc:CmpOp f.op:=by
    rcases ho with ho | ho | ho
    ·rw [ho];show (_∨_∨_);decide+kernel
    ·rw [ho];show (_∨_∨_);decide+kernel
    ·rw [ho];show (_∨_∨_);decide+kernel
   have hn:¬(f.op=kAtom∨f.op=kSame):=by
    rcases ho with ho | ho | ho<;>rw [ho]<;>decide+kernel
   rw [YaU,if_neg hn,if_pos hc] at hk
   cases hk
   exact Nat.le_of_eq hr.2.1.symm
def normV (f:Formula):Formula:=if FVal f then normM true f else Ycx
variable {va ve vk vp:Value}
theorem YgL (hR:FormulaR fz f va vp ve vk) (hW:fW f≤100000000):
 GFn prog 115 [.agg #[.string f.op,.string f.name,va,vp,ve,vk]] fz [] (fun v fz' H'=>H'=[]∧FormulaV fz' (normV f) v):=by
 have hR0:=hR
 have hm:=mW_le _ (Zs (SizeOf.sizeOf f))
 obtain ⟨B1,m1,d1,rfl,ia⟩:=hR.args
 obtain ⟨B2,m2,d2,rfl,ip⟩:=hR.params
 obtain ⟨B3,m3,d3,rfl,ie⟩:=hR.exprs
 obtain ⟨B4,m4,d4,rfl,ik⟩:=hR.kids
 refine zF Tryz.func115 Tryz.ntmps115 (fun w0=>?_)
 refine zW ?_;intros
 ((refine zG ?_);refine XY Zz Zz (Yjx hR0 (YdL _ (Zs _) Zi)) (fun f1=>?_) (fun f1=>?_))
 ·have hv:=Zt f1
  refine zW ?_;intros
  refine Yb Zz (Yl [] [_,_] Zz Zz Zz (YfA _ (Zs _) hR0 (nsh_of _ (Zs _) hv.1 Zi) Zi) (fun v5 fz5 H5 hle5 hR5=>?_))
  obtain ⟨rfl,hV5⟩:=hR5
  obtain ⟨C1,s1,t1,C2,s2,t2,C3,s3,t3,C4,s4,t4,rfl,hF5⟩:=hV5.open
  refine zW ?_;intros
  refine Y1 T (i:=0) rfl Zz Zz Zz Zz Zz (fun fz3 hle3 hf3=>⟨rfl,?_⟩)
  rw [normV,if_pos hv]
  exact ⟨_,_,_,_,rfl,hF5.mono hle3⟩
 ·refine zW ?_;intros
  refine Y1 T (i:=0) rfl Zz Zz Zz Zz Zz (fun fz3 hle3 hf3=>⟨rfl,?_⟩)
  rw [normV,if_neg (Zf f1)]
  exact ⟨_,_,_,_,rfl,⟨Z0 _,Z0 _,IsSl.nil,IsSl.nil,IsSl.nil,IsSl.nil⟩⟩
def andF (l:List Formula):Formula:=.mk kAnd ⟨#[]⟩ [] [] [] l
theorem and_f {l:List Formula} (h:Sl formulaL fz A n c l) (hW:fW (andF l)≤100000000):
 GFn prog 117 [.slice A n c] fz [] (fun v fz' H'=>H'=[]∧FormulaV fz' (normV (andF l)) v):=by
 have hR:FormulaR fz (andF l) (.slice none 0 0) (.slice none 0 0) (.slice none 0 0) (.slice A n c):=⟨(by show kAnd.size≤_;decide+kernel),Z0 _,IsSl.nil,IsSl.nil,IsSl.nil,h.is⟩
 refine zF Tryz.func117 Tryz.ntmps117 (fun w0=>?_)
 refine zW ?_;intros
 refine Yb Zz (Yl [] [_] Zz Zz Zz (YgL hR hW) (fun v5 fz5 H5 hle5 hR5=>?_))
 obtain ⟨rfl,hV5⟩:=hR5
 obtain ⟨C1,s1,t1,C2,s2,t2,C3,s3,t3,C4,s4,t4,rfl,hF5⟩:=hV5.open
 refine zW ?_;intros
 refine Y1 T (i:=0) rfl Zz Zz Zz Zz Zz (fun fz3 hle3 hf3=>⟨rfl,?_⟩)
 exact ⟨_,_,_,_,rfl,hF5.mono hle3⟩
theorem Ykt:OneC changeL:=by
 intro fz d cs h u hu
 obtain ⟨u1,u2,u3,u4,u5,u6,u7,u8,rfl,hR⟩:=XF h
 obtain ⟨A1,n1,c1,rfl,_⟩:=hR.params
 obtain ⟨A2,n2,c2,rfl,_⟩:=hR.when_.args
 obtain ⟨A3,n3,c3,rfl,_⟩:=hR.when_.params
 obtain ⟨A4,n4,c4,rfl,_⟩:=hR.when_.exprs
 obtain ⟨A5,n5,c5,rfl,_⟩:=hR.when_.kids
 obtain ⟨A6,n6,c6,rfl,_⟩:=hR.args
 obtain ⟨A7,n7,c7,rfl,_⟩:=hR.value.args
 obtain ⟨A8,n8,c8,rfl,_⟩:=hR.value.kids
 simp at hu
 rcases hu with rfl | rfl | rfl | rfl | rfl | rfl | rfl | rfl | rfl | rfl | rfl | rfl | rfl | rfl | rfl<;>rfl
def normC (l:List Change):List Change:=(l.filter fun c=>decide (c.kind=1)).map fun c=>{c with when_:=normV c.when_}
theorem Yke {l:List Change} {x:Change} (hx:l[k]?=some x):normC (l.take (k+1))=normC (l.take k)++(if x.kind=1 then [{x with when_:=normV x.when_}] else []):=by
 unfold normC
 rw [List.take_add_one,hx,Option.toList_some,List.filter_append,List.map_append]
 by_cases h:x.kind=1
 ·rw [if_pos h];simp [h]
 ·rw [if_neg h];simp [h]
set_option maxHeartbeats 4000000 in
theorem Yel {l:List Change} (h:Sl changeL fz A n c l) (hn:n≤1000000000) (hW:∀ x∈l,fW x.when_≤100000000):
 GFn prog 116 [.slice A n c] fz [] (fun v fz' H'=>H'=[]∧IsSl changeL fz' v (normC l)):=by
 have ln:=h.len
 refine zF Tryz.func116 Tryz.ntmps116 (fun w0=>?_)
 refine zW ?_;intros
 refine Yk (fun q σ fz' H'=>∃ (k m:Nat) (u:Value) (Hs:HP),k≤n∧q=n - k∧m≤k∧σ=[(8,.int .i64 k),(7,.int .i64 n),(6,.slice A n c),(3,u)]∧Le fz fz'∧H'=Hs∧Grow changeL 38 fz' u m Hs (normC (l.take k))) ⟨0,0,_,[],Z0 _,rfl,Zs _,rfl,Le.refl _,rfl,Grow.nil _ _ _⟩ Zw Zb ?_
 rintro q σ fz' H' ⟨k,m,u,Hs,hk,rfl,hmk,rfl,hle,rfl,hG⟩
 obtain ⟨Au,cu,rfl,_,_⟩:=hG.form
 refine zW ?_;intros
 refine zC (fun c1=>?_) (fun c1=>?_)
 ·obtain ⟨x,hx⟩:=Yg (l:=l) (k:=k) Zi
  have e1:=Yke hx
  refine zW ?_;intros
  refine zI (h.mono hle) hx (fun p1 hp1=>?_)
  refine zL hp1 ?_
  intro cs hcs
  obtain ⟨u1,u2,u3,u4,u5,u6,u7,u8,rfl,hR⟩:=XF hcs
  obtain ⟨A1,n1,c1',rfl,_⟩:=id hR.params
  obtain ⟨A2,n2,c2',rfl,_⟩:=id hR.when_.args
  obtain ⟨A3,n3,c3',rfl,_⟩:=id hR.when_.params
  obtain ⟨A4,n4,c4',rfl,_⟩:=id hR.when_.exprs
  obtain ⟨A5,n5,c5',rfl,_⟩:=id hR.when_.kids
  obtain ⟨A6,n6,c6',rfl,_⟩:=id hR.args
  obtain ⟨A7,n7,c7',rfl,_⟩:=id hR.value.args
  obtain ⟨A8,n8,c8',rfl,_⟩:=id hR.value.kids
  refine zW ?_;intros
  refine zC (fun c2=>?_) (fun c2=>?_)
  ·rw [if_pos c2] at e1
   refine zW ?_;intros
   ((refine zG ?_);refine Yn (vs:=[.string x.when_.op,.string x.when_.name,.slice A2 n2 c2',.slice A3 n3 c3',.slice A4 n4 c4',.slice A5 n5 c5']) T 0 Zz Zz Zz Zz Zz Zz ?_)
   refine Yb Zz (Yl [] (_::H') Zz Zz Zz (YgL hR.when_ (hW x (Zm hx))) (fun v5 fz5 H5 hle5 hR5=>?_))
   obtain ⟨rfl,hV5⟩:=hR5
   obtain ⟨C1,s1,t1,C2,s2,t2,C3,s3,t3,C4,s4,t4,rfl,hF5⟩:=hV5.open
   refine zW ?_;intros
   refine Yb Zz (Yc T (cs:=[.int .i64 x.kind,.slice A1 n1 c1',.string (normV x.when_).op,.string (normV x.when_).name,.slice C1 s1 t1,.slice C2 s2 t2,.slice C3 s3 t3,.slice C4 s4 t4,.string x.name,.slice A6 n6 c6',.string x.value.op,.string x.value.name,.int .i64 x.value.n,.slice A7 n7 c7',.slice A8 n8 c8']) Zz Zz Zz Zz Zz Zz Zz Zz (fun gb=>?_))
   have hRn:=hR.mono hle5
   refine Yb Zz (YK T (Hr:=[_,_]) (d:={x with when_:=normV x.when_}) Zz Zz Zz Zz Zz Zz Zz Zz (Zr _) (hG.mono hle5) Ykt (.head _) (Yak (x:={x with when_:=normV x.when_}) ⟨hRn.kind,hRn.params,hF5,hRn.name,hRn.args,hRn.value⟩) (by show _*288≤_;omega) Zi (fun v6 H6 hO6=>?_))
   obtain ⟨A9,c9,rfl,_,_⟩:=hO6.form
   refine zW ?_;intros
   exact YA ⟨k+1,m+1,_,H6,by omega,rfl,by omega,rfl,hle.trans hle5,rfl,hO6.of e1.symm rfl⟩ Zi Zw Zb
  ·rw [if_neg c2,List.append_nil] at e1
   refine zW ?_;intros
   exact YA ⟨k+1,m,_,H',by omega,rfl,by omega,rfl,hle,rfl,hG.of e1.symm rfl⟩ Zi Zw Zb
 ·have hk2:k=n:=by omega
  subst hk2
  rw [Zl Zi] at hG
  refine zW ?_;intros
  refine YdP rfl rfl (fun fz3 hle3 hf3=>⟨rfl,?_⟩)
  obtain ⟨A9,c9,e9,h9⟩:=hG.sl hle3 hf3 Zi
  exact ⟨A9,_,c9,e9,h9⟩
def EnvP (E:EnvM):Prop:=∀ x y,E x=some y→PlnS y
def quantV (K:Kn) (al:Bool) (hb:EnvM→Bool):List Param→EnvM→Bool
 | [],E=>hb E
 | p::ps,E=>if al=true then (ofK K p.typ).all fun o=>quantV K al hb ps (setE E p.name o) else (ofK K p.typ).any fun o=>quantV K al hb ps (setE E p.name o)
variable {E:EnvM} {K:Kn}
theorem Yj6 {al:Bool} {hb:EnvM→Bool} {p:Param} {ps:List Param} {o:Bs} (ho:o∈ofK K p.typ) (h:quantV K al hb ps (setE E p.name o)≠al):quantV K al hb (p::ps) E=!al:=by
 rw [quantV]
 cases al with
 | true=>
  rw [if_pos rfl]
  have:quantV K true hb ps (setE E p.name o)=false:=by simpa using h
  exact List.all_eq_false.2 ⟨o,ho,by rw [this];decide⟩
 | false=>
  rw [if_neg Zh]
  have:quantV K false hb ps (setE E p.name o)=true:=by simpa using h
  exact List.any_eq_true.2 ⟨o,ho,this⟩
theorem Yj7 {al:Bool} {hb:EnvM→Bool} {p:Param} {ps:List Param} (h:∀ o∈ofK K p.typ,quantV K al hb ps (setE E p.name o)=al):quantV K al hb (p::ps) E=al:=by
 rw [quantV]
 cases al with
 | true=>
  rw [if_pos rfl]
  exact List.all_eq_true.2 h
 | false=>
  rw [if_neg Zh]
  exact List.any_eq_false.2 (fun o ho=>by rw [h o ho];decide)
theorem EnvP.set (h:EnvP E) {x a:Bs} (ha:PlnS a):EnvP (setE E x a):=by
 intro y z hz
 unfold setE at hz
 split at hz
 ·injection hz with hz;subst hz;exact ha
 ·exact h y z hz
theorem Yit {t o:Bs} (h:o∈ofK K t):∃ p∈K.os,p.name=o:=by
 unfold ofK ofT at h
 obtain ⟨p,hp,e⟩:=List.mem_map.1 h
 exact ⟨p,(List.mem_filter.1 hp).1,e⟩
set_option maxHeartbeats 4000000 in
theorem Yjb:∀ (ps:List Param) {fz:FZ} {v:Value} {K:Kn} {gs:Nat} {f g:Formula} {rest:List Formula} {va vp ve vk vat:Value} {E:EnvM} {hb:EnvM→Bool} {A:Option Addr} {n c:Nat},
 KnR fz v K→(∀ o∈K.os,PlnS o.name)→FormulaR fz f va vp ve vk→f.kids=g::rest→Sl paramL fz A n c ps→n≤2000000→EnvR fz vat E→EnvP E→
 (∀ {fz':FZ} {E':EnvM} {vat' wa wp we wk:Value},Le fz fz'→EnvR fz' vat' E'→EnvP E'→FormulaR fz' g wa wp we wk→QFn prog 122 [v,.map (some gs),.agg #[.string g.op,.string g.name,wa,wp,we,wk],vat'] fz' (.bool (hb E')))→
 QFn prog 165 [v,.map (some gs),.agg #[.string f.op,.string f.name,va,vp,ve,vk],.slice A n c,vat] fz (.bool (quantV K (decide (f.op=kForall)) hb ps E))
 | ps,fz,v,K,gs,f,g,rest,va,vp,ve,vk,vat,E,hb,A,n,c,hK,hOs,hR,hk,hps,hn,hE,hP,ih=>by
  have hR0:=hR
  obtain ⟨B1,m1,d1,rfl,ia⟩:=hR.args
  obtain ⟨B2,m2,d2,rfl,ip⟩:=hR.params
  obtain ⟨B3,m3,d3,rfl,ie⟩:=hR.exprs
  obtain ⟨B4,m4,d4,rfl,ik⟩:=hR.kids
  have l4:=ik.len
  have lp:=hps.len
  have hg0:f.kids[0]?=some g:=by rw [hk];rfl
  have hm4:0<m4:=by rw [← l4,hk];simp
  have hK0:=hK
  obtain ⟨⟨gk,a0,a1,a2,a3,a4,a5,a6,a7,a8,a9,a10,a11,a12,a13,a14,a15,a16,a17,vf,Ao,no,co,gc,gi,mc,mi,rfl,hg,hF,hO,h5,h6,h7,h8⟩,hw,hmany⟩:=hK
  have hE0:=hE
  obtain ⟨ge,me,rfl,hge,hne,hee⟩:=hE
  refine GFn.quiet ?_
  refine zF Tryz.func165 Tryz.ntmps165 (fun w0=>?_)
  refine Yp (Yq (Yb Zz (Y3 _ Zz Zz (fun g7=>?_))))
  cases ps with
  | nil=>
   have:n=0:=by rw [← lp];rfl
   subst this
   refine zW ?_;intros
   refine zC (fun c1=>?_) (fun c1=>?_)
   ·refine zW ?_;intros
    refine zI ik hg0 (fun p1 hp1=>?_)
    refine zL hp1 ?_
    intro cs hcs
    obtain ⟨wa,wp,we,wk,rfl,hRg⟩:=YM hcs
    obtain ⟨E1,r1,q1,rfl,_⟩:=id hRg.args
    obtain ⟨E2,r2,q2,rfl,_⟩:=id hRg.params
    obtain ⟨E3,r3,q3,rfl,_⟩:=id hRg.exprs
    obtain ⟨E4,r4,q4,rfl,_⟩:=id hRg.kids
    refine zW ?_;intros
    ((refine zG ?_);refine YB Zz Zz (ih (Le.refl _) hE0 hP hRg) ?_)
    refine zW ?_;intros
    exact zR (h:=rfl)
   ·exact absurd rfl c1
  | cons p ps=>
   have hn1:n=ps.length+1:=by rw [← lp];rfl
   subst hn1
   have hp0:(p::ps)[0]?=some p:=rfl
   refine zW ?_;intros
   refine zC (fun c1=>?_) (fun c1=>?_)
   ·exact absurd c1 Zi
   ·have hcap:=hps.cap
    have hN:fz=fz:=rfl
    clear hN
    refine zWX ?_;intros
    refine Yp (Wp.mid (fun σ fz' H'=>σ=[(11,.bool (decide (f.op=kForall))),(7,.pointer (some ⟨g7,0,none⟩)),(4,.map (some ge)),(3,.slice A (ps.length+1) c),(1,.map (some gs)),(0,.pointer (some ⟨gk,0,none⟩))]∧fz=fz'∧H'=[(g7,.cells #[.string f.op,.string f.name,.slice B1 m1 d1,.slice B2 m2 d2,.slice B3 m3 d3,.slice B4 m4 d4] 29 (0,0))]) ?_ ?_)
    ·by_cases wf:f.op=kForall
     ·rw [decide_eq_true wf]
      refine zW ?_;intros
      exact midN ⟨rfl,rfl,rfl⟩ Zw Zb
     ·rw [decide_eq_false wf]
      refine zW ?_;intros
      exact midN ⟨rfl,rfl,rfl⟩ Zw Zb
    ·rintro σ fz1 H' ⟨rfl,rfl,rfl⟩
     generalize hal:decide (f.op=kForall)=al
     refine zW ?_;intros
     refine zI hps hp0 (fun p1 hp1=>?_)
     refine zW ?_;intros
     refine zH hp1.Param_typ (fun hst=>?_)
     refine zW ?_;intros
     refine Yb Zz (Yl [] [_] Zz Zz Zz (kof_f (t:=p.typ) hK0) (fun v4 fz4 H4 hle4 hR4=>?_))
     obtain ⟨rfl,Bo,mo,do_,rfl,hSo⟩:=hR4
     have lo:=hSo.len
     have so:=hSo.short
     refine zW ?_;intros
     refine Yk (fun q σ fz' H'=>∃ k:Nat,k≤mo∧q=mo - k∧σ=[(35,.int .i64 k),(34,.int .i64 mo),(33,.slice Bo mo do_),(11,.bool al),(7,.pointer (some ⟨g7,0,none⟩)),(4,.map (some ge)),(3,.slice A (ps.length+1) c),(1,.map (some gs)),(0,.pointer (some ⟨gk,0,none⟩))]∧Le fz4 fz'∧H'=[(g7,.cells #[.string f.op,.string f.name,.slice B1 m1 d1,.slice B2 m2 d2,.slice B3 m3 d3,.slice B4 m4 d4] 29 (0,0))]∧∀ i,i<k→∀ o,(ofK K p.typ)[i]?=some o→quantV K al hb ps (setE E p.name o)=al) ⟨0,Z0 _,rfl,rfl,Le.refl _,rfl,fun i hi=>absurd hi Zi⟩ Zw Zb ?_
     rintro q σ fz5 H' ⟨k,hk5,rfl,rfl,hle5,rfl,hall⟩
     refine zW ?_;intros
     refine zC (fun c2=>?_) (fun c2=>?_)
     ·obtain ⟨o,ho⟩:=Yg (l:=ofK K p.typ) (k:=k) Zi
      have hom:=Zm ho
      obtain ⟨po,hpo,epo⟩:=Yit hom
      have hoP:PlnS o:=epo ▸ hOs po hpo
      have hle45:=hle4.trans hle5
      refine zW ?_;intros
      refine zI (hSo.mono hle5) ho (fun p2 hp2=>?_)
      refine zH hp2 (fun hso=>?_)
      refine zWN ?_;intros
      refine Wp.drawK (Hq:=[_]) T.mixed Zj Zj Zb ?_
      refine zW ?_;intros
      refine zG ?_;refine YdD (j:=1) T Zz Zz Zz Zz Zz Zz (hps.mono hle45) Zi (fun A' hS'=>?_)
      refine zW ?_;intros
      refine zG ?_;refine Yip (j:=1) T Zz Zz Zz Zz Zz Zi ?_
      refine zW ?_;intros
      refine Ye ?_
      refine zW ?_;intros
      refine Ye ?_
      refine Ye ?_
      refine zW ?_;intros
      refine Ye ?_
      refine YD ⟨by kernel_rfl,?_⟩
      refine Yj (Yc T (cs:=[.string o]) Zz Zz Zz Zz Zz Zz Zz Zz (fun gb=>⟨(⟨(Le.refl _),Zx⟩),?_⟩))
      refine Yj (Does.freeze (H1:=[_]) (H2:=[_]) (Zq (l₁:=[_])) (fun fz6 hle6 hf6=>?_))
      have hgb:Grow strL 9 fz5 (.slice (some ⟨gb,0,none⟩) 1 1) 1 [(gb,.cells #[.string o] 9 (0,0))] [o]:=
       Grow.block (ys:=[(o,[Value.string o])]) rfl rfl (by intro q hq;simp at hq;subst hq;exact ⟨rfl,hso⟩) rfl Zh
      obtain ⟨B7,d7,e7,hS7⟩:=hgb.sl hle6 hf6 Zh
      injection e7 with e71 e72 e73
      subst e71;subst e73
      have hcut:=Ymh (hps.mono (hle45.trans hle6)) (k:=1) Zi
      refine Yl [] [_] Zz Zz Zz (env_f hcut hS7 (Zs _) (.inr (hE0.mono (hle45.trans hle6)))) (fun v7 fz7 H7 hle7 hR7=>⟨(⟨(hle6.trans hle7),Zx⟩),?_⟩)
      obtain ⟨rfl,hE7⟩:=hR7
      have hE8:EnvR fz7 v7 (setE E p.name o):=hE7
      have hx7:=hle45.trans (hle6.trans hle7)
      refine Ch.qk (⟨(hle6.trans hle7),Zx⟩) (YB Zz Zz (Yjb ps (hK0.mono hx7) hOs (hR0.mono hx7) hk (hS'.mono (hle6.trans hle7)) Zi hE8 (hP.set hoP) (fun hl hE9 hP9 hR9=>ih (hx7.trans hl) hE9 hP9 hR9)) ?_)
      rw [hal]
      refine Ch.qk (⟨(hle6.trans hle7),Zx⟩) (Yim T Zz Zz Zz Zz (fun h8=>?_) (fun h8=>?_))
      ·refine Ch.done ?_
       refine zW ?_;intros
       exact zR (h:=by rw [Yj6 hom h8])
      ·refine Ch.done ?_
       refine zW ?_;intros
       exact YA ⟨k+1,by omega,rfl,rfl,hle5.trans (hle6.trans hle7),rfl,YO hall ho (by simpa using h8)⟩ Zi Zw Zb
     ·have hA:=Xf hall Zi
      refine zW ?_;intros
      exact zR (h:=by rw [Yj7 hA])
mutual
def holdsM (K:Kn) (S:List Atom):EnvM→Formula→Bool
 | E,.mk op name args params _ kids=>
  if op=kAtom then decide (bndA E name args∈S)
  else if op=kSame then decide (valE E ((args[0]?).getD ⟨#[]⟩)=valE E ((args[1]?).getD ⟨#[]⟩))
  else if op=kNot then notH K S E kids
  else if op=kAnd then allH K S E kids
  else if op=kOr then anyH K S E kids
  else if QuF op then quantV K (decide (op=kForall)) (fun E'=>headH K S E' kids) params E
  else true
def notH (K:Kn) (S:List Atom):EnvM→List Formula→Bool
 | _,[]=>true
 | E,g::_=>if g.op=kSame then !holdsM K S E g else K.chg g.name || !decide (bndA E g.name g.args∈K.init)
def allH (K:Kn) (S:List Atom):EnvM→List Formula→Bool
 | _,[]=>true
 | E,g::r=>holdsM K S E g && allH K S E r
def anyH (K:Kn) (S:List Atom):EnvM→List Formula→Bool
 | _,[]=>false
 | E,g::r=>holdsM K S E g || anyH K S E r
def headH (K:Kn) (S:List Atom):EnvM→List Formula→Bool
 | _,[]=>true
 | E,g::_=>holdsM K S E g
end
variable {S:List Atom}
theorem YW (f:Formula):holdsM K S E f=
 if f.op=kAtom then decide (bndA E f.name f.args∈S)
 else if f.op=kSame then decide (valE E ((f.args[0]?).getD ⟨#[]⟩)=valE E ((f.args[1]?).getD ⟨#[]⟩))
 else if f.op=kNot then notH K S E f.kids
 else if f.op=kAnd then allH K S E f.kids
 else if f.op=kOr then anyH K S E f.kids
 else if QuF f.op then quantV K (decide (f.op=kForall)) (fun E'=>headH K S E' f.kids) f.params E
 else true:=by cases f;rw [holdsM];rfl
theorem YmA {K:Kn} {S:List Atom} {E:EnvM}:∀ l:List Formula,allH K S E l=!decide (∃ g∈l,¬holdsM K S E g=true)
 | []=>by rw [allH];simp
 | g::r=>by
  rw [allH,YmA r]
  cases h:holdsM K S E g<;>simp [h]
theorem Ymy {K:Kn} {S:List Atom} {E:EnvM}:∀ l:List Formula,anyH K S E l=decide (∃ g∈l,holdsM K S E g=true)
 | []=>by rw [anyH];simp
 | g::r=>by
  rw [anyH,Ymy r]
  cases h:holdsM K S E g<;>simp [h]
inductive HSh:Formula→Prop
 | mk {f:Formula} (h1:f.op=kSame→2≤f.args.length) (h2:f.op=kNot∨QuF f.op→f.kids≠ []) (h3:f.op=kAtom→PlnS f.name∧f.args.length≤2000000∧∀ t∈f.args,PlnS t)
  (h4:f.op=kNot→∀ k∈f.kids,k.op=kAtom∨k.op=kSame) (h5:f.params.length≤2000000) (h6:∀ k∈f.kids,HSh k):HSh f
theorem HSh.same (h:HSh f):f.op=kSame→2≤f.args.length:=by cases h with | mk h1 _ _ _ _ _=>exact h1
theorem HSh.head (h:HSh f):f.op=kNot∨QuF f.op→f.kids≠ []:=by cases h with | mk _ h1 _ _ _ _=>exact h1
theorem HSh.atom (h:HSh f):f.op=kAtom→PlnS f.name∧f.args.length≤2000000∧∀ t∈f.args,PlnS t:=by cases h with | mk _ _ h1 _ _ _=>exact h1
theorem HSh.neg (h:HSh f):f.op=kNot→∀ k∈f.kids,k.op=kAtom∨k.op=kSame:=by cases h with | mk _ _ _ h1 _ _=>exact h1
theorem HSh.pars (h:HSh f):f.params.length≤2000000:=by cases h with | mk _ _ _ _ h1 _=>exact h1
theorem HSh.kid {k:Formula} (h:HSh f) (hk:k∈f.kids):HSh k:=by cases h with | mk _ _ _ _ _ h1=>exact h1 k hk
theorem valE_pln (hE:EnvP E) {t:Bs} (ht:PlnS t):PlnS (valE E t):=by
 unfold valE
 cases h:E t with
 | none=>exact ht
 | some y=>exact hE t y h
theorem Ymv (hE:EnvP E) {name:Bs} {args:List Bs} (h:PlnS name∧args.length≤2000000∧∀ t∈args,PlnS t):AtmOk (bndA E name args):=by
 refine ⟨h.1,by show (args.map (valE E)).length≤_;rw [List.length_map];exact h.2.1,fun s hs=>?_⟩
 obtain ⟨t,ht,rfl⟩:=List.mem_map.1 hs
 exact valE_pln hE (h.2.2 t ht)
theorem holds1_q {vs vat:Value} {g4 g5 g7:Nat} {t4 t5 t7:TypeId} {b:Bool} (hR:FormulaR fz f va vp ve vk) (hv:v.oneCell'=true) (h4:fz g4=some (.cells #[v] t4 (0,0))) (h5:fz g5=some (.cells #[vs] t5 (0,0))) (h7:fz g7=some (.cells #[vat] t7 (0,0)))
 (hh:QFn prog 122 [v,vs,.agg #[.string f.op,.string f.name,va,vp,ve,vk],vat] fz (.bool b)):
 QFn prog 163 [.agg #[.string f.op,.string f.name,va,vp,ve,vk],.pointer (some ⟨g4,0,none⟩),.pointer (some ⟨g5,0,none⟩),.pointer (some ⟨g7,0,none⟩)] fz (.bool (!b)):=by
 obtain ⟨B1,m1,d1,rfl,ia⟩:=hR.args
 obtain ⟨B2,m2,d2,rfl,ip⟩:=hR.params
 obtain ⟨B3,m3,d3,rfl,ie⟩:=hR.exprs
 obtain ⟨B4,m4,d4,rfl,ik⟩:=hR.kids
 refine GFn.quiet ?_
 refine zF Tryz.func163 Tryz.ntmps163 (fun w0=>?_)
 refine Yp (Yq (Yb Zz (Y3 _ Zz Zz (fun g9=>?_))))
 refine zW ?_;intros
 refine zc hh ?_
 refine zW ?_;intros
 exact zR (h:=rfl)
theorem holds2_q {vs vat:Value} {g4 g5 g7:Nat} {t4 t5 t7:TypeId} {b:Bool} (hR:FormulaR fz f va vp ve vk) (hv:v.oneCell'=true) (h4:fz g4=some (.cells #[v] t4 (0,0))) (h5:fz g5=some (.cells #[vs] t5 (0,0))) (h7:fz g7=some (.cells #[vat] t7 (0,0)))
 (hh:QFn prog 122 [v,vs,.agg #[.string f.op,.string f.name,va,vp,ve,vk],vat] fz (.bool b)):
 QFn prog 164 [.agg #[.string f.op,.string f.name,va,vp,ve,vk],.pointer (some ⟨g4,0,none⟩),.pointer (some ⟨g5,0,none⟩),.pointer (some ⟨g7,0,none⟩)] fz (.bool b):=by
 obtain ⟨B1,m1,d1,rfl,ia⟩:=hR.args
 obtain ⟨B2,m2,d2,rfl,ip⟩:=hR.params
 obtain ⟨B3,m3,d3,rfl,ie⟩:=hR.exprs
 obtain ⟨B4,m4,d4,rfl,ik⟩:=hR.kids
 refine GFn.quiet ?_
 refine zF Tryz.func164 Tryz.ntmps164 (fun w0=>?_)
 refine Yp (Yq (Yb Zz (Y3 _ Zz Zz (fun g9=>?_))))
 refine zW ?_;intros
 refine zc hh ?_
 refine zW ?_;intros
 exact zR (h:=rfl)
end Go.Proofs.YtbnpeechpebmeaaGreatDoor
