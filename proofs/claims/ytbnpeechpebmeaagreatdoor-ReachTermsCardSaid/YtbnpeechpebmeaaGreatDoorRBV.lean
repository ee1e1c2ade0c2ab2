/- The texts QIn, QPl, QLm, QTe, QLp, QNum, laid together. Conditions: none. -/
import Derived.Test.YtbnpeechpebmeaaGreatDoorRBU
set_option linter.all false
noncomputable section
set_option maxRecDepth 20000
namespace Go.Proofs.YtbnpeechpebmeaaGreatDoor
open Go.Lx Go.RowKit
attribute [local instance 10] Classical.propDecidable
open Go.Proofs.Tryz (prog)
abbrev StepM:=Bs × List Bs
def Yk5:Lay StepM where
 size:=3
 rep:=fun fz x cs=>∃ va,cs=[.int .i64 0,.string x.1,va]∧Short x.1∧IsSl strL fz va x.2
 len:=fun h=>by obtain ⟨va,rfl,_⟩:=h;rfl
 mono:=fun hle h=>by obtain ⟨va,e,h1,h2⟩:=h;exact ⟨va,e,h1,h2.mono hle⟩
def Yfe (n:Bs) (as_:List (List Bs)) (b:List Bool):List StepM:=((as_.zip b).filter (·.2)).map fun z=>(n,z.1)
def Ydm (l:List Schema) (D:List (List Bool)):List StepM:=(l.zip D).flatMap fun z=>Yfe z.1.name z.1.arguments z.2
theorem Ycw {α β:Type}:∀ (k:Nat) (l:List α) (m:List β),(l.take k).zip (m.take k)=(l.zip m).take k
 | 0,_,_=>by simp
 | k+1,[],_=>by simp
 | k+1,_::_,[]=>by simp
 | k+1,a::l,b::m=>by simp [Ycw k l m]
variable {k:Nat}
theorem Ykm {l:List Schema} {D:List (List Bool)} {s:Schema} {b:List Bool} (hs:l[k]?=some s) (hb:D[k]?=some b):Ydm (l.take (k+1)) (D.take (k+1))=Ydm (l.take k) (D.take k)++Yfe s.name s.arguments b:=by
 unfold Ydm
 have hz:(l.zip D)[k]?=some (s,b):=by rw [List.getElem?_zip_eq_some];exact ⟨hs,hb⟩
 rw [Ycw,Ycw,List.take_add_one,hz]
 simp
variable {j:Nat}
theorem YfE {n:Bs} {l:List (List Bs)} {b:List Bool} {a:List Bs} {x:Bool} (ha:l[j]?=some a) (hx:b[j]?=some x):Yfe n (l.take (j+1)) (b.take (j+1))=Yfe n (l.take j) (b.take j)++(if x=true then [(n,a)] else []):=by
 unfold Yfe
 have hz:(l.zip b)[j]?=some (a,x):=by rw [List.getElem?_zip_eq_some];exact ⟨ha,hx⟩
 rw [Ycw,Ycw,List.take_add_one,hz]
 cases x<;>simp
theorem Yhw {n:Bs} {l:List (List Bs)} {b:List Bool}:(Yfe n l b).length≤l.length:=by
 unfold Yfe
 rw [List.length_map]
 refine Nat.le_trans (List.length_filter_le _ _) ?_
 rw [List.length_zip];omega
theorem Yhx:∀ (l:List Schema) (D:List (List Bool)),(Ydm l D).length≤Ya6 l
 | [],_=>by simp [Ydm]
 | _::_,[]=>by simp [Ydm]
 | s::l,b::D=>by
  have h1:=Yhx l D
  have h2:=Yhw (n:=s.name) (l:=s.arguments) (b:=b)
  have e:Ydm (s::l) (b::D)=Yfe s.name s.arguments b++Ydm l D:=by simp [Ydm]
  rw [e,List.length_append]
  unfold Ya6 at*
  simp only [List.map_cons,List.sum_cons];omega
theorem Yki (l:List Schema) (k:Nat):Ya6 (l.take k)≤Ya6 l:=by
 unfold Ya6
 conv=>rhs;rw [← List.take_append_drop k l]
 rw [List.map_append,List.sum_append];omega
theorem step_one:OneC Yk5:=by
 intro fz d cs h u hu
 obtain ⟨va,rfl,_,A,n,c,rfl,_⟩:=h
 simp at hu
 rcases hu with rfl | rfl | rfl<;>rfl
variable {d:Domain} {fz:FZ} {p:Problem} {u1 u2 u3 u4 u5 u6 u7 v1 v2 v3 v4 v5 v6:Value}
set_option maxHeartbeats 8000000 in
theorem insts_f (hM:MaxF fz) (hD:DomainR fz d v1 v2 v3 v4 v5 v6) (hP:ProblemR fz p u1 u2 u3 u4 u5 u6 u7) (hS:ChkS d p) (hA:(XJ d p).2=0→Apt d p):
 GFn prog 16 [.agg #[.string d.name,v1,v2,v3,v4,v5,v6],.agg #[.string p.name,.string p.domain,u1,u2,u3,.string p.goal.op,.string p.goal.name,u4,u5,u6,u7]] fz []
  (fun r fz' H'=>∃ S0,Yky S0 (YdS p.init)∧∃ v,r=.tuple #[v,errV (W0 d p S0)]∧(W0 d p S0≠0→v=.slice none 0 0∧H'=[])∧(W0 d p S0=0→∃ n,Grow Yk5 71 fz' v n H' (Ydm (schL (knM d p) d) (expM (knM d p) d S0).D))):=by
 have hD0:=hD
 have hP0:=hP
 obtain ⟨A1,n1,b1,rfl,i1⟩:=hD.types
 obtain ⟨A2,n2,b2,rfl,i2⟩:=hD.constants
 obtain ⟨A3,n3,b3,rfl,i3⟩:=hD.predicates
 obtain ⟨A4,n4,b4,rfl,i4⟩:=hD.functions
 obtain ⟨A5,n5,b5,rfl,i5⟩:=hD.actions
 obtain ⟨A6,n6,b6,rfl,i6⟩:=hD.duratives
 obtain ⟨B1,m1,d1,rfl,j1⟩:=hP.objects
 obtain ⟨B2,m2,d2,rfl,j2⟩:=hP.init
 obtain ⟨B3,m3,d3,rfl,j3⟩:=hP.values
 obtain ⟨B4,m4,d4,rfl,_⟩:=hP.goal.args
 obtain ⟨B5,m5,d5,rfl,_⟩:=hP.goal.params
 obtain ⟨B6,m6,d6,rfl,_⟩:=hP.goal.exprs
 obtain ⟨B7,m7,d7,rfl,_⟩:=hP.goal.kids
 refine zF Tryz.func16 Tryz.ntmps16 (fun w0=>?_)
 refine Yp (Yq (Yb Zz (Y3 _ Zz Zz (fun g2=>?_))))
 refine Yb Zz (Y3 _ Zz Zz (fun g3=>?_))
 refine zWO ?_;intros
 refine zV ?_;intros
 refine Yb Zz (Yl [] _ Zz Zz Zz (YlJ hM hD0 hP0 hS (fun h=>(hA h).init)) (fun v4 fz4 H4 hle4 hR4=>?_))
 obtain ⟨rfl,vk,rfl,hkd⟩:=hR4
 by_cases hc:(XJ d p).2=0
 rotate_left 1
 ·rw [YF hc]
  refine zV ?_;intros
  exact ret2 rfl rfl rfl Zb ⟨YdS p.init,⟨YeG p.init,fun _=>Iff.rfl⟩,_,by rw [W0,if_pos hc,YF hc];try rfl,fun _=>⟨rfl,rfl⟩,fun h=>absurd h (by rw [W0,if_pos hc];exact hc)⟩
 ·rw [hc,show errV 0=.nilIface from rfl]
  have hap:=hA hc
  have hKD:=hkd hc
  refine zV ?_;intros
  refine Yb Zz (Yl [] _ Zz Zz Zz (YhL hKD hap.sch hap.os hap.sh) (fun v5 fz5 H5 hle5 hR5=>?_))
  obtain ⟨rfl,S0,hS0,vr,rfl,hrr⟩:=hR5
  have hE:W0 d p S0=expE (knM d p) d S0:=by rw [W0,if_neg (by rw [hc];decide)]
  by_cases he:expE (knM d p) d S0=0
  rotate_left 1
  ·rw [YF he]
   refine zV ?_;intros
   exact ret2 rfl rfl rfl Zb ⟨S0,hS0,_,by rw [hE,YF he];try rfl,fun _=>⟨rfl,rfl⟩,fun h=>absurd h (by rw [hE];exact he)⟩
  ·rw [he,show errV 0=.nilIface from rfl]
   obtain ⟨gr,gs,vk',As,Ad,n,cS,cd,vb,m,gD,rfl,h1,h2,h3,h4,h5,h6,h7⟩:=(hrr he).ex
   have ln:=h4.len
   have sn:=h4.short
   refine zV ?_;intros
   have hE0:schE (knM d p) d=0:=by
    unfold expE at he
    by_cases h0:schE (knM d p) d=0
    ·exact h0
    ·rw [if_pos h0] at he;exact absurd he h0
   have hfit:FitR (schL (knM d p) d) (expM (knM d p) d S0).D:=(YhM (K:=knM d p) (l:=schL (knM d p) d) _ (w:=⟨S0,exN0 (schL (knM d p) d),exN0 (schL (knM d p) d),false⟩) (Nat.lt_succ_self _) (Ygy _) (Ygy _)).2.2.1
   have hmany:Ya6 (schL (knM d p) d)≤4096:=by
    unfold schE at hE0
    by_cases h0:4096<Ya6 (schL (knM d p) d)
    ·rw [if_pos h0] at hE0;cases hE0
    ·omega
   have hlen:∀ s∈schL (knM d p) d,∀ a∈s.arguments,a.length≤2000000:=fun s hs a ha=>by
    obtain ⟨s0,h0,rfl⟩:=List.mem_map.1 hs
    have h1:=Yi6 hap.sch h0
    have e:a.length=s0.params.length:=Ydw ha
    omega
   generalize hll:schL (knM d p) d=l at*
   generalize hDD:(expM (knM d p) d S0).D=D at*
   obtain ⟨hfl,hff⟩:=hfit
   refine Yk (fun q σ fz' H'=>∃ (k:Nat) (v:Value) (nn:Nat),k≤n∧q=n - k∧σ=[(36,.int .i64 k),(35,.int .i64 n),(34,.slice As n cS),(9,v),(8,.pointer (some ⟨gr,0,none⟩))]∧Le fz5 fz'∧Grow Yk5 71 fz' v nn H' (Ydm (l.take k) (D.take k))) ⟨0,_,0,Z0 _,rfl,rfl,Le.refl _,Grow.nil _ _ _⟩ Zw Zb ?_
   rintro q σ fz6 H6 ⟨k,v6,nn,hk,rfl,rfl,hle6,hG6⟩
   obtain ⟨A6,c6,rfl,_,_⟩:=hG6.form
   refine zW ?_;intros
   refine zC (fun c1=>?_) (fun c1=>?_)
   ·obtain ⟨s,hs⟩:=Yg (l:=l) (k:=k) Zi
    obtain ⟨b,hb⟩:=Yg (l:=D) (k:=k) Zi
    have hbl:=hff k s b hs hb
    refine zW ?_;intros
    refine zI (h4.mono hle6) hs (fun p1 hp1=>?_)
    refine zL hp1 ?_
    intro cs hcs
    obtain ⟨u0,u1,u2,u3,u4,u5,u6,u7,u8,u9,u10,u11,u12,u13,u14,u15,u16,u17,u18,u19,rfl,hR⟩:=WC hcs
    obtain ⟨P0,p0,q0,rfl,_⟩:=id hR.params
    obtain ⟨P1,p1,q1,rfl,_⟩:=id hR.start.args
    obtain ⟨P2,p2,q2,rfl,_⟩:=id hR.start.params
    obtain ⟨P3,p3,q3,rfl,_⟩:=id hR.start.exprs
    obtain ⟨P4,p4,q4,rfl,_⟩:=id hR.start.kids
    obtain ⟨P5,p5,q5,rfl,_⟩:=id hR.all.args
    obtain ⟨P6,p6,q6,rfl,_⟩:=id hR.all.params
    obtain ⟨P7,p7,q7,rfl,_⟩:=id hR.all.exprs
    obtain ⟨P8,p8,q8,rfl,_⟩:=id hR.all.kids
    obtain ⟨P9,p9,q9,rfl,_⟩:=id hR.over.args
    obtain ⟨P10,p10,q10,rfl,_⟩:=id hR.over.params
    obtain ⟨P11,p11,q11,rfl,_⟩:=id hR.over.exprs
    obtain ⟨P12,p12,q12,rfl,_⟩:=id hR.over.kids
    obtain ⟨P13,p13,q13,rfl,_⟩:=id hR.fin.args
    obtain ⟨P14,p14,q14,rfl,_⟩:=id hR.fin.params
    obtain ⟨P15,p15,q15,rfl,_⟩:=id hR.fin.exprs
    obtain ⟨P16,p16,q16,rfl,_⟩:=id hR.fin.kids
    obtain ⟨P17,p17,q17,rfl,_⟩:=id hR.early
    obtain ⟨P18,p18,q18,rfl,_⟩:=id hR.late
    obtain ⟨P19,p19,q19,rfl,iar⟩:=id hR.arguments
    have lar:=iar.len
    have sar:=iar.short
    refine Yb Zz (YI T Zz Zz (fun ga=>?_))
    refine zW ?_;intros
    refine Yk (fun q σ fz' H'=>∃ (j:Nat) (v:Value) (mm:Nat) (Hs:HP),j≤p19∧q=p19 - j∧σ=[(44,.int .i64 j),(43,.int .i64 p19),(42,.slice P19 p19 q19),(36,.int .i64 k),(35,.int .i64 n),(34,.slice As n cS),(11,.pointer (some ⟨ga,0,none⟩)),(10,.int .i64 k),(9,v),(8,.pointer (some ⟨gr,0,none⟩))]∧Le fz6 fz'∧H'=(ga,.cells #[.string s.name,.slice P0 p0 q0,.string s.start.op,.string s.start.name,.slice P1 p1 q1,.slice P2 p2 q2,.slice P3 p3 q3,.slice P4 p4 q4,.string s.all.op,.string s.all.name,.slice P5 p5 q5,.slice P6 p6 q6,.slice P7 p7 q7,.slice P8 p8 q8,.string s.over.op,.string s.over.name,.slice P9 p9 q9,.slice P10 p10 q10,.slice P11 p11 q11,.slice P12 p12 q12,.string s.fin.op,.string s.fin.name,.slice P13 p13 q13,.slice P14 p14 q14,.slice P15 p15 q15,.slice P16 p16 q16,.slice P17 p17 q17,.slice P18 p18 q18,.bool s.count,.slice P19 p19 q19] 111 (0,0))::Hs∧Grow Yk5 71 fz' v mm Hs (Ydm (l.take k) (D.take k)++Yfe s.name (s.arguments.take j) (b.take j))) ⟨0,_,nn,H6,Z0 _,rfl,rfl,Le.refl _,rfl,by simpa [Yfe] using hG6⟩ Zw Zb ?_
    rintro q σ fz7 H' ⟨j,v7,mm,H7,hj,rfl,rfl,hle7,rfl,hG7⟩
    obtain ⟨A7,c7,rfl,_,_⟩:=hG7.form
    have hx7:=hle6.trans hle7
    refine zW ?_;intros
    refine zC (fun c2=>?_) (fun c2=>?_)
    ·obtain ⟨a,ha⟩:=Yg (l:=s.arguments) (k:=j) Zi
     obtain ⟨x,hx⟩:=Yg (l:=b) (k:=j) Zi
     have hgl:gD.length=n:=h6
     obtain ⟨gg,hgg⟩:=Yg (l:=gD) (k:=k) Zi
     have hz:(gD.zip (l.map fun s=>s.arguments.length))[k]?=some (gg,p19):=by
      rw [List.getElem?_zip_eq_some]
      refine ⟨hgg,?_⟩
      rw [List.getElem?_map,hs]
      exact congrArg some lar
     have hfg:fz7 gg=some (.cells (b.map Value.bool).toArray 4 (0,0)):=hx7 _ _ (h7 _ (Zm (Yek hgg hb)))
     refine zW ?_;intros
     refine zI (iar.mono hle7) ha (fun p1 hp1=>?_)
     ((refine zG ?_);refine Yeq T Zz Zz Zz hp1 (fun Ay ny cy hy=>?_))
     have ly:=hy.len
     have sy:=hy.short
     have hgr7:=hx7 _ _ h1
     refine zV ?_;intros
     refine zI (h5.mono hx7) hz (fun p2 hp2=>?_)
     refine zG ?_;refine Xc T Zz Zz Zz hp2 ?_
     refine zW ?_;intros
     refine zG ?_;refine Yo (z:=1) T Zz Zz Zz Zz Zz rfl Zi Zi ?_
     refine zG ?_;refine YbO T Zz Zz Zz hfg (Wz hx) ?_
     cases x with
     | false=>
      refine zW ?_;intros
      exact YA ⟨j+1,_,mm,H7,by omega,rfl,rfl,hle7,rfl,hG7.of (by rw [YfE ha hx];simp) rfl⟩ Zi Zw Zb
     | true=>
      have hlen7:mm≤8192:=by
       have e7:=hG7.len
       have b1:=Yhx (l.take k) (D.take k)
       have b2:=Yki l k
       have b3:=Yhw (n:=s.name) (l:=s.arguments.take j) (b:=b.take j)
       have b4:s.arguments.length≤Ya6 l:=Yc8 (f:=fun s:Schema=>s.arguments.length) (Zm hs)
       rw [List.length_append] at e7
       rw [List.length_take] at b3
       omega
      have hny:ny≤2000000:=by rw [← ly];exact hlen s (Zm hs) a (Zm ha)
      refine zWN ?_;intros
      refine Wp.drawK (Hq:=[(ga,_)]) T.mixed Zj Zj Zb ?_
      refine zW ?_;intros
      refine Ye ?_
      refine Ye ?_
      refine Ye ?_
      refine Ye ?_
      refine Ye ?_
      refine YD ⟨by kernel_rfl,?_⟩
      refine Yj (Yl [] ((ga,_)::H7) Zz Zz Zz (Yd6 hy Zi) (fun v8 fz8 H8 hle8 hR8=>?_))
      obtain ⟨A8,c8,rfl,_,_⟩:=hR8.form
      refine ⟨⟨hle8,fun p hp=>List.mem_append_right _ (by simp at hp;subst hp;exact .head _)⟩,?_⟩
      refine Ch.qk ⟨hle8,fun p hp=>List.mem_append_right _ (by simp at hp;subst hp;exact .head _)⟩ (YS T Zz Zz Zz Zz Zz ?_)
      refine Yj (Does.freeze (H1:=(ga,_)::H7) (H2:=H8) Zq (fun fz9 hle9 hf9=>?_))
      obtain ⟨B8,d8,e8,hS8⟩:=hR8.sl hle9 hf9 Zi
      injection e8 with e81 e82 e83
      subst e81;subst e83
      refine Yc T (cs:=[.int .i64 0,.string s.name,.slice A8 ny c8]) Zz Zz Zz Zz Zz Zz Zz Zz (fun gb=>⟨⟨hle8.trans hle9,fun p hp=>by simp at hp;subst hp;simp⟩,?_⟩)
      refine Yj (YK T (Hr:=(gb,_)::(ga,_):: []) (d:=(s.name,a)) Zz Zz Zz Zz Zz Zz Zz Zz (Zr _) (hG7.mono (hle8.trans hle9)) step_one (.head _) ⟨_,rfl,hR.name,_,_,_,rfl,hS8⟩ (by show _*48≤_;omega) Zi (fun v10 H10 hO10=>⟨⟨hle8.trans hle9,fun p hp=>by simp at hp;subst hp;simp⟩,?_⟩))
      obtain ⟨A10,c10,rfl,_,_⟩:=hO10.form
      refine Ch.qk ⟨hle8.trans hle9,fun p hp=>by simp at hp;subst hp;simp⟩ (Yz Zz ?_)
      refine Ch.done ?_
      refine zW ?_;intros
      exact YA ⟨j+1,_,mm+1,H10,by omega,rfl,rfl,hle7.trans (hle8.trans hle9),rfl,hO10.of (by rw [YfE ha hx,if_pos rfl,List.append_assoc]) rfl⟩ Zi Zw (List.Sublist.cons _ (List.Sublist.refl _))
    ·have hj2:j=p19:=by omega
     subst hj2
     rw [Zl (show s.arguments.length≤j by omega),Zl (show b.length≤j by omega),← Ykm hs hb] at hG7
     refine zW ?_;intros
     exact YA ⟨k+1,_,mm,by omega,rfl,rfl,hx7,hG7⟩ Zi Zw (List.Sublist.cons _ (List.Sublist.refl _))
   ·have hk2:k=n:=by omega
    subst hk2
    rw [Zl Zi,Zl Zi] at hG6
    refine zW ?_;intros
    exact ret2 rfl rfl rfl Zb ⟨S0,hS0,_,by rw [hE,he];rfl,fun h=>absurd (by rw [hE];exact he) h,fun _=>⟨nn,by first | exact hG6 | (rw [hDD];exact hG6)⟩⟩
end Go.Proofs.YtbnpeechpebmeaaGreatDoor
namespace Go.Proofs.YtbnpeechpebmeaaGreatDoor
open Go.Lx Go.RowKit
attribute [local instance 10] Classical.propDecidable
variable {i:Nat}
theorem byte_of {s:Bs} {b:UInt8} (h:s.data.toList[i]?=some b):i<s.size∧Yap s i=b.toNat:=by
 have hlt:i<s.size:=(Zg h).1
 obtain ⟨c,h1,h2⟩:=YaQ hlt
 refine ⟨hlt,?_⟩
 rw [h2]
 have h3:s.data.toList[i]?=some c:=by
  have:s[i]?=s.data[i]?:=by
   rw [getElem?_pos s i hlt,Array.getElem?_eq_getElem (show i<s.data.size from hlt)]
   rfl
  rw [this] at h1
  simpa using h1
 rw [h] at h3
 injection h3 with h3
 rw [h3]
theorem YaX {s:Bs} (h:Xk s):PlnS s:=by
 refine ⟨Nat.le_trans h.2.2.1 Zh,fun b hb=>?_⟩
 obtain ⟨i,hi⟩:=List.getElem?_of_mem hb
 obtain ⟨hlt,he⟩:=byte_of hi
 have:=h.1 i hlt
 unfold Yax LetP DigP at this
 unfold PlnB
 rw [he] at this
 omega
theorem pln_var {s:Bs} (h:VarP s):PlnS s:=by
 obtain ⟨h1,h2,h3,h4⟩:=h
 refine ⟨Nat.le_trans h2 Zh,fun b hb=>?_⟩
 obtain ⟨i,hi⟩:=List.getElem?_of_mem hb
 obtain ⟨hlt,he⟩:=byte_of hi
 cases i with
 | zero=>rw [he] at h3;unfold PlnB;omega
 | succ i=>
  have hx:(s.extract 1 s.size).data.toList[i]?=some b:=by
   rw [ByteArray.data_extract,Array.toList_extract]
   have hs:s.size=s.data.toList.length:=rfl
   show (List.extract s.data.toList 1 s.size)[i]?=_
   rw [List.extract,List.getElem?_take_of_lt Zi,List.getElem?_drop,Nat.add_comm]
   exact hi
  exact (YaX h4).2 b (Zm hx)
theorem Yjc {s:Bs} (h:YdA s):PlnS s:=h.elim YaX pln_var
theorem HSh.shn:∀ (n:Nat) {f:Formula},SizeOf.sizeOf f≤n→HSh f→ShN f
 | 0,f,h,_=>by cases f;simp at h
 | n+1,f,h,hs=>.mk hs.same (fun h1=>hs.head h1) (fun k hk=>HSh.shn n (by have:=Formula.kids_lt hk;omega) (hs.kid hk))
theorem HSh.join {op:Bs} {ns:List Formula} (hop:op=kAnd∨op=kOr) (h:∀ n∈ns,HSh n):HSh (joinF op ns):=by
 have a1:¬op=kSame:=by rcases hop with rfl | rfl<;>decide+kernel
 have a2:¬(op=kNot∨QuF op):=by rcases hop with rfl | rfl<;>(unfold QuF;decide+kernel)
 have a3:¬op=kAtom:=by rcases hop with rfl | rfl<;>decide+kernel
 refine .mk (fun e=>absurd e a1) (fun e=>absurd e a2) (fun e=>absurd e a3) (fun e=>absurd (.inl e) a2) (Z0 _) (fun k hk=>?_)
 have hk:k∈joinL op ns:=hk
 unfold joinL at hk
 obtain ⟨n,hn,hkn⟩:=List.mem_flatMap.1 hk
 split at hkn
 ·exact (h n hn).kid hkn
 ·rw [List.mem_singleton] at hkn;subst hkn;exact h k hn
theorem HSh.cmp {op:Bs} {a b:Lx.Expr} (hop:op=kLt∨op=kLe∨op=kEq):HSh (cmpF op a b):=by
 have a1:¬op=kSame:=by rcases hop with rfl | rfl | rfl<;>decide+kernel
 have a2:¬(op=kNot∨QuF op):=by rcases hop with rfl | rfl | rfl<;>(unfold QuF;decide+kernel)
 have a3:¬op=kAtom:=by rcases hop with rfl | rfl | rfl<;>decide+kernel
 exact .mk (fun e=>absurd e a1) (fun e=>absurd e a2) (fun e=>absurd e a3) (fun e=>absurd (.inl e) a2) (Z0 _) (fun k hk=>by cases hk)
theorem HSh.zero:HSh Ycx:=by
 have a1:¬Ycx.op=kSame:=by decide+kernel
 have a2:¬(Ycx.op=kNot∨QuF Ycx.op):=by unfold QuF;decide+kernel
 have a3:¬Ycx.op=kAtom:=by decide+kernel
 exact .mk (fun e=>absurd e a1) (fun e=>absurd e a2) (fun e=>absurd e a3) (fun e=>absurd (.inl e) a2) (Z0 _) (fun k hk=>by cases hk)
variable {f:Formula}
theorem kid_w {k:Formula} (h:k∈f.kids):fW k≤fW f:=by
 have:=Xz (w:=fW) h
 rw [Yca f];omega
theorem Yjg:∀ (n:Nat) {f:Formula} (sg:Bool),SizeOf.sizeOf f≤n→FOk f→fW f≤1500000→HSh (normM sg f)
 | 0,f,_,h,_,_=>by cases f;simp at h
 | n+1,f,sg,hsz,hok,hw=>by
  have hall:=Wv.1 hok
  obtain ⟨⟨f1,f2,f3⟩,⟨k,hk,r1,r2,r3,r4⟩,hpar⟩:=hall.1
  have ih:∀ (sg':Bool) (x:Formula),x∈f.kids→HSh (normM sg' x):=fun sg' x hx=>Yjg n sg' (by have:=Formula.kids_lt hx;omega) (hall.2.2 x hx) (Nat.le_trans (kid_w hx) hw)
  have hone:∀ sg':Bool,f.kids.length=1→HSh (headN (f.kids.map (normM sg'))):=fun sg' h1=>by
   obtain ⟨x,hx⟩:=List.length_eq_one_iff.1 h1
   rw [hx]
   exact ih sg' x (by rw [hx];simp)
  have hmap:∀ sg':Bool,∀ x∈f.kids.map (normM sg'),HSh x:=fun sg' x hx=>by
   obtain ⟨y,hy,rfl⟩:=List.mem_map.1 hx
   exact ih sg' y hy
  have hw2:=Yca f
  rw [Wk]
  by_cases w1:f.op=kNot
  ·rw [if_pos w1]
   have e:YaU f=some (0,false,1):=by
    unfold YaU
    rw [w1,if_neg (by decide+kernel),if_neg (by unfold CmpOp;decide+kernel),if_neg (by decide+kernel),if_pos rfl]
   rw [e] at hk
   injection hk with hk
   subst hk
   exact hone _ r3
  ·rw [if_neg w1]
   by_cases w2:f.op=kImply
   ·rw [if_pos w2]
    have e:YaU f=some (0,false,2):=by
     unfold YaU
     rw [w2,if_neg (by decide+kernel),if_neg (by unfold CmpOp;decide+kernel),if_neg (by decide+kernel),if_neg (by decide+kernel),if_pos rfl]
    rw [e] at hk
    injection hk with hk
    subst hk
    have hl:f.kids.length=2:=r3
    obtain ⟨x,y,hxy⟩:∃ x y,f.kids=[x,y]:=by
     match hf:f.kids,hl with
     | [x,y],_=>exact ⟨x,y,rfl⟩
    rw [hxy]
    refine HSh.join (by split<;>simp) (fun z hz=>?_)
    rcases List.mem_cons.1 hz with rfl | hz
    ·exact ih _ x (by rw [hxy];simp)
    ·rw [List.mem_singleton] at hz
     subst hz
     exact ih _ y (by rw [hxy];simp)
   ·rw [if_neg w2]
    by_cases w3:f.op=kAnd
    ·rw [if_pos w3];exact HSh.join (by split<;>simp) (hmap sg)
    ·rw [if_neg w3]
     by_cases w4:f.op=kOr
     ·rw [if_pos w4];exact HSh.join (by split<;>simp) (hmap sg)
     ·rw [if_neg w4]
      by_cases w5:QuF f.op
      ·rw [if_pos w5]
       have e:YaU f=some (0,true,1):=by
        unfold YaU
        rcases w5 with w5 | w5
        ·rw [w5,if_neg (by decide+kernel),if_neg (by unfold CmpOp;decide+kernel),if_neg (by decide+kernel),if_neg (by decide+kernel),if_neg (by decide+kernel),if_pos (by simp)]
        ·rw [w5,if_neg (by decide+kernel),if_neg (by unfold CmpOp;decide+kernel),if_neg (by decide+kernel),if_neg (by decide+kernel),if_neg (by decide+kernel),if_pos (by simp)]
       rw [e] at hk
       injection hk with hk
       subst hk
       have hq:∀ op,op=kForall∨op=kExists→¬op=kSame∧¬op=kAtom∧¬op=kNot:=by
        rintro op (rfl | rfl)<;>decide+kernel
       have hop:QuF (if sg=true then f.op else if f.op=kForall then kExists else kForall):=by
        split
        ·exact w5
        ·split
         ·exact .inr rfl
         ·exact .inl rfl
       obtain ⟨q1,q2,q3⟩:=hq _ hop
       refine .mk (fun e=>absurd e q1) (fun _ h=>by cases h) (fun e=>absurd e q2) (fun e=>absurd e q3) (by show f.params.length≤_;omega) (fun x hx=>?_)
       have hx:x∈ [headN (f.kids.map (normM sg))]:=hx
       rw [List.mem_singleton] at hx
       subst hx
       exact hone _ r3
      ·rw [if_neg w5]
       by_cases w6:f.op=kLt
       ·rw [if_pos w6]
        split
        ·exact HSh.cmp (.inl rfl)
        ·exact HSh.cmp (.inr (.inl rfl))
       ·rw [if_neg w6]
        by_cases w7:f.op=kLe
        ·rw [if_pos w7]
         split
         ·exact HSh.cmp (.inr (.inl rfl))
         ·exact HSh.cmp (.inl rfl)
        ·rw [if_neg w7]
         by_cases w8:f.op=kEq
         ·rw [if_pos w8]
          split
          ·exact HSh.cmp (.inr (.inr rfl))
          ·have a1:¬kOr=kSame:=by decide+kernel
           have a2:¬(kOr=kNot∨QuF kOr):=by unfold QuF;decide+kernel
           have a3:¬kOr=kAtom:=by decide+kernel
           refine .mk (fun e=>absurd e a1) (fun e=>absurd e a2) (fun e=>absurd e a3) (fun e=>absurd (.inl e) a2) (Z0 _) (fun x hx=>?_)
           rcases List.mem_cons.1 hx with rfl | hx
           ·exact HSh.cmp (.inl rfl)
           ·rw [List.mem_singleton] at hx
            subst hx
            exact HSh.cmp (.inl rfl)
         ·rw [if_neg w8]
          have hao:f.op=kAtom∨f.op=kSame:=by
           unfold YaU at hk
           by_cases h0:f.op=kAtom∨f.op=kSame
           ·exact h0
           ·rw [if_neg h0,if_neg (fun h=>by unfold CmpOp at h;rcases h with h | h | h;exact w6 h;exact w7 h;exact w8 h),if_neg (fun h=>h.elim w3 w4),if_neg w1,if_neg w2,if_neg (show ¬(f.op=kForall∨f.op=kExists) from w5)] at hk
            cases hk
          have e:k=(0,false,0):=by
           unfold YaU at hk
           rw [if_pos hao] at hk
           injection hk with hk
           exact hk.symm
          subst e
          have hk0:f.kids=[]:=List.eq_nil_of_length_eq_zero r3
          have hn1:¬(f.op=kNot∨QuF f.op):=fun h=>h.elim w1 w5
          have hf:HSh f:=by
           refine .mk (fun e=>Nat.le_of_eq (f2 e).2.symm) (fun e=>absurd e hn1) (fun e=>⟨YaX (f1 e),by omega,fun t ht=>Yjc (f3 hao t ht)⟩) (fun e=>absurd (.inl e) hn1) Zi (fun x hx=>by rw [hk0] at hx;cases hx)
          cases sg with
          | true=>rw [if_pos rfl];exact hf
          | false=>
           rw [if_neg Zh]
           have a1:¬kNot=kSame:=by decide+kernel
           have a3:¬kNot=kAtom:=by decide+kernel
           refine .mk (fun e=>absurd e a1) (fun _ h=>by cases h) (fun e=>absurd e a3) (fun _ x hx=>?_) (Z0 _) (fun x hx=>?_)
           ·have hx:x∈ [f]:=hx
            rw [List.mem_singleton] at hx
            subst hx;exact hao
           ·have hx:x∈ [f]:=hx
            rw [List.mem_singleton] at hx
            subst hx;exact hf
theorem Ybe (hw:fW f≤1500000):HSh (normV f):=by
 unfold normV
 split
 ·rename_i h
  exact Yjg _ true (Zs _) h.1 hw
 ·exact HSh.zero
theorem YjI {K:Kn} (hO:∀ o∈K.os,PlnS o.name) {most:Nat}:∀ (ps:List Param) (out:List (List Bs)),(∀ l∈out,∀ t∈l,PlnS t)→∀ l∈ps.foldl (Yex K most) out,∀ t∈l,PlnS t
 | [],_,h=>h
 | p::ps,out,h=>YjI hO ps _ (fun l hl t ht=>by
  unfold Yex at hl
  obtain ⟨l0,h1,h2⟩:=List.mem_flatMap.1 (List.mem_of_mem_take hl)
  obtain ⟨o,ho,rfl⟩:=List.mem_map.1 h2
  rcases List.mem_append.1 ht with ht | ht
  ·exact h l0 h1 t ht
  ·rw [List.mem_singleton] at ht
   subst ht
   obtain ⟨q,hq,e⟩:=Yit ho
   exact e ▸ hO q hq)
theorem Ylx {l:List Change} {c:Change} (h:c∈normC l):∃ c0∈l,c={c0 with when_:=normV c0.when_}:=by
 unfold normC at h
 obtain ⟨c0,h1,rfl⟩:=List.mem_map.1 h
 exact ⟨c0,(List.mem_filter.1 h1).1,rfl⟩
theorem YjH {l:List Change} (hok:Yc3 l) (hw:(l.map Xq).sum≤1400000):∀ c∈normC l,CSh c:=by
 intro c hc
 obtain ⟨c0,h0,rfl⟩:=Ylx hc
 have h1:=Xz (w:=Xq) h0
 have h2:Xq c0=1+c0.params.length+fW c0.when_+c0.args.length+eW c0.value:=rfl
 obtain ⟨⟨n1,n2⟩,_,_,_⟩:=hok c0 h0
 exact ⟨Ybe Zi,YaX n1,by show c0.args.length≤_;omega,fun t ht=>Yjc (n2 t ht),by show c0.params.length≤_;omega⟩
theorem Yia {l:List Change} (hw:(l.map Xq).sum≤1400000):l.length≤2000000∧∀ c∈l,fW c.when_≤1400000:=by
 refine ⟨?_,fun c hc=>?_⟩
 ·have:=Wx (w:=Xq) (fun c=>by unfold Xq;omega) l
  omega
 ·have h1:=Xz (w:=Xq) hc
  have h2:Xq c=1+c.params.length+fW c.when_+c.args.length+eW c.value:=rfl
  omega
theorem andW (l:List Formula):fW (andF l)=1+(l.map fW).sum:=by
 rw [Yca]
 show 1+0+0+0+(l.map fW).sum=_
 omega
variable {d:Domain} {p:Problem}
theorem apt_of (hc:(XJ d p).2=0) (hd:domW d≤1300000) (hp:prbW p≤1300000):Apt d p:=by
 have hok:=Ymp hc
 obtain ⟨hL,hT64,hp6⟩:=Ygg hok.lim
 obtain ⟨_,_,d3,_,_,d6,d7⟩:=hok.dok.1
 obtain ⟨_,_,p3,_,p5⟩:=hok.pok.2.1
 have wA:∀ a∈d.actions,actW a≤1300000:=fun a ha=>by
  have:=Xz (w:=actW) ha
  unfold domW at hd;omega
 have wD:∀ a∈d.duratives,durW a≤1300000:=fun a ha=>by
  have:=Xz (w:=durW) ha
  unfold domW at hd;omega
 have hos:∀ o∈(knM d p).os,PlnS o.name:=fun o ho=>by
  rcases List.mem_append.1 ho with ho | ho
  ·have:=(d3 o ho).1
   exact YaX (by simpa using this)
  ·have:=(p3 o ho).1
   exact YaX (by simpa using this)
 have eA:∀ a:Action,actW a=1+a.params.length+fW a.pre+(a.changes.map Xq).sum:=fun _=>rfl
 have eD:∀ a:Durative,durW a=1+a.params.length+fW a.start+fW a.over+fW a.fin+(a.atStart.map Xq).sum+(a.atEnd.map Xq).sum:=fun _=>rfl
 refine ⟨fun a ha=>?_,⟨by have:=hL.a;omega,by have:=hL.u;omega,fun a ha=>?_,fun a ha=>?_,fun a ha=>?_⟩,hos,fun _ s hs=>?_⟩
 ·have h1:=Xz (w:=Yfm) ha
  have h2:Yfm a=1+a.args.length:=rfl
  have h3:=p5 a ha
  unfold prbW at hp
  exact ⟨YaX h3.1,by omega,fun t ht=>YaX (h3.2 t ht)⟩
 ·have h1:=wA a ha
  have h2:=eA a
  obtain ⟨h3,h4⟩:=Yia (l:=a.changes) Zi
  exact ⟨by omega,by omega,h3,fun c hc=>Nat.le_trans (h4 c hc) Zh⟩
 ·have h1:=wD a ha
  have h2:=eD a
  obtain ⟨h3,h4⟩:=Yia (l:=a.atStart) Zi
  obtain ⟨h5,h6⟩:=Yia (l:=a.atEnd) Zi
  exact ⟨by omega,by omega,by omega,by omega,h3,h5,fun c hc=>Nat.le_trans (h4 c hc) Zh,fun c hc=>Nat.le_trans (h6 c hc) Zh⟩
 ·have h1:=wA a ha
  have h2:=eA a
  have h3:=YjH (d6 a ha).2.2.2.2 Zi
  exact ⟨HSh.shn _ (Zs _) (Ybe Zi),fun c hc=>HSh.shn _ (Zs _) (h3 c hc).when_⟩
 ·obtain ⟨s0,h0,rfl⟩:=List.mem_map.1 hs
  have hargs:∀ a∈(YaT (knM d p) s0).arguments,a.length=s0.params.length∧∀ t∈a,PlnS t:=fun a ha=>
   ⟨Ydw ha,YjI hos s0.params [[]] (by simp) a ha⟩
  rcases List.mem_append.1 h0 with h0 | h0
  ·obtain ⟨a,ha,rfl⟩:=List.mem_map.1 h0
   have h1:=wA a ha
   have h2:=eA a
   exact ⟨Ybe Zi,Ybe Zi,fun c hc=>(by cases hc),YjH (d6 a ha).2.2.2.2 Zi,hargs⟩
  ·obtain ⟨a,ha,rfl⟩:=List.mem_map.1 h0
   have h1:=wD a ha
   have h2:=eD a
   obtain ⟨_,_,_,_,_,o1,o2⟩:=d7 a ha
   refine ⟨Ybe ?_,Ybe ?_,YjH o1 Zi,YjH o2 Zi,hargs⟩
   ·rw [andW];simp only [List.map_cons,List.map_nil,List.sum_cons,List.sum_nil];omega
   ·rw [andW];simp only [List.map_cons,List.map_nil,List.sum_cons,List.sum_nil];omega
theorem chsm_w {c:Change} (h:Xq c≤100000000):ChSm c:=by
 unfold Xq at h
 exact ⟨by omega,by omega,YdL _ (Zs _) Zi,Ymb _ (Zs _) Zi⟩
theorem YiH {l:List Change} (h:(l.map Xq).sum≤100000000):YmK l:=by
 have:=Wx YiK l
 exact ⟨by omega,fun c hc=>chsm_w (by have:=Xz (w:=Xq) hc;omega)⟩
theorem Ymn (hd:domW d≤1300000) (hp:prbW p≤1300000):ChkS d p:=by
 unfold domW at hd
 unfold prbW at hp
 have l3:=Wx Ylo d.predicates
 have l4:=Wx funW_pos d.functions
 have l5:=Wx actW_pos d.actions
 have l6:=Wx durW_pos d.duratives
 have l7:=Wx Ymx p.init
 have l8:=Wx YjU p.values
 have p3:∀ p∈d.predicates,p.params.length≤100000000:=fun p hp=>by have:=Xz (w:=Ylp) hp;have e:Ylp p=1+p.params.length:=rfl;omega
 have p4:∀ p∈d.functions,p.params.length≤100000000:=fun p hp=>by have:=Xz (w:=funW) hp;have e:funW p=1+p.params.length:=rfl;omega
 have p5:∀ x∈d.actions,actW x≤100000000:=fun p hp=>by have:=Xz (w:=actW) hp;omega
 have p6:∀ x∈d.duratives,durW x≤100000000:=fun p hp=>by have:=Xz (w:=durW) hp;omega
 refine ⟨⟨by omega,by omega,by omega,fun p hp=>Nat.le_trans (p3 p hp) Zh,by omega,fun p hp=>Nat.le_trans (p4 p hp) Zh,by omega,fun x hx=>?_,by omega,fun x hx=>?_⟩,⟨by omega,by omega,fun a ha=>?_,by omega,fun v hv=>?_,YdL _ (Zs _) Zi⟩,fun a ha=>Nat.le_trans (p5 a ha) Zh,fun a ha=>Nat.le_trans (p6 a ha) Zh,by omega⟩
 ·have:=p5 x hx
  unfold actW at this
  exact ⟨by omega,YdL _ (Zs _) Zi,YiH Zi⟩
 ·have:=p6 x hx
  unfold durW at this
  exact ⟨by omega,YdL _ (Zs _) Zi,YdL _ (Zs _) Zi,YdL _ (Zs _) Zi,YiH Zi,YiH Zi⟩
 ·have:=Xz (w:=Yfm) ha
  have e:Yfm a=1+a.args.length:=rfl
  omega
 ·have:=Xz (w:=YgU) hv
  have e:YgU v=1+Yfm v.fluent:=rfl
  have e2:Yfm v.fluent=1+v.fluent.args.length:=rfl
  omega
def bD:Bs:=⟨#[100]⟩
def bP:Bs:=⟨#[112]⟩
def bOn:Bs:=⟨#[111,110]⟩
def Wa:Bs:=⟨#[115,101,101,110]⟩
def bKey:Bs:=⟨#[107,101,121]⟩
def YiM:Bs:=⟨#[108,111,111,107]⟩
def atmF (n:Bs):Formula:=.mk kAtom n [] [] [] []
def addC (k:Int) (n:Bs):Change:=⟨k,[],Y8,n,[],nilE⟩
def Ycp:Durative:=⟨YiM,[],2,Y8,atmF bOn,Y8,[addC 1 bOn],[addC 1 Wa,addC 2 bOn]⟩
def Xp:Domain:=⟨bD,[],[],[⟨bOn,[]⟩,⟨Wa,[]⟩,⟨bKey,[]⟩],[],[],[Ycp]⟩
def W7:Problem:=⟨bP,bD,[],[],[],atmF Wa⟩
theorem nilP {α:Type} {p:α→Prop}:∀ x∈([]:List α),p x:=fun _ h=>by cases h
theorem Ykf {s:Bs} (h1:0<s.size) (h2:s.size≤32) (h3:∀ b∈s.data.toList,LetP b.toNat) (h4:s.data.toList ∉ YaF.map (·.data.toList)):Xk s:=by
 refine ⟨fun i hi=>.inl ?_,fun h=>by rw [h] at h1;exact absurd h1 Zh,h2,fun h=>h4 (List.mem_map.2 ⟨s,h,rfl⟩)⟩
 obtain ⟨b,hb,hb2⟩:=YaQ (s:=s) (k:=i) hi
 rw [hb2]
 refine h3 b ?_
 have:=Yjw hi
 rw [getElem?_pos s i hi] at hb
 injection hb with hb
 rw [hb] at this
 exact Zm this
def WrdP (s:Bs):Prop:=0<s.size∧s.size≤32∧(∀ b∈s.data.toList,(97≤(b.toNat:Int)∧(b.toNat:Int)≤122)∨(48≤(b.toNat:Int)∧(b.toNat:Int)≤57)∨b∈SymL)∧¬PreP s YbS∧¬DigP (Yap s 0)
instance {s:Bs}:Decidable (WrdP s):=inferInstanceAs (Decidable (_∧_))
theorem wd_ok {s:Bs} (h:WrdP s):WordT s:=by
 obtain ⟨h1,h2,h3,h4,h5⟩:=h
 refine ⟨fun h=>by rw [h] at h1;exact absurd h1 Zh,h2,h3,fun hn=>?_⟩
 have h6:=hn.1 0 (by rw [YbK,if_neg h4];exact h1)
 rw [YbK,if_neg h4] at h6
 exact h5 h6
theorem nD:Xk bD:=Ykf Zh Zh (by unfold LetP;decide) Zh
theorem nP:Xk bP:=Ykf Zh Zh (by unfold LetP;decide) Zh
theorem nOn:Xk bOn:=Ykf Zh Zh (by unfold LetP;decide) Zh
theorem nSeen:Xk Wa:=Ykf Zh Zh (by unfold LetP;decide) Zh
theorem nKey:Xk bKey:=Ykf Zh Zh (by unfold LetP;decide) Zh
theorem nLook:Xk YiM:=Ykf Zh Zh (by unfold LetP;decide) Zh
theorem xl {ks:List Sexpr} (h:∀ k∈ks,XOk k):XOk (YH ks):=Yaw.2 ⟨.inr (.inr ⟨rfl,rfl,rfl⟩),h⟩
theorem xw {s:Bs} (h:WordT s):XOk (Yh s):=Yaw.2 ⟨.inl ⟨rfl,h,rfl,rfl⟩,by intro k hk;cases hk⟩
theorem xc {k:Sexpr} {r:List Sexpr} (h:XOk k) (h2:∀ j∈r,XOk j):∀ j∈k::r,XOk j:=List.forall_mem_cons.2 ⟨h,h2⟩
theorem x0:∀ j∈([]:List Sexpr),XOk j:=nilP
theorem xk {s:Bs} {r:List Sexpr} (h:WrdP s) (h2:∀ j∈r,XOk j):∀ j∈Yh s::r,XOk j:=xc (xw (wd_ok h)) h2
theorem opA (l:List Formula):(andF l).op=kAnd:=rfl
theorem opT:Y8.op=kAnd:=rfl
theorem opM (n:Bs):(atmF n).op=kAtom:=rfl
theorem Ydq:Y9 Y8=YH []:=by
 rw [Yd3]
 have h1:¬kAnd=kAtom:=by decide
 have h2:¬kAnd=kSame:=by decide
 have h3:¬CmpOp kAnd:=by unfold CmpOp;decide
 have h4:¬(kAnd=kForall∨kAnd=kExists):=by decide
 simp [Y8,Formula.op,Formula.kids,h1,h2,h3,h4]
theorem YbT (n:Bs):Y9 (atmF n)=XT n []:=by
 rw [Yd3,opM,if_pos rfl];rfl
theorem YhA {l:List Formula} (h:l≠ []):Y9 (andF l)=YH (Yh kAnd::l.map Y9):=by
 rw [Yd3]
 have h1:¬kAnd=kAtom:=by decide
 have h2:¬kAnd=kSame:=by decide
 have h3:¬CmpOp kAnd:=by unfold CmpOp;decide
 have h4:¬(kAnd=kForall∨kAnd=kExists):=by decide
 simp [andF,Formula.op,Formula.kids,h1,h2,h3,h4,h]
theorem YiC {l:List Formula} (h:∀ k∈l,FOk k):FOk (andF l):=by
 have h1:¬kAnd=kAtom:=by decide
 have h2:¬kAnd=kSame:=by decide
 have h3:¬CmpOp kAnd:=by unfold CmpOp;decide
 refine Wv.2 ⟨⟨⟨fun h=>absurd h h1,fun h=>absurd h h2,fun h=>absurd h (by rw [opA];decide)⟩,⟨(0,false,l.length),?_,fun _ _=>⟨rfl,rfl⟩,rfl,rfl,fun _=>rfl⟩,nilP⟩,nilP,h⟩
 rw [YaU,opA,if_neg Zh,if_neg h3,if_pos (.inl rfl)];rfl
theorem Yl2 {n:Bs} (h:Xk n):FOk (atmF n):=by
 refine Wv.2 ⟨⟨⟨fun _=>h,fun h=>absurd h (by rw [opM];decide),fun _=>nilP⟩,⟨(0,false,0),?_,fun h=>absurd rfl h,rfl,rfl,fun _=>rfl⟩,nilP⟩,nilP,nilP⟩
 rw [YaU,opM,if_pos (.inl rfl)]
theorem xOn:XOk (XT bOn []):=xl (xk (by decide+kernel) x0)
theorem xSeen:XOk (XT Wa []):=xl (xk (by decide+kernel) x0)
theorem Ydp:FVal Y8:=⟨YiC (l:=[]) nilP,by rw [Ydq];exact ⟨xl x0,by decide,by decide⟩⟩
theorem fv_on:FVal (atmF bOn):=⟨Yl2 nOn,by rw [YbT];exact ⟨xOn,by decide,by decide⟩⟩
theorem fv_seen:FVal (atmF Wa):=⟨Yl2 nSeen,by rw [YbT];exact ⟨xSeen,by decide,by decide⟩⟩
theorem xAnd {r:List Sexpr} (h:∀ j∈r,XOk j):XOk (YH (Yh kAnd::r)):=xl (xk (by decide+kernel) h)
theorem fv_a1:FVal (andF [Y8]):=⟨YiC (List.forall_mem_cons.2 ⟨Ydp.1,nilP⟩),by
 rw [YhA (by simp)]
 simp only [List.map_cons,List.map_nil,Ydq]
 exact ⟨xAnd (xc (xl x0) x0),by decide,by decide⟩⟩
theorem fv_a3:FVal (andF [Y8,atmF bOn,Y8]):=⟨YiC (List.forall_mem_cons.2 ⟨Ydp.1,List.forall_mem_cons.2 ⟨fv_on.1,List.forall_mem_cons.2 ⟨Ydp.1,nilP⟩⟩⟩),by
 rw [YhA (by simp)]
 simp only [List.map_cons,List.map_nil,Ydq,YbT]
 exact ⟨xAnd (xc (xl x0) (xc xOn (xc (xl x0) x0))),by decide,by decide⟩⟩
theorem ch_ok {k:Int} {n:Bs} (hk:k=1∨k=2) (hn:Xk n):ChOk (addC k n):=⟨⟨hn,nilP⟩,.inl ⟨hk,rfl⟩,.inl rfl,nilP⟩
theorem lampU_ok:Ykq Ycp:=⟨nLook,nilP,Ydp,fv_on,Ydp,List.forall_mem_cons.2 ⟨ch_ok (.inl rfl) nOn,nilP⟩,List.forall_mem_cons.2 ⟨ch_ok (.inl rfl) nSeen,List.forall_mem_cons.2 ⟨ch_ok (.inr rfl) nOn,nilP⟩⟩⟩
theorem lampD_ok:DomOk Xp:=⟨nD,nilP,nilP,List.forall_mem_cons.2 ⟨⟨nOn,nilP⟩,List.forall_mem_cons.2 ⟨⟨nSeen,nilP⟩,List.forall_mem_cons.2 ⟨⟨nKey,nilP⟩,nilP⟩⟩⟩,nilP,nilP,List.forall_mem_cons.2 ⟨lampU_ok,nilP⟩⟩
theorem lampP_ok:PrbOk W7:=⟨nP,nD,nilP,nilP,nilP⟩
theorem chX_1 (n:Bs):chX (addC 1 n)=XT n []:=by simp [chX,chX2,chX1,addC,Num5]
theorem chX_2 (n:Bs):chX (addC 2 n)=YH [Yh kNot,XT n []]:=by simp [chX,chX2,chX1,addC,Num5]
theorem atm_ne (n:Bs):¬atmF n=Y8:=fun h=>absurd (congrArg Formula.op h) (by show ¬kAtom=kAnd;decide)
theorem durX_l:durX Ycp=YH [Yh Y7,Yh YiM,Yh Wn,numE 2,Yh Yhu,XT bOn [],Yh Yb1,YH [Yh kAnd,XT bOn []],Yh Yhv,YH [Yh kAnd,XT Wa [],YH [Yh kNot,XT bOn []]]]:=by
 simp [durX,Ycp,opt,effX,chX_1,chX_2,atm_ne,YbT]
theorem domX_l:domX Xp=YH [Yh YQ,YH [Yh Xl,Yh bD],YH [Yh WA,YH [Yh bOn],YH [Yh Wa],YH [Yh bKey]],durX Ycp]:=by
 simp [domX,Xp,grp,WV,Ygd]
theorem YlO:XVal (domX Xp):=by
 rw [domX_l,durX_l]
 refine ⟨?_,by decide,by decide⟩
 refine xl (xk (by decide+kernel) (xc (xl (xk (by decide+kernel) (xk (by decide+kernel) x0))) (xc (xl (xk (by decide+kernel) (xc xOn (xc xSeen (xc (xl (xk (by decide+kernel) x0)) x0))))) (xc ?_ x0))))
 refine xl (xk (by decide+kernel) (xk (by decide+kernel) (xk (by decide+kernel) (xc ?_ (xk (by decide+kernel) (xc xOn (xk (by decide+kernel) (xc (xAnd (xc xOn x0)) (xk (by decide+kernel) (xc (xAnd (xc xSeen (xc (xl (xk (by decide+kernel) (xc xOn x0))) x0))) x0))))))))))
 exact Yaw.2 ⟨.inr (.inl ⟨rfl,rfl,rfl,by unfold Yc0;decide⟩),nilP⟩
theorem prbX_l:prbX W7=YH [Yh YQ,YH [Yh Xw,Yh bP],YH [Yh Y0,Yh bD],YH [Yh Yb9,XT Wa []]]:=by
 have h:¬(kAtom=kAnd):=by decide
 simp [prbX,W7,grp,WV,Yko,atmF,Formula.op,h]
 rw [show Y9 (Formula.mk kAtom Wa [] [] [] [])=_ from YbT Wa]
theorem YlN:XVal (prbX W7):=by
 rw [prbX_l]
 exact ⟨xl (xk (by decide+kernel) (xc (xl (xk (by decide+kernel) (xk (by decide+kernel) x0))) (xc (xl (xk (by decide+kernel) (xk (by decide+kernel) x0))) (xc (xl (xk (by decide+kernel) (xc xSeen x0))) x0)))),by decide,by decide⟩
theorem e1:¬Wa=bOn:=by decide
theorem e2:¬bKey=bOn:=by decide
theorem e3:¬bKey=Wa:=by decide
theorem l_names:Yao Xp []=none:=by simp [Yao,Yce,YbQ,YdG,Xp,nmd,repM,e1,e2,e3]
theorem l_tw:¬TwP [] (parN []):=fun ⟨k,x,h,_⟩=>by simp [parN] at h
theorem l_ex:ExP [] []:=nilP
theorem l_atom {n:Bs} (h:n=bOn∨n=Wa):atomM Xp [] [] n []=0:=by
 have h1:fstP Xp.predicates n=some ⟨n,[]⟩:=by
  rcases h with rfl | rfl
  ·simp [fstP,Xp]
  ·simp [fstP,Xp,Ne.symm e1]
 rw [atomM,h1]
 simp [YiN,Xa]
theorem l_true:formM Xp [] [] Y8=0:=by
 have h4:¬(Yh6 kAnd):=by unfold Yh6;decide
 rw [Yd4,if_neg Zh,if_neg (by show ¬ownM Xp [] [] kAnd [] []≠0;rw [ownM,if_neg Zh,if_neg h4];decide)]
 rw [if_neg (by show ¬exprML Xp [] _ []≠0;rw [exprML];decide)]
 show formML Xp [] _ []=0
 rw [formML]
theorem l_lit:LitP Y8:=Yjo rfl |>.2 nilP
theorem l_atm {n:Bs} (h:n=bOn∨n=Wa):formM Xp [] [] (atmF n)=0:=by rw [Yd4,opM,if_pos rfl];exact l_atom h
theorem l_litA (n:Bs):LitP (atmF n):=(Yjn (by show ¬kAtom=kNot;decide) (by show ¬kAtom=kAnd;decide)).2 (.inl rfl)
theorem l_ch {k:Int} {n:Bs} (hk:k=1∨k=2) (h:n=bOn∨n=Wa):YaP Xp [] [] (addC k n) true=0:=by
 have hp:YfR (addC k n):=⟨rfl,rfl⟩
 have hn:¬NumC (addC k n):=fun h=>by rcases hk with rfl | rfl;exact h.1 rfl;exact h.2 rfl
 rw [YjK (vars:=[]) (fun h=>h.1 hp) l_tw l_ex,if_neg (by show ¬formM Xp [] [] Y8≠0;rw [l_true];decide),if_pos hn]
 exact l_atom h
theorem long_t:¬LongP Y8:=by rw [YcK];simp [Y8,Formula.params,Formula.kids]
theorem long_a (n:Bs):¬LongP (atmF n):=by rw [YcK];simp [atmF,Formula.params,Formula.kids]
theorem Yjr:(XJ Xp W7).2=0:=by
 have ho:objsM Xp W7=[]:=rfl
 have hl:¬LargeM Xp W7 []:=by
  simp [LargeM,Xp,W7,Ycp,Ykz,Yfn,addC,long_t,long_a]
 have hn:newM Xp.types=0:=by
  show newM []=0
  rw [newM,if_neg l_tw];simp
 have h0:(stepM Xp [] W7 0).2=0:=by simp [stepM,l_names]
 have h1:(stepM Xp [] W7 1).2=0:=by simp [stepM,YaI,Xp,Ycp,Xa,l_tw]
 have h2:(stepM Xp [] W7 2).2=0:=by simp [stepM,YaI,Xp,Ycp,Xa,l_ex]
 have h3:(stepM Xp [] W7 3).2=0:=rfl
 have h4:(stepM Xp [] W7 4).2=0:=by simp [stepM,numsL,Xp,Ycp,Xa,Yfl]
 have h5:(stepM Xp [] W7 5).2=0:=by
  have a1:XV Xp [] [] [addC 1 bOn] true=0:=by rw [XV,Yai,if_pos (l_ch (.inl rfl) (.inl rfl)),Yai]
  have a2:XV Xp [] [] [addC 1 Wa,addC 2 bOn] true=0:=by rw [XV,Yai,if_pos (l_ch (.inl rfl) (.inr rfl)),Yai,if_pos (l_ch (.inr rfl) (.inl rfl)),Yai]
  have a3:WS Xp [] [] Y8=0:=by rw [WS,if_pos l_lit];exact l_true
  have a4:WS Xp [] [] (atmF bOn)=0:=by rw [WS,if_pos (l_litA _)];exact l_atm (.inl rfl)
  show (Xa idN (WU Xp [])).2=0
  have:WU Xp []=durL Xp [] Ycp:=by simp [WU,Xp]
  rw [this]
  simp only [durL,Ycp,a1,a2,a3,a4]
  rfl
 have h6:(stepM Xp [] W7 6).2=0:=by simp [stepM,Wj,Xp,W7,Yai,YfW]
 have h7:(stepM Xp [] W7 7).2=0:=by
  have a:WS Xp [] [] W7.goal=0:=by show WS Xp [] [] (atmF Wa)=0;rw [WS,if_pos (l_litA _)];exact l_atm (.inr rfl)
  have e:(if Xp.duratives=[] then formM Xp [] [] W7.goal else WS Xp [] [] W7.goal)=0:=by rw [if_neg (by simp [Xp])];exact a
  simp only [stepM,Ygo,e,ne_eq,not_true_eq_false,if_false]
 rw [XJ,ho,if_neg (fun h=>h ⟨lampD_ok,YlO⟩),if_neg (fun h=>h ⟨fv_seen,lampP_ok,YlN⟩),if_neg hl,if_neg (fun h=>h hn)]
 simp only [YbJ,h0,h1,h2,h3,h4,h5,h6,h7,if_true,Nat.zero_add,Nat.reduceAdd]
theorem YlL:domW Xp≤1300000:=by decide
theorem YlK:prbW W7≤1300000:=by decide
theorem Yjs:Apt Xp W7:=apt_of Yjr YlL YlK
theorem Yhq:ChkS Xp W7:=Ymn YlL YlK
theorem YcI (l:List Formula):normM true (andF l)=joinF kAnd (l.map (normM true)):=by
 rw [Wk,opA,if_neg Zh,if_neg Zh,if_pos rfl];rfl
theorem Yhk (n:Bs):normM true (atmF n)=atmF n:=by
 have h:¬QuF kAtom:=by unfold QuF;decide
 rw [Wk,opM,if_neg Zh,if_neg Zh,if_neg Zh,if_neg Zh,if_neg h,if_neg Zh,if_neg Zh,if_neg Zh,if_pos rfl]
theorem Ydh:normM true Y8=Y8:=YcI []
theorem Yhj:normV Y8=Y8:=by rw [normV,if_pos Ydp,Ydh]
theorem norm_1:normV (andF [Y8])=Y8:=by rw [normV,if_pos fv_a1,YcI];simp only [List.map_cons,List.map_nil,Ydh];simp [joinF,joinL,Y8,Formula.op,Formula.kids]
theorem norm_3:normV (andF [Y8,atmF bOn,Y8])=andF [atmF bOn]:=by
 have h:¬kAtom=kAnd:=by decide
 rw [normV,if_pos fv_a3,YcI];simp only [List.map_cons,List.map_nil,Ydh,Yhk];simp [joinF,joinL,Y8,atmF,andF,Formula.op,Formula.kids,h]
def aOn:Atom:=⟨bOn,[]⟩
def YcX:Atom:=⟨Wa,[]⟩
theorem Ydo (K:Kn) (S:List Atom) (E:EnvM):holdsM K S E Y8=true:=by
 rw [YW,opT,if_neg Zh,if_neg Zh,if_neg Zh,if_pos rfl]
 show allH K S E []=true
 rw [allH]
theorem Yiz (K:Kn) (S:List Atom) (E:EnvM):holdsM K S E (andF [atmF bOn])=decide (aOn∈S):=by
 rw [YW,opA,if_neg Zh,if_neg Zh,if_neg Zh,if_pos rfl]
 show allH K S E [atmF bOn]=_
 rw [allH,allH,Bool.and_true,YW,opM,if_pos rfl]
 rfl
def s0:Schema:=⟨YiM,[],Y8,andF [atmF bOn],normV (andF [atmF bOn]),Y8,[addC 1 bOn],[addC 1 Wa],false,[[]]⟩
theorem sch_l (K:Kn):schL K Xp=[s0]:=by
 have c1:normC [addC 1 bOn]=[addC 1 bOn]:=by simp [normC,addC,Yhj]
 have c2:normC [addC 1 Wa,addC 2 bOn]=[addC 1 Wa]:=by simp [normC,addC,Yhj]
 simp [schL,schB,Xp,Ycp,schD,YaT,c1,c2,norm_1,norm_3,Ycc,s0]
variable {E:EnvM} {K:Kn} {S:List Atom}
theorem YmB {n:Bs}:YaS K [addC 1 n] E S=if (⟨n,[]⟩:Atom)∈S then (S,false) else (S++ [⟨n,[]⟩],true):=by
 simp only [YaS,List.foldl_cons,List.foldl_nil,addC,addM,Ydo,bndA,List.map_nil]
 by_cases h:(⟨n,[]⟩:Atom)∈S<;>simp [h]
theorem Yf4 {s:Schema} {b d:Bool} (h:s.arguments=[[]]):Xy K [s] S [[b]] [[d]]=⟨(WW K s [] S b d).S,[[(WW K s [] S b d).b]],[[(WW K s [] S b d).d]],(WW K s [] S b d).n⟩:=by
 simp [Xy,rndN,stepW,rowN,Yj1,h]
theorem on_ne:¬YcX=aOn:=fun h=>e1 (congrArg Atom.name h)
theorem inst_1 (K:Kn):WW K s0 [] [] false false=⟨[aOn],true,false,true⟩:=by
 have e:s0.early=[addC 1 bOn]:=rfl
 have l:s0.late=[addC 1 Wa]:=rfl
 have s:s0.start=Y8:=rfl
 have a:s0.all=andF [atmF bOn]:=rfl
 simp [WW,e,l,s,a,Ydo,Yiz,YmB,aOn]
theorem inst_2 (K:Kn):WW K s0 [] [aOn] true false=⟨[aOn,YcX],true,true,true⟩:=by
 have e:s0.early=[addC 1 bOn]:=rfl
 have l:s0.late=[addC 1 Wa]:=rfl
 have s:s0.start=Y8:=rfl
 have a:s0.all=andF [atmF bOn]:=rfl
 have o:=on_ne
 simp only [aOn,YcX] at o
 simp [WW,e,l,s,a,Ydo,Yiz,YmB,aOn,YcX,e1]
theorem inst_3 (K:Kn):WW K s0 [] [aOn,YcX] true true=⟨[aOn,YcX],true,true,false⟩:=by
 have e:s0.early=[addC 1 bOn]:=rfl
 have l:s0.late=[addC 1 Wa]:=rfl
 have s:s0.start=Y8:=rfl
 have a:s0.all=andF [atmF bOn]:=rfl
 simp [WW,e,l,s,a,Ydo,Yiz,YmB,aOn,YcX]
theorem exp_l (K:Kn):expM K Xp []=⟨[aOn,YcX],[[true]],[[true]],false⟩:=by
 have h0:exN0 [s0]=[[false]]:=rfl
 have r1:=Yf4 (K:=K) (s:=s0) (S:=[]) (b:=false) (d:=false) rfl
 have r2:=Yf4 (K:=K) (s:=s0) (S:=[aOn]) (b:=true) (d:=false) rfl
 have r3:=Yf4 (K:=K) (s:=s0) (S:=[aOn,YcX]) (b:=true) (d:=true) rfl
 rw [inst_1] at r1
 rw [inst_2] at r2
 rw [inst_3] at r3
 rw [expM,sch_l,h0,exM]
 rw [show meas (totB [s0]) (totB [s0]) ⟨[],[[false]],[[false]],false⟩+1=4097+1+1+1 from rfl]
 rw [Yb7 (by rw [r1];simp),r1,Yb7 (by rw [r2];simp),r2,Ydv (.inl (by rw [r3])),r3]
theorem YlM {S0:List Atom} (h:Yky S0 (YdS W7.init)):S0=[]:=List.eq_nil_iff_forall_not_mem.2 fun a ha=>by
 have:=Yhy.1 ((h.2 a).1 ha)
 cases this
theorem lamp_E:W0 Xp W7 []=0:=by
 rw [W0,if_neg (fun h=>h Yjr),expE]
 have hs:schE (knM Xp W7) Xp=0:=by
  rw [schE,sch_l,if_neg (by show ¬4096<1;decide),if_neg]
  rintro ⟨s,h,hb⟩
  rw [List.mem_singleton] at h
  subst h
  exact absurd hb.1 Zh
 rw [if_neg (fun h=>h hs),exp_l,if_neg (by show ¬4096<2;decide)]
theorem lamp_l {l:List Atom} (h:l.Perm (expM K Xp []).S) (hs:YgK l):l=[aOn,YcX]:=by
 rw [exp_l] at h
 have hc:cmpA aOn YcX<0:=by decide+kernel
 have h2:l.length=2:=h.length_eq
 match l,h2 with
 | [a,b],_=>
  have ha:a=aOn∨a=YcX:=by simpa using h.mem_iff.1 (List.mem_cons_self ..)
  have hd:([aOn,YcX]:List Atom).Nodup:=by simp;exact fun h=>on_ne h.symm
  have hn:=h.nodup_iff.2 hd
  have hb:b=aOn∨b=YcX:=by simpa using h.mem_iff.1 (List.mem_cons_of_mem _ (List.mem_cons_self ..))
  rcases ha with rfl | rfl
  ·rcases hb with rfl | rfl
   ·simp at hn
   ·rfl
  ·rcases hb with rfl | rfl
   ·exact absurd hc (hs 0 1 _ _ Zh rfl rfl)
   ·simp at hn
theorem lamp_i (K:Kn):Ydm (schL K Xp) (expM K Xp []).D=[(YiM,[])]:=by rw [sch_l,exp_l];rfl
def bA:Bs:=⟨#[97]⟩
def bB:Bs:=⟨#[98]⟩
def bC:Bs:=⟨#[99]⟩
def bGo:Bs:=⟨#[103,111]⟩
def altN (k:Nat):List Formula:=(List.range k).map fun j=>atmF (if j % 2=0 then bA else bB)
def orK (k:Nat):Formula:=orF (altN k)
def YbL (ks:List Nat):Formula:=andF (ks.map orK)
def addW (w:Formula):Change:=⟨1,[],w,bC,[],nilE⟩
def goA (pre w:Formula):Action:=⟨bGo,[],0,pre,[addW w]⟩
def YdO (pre w:Formula):Domain:=⟨bD,[],[],[⟨bA,[]⟩,⟨bB,[]⟩,⟨bC,[]⟩],[],[goA pre w],[]⟩
def YjX:Problem:=⟨bP,bD,[],[⟨bA,[]⟩],[],Y8⟩
def tmL:Nat→List Nat→Nat
 | n,[]=>n
 | n,k::r=>tmL (if n≤64 then n*k else n) r
theorem Yif:∀ (l:List Nat) {n:Nat},64<n→tmL n l=n
 | [],_,_=>rfl
 | k::l,n,h=>by rw [tmL,if_neg Zi];exact Yif l h
theorem Yi1:∀ (l:List Nat) (n k:Nat),tmL n (l++ [k])=if tmL n l≤64 then tmL n l*k else tmL n l
 | [],n,k=>rfl
 | a::l,n,k=>by rw [List.cons_append,tmL,Yi1 l,tmL]
theorem Yi0:∀ (l:List Nat),tmL 0 l=0
 | []=>rfl
 | k::l=>by rw [tmL,if_pos Zi,Nat.zero_mul];exact Yi0 l
theorem YkR:∀ (l:List Nat) {n:Nat},0<n→tmL n l≤64→(0<tmL n l↔∀ k∈l,k≠0)
 | [],n,h,_=>by simp [tmL,h]
 | k::l,n,h,hb=>by
  rw [tmL] at hb ⊢
  by_cases hn:n≤64
  ·rw [if_pos hn] at hb ⊢
   by_cases hk:k=0
   ·subst hk;rw [Nat.mul_zero,Yi0];simp
   ·rw [YkR l (Nat.mul_pos h Zi) hb];simp [hk]
  ·rw [if_neg hn,Yif l Zi] at hb;omega
theorem YkS:∀ (l:List Nat) {n:Nat},n≤1280→(∀ k∈l,k≤19)→tmL n l≤1280
 | [],n,h,_=>h
 | k::l,n,h,hk=>by
  rw [tmL]
  refine YkS l ?_ (fun x hx=>hk x (by simp [hx]))
  have h1:=hk k (by simp)
  split
  ·have:n*k≤64*19:=Nat.mul_le_mul Zi h1
   omega
  ·exact h
theorem opO (k:Nat):(orK k).op=kOr:=rfl
theorem Yls {K:Kn}:∀ (l:List Formula) (n:Nat),(∀ f∈l,∃ b,f=atmF b)→n+l.length≤64→orT K n l=n+l.length
 | [],n,_,_=>by rw [orT];rfl
 | g::r,n,h,hn=>by
  obtain ⟨b,rfl⟩:=h g (by simp)
  have h1:termsM K (atmF b)=1:=by
   rw [WH,opM,if_neg Zh,if_neg Zh,if_neg Zh]
  rw [List.length_cons] at hn ⊢
  rw [orT,h1,if_neg Zi,Yls r (n+1) (fun f hf=>h f (by simp [hf])) Zi]
  omega
variable {k:Nat}
theorem YgH:∀ f∈altN k,∃ b,f=atmF b:=fun f hf=>by
 obtain ⟨j,_,rfl⟩:=List.mem_map.1 hf
 exact ⟨_,rfl⟩
theorem YiO:(altN k).length=k:=by simp [altN]
theorem terms_or (h:k≤19):termsM K (orK k)=k:=by
 rw [WH,opO,if_neg Zh,if_pos rfl]
 show orT K 0 (altN k)=k
 rw [Yls _ _ YgH (by rw [YiO];omega),YiO,Nat.zero_add]
theorem YjO {K:Kn}:∀ (l:List Nat) (n:Nat),n≤64→(∀ k∈l,k≤19)→(64<andT K n (l.map orK)↔64<tmL n l)
 | [],n,h,_=>by rw [List.map_nil,andT,tmL]
 | k::l,n,h,hk=>by
  have h1:=hk k (by simp)
  rw [List.map_cons,andT,terms_or h1,tmL,if_pos h]
  by_cases hb:64<n*k
  ·rw [if_pos (.inl hb),Yif l hb];omega
  ·rw [if_neg Zi]
   exact YjO l _ Zi (fun x hx=>hk x (by simp [hx]))
theorem YkY {ks:List Nat} (hk:∀ k∈ks,k≤19):64<termsM K (YbL ks)↔64<tmL 1 ks:=by
 rw [WH,show (YbL ks).op=kAnd from rfl,if_pos rfl]
 exact YjO ks 1 Zi hk
theorem Yfo:termsM K Y8=1:=by
 rw [WH,opT,if_pos rfl]
 show andT K 1 []=1
 rw [andT]
theorem Ygk {op:Bs}:∀ {l:List Formula},(∀ f∈l,¬f.op=op)→joinL op l=l
 | [],_=>rfl
 | f::l,h=>by
  have:=Ygk (op:=op) (l:=l) (fun g hg=>h g (by simp [hg]))
  simp only [joinL] at this
  simp only [joinL,List.flatMap_cons,if_neg (h f (by simp)),this]
  rfl
theorem norm_or (k:Nat):normM true (orK k)=orK k:=by
 rw [Wk,opO,if_neg Zh,if_neg Zh,if_neg Zh,if_pos rfl]
 have e:(orK k).kids.map (normM true)=altN k:=by
  show (altN k).map (normM true)=altN k
  conv=>rhs;rw [← List.map_id (altN k)]
  refine List.map_congr_left fun f hf=>?_
  obtain ⟨b,rfl⟩:=YgH f hf
  exact Yhk b
 rw [e]
 show joinF kOr (altN k)=orK k
 rw [joinF,Ygk (fun f hf=>by obtain ⟨b,rfl⟩:=YgH f hf;show ¬kAtom=kOr;decide)]
 rfl
theorem Yhi {ks:List Nat} (h:FVal (YbL ks)):normV (YbL ks)=YbL ks:=by
 rw [normV,if_pos h,YbL,YcI]
 have e:(ks.map orK).map (normM true)=ks.map orK:=by
  rw [List.map_map]
  exact List.map_congr_left fun k _=>norm_or k
 rw [e,joinF,Ygk (fun f hf=>by obtain ⟨k,_,rfl⟩:=List.mem_map.1 hf;show ¬kOr=kAnd;decide)]
 rfl
def aA:Atom:=⟨bA,[]⟩
def aC:Atom:=⟨bC,[]⟩
theorem ca_ne:¬aC=aA:=fun h=>absurd (congrArg Atom.name h) (by show ¬bC=bA;decide)
theorem YlX (K:Kn) (S:List Atom) (E:EnvM) (n:Bs):holdsM K S E (atmF n)=decide ((⟨n,[]⟩:Atom)∈S):=by rw [YW,opM,if_pos rfl];rfl
theorem holds_or (K:Kn) (E:EnvM) (h:aA∈S) (k:Nat):holdsM K S E (orK k)=decide (k≠0):=by
 rw [YW,opO,if_neg Zh,if_neg Zh,if_neg Zh,if_neg Zh,if_pos rfl]
 show anyH K S E (altN k)=_
 cases k with
 | zero=>rw [show altN 0=[] from rfl,anyH];rfl
 | succ k=>
  have e:altN (k+1)=atmF bA::(altN (k+1)).tail:=by simp [altN,List.range_succ_eq_map]
  rw [e,anyH,YlX,decide_eq_true (show (⟨bA,[]⟩:Atom)∈S from h)]
  simp
theorem YfF (K:Kn) (E:EnvM) (h:aA∈S) (ks:List Nat):holdsM K S E (YbL ks)=decide (∀ k∈ks,k≠0):=by
 rw [YW,show (YbL ks).op=kAnd from rfl,if_neg Zh,if_neg Zh,if_neg Zh,if_pos rfl]
 show allH K S E (ks.map orK)=_
 induction ks with
 | nil=>rw [List.map_nil,allH];simp
 | cons k r ih=>
  rw [List.map_cons,allH,holds_or K E h,ih]
  by_cases hk:k=0<;>simp [hk]
def goS (pre w:Formula):Schema:=⟨bGo,[],pre,pre,Ycx,Ycx,[],[addW w],true,[[]]⟩
theorem sch_t {pre w:Formula} (h1:normV pre=pre) (h2:normV w=w):schL K (YdO pre w)=[goS pre w]:=by
 simp [schL,schB,YdO,goA,schA,YaT,normC,addW,h1,h2,Ycc,goS]
theorem adds_t {w:Formula}:YaS K [addW w] E S=if aC ∉ S∧holdsM K S E w=true then (S++ [aC],true) else (S,false):=by
 simp only [YaS,List.foldl_cons,List.foldl_nil,addW,addM,bndA,List.map_nil]
 by_cases h:(⟨bC,[]⟩:Atom) ∉ S∧holdsM K S E w=true
 ·rw [if_pos h,if_pos (show aC ∉ S∧_ from h)];rfl
 ·rw [if_neg h,if_neg (show ¬(aC ∉ S∧_) from h)];rfl
def Plc (ks:List Nat) (pre w:Formula):Prop:=(pre=YbL ks∧w=Y8)∨(pre=Y8∧w=YbL ks)
theorem Ylr {ks:List Nat} {pre w:Formula} (h:Plc ks pre w):∃ bp bw:Bool,(bp && bw)=decide (∀ k∈ks,k≠0)∧∀ S E,aA∈S→holdsM K S E pre=bp∧holdsM K S E w=bw:=by
 rcases h with ⟨rfl,rfl⟩ | ⟨rfl,rfl⟩
 ·exact ⟨_,true,Bool.and_true _,fun S E hS=>⟨YfF K E hS ks,Ydo K S E⟩⟩
 ·exact ⟨true,_,Bool.true_and _,fun S E hS=>⟨Ydo K S E,YfF K E hS ks⟩⟩
theorem exp_t {ks:List Nat} {pre w:Formula} (h1:normV pre=pre) (h2:normV w=w) (hp:Plc ks pre w):(expM K (YdO pre w) [aA]).S=if ∀ k∈ks,k≠0 then [aA,aC] else [aA]:=by
 obtain ⟨bp,bw,hz,hh⟩:=Ylr (K:=K) hp
 have h0:exN0 [goS pre w]=[[false]]:=rfl
 have ha:(goS pre w).arguments=[[]]:=rfl
 have r:∀ {S:List Atom} {b d:Bool},Xy K [goS pre w] S [[b]] [[d]]=_:=fun {S b d}=>Yf4 (K:=K) (S:=S) (b:=b) (d:=d) ha
 have hi:∀ {S:List Atom} {b d:Bool},aA∈S→WW K (goS pre w) [] S b d=⟨if (d || (b || bp) && bp)=true∧aC ∉ S∧bw=true then S++ [aC] else S,b || bp,d || (b || bp) && bp,decide ((d || (b || bp) && bp)=true∧aC ∉ S∧bw=true) || (false || ((!d && (d || (b || bp) && bp)) || (!b && (b || bp))))⟩:=by
  intro S b d hS
  have q:=fun E=>hh S E hS
  have e1:(goS pre w).start=pre:=rfl
  have e2:(goS pre w).all=pre:=rfl
  have e3:(goS pre w).early=[]:=rfl
  have e4:(goS pre w).late=[addW w]:=rfl
  have e5:∀ E,YaS K [] E S=(S,false):=fun E=>by simp [YaS]
  simp only [WW,e1,e2,e3,e4,e5,(q _).1,ite_self,adds_t,(q _).2]
  by_cases c1:(d || (b || bp) && bp)=true<;>by_cases c2:aC∈S<;>cases bw<;>simp [c1,c2]
 rw [expM,sch_t h1 h2,h0,exM]
 rw [show meas (totB [goS pre w]) (totB [goS pre w]) ⟨[aA],[[false]],[[false]],false⟩+1=4097+1+1 from rfl]
 have mA:aA∈ [aA]:=by simp
 have mC:aA∈ [aA,aC]:=by simp
 have nC:aC ∉ [aA]:=by simp [ca_ne]
 have nC':aC∈ [aA,aC]:=by simp
 have k1:=hi (S:=[aA]) (b:=false) (d:=false) mA
 cases bp with
 | false=>
  simp at k1
  rw [Ydv (.inl (by rw [r,k1])),r,k1]
  rw [if_neg (fun h=>by rw [decide_eq_true h] at hz;cases hz)]
 | true=>
  have k2:=hi (S:=[aA]) (b:=true) (d:=true) mA
  have k3:=hi (S:=[aA,aC]) (b:=true) (d:=true) mC
  cases bw with
  | false=>
   simp at k1 k2
   rw [Yb7 (by rw [r,k1];simp),r,k1]
   simp only
   rw [Ydv (.inl (by rw [r,k2])),r,k2]
   rw [if_neg (fun h=>by rw [decide_eq_true h] at hz;cases hz)]
  | true=>
   simp [nC] at k1
   simp at k3
   rw [Yb7 (by rw [r,k1];simp),r,k1]
   simp only
   rw [Ydv (.inl (by rw [r,k3])),r,k3]
   rw [if_pos (by simpa using hz.symm)]
theorem expE_t {ks:List Nat} {pre w:Formula} (h1:normV pre=pre) (h2:normV w=w) (hp:Plc ks pre w) (hk:∀ k∈ks,k≤19):expE K (YdO pre w) [aA]=if 64<tmL 1 ks then 5 else 0:=by
 have hb:(∃ s∈ [goS pre w],YfZ K s)↔64<tmL 1 ks:=by
  rw [← YkY (K:=K) hk]
  simp only [List.mem_singleton,exists_eq_left,YfZ]
  have e:(goS pre w).late=[addW w]:=rfl
  have e2:(goS pre w).start=pre:=rfl
  have e3:(goS pre w).count=true:=rfl
  rw [e,e2,e3]
  simp only [List.mem_singleton,exists_eq_left,true_and]
  show (64<termsM K pre∨64<termsM K w)↔_
  rcases hp with ⟨rfl,rfl⟩ | ⟨rfl,rfl⟩
  ·rw [Yfo];omega
  ·rw [Yfo];omega
 have hs:schE K (YdO pre w)=if 64<tmL 1 ks then 5 else 0:=by
  rw [schE,sch_t h1 h2,if_neg (by show ¬4096<1;decide)]
  by_cases h:64<tmL 1 ks
  ·rw [if_pos (hb.2 h),if_pos h]
  ·rw [if_neg (fun h0=>h (hb.1 h0)),if_neg h]
 rw [expE,hs]
 by_cases h:64<tmL 1 ks
 ·rw [if_pos h,if_pos Zh]
 ·rw [if_neg h,if_neg Zh,if_neg]
  rw [exp_t h1 h2 hp]
  split<;>(show ¬4096<_;simp)
theorem fW_or (k:Nat):fW (orK k)=1+k:=by
 rw [Yca]
 have h:((altN k).map fW).sum=k:=by
  have h1:(altN k).map fW=(altN k).map fun _=>1:=List.map_congr_left fun f hf=>by
   obtain ⟨b,rfl⟩:=YgH f hf
   rw [Yca];rfl
  rw [h1,List.map_const',List.sum_replicate_nat,YiO,Nat.mul_one]
 show 1+0+0+0+((altN k).map fW).sum=1+k
 rw [h]
theorem fW_term:∀ {ks:List Nat},(∀ k∈ks,k≤19)→fW (YbL ks)≤1+20*ks.length:=fun {ks} hk=>by
 rw [Yca]
 show 1+0+0+0+((ks.map orK).map fW).sum≤_
 rw [List.map_map]
 have:(ks.map (fW ∘ orK)).sum≤20*ks.length:=by
  induction ks with
  | nil=>simp
  | cons k r ih=>
   have h1:=hk k (by simp)
   have h2:=ih (fun x hx=>hk x (by simp [hx]))
   rw [List.map_cons,List.sum_cons,List.length_cons]
   have h3:(fW ∘ orK) k=1+k:=fW_or k
   rw [h3];omega
 omega
theorem fW_true:fW Y8=1:=by rw [Yca];rfl
theorem Yk1 {ks:List Nat} {pre w:Formula} (hp:Plc ks pre w) (hn:ks.length≤12) (hk:∀ k∈ks,k≤19):domW (YdO pre w)≤1300000:=by
 have h1:=fW_term hk
 have h2:=fW_true
 have h3:fW pre+fW w≤300:=by rcases hp with ⟨rfl,rfl⟩ | ⟨rfl,rfl⟩<;>omega
 have h4:domW (YdO pre w)=1+0+0+3+0+(1+0+fW pre+(Xq (addW w)+0)+0)+0:=rfl
 have h5:Xq (addW w)≤100+fW w:=by
  unfold Xq addW
  have:eW nilE≤10:=by decide
  simp only [List.length_nil]
  omega
 omega
theorem YkZ:prbW YjX≤1300000:=by decide
theorem term_S0 {S0:List Atom} (h:Yky S0 (YdS YjX.init)):S0=[aA]:=by
 have hm:∀ a,a∈S0↔a=aA:=fun a=>by
  rw [h.2 a,Yhy]
  show a∈ [aA]↔_
  simp
 match S0,h.1,hm with
 | [],_,hm=>have:=(hm aA).2 rfl;cases this
 | [a],_,hm=>rw [(hm a).1 (by simp)]
 | a::b::r,hn,hm=>
  have e1:=(hm a).1 (by simp)
  have e2:=(hm b).1 (by simp)
  subst e1;subst e2
  simp at hn
theorem Yk0 {ks:List Nat} {pre w:Formula} (hp:Plc ks pre w) (hc:(XJ (YdO pre w) YjX).2=0):normV pre=pre∧normV w=w:=by
 have hd:=(Ymp hc).dok.1
 have ha:Ykx (goA pre w):=hd.2.2.2.2.2.1 _ (List.mem_singleton.2 rfl)
 have hw:=(ha.2.2.2.2 (addW w) (List.mem_singleton.2 rfl)).2.2.1
 rcases hp with ⟨rfl,rfl⟩ | ⟨rfl,rfl⟩
 ·exact ⟨Yhi ha.2.2.2.1,Yhj⟩
 ·refine ⟨Yhj,?_⟩
  rcases hw with e | hv
  ·have e':YbL ks=Y8:=e
   rw [e',Yhj]
  ·exact Yhi hv
theorem Ye5 {a b:Bs} (h:0<a.size):a++b≠⟨#[]⟩:=fun e=>by
 have:=congrArg ByteArray.size e
 rw [ByteArray.size_append] at this
 have h0:(ByteArray.mk #[]).size=0:=rfl
 omega
theorem Yaj {α:Type} {E:α→Int}:∀ {l:List (Bs × α)},(∀ q∈l,q.1≠⟨#[]⟩)→(Xa E l).2≠0→(Xa E l).1≠⟨#[]⟩
 | [],_,h=>absurd rfl h
 | p::r,hl,h=>by
  rw [Xa] at h ⊢
  by_cases e:E p.2=0
  ·rw [if_pos e] at h ⊢;exact Yaj (fun q hq=>hl q (by simp [hq])) h
  ·rw [if_neg e];exact hl p (by simp)
theorem Yi9:∀ {l:List Param} {seen:List Bs} {s:Bs},repM seen l=some s→∃ x∈l,s=x.typ
 | [],_,_,h=>by cases h
 | x::r,seen,s,h=>by
  rw [repM] at h
  split at h
  ·injection h with h;exact ⟨x,by simp,h.symm⟩
  ·obtain ⟨y,hy,e⟩:=Yi9 h;exact ⟨y,by simp [hy],e⟩
theorem YdM {f:Nat→Bs × Int} (hf:∀ i,(f i).2≠0→(f i).1≠⟨#[]⟩):∀ (n k:Nat),(YbJ f n k).2≠0→(YbJ f n k).1≠⟨#[]⟩
 | 0,_,h=>absurd rfl h
 | n+1,k,h=>by
  rw [YbJ] at h ⊢
  by_cases e:(f k).2=0
  ·rw [if_pos e] at h ⊢;exact YdM hf n (k+1) h
  ·rw [if_neg e];exact hf k e
theorem YlA {w n:Bs} (h:0<w.size):(nmd w n).typ≠⟨#[]⟩:=Ye5 h
variable {all:List Param}
theorem Yjp:∀ q∈YaI d all,q.1≠⟨#[]⟩:=fun q hq=>by
 simp only [YaI,List.mem_append,List.mem_map,List.not_mem_nil,_root_.or_false] at hq
 rcases hq with ⟨x,_,rfl⟩ | ⟨x,_,rfl⟩ | ⟨x,_,rfl⟩ | ⟨x,_,rfl⟩ | ⟨x,_,rfl⟩<;>(refine Ye5 ?_;decide)
theorem nums_ne:∀ q∈numsL d,q.1≠⟨#[]⟩:=fun q hq=>by
 simp only [numsL,List.mem_append,List.mem_map,List.not_mem_nil,_root_.or_false] at hq
 rcases hq with ⟨x,_,rfl⟩ | ⟨x,_,rfl⟩ | ⟨x,_,rfl⟩<;>(refine Ye5 ?_;decide)
theorem acts_ne:∀ q∈WU d all,q.1≠⟨#[]⟩:=fun q hq=>by
 have h1:∀ n:Bs,0<(XW++n).size:=fun n=>by rw [ByteArray.size_append];have:XW.size=7:=rfl;omega
 have h2:∀ n c:Bs,0<((Xn++n)++c).size:=fun n c=>by rw [ByteArray.size_append,ByteArray.size_append];have:Xn.size=9:=rfl;omega
 simp only [WU,List.mem_append,List.mem_flatMap,List.not_mem_nil,_root_.or_false] at hq
 rcases hq with ⟨x,_,h⟩ | ⟨x,_,h⟩
 ·simp only [actL,List.mem_cons,List.not_mem_nil,_root_.or_false] at h
  rcases h with rfl | rfl<;>exact Ye5 (h1 _)
 ·simp only [durL,List.mem_cons,List.not_mem_nil,_root_.or_false] at h
  rcases h with rfl | rfl | rfl | rfl | rfl<;>exact Ye5 (h2 _ _)
theorem Yj0:∀ i,(stepM d all p i).2≠0→(stepM d all p i).1≠⟨#[]⟩
 | 0,h=>by
  rw [stepM] at h ⊢
  cases e:Yao d all with
  | none=>rw [e] at h;exact absurd rfl h
  | some s=>
   simp only
   rw [Yao] at e
   have hr:∀ {ps:List Param},(∀ x∈ps,x.typ≠⟨#[]⟩)→repM [] ps=some s→s≠⟨#[]⟩:=fun hp h=>by
    obtain ⟨x,hx,rfl⟩:=Yi9 h;exact hp x hx
   have h0:∀ x∈Yce d,x.typ≠⟨#[]⟩:=fun x hx=>by
    simp only [Yce,List.mem_append,List.mem_map] at hx
    rcases hx with ⟨y,_,rfl⟩ | ⟨y,_,rfl⟩<;>(refine YlA ?_;decide)
   have h1:∀ x∈YbQ all,x.typ≠⟨#[]⟩:=fun x hx=>by
    simp only [YbQ,List.mem_map] at hx
    obtain ⟨y,_,rfl⟩:=hx;(refine YlA ?_;decide)
   have h2:∀ x∈YdG d,x.typ≠⟨#[]⟩:=fun x hx=>by
    simp only [YdG,List.mem_append,List.mem_map] at hx
    rcases hx with ⟨y,_,rfl⟩ | ⟨y,_,rfl⟩<;>(refine YlA ?_;decide)
   cases e0:repM [] (Yce d) with
   | some t=>rw [e0] at e;injection e with e;subst e;exact hr h0 e0
   | none=>
    rw [e0] at e
    cases e1:repM [] (YbQ all) with
    | some t=>rw [e1] at e;injection e with e;subst e;exact hr h1 e1
    | none=>rw [e1] at e;exact hr h2 e
 | 1,h=>Yaj Yjp h
 | 2,h=>Yaj Yjp h
 | 3,h=>by
  rw [stepM] at h ⊢
  unfold YdH at h ⊢
  split at h
  ·exact absurd rfl h
  ·split at h
   ·refine Ye5 ?_;decide
   ·split at h
    ·refine Ye5 ?_;decide
    ·exact absurd rfl h
 | 4,h=>Yaj nums_ne h
 | 5,h=>Yaj acts_ne h
 | 6,h=>by
  rw [stepM] at h ⊢
  unfold Wj at h ⊢
  split
  ·show Ycz≠_;decide
  ·split
   ·show wInitP≠_;decide
   ·split
    ·show YdW≠_;decide
    ·split
     ·show YdW≠_;decide
     ·rename_i q1 q2 q3 q4
      rw [if_neg q1,if_neg q2,if_neg q3,if_neg q4] at h
      exact absurd rfl h
 | n+7,h=>by
  rw [stepM] at h ⊢
  ·unfold Ygo at h ⊢
   simp only at h ⊢
   generalize (if d.duratives=[] then formM d all [] p.goal else WS d all [] p.goal)=e at h ⊢
   by_cases q:e≠0
   ·rw [if_pos q];show YkH≠_;decide
   ·rw [if_neg q] at h
    exact absurd rfl h
  all_goals omega
theorem Ymo (h:(XJ d p).2≠0):(XJ d p).1≠⟨#[]⟩:=by
 unfold XJ at h ⊢
 split
 ·show YiW≠_;decide
 ·split
  ·show Ycz≠_;decide
  ·split
   ·show YiV≠_;decide
   ·split
    ·show YkG≠_;decide
    ·rename_i q1 q2 q3 q4
     rw [if_neg q1,if_neg q2,if_neg q3,if_neg q4] at h
     exact YdM Yj0 8 0 h
end Go.Proofs.YtbnpeechpebmeaaGreatDoor
namespace Go.Lx
open Go.RowKit
section
variable {P:Program} {cx:Cx} {n:Nat} {σ:Env} {fz:FZ} {H:HP} {fn:Func} {R:Value→FZ→HP→Prop}
variable {X Y:Ty} {cs:List Value} {g i j k:Nat} {t:TypeId}
theorem Yj4 (T:Tab P) {p q:Nat} {t' u u':TypeId} {ds:List Value} {f f':Nat × Nat} (hres:fn.results=#[.cell p t,.cell q u]) (hT:T.inf t=some X) (hU:T.inf u=some Y) (hd:XL X.desc=true) (he:XL Y.desc=true)
 (hv:lk σ p=some (.pointer (some ⟨g,0,none⟩))) (hx:lk σ q=some (.pointer (some ⟨k,0,none⟩))) (hi:H[i]?=some (g,.cells cs.toArray t' f)) (hj:H[j]?=some (k,.cells ds.toArray u' f')) (hsz:X.size=cs.length) (hsy:Y.size=ds.length)
 (h:∀ fz',Le fz fz'→(∀ p∈H,fz' p.1=some p.2)→R (.tuple #[.agg cs.toArray,.agg ds.toArray]) fz' []):retQ P cx n fn R .ret σ fz H:=by
 unfold retQ
 exact ⟨.tuple #[.agg cs.toArray,.agg ds.toArray],fun a w hs hw=>by
  have hc:∀ (g i:Nat) (cs:List Value) (t':TypeId) (f:Nat × Nat),H[i]?=some (g,.cells cs.toArray t' f)→∀ j v,cs[j]?=some v→w.cell? ((⟨g,0,none⟩:Addr).add j)=some v:=fun g i cs t' f hi j v hv=>by
   have hadd:(⟨g,0,none⟩:Addr).add j=⟨g,j,none⟩:=by unfold Addr.add;split<;>simp_all
   rw [hadd,hw.cellOwn hi];simpa using hv
  simp [results,hres,hs.slot p _ hv,hs.slot q _ hx,asAddr,YaE T hT hd hsz (hc g i cs t' f hi),YaE T hU he hsy (hc k j ds u' f' hj)],Yen h⟩
end
end Go.Lx
namespace Go.Proofs.YtbnpeechpebmeaaGreatDoor
open Go.Lx Go.RowKit
attribute [local instance 10] Classical.propDecidable
open Go.Proofs.Tryz (prog)
theorem alw_q {fz:FZ}:QFn prog 6 [] fz Yav:=by
 refine GFn.quiet ?_
 refine zF Tryz.func6 Tryz.ntmps6 (fun w0=>?_)
 refine zW ?_;intros
 exact XX T (i:=0) rfl Zz Zz Zz Zz Zz (fun _ hi=>⟨_,[],hi.forget (List.nil_sublist _),rfl⟩)
variable {fz:FZ}
theorem atm_q {s:Bs}:QFn prog 7 [.string s,.slice none 0 0] fz (.agg #[.string kAtom,.string s,.slice none 0 0,.slice none 0 0,.slice none 0 0,.slice none 0 0]):=by
 refine GFn.quiet ?_
 refine zF Tryz.func7 Tryz.ntmps7 (fun w0=>?_)
 refine zW ?_;intros
 exact XX T (i:=0) rfl Zz Zz Zz Zz Zz (fun _ hi=>⟨_,[],hi.forget (List.nil_sublist _),rfl⟩)
theorem atm_R {s:Bs} (h:s.size≤1000):FormulaR fz (atmF s) (.slice none 0 0) (.slice none 0 0) (.slice none 0 0) (.slice none 0 0):=⟨by show kAtom.size≤_;decide,by show s.size≤_;omega,IsSl.nil,IsSl.nil,IsSl.nil,IsSl.nil⟩
theorem nilE_R:ExprR fz nilE (.slice none 0 0) (.slice none 0 0):=⟨Y5,Y5,XH,IsSl.nil,IsSl.nil⟩
theorem YmC {k:Int} {s:Bs} (hk:I64 k) (h:s.size≤1000):changeL.rep fz (addC k s) [.int .i64 k,.slice none 0 0,.string kAnd,.string ⟨#[]⟩,.slice none 0 0,.slice none 0 0,.slice none 0 0,.slice none 0 0,.string s,.slice none 0 0,.string ⟨#[]⟩,.string ⟨#[]⟩,.int .i64 0,.slice none 0 0,.slice none 0 0]:=
 Yak (x:=addC k s) ⟨hk,IsSl.nil,Ww,by show s.size≤_;omega,IsSl.nil,nilE_R⟩
def YdR (k:Int) (s:Bs):List Value:=[.int .i64 k,.slice none 0 0,.string kAnd,.string ⟨#[]⟩,.slice none 0 0,.slice none 0 0,.slice none 0 0,.slice none 0 0,.string s,.slice none 0 0,.string ⟨#[]⟩,.string ⟨#[]⟩,.int .i64 0,.slice none 0 0,.slice none 0 0]
def lampK (ga ge:Nat):List Value:=[.string YiM,.slice none 0 0,.int .i64 2,.string kAnd,.string ⟨#[]⟩,.slice none 0 0,.slice none 0 0,.slice none 0 0,.slice none 0 0,.string kAtom,.string bOn,.slice none 0 0,.slice none 0 0,.slice none 0 0,.slice none 0 0,.string kAnd,.string ⟨#[]⟩,.slice none 0 0,.slice none 0 0,.slice none 0 0,.slice none 0 0,.slice (some ⟨ga,0,none⟩) 1 1,.slice (some ⟨ge,0,none⟩) 2 2]
set_option maxHeartbeats 4000000 in
theorem lamp_f:GFn prog 15 [] fz [] (fun r fz' H'=>H'=[]∧∃ v3 v6,r=.tuple #[.agg #[.string bD,.slice none 0 0,.slice none 0 0,v3,.slice none 0 0,.slice none 0 0,v6],.agg #[.string bP,.string bD,.slice none 0 0,.slice none 0 0,.slice none 0 0,.string kAtom,.string Wa,.slice none 0 0,.slice none 0 0,.slice none 0 0,.slice none 0 0]]∧
 DomainR fz' Xp (.slice none 0 0) (.slice none 0 0) v3 (.slice none 0 0) (.slice none 0 0) v6∧ProblemR fz' W7 (.slice none 0 0) (.slice none 0 0) (.slice none 0 0) (.slice none 0 0) (.slice none 0 0) (.slice none 0 0) (.slice none 0 0)):=by
 have ha:=@alw_q
 unfold Yav at ha
 refine zF Tryz.func15 Tryz.ntmps15 (fun w0=>?_)
 refine zWN ?_;intros
 refine Yb Zz (Yc T (cs:=[.string bOn,.slice none 0 0,.string Wa,.slice none 0 0,.string bKey,.slice none 0 0]) Zz Zz Zz Zz Zz Zz Zz Zz (fun gp=>?_))
 refine zWN ?_;intros
 refine zc ha ?_
 refine zWN ?_;intros
 refine zc (atm_q (s:=bOn)) ?_
 refine zWN ?_;intros
 refine zc ha ?_
 refine zWN ?_;intros
 refine zc ha ?_
 refine zWN ?_;intros
 refine Yb Zz (Yc T (cs:=YdR 1 bOn) Zz Zz Zz Zz Zz Zz Zz Zz (fun ga=>?_))
 refine zWN ?_;intros
 refine zc ha ?_
 refine zWN ?_;intros
 refine zc ha ?_
 refine zWN ?_;intros
 refine Yb Zz (Yc T (cs:=YdR 1 Wa++YdR 2 bOn) Zz Zz Zz Zz Zz Zz Zz Zz (fun ge=>?_))
 refine zWN ?_;intros
 refine Yb Zz (Yc T (cs:=lampK ga ge) Zz Zz Zz Zz Zz Zz Zz Zz (fun gs=>?_))
 refine zWN ?_;intros
 refine Wp.drawP [2] (Hq:=[_,_,_,_,_,_,_]) T.mixed Zj Zj Zb ?_
 refine zW ?_;intros
 refine zc (atm_q (s:=Wa)) ?_
 refine PK.p Zz (fun fz'=>YS T Zz Zz Zz Zz Zz rfl) ?_
 refine Yf ?_
 refine Yf ?_
 refine PK.done ⟨by kernel_rfl,?_⟩
 refine Ya Zz Zz ?_
 refine PoS.hard0 Zj (YU T (pre:=[_,_,_,_,_,_]) Zz Zz Zz rfl Zz Zz Zz ?_)
 refine Ya Zz Zz ?_
 refine PoS.hard0 Zj (YU T (pre:=[_,_,_,_,_]) Zz Zz Zz rfl Zz Zz Zz ?_)
 refine Po.done ?_
 refine zW ?_;intros
 refine Yj4 T (i:=6) (j:=5) rfl Zz Zz Zz Zz Zz Zz Zz Zz Zz Zz (fun fz3 hle3 hf3=>⟨rfl,_,_,rfl,?_,?_⟩)
 ·have h1:=hf3 _ (.tail _ (.tail _ (.tail _ (.tail _ (.head _)))))
  have h2:=hf3 _ (.tail _ (.tail _ (.tail _ (.head _))))
  have h3:=hf3 _ (.tail _ (.tail _ (.head _)))
  have h4:=hf3 _ (.tail _ (.head _))
  have s1:Sl changeL fz3 (some ⟨ga,0,none⟩) 1 1 [addC 1 bOn]:=Xg (ys:=[(addC 1 bOn,YdR 1 bOn)]) h2 rfl rfl (List.forall_mem_cons.2 ⟨YmC (by unfold I64;omega) Zh,nilP⟩) rfl Zh
  have s2:Sl changeL fz3 (some ⟨ge,0,none⟩) 2 2 [addC 1 Wa,addC 2 bOn]:=Xg (ys:=[(addC 1 Wa,YdR 1 Wa),(addC 2 bOn,YdR 2 bOn)]) h3 rfl rfl (List.forall_mem_cons.2 ⟨YmC (by unfold I64;omega) Zh,List.forall_mem_cons.2 ⟨YmC (by unfold I64;omega) Zh,nilP⟩⟩) rfl Zh
  have s3:Sl predicateL fz3 (some ⟨gp,0,none⟩) 3 3 [⟨bOn,[]⟩,⟨Wa,[]⟩,⟨bKey,[]⟩]:=Xg (ys:=[(⟨bOn,[]⟩,[.string bOn,.slice none 0 0]),(⟨Wa,[]⟩,[.string Wa,.slice none 0 0]),(⟨bKey,[]⟩,[.string bKey,.slice none 0 0])]) h1 rfl rfl
   (List.forall_mem_cons.2 ⟨XZ (x:=⟨bOn,[]⟩) ⟨by show bOn.size≤_;decide,IsSl.nil⟩,List.forall_mem_cons.2 ⟨XZ (x:=⟨Wa,[]⟩) ⟨by show Wa.size≤_;decide,IsSl.nil⟩,List.forall_mem_cons.2 ⟨XZ (x:=⟨bKey,[]⟩) ⟨by show bKey.size≤_;decide,IsSl.nil⟩,nilP⟩⟩⟩) rfl Zh
  have s4:Sl durativeL fz3 (some ⟨gs,0,none⟩) 1 1 [Ycp]:=Xg (ys:=[(Ycp,lampK ga ge)]) h4 (List.append_nil _).symm rfl
   (List.forall_mem_cons.2 ⟨Yfk (x:=Ycp) ⟨by show YiM.size≤_;decide,IsSl.nil,by show I64 2;unfold I64;omega,Ww,atm_R Zh,Ww,s1.is,s2.is⟩,nilP⟩) rfl Zh
  exact ⟨by show bD.size≤_;decide,IsSl.nil,IsSl.nil,s3.is,IsSl.nil,IsSl.nil,s4.is⟩
 ·exact ⟨by show bP.size≤_;decide,by show bD.size≤_;decide,IsSl.nil,IsSl.nil,IsSl.nil,atm_R Zh⟩
theorem step_nm {p:Addr} {x:StepM} (h:At Yk5 fz p x):At strL fz (p.add 1) x.1:=h.part 1 fun cs hr=>by
 obtain ⟨va,rfl,hs,_⟩:=hr
 exact ⟨_,rfl,rfl,hs⟩
set_option maxHeartbeats 4000000 in
theorem Yh1 (hM:MaxF fz):QFn prog 5 [] fz (.bool true):=by
 refine GFn.quiet ?_
 refine zF Tryz.func5 Tryz.ntmps5 (fun w0=>?_)
 refine zW ?_;intros
 refine Yb Zz (Yl [] _ Zz Zz Zz lamp_f (fun v1 fz1 H1 hle1 hR1=>?_))
 obtain ⟨rfl,v3,v6,rfl,hD,hP⟩:=hR1
 obtain ⟨A3,n3,b3,rfl,_⟩:=id hD.predicates
 obtain ⟨A6,n6,b6,rfl,_⟩:=id hD.duratives
 refine zW ?_;intros
 rename_i gd gp
 refine Yb Zz (Yl [] _ Zz Zz Zz (Ymw (hM.mono hle1) hD hP Yhq (fun _=>Yjs)) (fun v4 fz4 H4 hle4 hR4=>?_))
 obtain ⟨rfl,S0,hS0,v,rfl,_,hz⟩:=hR4
 have e0:=YlM hS0
 subst e0
 rw [lamp_E] at hz ⊢
 obtain ⟨l,hl,hp,hs⟩:=hz rfl
 have el:=lamp_l hp hs
 subst el
 obtain ⟨A,n,c,rfl,hsl⟩:=hl
 have hn:=hsl.len
 rw [show errV 0=.nilIface from rfl]
 refine zW ?_;intros
 refine Yb Zz (Yl [] _ Zz Zz Zz (insts_f (hM.mono (hle1.trans hle4)) (hD.mono hle4) (hP.mono hle4) Yhq (fun _=>Yjs)) (fun v5 fz5 H5 hle5 hR5=>?_))
 obtain ⟨S1,hS1,v,rfl,_,hy⟩:=hR5
 have e1:=YlM hS1
 subst e1
 rw [lamp_E] at hy ⊢
 obtain ⟨m,hG⟩:=hy rfl
 rw [lamp_i] at hG
 obtain ⟨A5,c5,rfl,_,_⟩:=hG.form
 have hm:=hG.len
 simp at hm hn
 subst hm;subst hn
 refine Seq.freezeAll (H1:=[_,_]) (H2:=H5) Zq (fun fz6 hle6 hf6=>?_)
 obtain ⟨B5,d5,e5,hS5⟩:=hG.sl hle6 hf6 Zi
 injection e5 with e51 e52 e53
 subst e51;subst e53
 have hx:=hsl.mono (hle5.trans hle6)
 rw [show errV 0=.nilIface from rfl]
 refine zV ?_;intros
 refine zC (fun c1=>?_) (fun c1=>?_)
 rotate_left 1
 ·exact absurd rfl c1
 refine zV ?_;intros
 refine zI hx rfl (fun p1 hp1=>?_)
 refine zV ?_;intros
 refine zH hp1.Atom_name (fun hs1=>?_)
 refine zV ?_;intros
 refine zC (fun c2=>?_) (fun c2=>?_)
 rotate_left 1
 ·exact absurd rfl c2
 refine zV ?_;intros
 refine zC (fun c3=>?_) (fun c3=>?_)
 rotate_left 1
 ·exact absurd rfl c3
 refine zV ?_;intros
 refine zI hS5 rfl (fun p2 hp2=>?_)
 refine zV ?_;intros
 refine zH (step_nm hp2) (fun hs2=>?_)
 refine zV ?_;intros
 refine zC (fun c4=>?_) (fun c4=>?_)
 rotate_left 1
 ·exact absurd rfl c4
 refine zV ?_;intros
 exact zR (h:=rfl)
theorem num_q {n:Int}:QFn prog 13 [errV n] fz (.int .i64 n):=by
 by_cases h:n=0
 ·subst h
  refine GFn.quiet ?_
  rw [show errV 0=.nilIface from rfl]
  refine zF Tryz.func13 Tryz.ntmps13 (fun w0=>?_)
  refine zW ?_;intros
  exact zR (h:=rfl)
 ·refine GFn.quiet ?_
  rw [YF h]
  refine zF Tryz.func13 Tryz.ntmps13 (fun w0=>?_)
  refine zW ?_;intros
  exact zR (h:=rfl)
theorem bis_q {n m:Int} (hm:m≠0):QFn prog 10 [errV n,.int .i64 m] fz (.bool (decide (n=m))):=by
 by_cases h:n=0
 ·subst h
  refine GFn.quiet ?_
  rw [show errV 0=.nilIface from rfl]
  refine zF Tryz.func10 Tryz.ntmps10 (fun w0=>?_)
  refine zW ?_;intros
  exact ret1 rfl rfl Zb (Ym (fun h=>hm h.symm))
 ·refine GFn.quiet ?_
  rw [YF h]
  refine zF Tryz.func10 Tryz.ntmps10 (fun w0=>?_)
  refine zW ?_;intros
  ((refine zG ?_);refine YB Zz Zz (by have:=num_q (fz:=fz) (n:=n);rw [YF h] at this;exact this) ?_)
  refine zW ?_;intros
  refine zC (fun c1=>?_) (fun c1=>?_)
  ·refine zW ?_;intros
   exact ret1 rfl rfl Zb (YC c1)
  ·refine zW ?_;intros
   exact ret1 rfl rfl Zb (Ym c1)
end Go.Proofs.YtbnpeechpebmeaaGreatDoor
