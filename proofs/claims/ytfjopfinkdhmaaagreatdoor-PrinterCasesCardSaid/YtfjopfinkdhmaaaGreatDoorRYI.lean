/- The texts RF, Mk, RG, RH, RI, RJ, RK, laid together. Conditions: none. -/
import Derived.Test.YtfjopfinkdhmaaaGreatDoorRYH
set_option linter.all false
noncomputable section
set_option maxRecDepth 20000
namespace Go.Lx
open Go.RowKit
section
variable {P:Program} {cx:Cx} {r:Operand→Option Value} {fz:FZ} {H:HP} {V:Value→Prop} {dst:Option Nat} {ty:TypeId} {pos:String} {af:Array Edge} {gd:Option (Nat × Bool)}
variable {A:Option Addr} {X Y:Ty} {c j n:Nat} {t:TypeId} {x:Operand}
theorem Yhm (T:Tab P) {e:TypeId} {i:Operand} (hT:T.inf t=some X) (hd:X.desc=.slice e) (hY:T.inf e=some Y)
 (hx:r x=some (.slice A n c)) (hi:r i=some (.int .i64 j)) (hj:j≤c) (h:V (.slice A j c)):DoesQ P cx ⟨dst,.slice t x none (some i) none,ty,pos,af,gd⟩ r fz H V:=
 YH (fun ρ w hr=>by
  have hu:=run_underlying (und_plain T hT hd rfl) w
  have hs:=Lx.run_sizeOf T hY w
  simp [execOp,hr _ _ hx,hr _ _ hi,Instr.sliceAt,Instr.slice,Instr.sliceBounds,Instr.sliceBound,asIntOf,hu,hs,hj]
  intro _
  cases A<;>simp [Addr.add]) h
end
variable {fz:FZ} {g j n:Nat}
theorem gB_cut {α:Type} {L:Lay α} {e:Nat} {cap:Nat} {cur:List Value} {l:List α} (h:GrowB L e fz g n cap cur l) {d:α} (hj:l[j]?=some d):∃ cs,L.rep fz d cs∧(cur.drop (j*L.size)).take L.size=cs:=by
 obtain ⟨cs,h1,h2⟩:=Yl3 h hj
 have hl:=L.len h1
 refine ⟨cs,h1,List.ext_getElem? fun i=>?_⟩
 by_cases hi:i<L.size
 ·rw [List.getElem?_take_of_lt hi,List.getElem?_drop,List.getElem?_eq_getElem (by omega:i<cs.length)]
  exact h2 i _ (List.getElem?_eq_getElem Zi)
 ·rw [List.getElem?_eq_none (by rw [List.length_take];omega),List.getElem?_eq_none Zi]
end Go.Lx
namespace Go.Proofs.YtfjopfinkdhmaaaGreatDoor
open Go.Lx Go.RowKit
attribute [local instance 10] Classical.propDecidable
open Go.Proofs.Tryz (prog)
def Ya7 (t:Bs) (a n:Nat) (st:List Lev):Except Int (Nat × Nat × List Lev):=
 match t[a]? with
 | none=>.error 0
 | some b=>
  if b=40 then if 32<st.length∨n=4096 then .error 5 else .ok (a+1,n+1,⟨3,(posA t a).1,(posA t a).2,[]⟩::st)
  else if b=41 then match st with
   | e::e2::r=>.ok (a+1,n,e2.add e.x::r)
   | _=>.error 2
  else tokM t a n st
variable {H:HP} {fz:FZ} {n:Nat}
set_option maxHeartbeats 8000000 in
theorem next_f {gr a:Nat} {t:Bs} {e:Lev} {st:List Lev} (h:RdS fz gr t a n (e::st) H) (ht:t.size≤1000000) (ha:a<t.size) (hn:n≤4096) (hN:lvN (e::st)≤n+1) (hst:st.length≤40):
 GFn prog 86 [.pointer (some ⟨gr,0,none⟩)] fz H (fun r fz' H'=>Le fz fz'∧RdR fz' gr t a n (e::st) (Ya7 t a n (e::st)) r H'):=by
 have hbd:=YeD t a
 have h0:=h
 obtain ⟨b,hb,hb2⟩:=XV ha
 have hM:Ya7 t a n (e::st)=if b=40 then if 32<(e::st).length∨n=4096 then .error 5 else .ok (a+1,n+1,⟨3,(posA t a).1,(posA t a).2,[]⟩::e::st)
  else if b=41 then (match e::st with
   | e::e2::r=>.ok (a+1,n,e2.add e.x::r)
   | _=>.error 2)
  else tokM t a n (e::st):=by
   unfold Ya7;rw [hb]
 have hlen:(e::st).length=st.length+1:=List.length_cons
 obtain ⟨go,cap,cur,ls,Hk,rfl,hB,hL⟩:=h
 have hcap:=hB.capn
 have hunf:=rdO.eq_1 t a n (.slice (some ⟨go,0,none⟩) (e::st).length cap)
 rw [hunf]
 refine zF Tryz.func86 Tryz.ntmps86 (fun w0=>?_)
 refine zW ?_;intros
 ((refine zG ?_);refine Xl T Zz Zz Zz Zz Zi (by rw [Int.toNat_natCast];exact hb) ?_)
 refine QL.done ?_
 refine Yc0 ?_
 refine Wp.mid (fun σ fz' H'=>∃ (n':Nat) (st':List Lev),σ=[(0,.pointer (some ⟨gr,0,none⟩))]∧Le fz fz'∧RdS fz' gr t a n' st' H'∧Ya7 t a n (e::st)=.ok (a+1,n',st')) ?_ ?_
 ·refine zW ?_;intros
  refine zC (fun c1=>?_) (fun c1=>?_)
  ·have hb1:b=40:=by rw [← UInt8.toNat_inj];show b.toNat=40;omega
   rw [if_pos hb1] at hM
   refine zW ?_;intros
   refine zC (fun c2=>?_) (fun c2=>?_)
   ·refine zW ?_;intros
    exact ret1 (H':=(gr,rdO t a n _)::(go,_)::Hk) rfl rfl Zb ⟨Le.refl _,by rw [hM,if_pos (.inl (by rw [List.length_cons] at c2 ⊢;omega))];exact ⟨(Yj Zh).symm,h0⟩⟩
   ·refine zW ?_;intros
    refine zC (fun c3=>?_) (fun c3=>?_)
    ·refine zW ?_;intros
     exact ret1 (H':=(gr,rdO t a n _)::(go,_)::Hk) rfl rfl Zb ⟨Le.refl _,by rw [hM,if_pos (.inr Zi)];exact ⟨(Yj Zh).symm,h0⟩⟩
    ·rw [if_neg (by rintro (h | h);rw [List.length_cons] at c2 h;omega;omega)] at hM
     refine zW ?_;intros
     refine Wp.drawP [18,19] (Hq:=(gr,_)::Hk) T.mixed Zj Zj Zb ?_
     refine zW ?_;intros
     refine Ye ?_
     refine Ye ?_
     refine Ye ?_
     refine Ye ?_
     refine PK.p Zz (fun fz'=>by first | exact X5 Zz rfl | exact Xx Zz rfl | exact YZ T Zz Zz Zz Zz Zz Zz rfl | exact Yaf Zz Zz (Xw Zi) rfl | exact YU T Zz Zz Zz rfl) ?_
     refine PK.p Zz (fun fz'=>by first | exact X5 Zz rfl | exact Xx Zz rfl | exact YZ T Zz Zz Zz Zz Zz Zz rfl | exact Yaf Zz Zz (Xw Zi) rfl | exact YU T Zz Zz Zz rfl) ?_
     refine Ye ?_
     refine PK.done ⟨by kernel_rfl,?_⟩
     refine Yb Zz Zz ?_
     refine Yd (Yc T (cs:=zroC) Zz Zz Zz Zz Zz Zz Zz Zz (fun gb=>⟨⟨Le.refl _,fun p hp=>by rcases List.mem_cons.1 hp with rfl | hp<;>simp [*]⟩,?_⟩))
     refine Yb Zz Zz ?_
     refine Yd (YhG T (Hr:=(gb,_)::(gr,_)::Hk) (ys:=[(zroC,zroC)]) (l2:=[zroC]) (m:=1) Zz Zz Zz Zz Zz Zz Zz Zz (((Zq (l₁:=[_]) (l₂:=Hk)).cons _).cons _) hB.grow Ygd (.head _) (List.append_nil _).symm rfl (by intro p hp;simp at hp;subst hp;exact ⟨rfl,rfl,by decide⟩) rfl (by show _*72≤_;omega) Zi (fun v' Hs' hO'=>⟨⟨Le.refl _,fun p hp=>by rcases List.mem_cons.1 hp with rfl | hp<;>simp [*]⟩,?_⟩))
     obtain ⟨gk,cap2,cur1,rfl,rfl,hB1⟩:=hO'.b Zi
     have hfin:∀ cur2,GrowB rawL 57 fz gk ((e::st).length+1) cap2 cur2 ((ls++ [zroC]).set (e::st).length (lvC ⟨3,(posA t a).1,(posA t a).2,[]⟩ (.slice none 0 0)))→
      RdS fz gr t a (n+1) (⟨3,(posA t a).1,(posA t a).2,[]⟩::e::st) ((gr,rdO t a (n+1:Nat) (.slice (some ⟨gk,0,none⟩) ((e::st).length+1) cap2))::(gk,.cells (List.toArray cur2) 57 (0,0))::Hk):=by
      intro cur2 h2
      rw [Ygb hB.len] at h2
      exact ⟨gk,cap2,cur2,_,Hk,rfl,h2,ls,Hk,.slice none 0 0,[],rfl,(List.append_nil _).symm,hL,Grow.nil _ _ _,by unfold I64;show _∧_;simp,by unfold I64;show _∧_;constructor<;>(simp only [];omega),by unfold I64;show _∧_;constructor<;>(simp only [];omega)⟩
     have hraw:rawL.rep fz (lvC ⟨3,(posA t a).1,(posA t a).2,[]⟩ (.slice none 0 0)) [.int .i64 3,.int .i64 0,.int .i64 (posA t a).1,.int .i64 (posA t a).2,.string ⟨#[]⟩,.slice none 0 0]:=⟨rfl,rfl,by intro u hu;simp [lvC] at hu;rcases hu with rfl | rfl | rfl | rfl | rfl | rfl<;>rfl⟩
     refine YG Zz Zz Zz ?_ ?_
     ·refine PoS.hard Zj (DoesQ.does (YC T Zz Zz Zz Zz Zz rfl Zi Zi ?_))
      refine YG Zz Zz Zz ?_ ?_
      ·refine PoS.hard0 Zj (Yx T (pre:=(gb,_)::(gr,_)::Hk) (L:=rawL) (j:=(e::st).length) Zz Zz Zz rfl rfl Zz Ygd hraw hB1 Zi (fun cur2 hB2=>?_))
       refine Yb Zz Zz ?_
       refine PoS.hard0 Zj (YN T Zz Zz Zz Zz Zz Zz ?_)
       refine Po.done ?_
       refine zW ?_;intros
       exact midP (((Zq (l₁:=[_]) (l₂:=Hk)).cons _).cons _) ⟨n+1,_,rfl,Le.refl _,hfin cur2 hB2,hM⟩ Zw Zb
      ·refine PoS.hard0 Zj (YN T Zz Zz Zz Zz Zz Zz ?_)
       refine Yb Zz Zz ?_
       refine PoS.hard0 Zj (Yx T (pre:=(gb,_)::(gr,_)::Hk) (L:=rawL) (j:=(e::st).length) Zz Zz Zz rfl rfl Zz Ygd hraw hB1 Zi (fun cur2 hB2=>?_))
       refine Po.done ?_
       refine zW ?_;intros
       exact midP (((Zq (l₁:=[_]) (l₂:=Hk)).cons _).cons _) ⟨n+1,_,rfl,Le.refl _,hfin cur2 hB2,hM⟩ Zw Zb
     ·refine PoS.hard0 Zj (YN T Zz Zz Zz Zz Zz Zz ?_)
      refine Yb Zz Zz ?_
      refine PoS.hard Zj (DoesQ.does (YC T Zz Zz Zz Zz Zz rfl Zi Zi ?_))
      refine Yb Zz Zz ?_
      refine PoS.hard0 Zj (Yx T (pre:=(gb,_)::(gr,_)::Hk) (L:=rawL) (j:=(e::st).length) Zz Zz Zz rfl rfl Zz Ygd hraw hB1 Zi (fun cur2 hB2=>?_))
      refine Po.done ?_
      refine zW ?_;intros
      exact midP (((Zq (l₁:=[_]) (l₂:=Hk)).cons _).cons _) ⟨n+1,_,rfl,Le.refl _,hfin cur2 hB2,hM⟩ Zw Zb
  ·have hb1:¬b=40:=fun h=>c1 (by rw [h];rfl)
   rw [if_neg hb1] at hM
   refine zW ?_;intros
   refine zC (fun c2=>?_) (fun c2=>?_)
   ·have hb2:b=41:=by rw [← UInt8.toNat_inj];show b.toNat=41;omega
    rw [if_pos hb2] at hM
    refine zW ?_;intros
    refine zC (fun c3=>?_) (fun c3=>?_)
    ·have hst0:st=[]:=List.eq_nil_of_length_eq_zero (by rw [List.length_cons] at c3;omega)
     subst hst0
     refine zW ?_;intros
     exact ret1 (H':=(gr,rdO t a n _)::(go,_)::Hk) rfl rfl Zb ⟨Le.refl _,by rw [hM];exact ⟨(Yj Zh).symm,h0⟩⟩
    ·obtain _ | ⟨e2,st2⟩:=st
     ·exact absurd rfl c3
     obtain ⟨ls',H',v,Hl,rfl,rfl,hL',hG,hI⟩:=hL
     obtain ⟨Av,cv,rfl,_,_⟩:=hG.form
     have hl':=hL'.len
     obtain ⟨cs,hc1,hc2⟩:=gB_cut hB (j:=(e2::st2).length) (d:=lvC e (.slice Av e.kids.length cv)) (by rw [List.getElem?_append_right Zi,hl',Nat.sub_self];rfl)
     have hc3:=hc1.1
     subst hc3
     have e1:(((e::e2::st2).length:Nat):Int) - 1=((e2::st2).length:Nat):=by omega
     rw [e1]
     have hek:e.kids.length≤1000000:=by have:=YlN (st:=e::e2::st2) (e:=e) (by simp);omega
     have hek2:e2.kids.length≤1000000:=by have:=YlN (st:=e::e2::st2) (e:=e2) (by simp);omega
     have hln2:st2.length≤900:=by rw [List.length_cons] at hst;omega
     refine zW ?_;intros
     refine zG ?_;refine YC T Zz Zz Zz Zz Zz rfl Zi Zi ?_
     refine zG ?_;refine Yp (vs:=lvC e (.slice Av e.kids.length cv)) T 1 Zz Zz Zz Zz hc2 Zz ?_
     refine zW ?_;intros
     refine zG ?_;refine Yhm T Zz Zz Zz Zz Zz Zi ?_
     refine zW ?_;intros
     refine Seq.freezeAll (H1:=(_,_)::(gr,_)::(go,_)::H') (H2:=Hl) (Zr _) (fun fz1 hle1 hf1=>?_)
     rename_i g4
     obtain ⟨A1,c1',hv1,hS1⟩:=hG.sl hle1 hf1 Zi
     injection hv1 with hv1 hv2 hv3
     subst hv1 hv3
     have hXR:YW fz1 e.x (.slice Av e.kids.length cv):=⟨hI.1,by unfold I64;show _∧_;simp [Lev.x,Sexpr.value],hI.2.1,hI.2.2,by show (ByteArray.mk #[]).size≤_;decide,⟨_,_,_,rfl,hS1⟩⟩
     have h1:RdS fz1 gr t a n (e2::st2) ((gr,rdO t a n (.slice (some ⟨go,0,none⟩) (e2::st2).length cap))::(go,.cells (List.toArray cur) 57 (0,0))::H'):=⟨go,cap,cur,ls',H',rfl,hB.pop.mono hle1,hL'.mono hle1⟩
     refine Ya Zz (Does.perm (Zq (l₁:=(gr,_)::(go,_)::H') (l₂:=[(g4,_)])) (Ym ((gr,_)::(go,_)::H') [(g4,_)] Zz Zz Zz (add_s h1 hXR hek2 hln2) (fun r1 fz2 H2 hle2 hR1=>?_)))
     obtain ⟨rfl,rfl,hR1⟩:=hR1
     refine zW ?_;intros
     exact midN ⟨n,_,rfl,hle1,hR1,hM⟩ Zw (List.sublist_append_left _ _)
   ·have hb2:¬b=41:=fun h=>c2 (by rw [h];rfl)
    rw [if_neg hb2] at hM
    refine zW ?_;intros
    refine Ya Zz (Ym ((gr,_)::(go,_)::Hk) [] (List.append_nil _).symm Zz Zz (token_f h0 ht Zi hn hN Zi) (fun r1 fz1 H1 hle1 hR1=>?_))
    obtain ⟨rfl,hR1⟩:=hR1
    refine zW ?_;intros
    exact ret1 (H':=H1) rfl rfl (List.sublist_append_left _ _) ⟨Le.refl _,by rw [hM];exact hR1⟩
 rintro σ fz' H' ⟨n',st',rfl,hle,hR,hM2⟩
 obtain ⟨go1,cap1,cur1,ls1,Hk1,rfl,hB1,hL1⟩:=hR
 refine zW ?_;intros
 refine Ya Zz (Ym [(gr,rdO t a n' _)] ((go1,_)::Hk1) Zz Zz Zz (Yjn ht ha) (fun r2 fz2 H2 hle2 hR3=>?_))
 obtain ⟨rfl,rfl,rfl⟩:=hR3
 refine zW ?_;intros
 exact ret1 (H':=(gr,rdO t (a+1) n' _)::(go1,_)::Hk1) rfl rfl Zb ⟨hle,by rw [hM2];exact ⟨rfl,go1,cap1,cur1,ls1,Hk1,rfl,hB1,hL1⟩⟩
end Go.Proofs.YtfjopfinkdhmaaaGreatDoor
namespace Go.Lx
open Go.RowKit
section
variable {P:Program} {cx:Cx} {r:Operand→Option Value} {fz:FZ} {H:HP} {dst:Option Nat} {ty:TypeId} {pos:String} {af:Array Edge} {gd:Option (Nat × Bool)}
variable {X Y:Ty} {c:Nat} {t:TypeId} {x y:Operand}
theorem YiJ (T:Tab P) {e:TypeId} {k1 k2:IntKind} {l:Nat} {K:Value→FZ→HP→Prop} (hT:T.inf t=some X) (hd:X.desc=.slice e) (hY:T.inf e=some Y) (hzs:Nat.beq Y.zero.cells.toList.length Y.size=true)
 (hx:r x=some (.int k1 l)) (hy:r y=some (.int k2 c)) (hlc:l≤c) (hb:c*Y.bytes≤1099511627776) (hc:c≤1099511627776)
 (h:∀ g,K (.slice (some ⟨g,0,none⟩) l c) fz ((g,.cells (repZ Y.zero.cells.toList c).toArray e (0,0))::H)):Does P cx ⟨dst,.makeSlice t x y,ty,pos,af,gd⟩ r fz H K:=by
 unfold Does
 intro ρ w hr hw
 have hu:=und_plain T hT hd rfl
 have hsz:=run_sizeOf T hY w
 have hzr:=Ycp T hY w
 obtain ⟨inf,hi,i1,i2,i3⟩:=(T.ok_ hY).info
 have hwq:IntKind.i64.wrap (c:Int)=c:=Xw Zi
 have hwl:IntKind.i64.wrap (l:Int)=l:=Xw Zi
 have hti:(typeInfo e).run P w=.ok inf w:=by simp [typeInfo,hi]
 have hrow:=Yli Y.zero.cells c Y.size (by simpa using Nat.eq_of_beq_eq_true hzs)
 have hroom:∀ w,(askRoom (c*Y.bytes)).run P w=.ok () w:=fun w=>by
  unfold askRoom roomBytes
  rw [if_neg Zi];rfl
 have hcomm:Y.bytes*c=c*Y.bytes:=Nat.mul_comm _ _
 have hcond:(((decide ((c:Int)<0) || decide (((Y.bytes:Int))*(c:Int)>2 ^ 48)) || decide ((l:Int)<0)) || decide ((l:Int)>(c:Int)))=false:=by
  have h5:¬((Y.bytes:Int)*(c:Int)>2 ^ 48):=by
   have:((Y.bytes*c:Nat):Int)≤1099511627776:=by omega
   rw [Int.natCast_mul] at this
   omega
  simp;omega
 have:(execOp ρ ⟨dst,.makeSlice t x y,ty,pos,af,gd⟩).run P w=.ok (.value (.slice (some ⟨w.heap.size,0,none⟩) l c)) (w.alloc (.cells (repZ Y.zero.cells.toList c).toArray e (0,0))):=by
  simp only [execOp,hr _ _ hx,hr _ _ hy,Instr.makeSlice,Sem.run_bind,run_underlying hu w,Result.andThen_ok,asInt,asIntOf,Sem.run_pure,hti,i2,hwq,hwl]
  rw [if_neg (by rw [hcond];simp)]
  simp only [Sem.run_bind,Int.toNat_natCast,hroom,Result.andThen_ok,hsz]
  by_cases h0:c*Y.size=0
  ·have hnil:(repZ Y.zero.cells.toList c).toArray=#[]:=by rw [← hrow,h0];simp
   simp only [if_pos h0,Sem.run_bind,Sem.run_pure,Result.andThen_ok,hnil,newRow,newObj,Sem.run]
   rw [h0,show Array.range 0=#[] from rfl,Array.map_empty]
   rfl
  ·simp only [if_neg h0,Sem.run_bind,Sem.run_pure,Result.andThen_ok,hzr,hrow,newRow,newObj,Sem.run]
   rfl
 rw [this]
 exact ⟨fz,_,hw.alloc _,h _⟩
end
end Go.Lx
namespace Go.Proofs.YtfjopfinkdhmaaaGreatDoor
open Go.Lx Go.RowKit
attribute [local instance 10] Classical.propDecidable
open Go.Proofs.Tryz (prog)
def LevI (n:Nat) (st:List Lev):Prop:=st≠ []∧lvN st≤n+1∧st.length≤33∧n≤4096
theorem Yb6:∀ (l:List UInt8) (m:Bool) (b:UInt8) (r:List UInt8),l.drop (W5 m l)=b::r→¬SepP b.toNat∧b≠59
 | [],m,b,r,h=>by simp at h
 | x::l,true,b,r,h=>by
  rw [W5] at h
  split at h
  ·rw [Nat.add_comm,List.drop_succ_cons] at h;exact Yb6 l false b r h
  ·rw [Nat.add_comm,List.drop_succ_cons] at h;exact Yb6 l true b r h
 | x::l,false,b,r,h=>by
  rw [W5] at h
  split at h
  ·rw [Nat.add_comm,List.drop_succ_cons] at h;exact Yb6 l false b r h
  ·rename_i h1
   split at h
   ·rw [Nat.add_comm,List.drop_succ_cons] at h;exact Yb6 l true b r h
   ·rename_i h2
    rw [List.drop_zero] at h
    injection h with h3 h4
    subst h3
    exact ⟨h1,h2⟩
theorem YfE {t:Bs} {a:Nat} {b:UInt8} (h:t[XO false t a]?=some b):¬SepP b.toNat∧b≠59:=by
 have h1:=W9 h
 rw [XO,← List.drop_drop] at h1
 exact Yb6 _ false b _ h1
theorem Yjo {m:Bool} {t:Bs} {a:Nat}:a≤XO m t a:=by unfold XO;omega
theorem Yik {t:Bs} {a:Nat} (h:a≤t.size):tokE t a≤t.size:=by
 have:=Yij (t.data.toList.drop a)
 rw [List.length_drop,XA] at this
 unfold tokE;omega
variable {n:Nat}
theorem next_ok {t:Bs} {a a' n':Nat} {st st':List Lev} (h:Ya7 t a n st=.ok (a',n',st')) (ha:a<t.size) (hs:∀ b,t[a]?=some b→¬SepP b.toNat∧b≠59) (hI:LevI n st):a<a'∧a'≤t.size∧LevI n' st':=by
 obtain ⟨b,hb,hb2⟩:=XV ha
 obtain ⟨i1,i2,i3,i4⟩:=hI
 have hs:=hs b hb
 unfold Ya7 at h
 rw [hb] at h
 simp only at h
 split at h
 ·split at h
  ·cases h
  ·rename_i h1
   injection h with h
   injection h with h2 h3
   injection h3 with h3 h4
   subst h2 h3 h4
   rw [not_or] at h1
   exact ⟨by omega,by omega,by simp,by rw [lvN];simp only [List.length_nil];omega,by rw [List.length_cons];omega,by omega⟩
 ·rename_i h40
  split at h
  ·split at h
   ·rename_i e e2 r _
    injection h with h
    injection h with h2 h3
    injection h3 with h3 h4
    subst h2 h3 h4
    simp only [lvN,Lev.add,List.length_append,List.length_cons,List.length_nil] at i2 i3 ⊢
    exact ⟨by omega,by omega,by simp,by simp only [lvN,List.length_append,List.length_cons,List.length_nil];omega,by simp only [List.length_cons];omega,by omega⟩
   ·cases h
  ·rename_i h41
   have hst:¬StopP b:=by
    rintro (h5 | h5 | h5 | h5)
    ·exact hs.1 h5
    ·exact h40 h5
    ·exact h41 h5
    ·exact hs.2 h5
   unfold tokM at h
   split at h
   ·cases h
   ·split at h
    ·cases h
    ·unfold addM at h
     split at h
     ·cases h
     ·rename_i e r
      injection h with h
      injection h with h2 h3
      injection h3 with h3 h4
      subst h2 h3 h4
      have h6:a+1≤tokE t a:=by rw [Yil hb hst];unfold tokE;omega
      simp only [lvN,Lev.add,List.length_cons] at i2 i3
      exact ⟨by omega,Yik Zi,by simp,by simp only [lvN,Lev.add,List.length_append,List.length_cons,List.length_nil];omega,by simp only [List.length_cons];omega,by omega⟩
theorem next_err {t:Bs} {a:Nat} {st:List Lev} {c:Int} (h:Ya7 t a n st=.error c) (ha:a<t.size) (hst:st≠ []):c≠0:=by
 obtain ⟨b,hb,hb2⟩:=XV ha
 unfold Ya7 at h
 rw [hb] at h
 simp only at h
 split at h
 ·split at h
  ·injection h with h;subst h;decide
  ·cases h
 ·split at h
  ·split at h
   ·cases h
   ·injection h with h;subst h;decide
  ·unfold tokM at h
   split at h
   ·rename_i h1
    injection h with h
    subst h
    unfold tokX at h1
    split at h1
    ·split at h1
     ·injection h1 with h1;subst h1;decide
     ·cases h1
    ·split at h1
     ·cases h1
     ·injection h1 with h1;subst h1;decide
   ·split at h
    ·injection h with h;subst h;decide
    ·unfold addM at h
     split at h
     ·exact absurd rfl hst
     ·cases h
def endM:List Lev→Except (Int × Int × Int) (List Sexpr)
 | []=>.error (0,0,0)
 | [e]=>.ok e.kids
 | e::_::_=>.error (e.l,e.c,2)
def YbI (t:Bs):Nat→Nat→Nat→List Lev→Except (Int × Int × Int) (List Sexpr)
 | 0,_,_,_=>.error (0,0,0)
 | f+1,a,n,st=>
  if t.size≤XO false t a then endM st
  else match Ya7 t (XO false t a) n st with
   | .error c=>.error ((posA t (XO false t a)).1,(posA t (XO false t a)).2,c)
   | .ok (a',n',st')=>YbI t f a' n' st'
theorem W1 {t:Bs} {f a:Nat} {st:List Lev}:YbI t (f+1) a n st=if t.size≤XO false t a then endM st
 else match Ya7 t (XO false t a) n st with
  | .error c=>.error ((posA t (XO false t a)).1,(posA t (XO false t a)).2,c)
  | .ok (a',n',st')=>YbI t f a' n' st':=rfl
def YcH (t:Bs):Except (Int × Int × Int) (List Sexpr):=
 if 65536<t.size then .error (0,0,5) else YbI t (t.size+1) 0 0 [⟨0,0,0,[]⟩]
def ReadR (fz:FZ) (x:Except (Int × Int × Int) (List Sexpr)) (v:Value):Prop:=
 match x with
 | .error (l,c,e)=>v=.tuple #[.slice none 0 0,.int .i64 l,.int .i64 c,errV e]∧e≠0∧I64 l∧I64 c
 | .ok xs=>∃ A n c,v=.tuple #[.slice A n c,.int .i64 0,.int .i64 0,.nilIface]∧Sl Yy fz A n c xs
variable {fz:FZ}
set_option maxHeartbeats 8000000 in
theorem read_f {t:Bs}:GFn prog 33 [.string t] fz [] (fun r fz' H'=>H'=[]∧ReadR fz' (YcH t) r):=by
 have hM:YcH t=if 65536<t.size then .error (0,0,5) else YbI t (t.size+1) 0 0 [⟨0,0,0,[]⟩]:=rfl
 refine zF Tryz.func33 Tryz.ntmps33 (fun w0=>?_)
 refine zW ?_;intros
 refine zC (fun c1=>?_) (fun c1=>?_)
 ·rw [if_pos Zi] at hM
  refine zW ?_;intros
  exact YQ T (vs:=[.slice none 0 0,.int .i64 0,.int .i64 0,.iface 65 (.int .i64 5)]) Zz ⟨rfl,rfl,rfl,rfl,trivial⟩ (fun fz3 hle3 hf3=>⟨rfl,by rw [hM];exact ⟨rfl,by decide,i64z,i64z⟩⟩)
 ·rw [if_neg Zi] at hM
  refine zW ?_;intros
  refine Ya Zz (YiJ (l:=1) (c:=1) T Zz Zz Zz Zz Zz Zz Zh Zh Zh (fun go=>?_))
  refine zW ?_;intros
  rename_i gr
  have ht:t.size≤1000000:=by omega
  refine Ya Zz (Ym [(gr,rdO t 0 0 (.slice (some ⟨go,0,none⟩) 1 1))] [(go,_)] Zz Zz Zz (skip_f (n:=0) ht (Z0 _)) (fun r1 fz1 H1 hle1 hR1=>?_))
  obtain ⟨rfl,rfl,rfl⟩:=hR1
  have h1:RdS fz1 gr t (XO false t 0) 0 [⟨0,0,0,[]⟩] ((gr,rdO t (XO false t 0) 0 (.slice (some ⟨go,0,none⟩) 1 1))::(go,.cells zroC.toArray 57 (0,0)):: []):=by
   exact ⟨go,1,zroC,[zroC],[],rfl,⟨⟨[(zroC,zroC)],rfl,by intro p hp;simp at hp;subst hp;exact ⟨rfl,rfl,by decide⟩,rfl⟩,rfl,by decide,by decide,rfl⟩,[],[],.slice none 0 0,[],rfl,rfl,⟨rfl,rfl⟩,Grow.nil _ _ _,i64z,i64z,i64z⟩
  refine zW ?_;intros
  refine Yl (fun q σ fz' H'=>∃ (f a n:Nat) (st:List Lev),q=f∧σ=[(6,.pointer (some ⟨gr,0,none⟩)),(0,.string t)]∧Le fz1 fz'∧RdS fz' gr t (XO false t a) n st H'∧a≤t.size∧LevI n st∧t.size - a<f∧YcH t=YbI t f a n st) ⟨t.size+1,0,0,_,rfl,rfl,Le.refl _,h1,Z0 _,⟨by simp,by simp [lvN],by simp,by decide⟩,by omega,hM⟩ Zw Zb ?_
  rintro q σ fz' H' ⟨f,a,n,st,rfl,rfl,hle,hR,ha,hI,hf,hG⟩
  obtain _ | q:=q
  ·omega
  have hR0:=hR
  obtain ⟨g2,cap,cur,ls,Hk,rfl,hB,hL⟩:=hR
  have hunf:=rdO.eq_1 t (XO false t a) n (.slice (some ⟨g2,0,none⟩) st.length cap)
  have hbd:=YeD t (XO false t a)
  have hcap:=hB.capn
  rw [hunf]
  rw [W1] at hG
  obtain ⟨i1,i2,i3,i4⟩:=hI
  obtain _ | ⟨e,st⟩:=st
  ·exact absurd rfl i1
  refine zW ?_;intros
  refine zC (fun c2=>?_) (fun c2=>?_)
  ·rw [if_neg Zi] at hG
   refine zW ?_;intros
   refine Ya Zz (Ym ((gr,_)::(g2,_)::Hk) [] (List.append_nil _).symm Zz Zz (next_f hR0 ht Zi i4 i2 (by rw [List.length_cons] at i3;omega)) (fun r1 fz2 H1 hle1 hR1=>?_))
   obtain ⟨_,hR1⟩:=hR1
   cases hN:Ya7 t (XO false t a) n (e::st) with
   | error c=>
    rw [hN] at hG hR1
    have hc:=next_err hN Zi (by simp)
    obtain ⟨rfl,go3,cap3,cur3,ls3,Hk3,rfl,hB3,hL3⟩:=hR1
    have hunf3:=rdO.eq_1 t (XO false t a) n (.slice (some ⟨go3,0,none⟩) (e::st).length cap3)
    rw [hunf3,Yj hc]
    refine zW ?_;intros
    exact YQ T (vs:=[.slice none 0 0,.int .i64 (posA t (XO false t a)).1,.int .i64 (posA t (XO false t a)).2,.iface 65 (.int .i64 c)]) Zz ⟨rfl,rfl,rfl,rfl,trivial⟩ (fun fz3 hle3 hf3=>⟨rfl,by rw [hG];exact ⟨by rw [Yj hc],hc,by unfold I64;omega,by unfold I64;omega⟩⟩)
   | ok x=>
    obtain ⟨a',n',st'⟩:=x
    rw [hN] at hG hR1
    obtain ⟨rfl,hR2⟩:=hR1
    obtain ⟨j1,j2,j3⟩:=next_ok hN Zi (fun b hb=>YfE hb) ⟨i1,i2,i3,i4⟩
    obtain ⟨go3,cap3,cur3,ls3,Hk3,rfl,hB3,hL3⟩:=hR2
    have hag:=Yjo (m:=false) (t:=t) (a:=a)
    rw [List.append_nil]
    refine zW ?_;intros
    refine Ya Zz (Ym [(gr,rdO t a' n' (.slice (some ⟨go3,0,none⟩) st'.length cap3))] ((go3,_)::Hk3) Zz Zz Zz (skip_f ht j2) (fun r4 fz4 H4 hle4 hR4=>?_))
    obtain ⟨rfl,rfl,rfl⟩:=hR4
    refine zW ?_;intros
    exact Yz ⟨q,a',n',st',rfl,rfl,hle.trans hle1,⟨go3,cap3,cur3,ls3,Hk3,rfl,hB3,hL3⟩,j2,j3,by omega,hG⟩ Zi Zw Zb
  ·rw [if_pos Zi] at hG
   refine zW ?_;intros
   refine zC (fun c3=>?_) (fun c3=>?_)
   ·obtain _ | ⟨e2,st⟩:=st
    ·exact absurd c3 (by rw [show [e].length=1 from rfl];decide)
    obtain ⟨ls',H',v,Hl,rfl,rfl,hL',hG',hI'⟩:=hL
    obtain ⟨Av,cv,rfl,_,_⟩:=hG'.form
    have hl':=hL'.len
    obtain ⟨cs,hc1,hc2⟩:=Yl3 hB (j:=(e2::st).length) (d:=lvC e (.slice Av e.kids.length cv)) (by rw [List.getElem?_append_right Zi,hl',Nat.sub_self];rfl)
    have hc3:=hc1.1
    subst hc3
    have e1:(((e::e2::st).length:Nat):Int) - 1=((e2::st).length:Nat):=by simp only [List.length_cons];push_cast;omega
    have hln:(e::e2::st).length=(e2::st).length+1:=List.length_cons
    refine zW ?_;intros
    refine zG ?_;refine YC T Zz Zz Zz Zz Zz rfl Zi Zi ?_
    rw [show ((((e::e2::st).length:Nat):Int) - 1).toNat=(e2::st).length by omega]
    refine zW ?_;intros
    refine zG ?_;refine Y0 T 1 Zz Zz Zz Zz (hc2 2 _ rfl) ?_
    refine zW ?_;intros
    refine zG ?_;refine YC T Zz Zz Zz Zz Zz rfl Zi Zi ?_
    rw [show ((((e::e2::st).length:Nat):Int) - 1).toNat=(e2::st).length by omega]
    refine zW ?_;intros
    refine zG ?_;refine Y0 T 1 Zz Zz Zz Zz (hc2 3 _ rfl) ?_
    refine zW ?_;intros
    exact YQ T (vs:=[.slice none 0 0,.int .i64 e.l,.int .i64 e.c,.iface 65 (.int .i64 2)]) Zz ⟨rfl,rfl,rfl,rfl,trivial⟩ (fun fz3 hle3 hf3=>⟨rfl,by rw [hG];exact ⟨rfl,by decide,hI'.2.1,hI'.2.2⟩⟩)
   ·have hst:st=[]:=List.eq_nil_of_length_eq_zero (by rw [List.length_cons] at c3;omega)
    subst hst
    obtain ⟨ls',H',v,Hl,rfl,rfl,hL',hG',hI'⟩:=hL
    obtain ⟨Av,cv,rfl,_,_⟩:=hG'.form
    have hl':=hL'.len
    obtain ⟨cs,hc1,hc2⟩:=Yl3 hB (j:=0) (d:=lvC e (.slice Av e.kids.length cv)) (by rw [List.getElem?_append_right (by rw [hl'];exact Z0 _),hl'];rfl)
    have hc3:=hc1.1
    subst hc3
    refine zW ?_;intros
    refine zG ?_;refine YC T Zz Zz Zz Zz Zz rfl Zh (by rw [List.length_cons];omega) ?_
    refine zW ?_;intros
    refine zG ?_;refine Y0 T 1 Zz Zz Zz Zz (hc2 5 _ rfl) ?_
    refine zW ?_;intros
    refine YQ T (vs:=[.slice Av e.kids.length cv,.int .i64 0,.int .i64 0,.nilIface]) Zz ⟨rfl,rfl,rfl,rfl,trivial⟩ (fun fz3 hle3 hf3=>⟨rfl,?_⟩)
    obtain ⟨A1,c1',hv1,hS1⟩:=hG'.sl hle3 (fun p hp=>hf3 p (by simp [hp])) (by have:=YlN (st:=[e]) (e:=e) (by simp);omega)
    injection hv1 with hv1 hv2 hv3
    subst hv1 hv3
    rw [hG]
    exact ⟨_,_,_,rfl,hS1⟩
variable {k:Nat}
theorem Ybj {α:Type} {l:List α} {x:α} (h:l[k]?=some x):l.drop k=x::l.drop (k+1):=by
 obtain ⟨h1,h2⟩:=Zg h
 rw [List.drop_eq_getElem_cons h1,h2]
theorem Ycn:OneC strL:=by
 intro fz d cs h u hu
 obtain ⟨rfl,_⟩:=h
 simp at hu;subst hu;rfl
def ResS {α:Type} (L:Lay α) (fz:FZ) (x:Except Int (List α)) (v:Value):Prop:=
 match x with
 | .error c=>v=.tuple #[.slice none 0 0,errV c]∧c≠0
 | .ok l=>∃ A n c,v=.tuple #[.slice A n c,.nilIface]∧Sl L fz A n c l
def exA {α:Type} (o:List α):Except Int (List α)→Except Int (List α)
 | .error c=>.error c
 | .ok l=>.ok (o++l)
theorem Ycg {α:Type} {x:Except Int (List α)}:exA [] x=x:=by cases x<;>rfl
theorem Ye6 {α:Type} {a b:List α} {x:Except Int (List α)}:exA a (exA b x)=exA (a++b) x:=by cases x<;>simp [exA]
def XF (x:Sexpr):Option (Bs × List Sexpr):=match x.kids with
 | []=>none
 | w::r=>if x.kind=3∧w.kind=1 then some (w.text,r) else none
def YcU (fz:FZ) (x:Sexpr) (v:Value):Prop:=match XF x with
 | none=>v=.tuple #[.string ⟨#[]⟩,.slice none 0 0,.bool false]
 | some (w,r)=>∃ A n c,v=.tuple #[.string w,.slice A n c,.bool true]∧Sl Yy fz A n c r∧Short w
variable {vk:Value}
theorem head_f {x:Sexpr} (h:YW fz x vk):GFn prog 214 [.agg #[.int .i64 x.kind,.int .i64 x.value,.int .i64 x.line,.int .i64 x.column,.string x.text,vk]] fz [] (fun r fz' H'=>fz'=fz∧H'=[]∧YcU fz x r):=by
 obtain ⟨A,n,c,rfl,ik⟩:=h.kids
 have hl:=ik.len
 have no:XF x=none→YcU fz x (.tuple #[.string ⟨#[]⟩,.slice none 0 0,.bool false]):=fun e=>by unfold YcU;rw [e]
 have hM:XF x=match x.kids with
  | []=>none
  | w::r=>if x.kind=3∧w.kind=1 then some (w.text,r) else none:=rfl
 refine zF Tryz.func214 Tryz.ntmps214 (fun w0=>?_)
 refine zW ?_;intros
 refine zC (fun c1=>?_) (fun c1=>?_)
 ·refine zW ?_;intros
  exact retN T (H':=[]) (vs:=[.string ⟨#[]⟩,.slice none 0 0,.bool false]) Zz ⟨rfl,rfl,rfl,trivial⟩ Zb ⟨rfl,rfl,no (by rw [hM];split;rfl;rw [if_neg (fun h=>c1 h.1)])⟩
 ·refine zW ?_;intros
  refine zC (fun c2=>?_) (fun c2=>?_)
  ·have hk:x.kids=[]:=List.eq_nil_of_length_eq_zero Zi
   refine zW ?_;intros
   exact retN T (H':=[]) (vs:=[.string ⟨#[]⟩,.slice none 0 0,.bool false]) Zz ⟨rfl,rfl,rfl,trivial⟩ Zb ⟨rfl,rfl,no (by rw [hM,hk])⟩
  ·obtain ⟨w,r,hk⟩:∃ w r,x.kids=w::r:=by
    cases hx:x.kids with
    | nil=>rw [hx] at hl;simp at hl;omega
    | cons w r=>exact ⟨w,r,rfl⟩
   have hk0:x.kids[0]?=some w:=by rw [hk];rfl
   rw [hk] at hM hl
   rw [List.length_cons] at hl
   refine zW ?_;intros
   refine zI ik hk0 (fun p hp=>?_)
   refine zW ?_;intros
   ((refine zG ?_);refine Xy T Zz Zz Zz hp.Sexpr_kind (fun i1=>?_))
   refine zC (fun c3=>?_) (fun c3=>?_)
   ·refine zW ?_;intros
    exact retN T (H':=[]) (vs:=[.string ⟨#[]⟩,.slice none 0 0,.bool false]) Zz ⟨rfl,rfl,rfl,trivial⟩ Zb ⟨rfl,rfl,no (by rw [hM];exact if_neg (fun h=>c3 h.2))⟩
   ·have c1':x.kind=3:=by omega
    have c3':w.kind=1:=by omega
    have hM':XF x=some (w.text,r):=hM.trans (if_pos ⟨c1',c3'⟩)
    refine zW ?_;intros
    refine zI ik hk0 (fun p hp=>?_)
    refine zW ?_;intros
    refine zH hp.Sexpr_text (fun hs=>?_)
    refine zW ?_;intros
    refine zG ?_;refine Xu (j:=1) T Zz Zz Zz Zz Zz Zz ik Zi (fun A' hA'=>?_)
    refine zW ?_;intros
    exact retN T (H':=[]) (vs:=[.string w.text,.slice A' (n - 1) (c - 1),.bool true]) Zz ⟨rfl,rfl,rfl,trivial⟩ Zb ⟨rfl,rfl,by unfold YcU;rw [hM'];exact ⟨A',n - 1,c - 1,rfl,by rw [hk] at hA';exact hA',hs⟩⟩
theorem YeE {x:Sexpr} (h:YW fz x vk):GFn prog 97 [.agg #[.int .i64 x.kind,.int .i64 x.value,.int .i64 x.line,.int .i64 x.column,.string x.text,vk]] fz [] (fun r fz' H'=>fz'=fz∧H'=[]∧YcU fz x r):=by
 obtain ⟨A,n,c,rfl,ik⟩:=h.kids
 have hl:=ik.len
 have no:XF x=none→YcU fz x (.tuple #[.string ⟨#[]⟩,.slice none 0 0,.bool false]):=fun e=>by unfold YcU;rw [e]
 have hM:XF x=match x.kids with
  | []=>none
  | w::r=>if x.kind=3∧w.kind=1 then some (w.text,r) else none:=rfl
 refine zF Tryz.func97 Tryz.ntmps97 (fun w0=>?_)
 refine zW ?_;intros
 refine zC (fun c1=>?_) (fun c1=>?_)
 ·refine zW ?_;intros
  exact retN T (H':=[]) (vs:=[.string ⟨#[]⟩,.slice none 0 0,.bool false]) Zz ⟨rfl,rfl,rfl,trivial⟩ Zb ⟨rfl,rfl,no (by rw [hM];split;rfl;rw [if_neg (fun h=>c1 h.1)])⟩
 ·refine zW ?_;intros
  refine zC (fun c2=>?_) (fun c2=>?_)
  ·have hk:x.kids=[]:=List.eq_nil_of_length_eq_zero Zi
   refine zW ?_;intros
   exact retN T (H':=[]) (vs:=[.string ⟨#[]⟩,.slice none 0 0,.bool false]) Zz ⟨rfl,rfl,rfl,trivial⟩ Zb ⟨rfl,rfl,no (by rw [hM,hk])⟩
  ·obtain ⟨w,r,hk⟩:∃ w r,x.kids=w::r:=by
    cases hx:x.kids with
    | nil=>rw [hx] at hl;simp at hl;omega
    | cons w r=>exact ⟨w,r,rfl⟩
   have hk0:x.kids[0]?=some w:=by rw [hk];rfl
   rw [hk] at hM hl
   rw [List.length_cons] at hl
   refine zW ?_;intros
   refine zI ik hk0 (fun p hp=>?_)
   refine zW ?_;intros
   ((refine zG ?_);refine Xy T Zz Zz Zz hp.Sexpr_kind (fun i1=>?_))
   refine zC (fun c3=>?_) (fun c3=>?_)
   ·refine zW ?_;intros
    exact retN T (H':=[]) (vs:=[.string ⟨#[]⟩,.slice none 0 0,.bool false]) Zz ⟨rfl,rfl,rfl,trivial⟩ Zb ⟨rfl,rfl,no (by rw [hM];exact if_neg (fun h=>c3 h.2))⟩
   ·have c1':x.kind=3:=by omega
    have c3':w.kind=1:=by omega
    have hM':XF x=some (w.text,r):=hM.trans (if_pos ⟨c1',c3'⟩)
    refine zW ?_;intros
    refine zI ik hk0 (fun p hp=>?_)
    refine zW ?_;intros
    refine zH hp.Sexpr_text (fun hs=>?_)
    refine zW ?_;intros
    refine zG ?_;refine Xu (j:=1) T Zz Zz Zz Zz Zz Zz ik Zi (fun A' hA'=>?_)
    refine zW ?_;intros
    exact retN T (H':=[]) (vs:=[.string w.text,.slice A' (n - 1) (c - 1),.bool true]) Zz ⟨rfl,rfl,rfl,trivial⟩ Zb ⟨rfl,rfl,by unfold YcU;rw [hM'];exact ⟨A',n - 1,c - 1,rfl,by rw [hk] at hA';exact hA',hs⟩⟩
def Yao:List Sexpr→Except Int (List Bs)
 | []=>.ok []
 | x::r=>if x.kind≠1 then .error 2 else if ¬YdR x.text then .error 8 else exA [x.text] (Yao r)
variable {A:Option Addr} {c:Nat}
set_option maxHeartbeats 2000000 in
theorem Yim {l:List Sexpr} (h:Sl Yy fz A n c l) (hn:n≤1000000000):
 GFn prog 218 [.slice A n c] fz [] (fun r fz' H'=>H'=[]∧ResS strL fz' (Yao l) r):=by
 have hl:=h.len
 refine zF Tryz.func218 Tryz.ntmps218 (fun w0=>?_)
 refine zW ?_;intros
 refine Yl (fun q σ fz' H'=>∃ (k:Nat) (v:Value) (Hs:HP) (out:List Bs),k≤n∧q=n - k∧σ=[(9,.int .i64 k),(8,.int .i64 n),(7,.slice A n c),(4,v)]∧fz=fz'∧H'=Hs∧Grow strL 9 fz v k Hs out∧Yao l=exA out (Yao (l.drop k))) ⟨0,_,[],[],Z0 _,rfl,rfl,rfl,rfl,Grow.nil _ _ _,by rw [Ycg];rfl⟩ Zw Zb ?_
 rintro q σ fz' H' ⟨k,v,Hs,out,hk,rfl,rfl,rfl,rfl,hG,hM⟩
 refine zW ?_;intros
 refine zC (fun c1=>?_) (fun c1=>?_)
 ·obtain ⟨x,hx⟩:=Yn (l:=l) (k:=k) Zi
  rw [Ybj hx,Yao] at hM
  refine zW ?_;intros
  refine zI h hx (fun p hp=>?_)
  refine zL hp ?_
  intro cs hcs
  obtain ⟨vk,rfl,hR⟩:=Yh hcs
  obtain ⟨Ak,nk,ck,rfl,ikk⟩:=hR.kids
  refine zW ?_;intros
  rename_i g6
  refine zC (fun c2=>?_) (fun c2=>?_)
  ·rw [if_pos c2] at hM
   refine zW ?_;intros
   exact ret2 (H':=[]) rfl rfl rfl Zb ⟨rfl,by rw [hM];exact ⟨rfl,by decide⟩⟩
  ·rw [if_neg (Classical.not_not.2 c2)] at hM
   refine zW ?_;intros
   refine zb (Yk3 hR.text) (fun f1=>?_) (fun f1=>?_)
   ·rw [if_neg (Classical.not_not.2 (Zt f1)),Ye6] at hM
    obtain ⟨Av,cv,rfl,_,_⟩:=hG.form
    refine zW ?_;intros
    refine Ya Zz (Yc T (cs:=[.string x.text]) Zz Zz Zz Zz Zz Zz Zz Zz (fun gb=>?_))
    refine Ya Zz (YS T (d:=x.text) (cs:=[.string x.text]) (Hr:=[(gb,_),(g6,_)]) Zz Zz Zz Zz Zz Zz Zz Zz (Zr _) hG Ycn (.head _) ⟨rfl,hR.text⟩ (by show _*16≤_;omega) Zi (fun v' Hs' hG'=>?_))
    refine zW ?_;intros
    exact Yz ⟨k+1,v',Hs',out++ [x.text],by omega,rfl,rfl,rfl,rfl,hG',hM⟩ Zi Zw Zb
   ·rw [if_pos (Zf f1)] at hM
    refine zW ?_;intros
    exact ret2 (H':=[]) rfl rfl rfl Zb ⟨rfl,by rw [hM];exact ⟨rfl,by decide⟩⟩
 ·obtain ⟨Av,cv,rfl,_,_⟩:=hG.form
  have hkn:k=n:=by omega
  rw [List.drop_eq_nil_of_le Zi,Yao] at hM
  refine zW ?_;intros
  refine Yiq rfl rfl rfl (fun fz3 hle3 hf3=>⟨rfl,?_⟩)
  obtain ⟨A1,c1',hv1,hS1⟩:=hG.sl hle3 hf3 Zi
  injection hv1 with hv1 hv2 hv3
  subst hv1 hv3
  rw [hM]
  exact ⟨_,_,_,rfl,by rw [List.append_nil];exact hS1⟩
def kGt:Bs:=⟨#[62]⟩
def kGe:Bs:=⟨#[62,61]⟩
def Cnt2 (w:Bs):Prop:=w=YlU∨w=XZ∨w=WX∨w=kEq∨w=kLt∨w=kLe∨w=kGt∨w=kGe
def cntM (w:Bs):Int:=if w=kNot then 1 else if Cnt2 w then 2 else -1
theorem count_q {w:Bs}:QFn prog 215 [.string w] fz (.int .i64 (cntM w)):=by
 refine GFn.quiet ?_
 refine zF Tryz.func215 Tryz.ntmps215 (fun w0=>?_)
 refine zW ?_;intros
 refine zC (fun c0=>?_) (fun c0=>?_)
 ·refine zW ?_;intros
  exact zR (h:=by rw [cntM,if_pos (show w=kNot from c0)])
 ·have two:Cnt2 w→Value.int .i64 2=.int .i64 (cntM w):=fun h=>by rw [cntM,if_neg (show ¬w=kNot from c0),if_pos h]
  refine zW ?_;intros
  refine zC (fun c1=>?_) (fun c1=>?_)
  ·refine zW ?_;intros
   exact ret1 rfl rfl Zb (two (.inl c1))
  refine zW ?_;intros
  refine zC (fun c2=>?_) (fun c2=>?_)
  ·refine zW ?_;intros
   exact ret1 rfl rfl Zb (two (.inr (.inl c2)))
  refine zW ?_;intros
  refine zC (fun c3=>?_) (fun c3=>?_)
  ·refine zW ?_;intros
   exact ret1 rfl rfl Zb (two (.inr (.inr (.inl c3))))
  refine zW ?_;intros
  refine zC (fun c4=>?_) (fun c4=>?_)
  ·refine zW ?_;intros
   exact ret1 rfl rfl Zb (two (.inr (.inr (.inr (.inl c4)))))
  refine zW ?_;intros
  refine zC (fun c5=>?_) (fun c5=>?_)
  ·refine zW ?_;intros
   exact ret1 rfl rfl Zb (two (.inr (.inr (.inr (.inr (.inl c5))))))
  refine zW ?_;intros
  refine zC (fun c6=>?_) (fun c6=>?_)
  ·refine zW ?_;intros
   exact ret1 rfl rfl Zb (two (.inr (.inr (.inr (.inr (.inr (.inl c6)))))))
  refine zW ?_;intros
  refine zC (fun c7=>?_) (fun c7=>?_)
  ·refine zW ?_;intros
   exact ret1 rfl rfl Zb (two (.inr (.inr (.inr (.inr (.inr (.inr (.inl c7))))))))
  refine zW ?_;intros
  refine zC (fun c8=>?_) (fun c8=>?_)
  ·refine zW ?_;intros
   exact ret1 rfl rfl Zb (two (.inr (.inr (.inr (.inr (.inr (.inr (.inr c8))))))))
  ·refine zW ?_;intros
   exact zR (h:=by rw [cntM,if_neg (show ¬w=kNot from c0),if_neg (fun h=>by rcases h with h | h | h | h | h | h | h | h;exact c1 h;exact c2 h;exact c3 h;exact c4 h;exact c5 h;exact c6 h;exact c7 h;exact c8 h)])
def ResL {α:Type} (L:Lay α) (fz:FZ) (x:Except Int α) (v:Value):Prop:=
 ∃ d cs,L.rep fz d cs∧match x with
  | .error c=>v=.tuple #[.agg cs.toArray,errV c]∧c≠0
  | .ok y=>y=d∧v=.tuple #[.agg cs.toArray,.nilIface]
variable {cs:List Value}
theorem ResL.err {α:Type} {L:Lay α} {x:Except Int α} {c:Int} {d:α} (h:x=.error c) (hc:c≠0) (hr:L.rep fz d cs):ResL L fz x (.tuple #[.agg cs.toArray,.iface 65 (.int .i64 c)]):=by
 rw [h];exact ⟨d,cs,hr,by rw [Yj hc],hc⟩
theorem ResL.fine {α:Type} {L:Lay α} {x:Except Int α} {d:α} (h:x=.ok d) (hr:L.rep fz d cs):ResL L fz x (.tuple #[.agg cs.toArray,.nilIface]):=by
 rw [h];exact ⟨d,cs,hr,rfl,rfl⟩
def mapE {α β:Type} (f:α→Except Int β):List α→Except Int (List β)
 | []=>.ok []
 | x::r=>match f x with
  | .error c=>.error c
  | .ok y=>exA [y] (mapE f r)
theorem Yed {α β:Type} {f:α→Except Int β} {l:List α} {x:α} {c:Int} {o:List β} {m:Except Int (List β)} (hx:l[k]?=some x) (hm:m=exA o (mapE f (l.drop k))) (hf:f x=.error c):m=.error c:=by
 rw [hm,Ybj hx,mapE,hf];rfl
theorem Ygr {α β:Type} {f:α→Except Int β} {l:List α} {x:α} {y:β} {o:List β} {m:Except Int (List β)} (hx:l[k]?=some x) (hm:m=exA o (mapE f (l.drop k))) (hf:f x=.ok y):m=exA (o++ [y]) (mapE f (l.drop (k+1))):=by
 rw [hm,Ybj hx,mapE,hf,Ye6]
theorem Yee {α β:Type} {f:α→Except Int β} {l:List α} {o:List β} {m:Except Int (List β)} (hk:l.length≤k) (hm:m=exA o (mapE f (l.drop k))):m=.ok o:=by
 rw [hm,List.drop_eq_nil_of_le hk,mapE,exA,List.append_nil]
def OpE (w:Bs):Prop:=w=kPlus∨w=Wr∨w=kStar
def Yc7:Nat→Sexpr→Except Int Lx.Expr
 | 0,_=>.error 2
 | d+1,x=>if x.kind=2 then .ok (.mk kNumber ⟨#[]⟩ x.value [] []) else match XF x with
  | none=>.error 2
  | some (w,r)=>if OpE w then (if r.length≠2 then .error 2 else match mapE (Yc7 d) r with
   | .error c=>.error c
   | .ok l=>.ok (.mk w ⟨#[]⟩ 0 [] l))
   else if Y5 w then match Yao r with
    | .error c=>.error c
    | .ok a=>.ok (.mk kFluent w 0 a [])
   else .error 8
theorem YeH {d:Nat} {x:Sexpr}:Yc7 (d+1) x=if x.kind=2 then .ok (.mk kNumber ⟨#[]⟩ x.value [] []) else match XF x with
 | none=>.error 2
 | some (w,r)=>if OpE w then (if r.length≠2 then .error 2 else match mapE (Yc7 d) r with
  | .error c=>.error c
  | .ok l=>.ok (.mk w ⟨#[]⟩ 0 [] l))
  else if Y5 w then match Yao r with
   | .error c=>.error c
   | .ok a=>.ok (.mk kFluent w 0 a [])
  else .error 8:=rfl
theorem XQ:Short ⟨#[]⟩:=by unfold Short;decide
variable {va:Value}
theorem Yel {w u:Bs} {n:Int} {a:List Bs} {k:List Lx.Expr} (h1:Short w) (h2:Short u) (h3:I64 n) (h4:IsSl strL fz va a) (h5:IsSl exprL fz vk k):exprL.rep fz (.mk w u n a k) [.string w,.string u,.int .i64 n,va,vk]:=YdK (x:=.mk w u n a k) ⟨h1,h2,h3,h4,h5⟩
theorem YaA:exprL.rep fz (.mk ⟨#[]⟩ ⟨#[]⟩ 0 [] []) [.string ⟨#[]⟩,.string ⟨#[]⟩,.int .i64 0,.slice none 0 0,.slice none 0 0]:=Yel XQ XQ i64z IsSl.nil IsSl.nil
theorem XL {x:Sexpr} {w:Bs} {r:List Sexpr} (h:XF x=some (w,r)):∃ y,x.kids=y::r∧y.text=w∧x.kind=3∧y.kind=1:=by
 unfold XF at h
 split at h
 ·cases h
 ·rename_i y r' hk
  split at h
  ·rename_i hc
   injection h with h
   injection h with h1 h2
   subst h1 h2
   exact ⟨y,hk,rfl,hc.1,hc.2⟩
  ·cases h
theorem YiM {x:Sexpr} {w:Bs} {r:List Sexpr} (h:XF x=some (w,r)) {y:Sexpr} (hy:y∈r):SizeOf.sizeOf y<SizeOf.sizeOf x:=by
 obtain ⟨u,hk,_⟩:=XL h
 exact Sexpr.kids_lt (by rw [hk];exact List.mem_cons_of_mem _ hy)
def XSmN (x:Sexpr):Prop:=x.kids.length≤1000000
abbrev XSm (x:Sexpr):Prop:=XAll XSmN x
theorem X7 {x:Sexpr} (h:XSm x) {w:Bs} {r:List Sexpr} (hh:XF x=some (w,r)) {y:Sexpr} (hy:y∈r):XSm y:=by
 obtain ⟨u,hk,_⟩:=XL hh
 exact (Y8.1 h).2 y (by rw [hk];exact List.mem_cons_of_mem _ hy)
theorem Wm {x:Sexpr} (h:XSm x) {w:Bs} {r:List Sexpr} (hh:XF x=some (w,r)):r.length≤1000000:=by
 obtain ⟨u,hk,_⟩:=XL hh
 have:=(Y8.1 h).1
 unfold XSmN at this
 rw [hk,List.length_cons] at this
 omega
theorem Ymb:OneC exprL:=by
 intro fz d cs h u hu
 obtain ⟨va,vk,rfl,hR⟩:=YT h
 obtain ⟨A,n,c,rfl,_⟩:=hR.args
 obtain ⟨B,m,b,rfl,_⟩:=hR.kids
 simp at hu
 rcases hu with rfl | rfl | rfl | rfl | rfl<;>rfl
set_option maxHeartbeats 8000000 in
theorem Yd0:∀ (d:Nat) {fz:FZ} {x:Sexpr} {vk:Value},SizeOf.sizeOf x≤d→XSm x→YW fz x vk→
 GFn prog 239 [.agg #[.int .i64 x.kind,.int .i64 x.value,.int .i64 x.line,.int .i64 x.column,.string x.text,vk]] fz [] (fun r fz' H'=>H'=[]∧ResL exprL fz' (Yc7 d x) r)
 | 0,fz,x,vk,hz,_,_=>by cases x;simp at hz
 | d+1,fz,x,vk,hz,hs,hR=>by
  obtain ⟨A,n,c,rfl,ik⟩:=hR.kids
  have hM:=YeH (d:=d) (x:=x)
  refine zF Tryz.func239 Tryz.ntmps239 (fun w0=>?_)
  refine zW ?_;intros
  rename_i g1 g2
  refine zC (fun c1=>?_) (fun c1=>?_)
  ·rw [if_pos c1] at hM
   refine zW ?_;intros
   exact YQ T (vs:=[.agg #[.string kNumber,.string ⟨#[]⟩,.int .i64 x.value,.slice none 0 0,.slice none 0 0],.nilIface]) Zz ⟨⟨_,_,0,_,_,_,rfl,rfl,rfl,rfl,rfl,rfl⟩,rfl,trivial⟩ (fun fz3 hle3 hf3=>⟨rfl,ResL.fine hM (Yel (by unfold Short;decide) XQ hR.value IsSl.nil IsSl.nil)⟩)
  ·rw [if_neg c1] at hM
   refine zW ?_;intros
   refine Ya Zz (Ym [] _ Zz Zz Zz (head_f hR) (fun r1 fz1 H1 hle1 hR1=>?_))
   obtain ⟨rfl,rfl,hR1⟩:=hR1
   unfold YcU at hR1
   cases hh:XF x with
   | none=>
    rw [hh] at hR1 hM
    subst hR1
    refine zW ?_;intros
    exact YQ T (vs:=[.agg #[.string ⟨#[]⟩,.string ⟨#[]⟩,.int .i64 0,.slice none 0 0,.slice none 0 0],.iface 65 (.int .i64 2)]) Zz ⟨⟨_,_,0,_,_,_,rfl,rfl,rfl,rfl,rfl,rfl⟩,rfl,trivial⟩ (fun fz3 hle3 hf3=>⟨rfl,ResL.err hM Zh YaA⟩)
   | some wr=>
    obtain ⟨w,r⟩:=wr
    rw [hh] at hR1 hM
    obtain ⟨A',n',c',rfl,ir,hw⟩:=hR1
    have hrl:=ir.len
    have hrs:=Wm hs hh
    refine zWX ?_;intros
    refine Yk ?_
    refine zWX ?_;intros
    refine Yk ?_
    refine zWX ?_;intros
    refine Yk ?_
    refine Yk (Wp.mid (fun σ fz' H'=>∃ b:Bool,σ=[(39,.bool b),(4,.string w),(5,.slice A' n' c'),(2,.pointer (some ⟨g2,0,none⟩))]∧fz1=fz'∧H'=[(g2,.cells #[.string ⟨#[]⟩,.string ⟨#[]⟩,.int .i64 0,.slice none 0 0,.slice none 0 0] 120 (0,0))]∧(b=true↔¬OpE w)) ?_ ?_)
    ·refine zW ?_;intros
     refine zC (fun e1=>?_) (fun e1=>?_)
     ·refine zW ?_;intros
      refine zC (fun e2=>?_) (fun e2=>?_)
      ·refine zW ?_;intros
       refine zC (fun e3=>?_) (fun e3=>?_)
       ·refine zW ?_;intros
        exact midN ⟨true,rfl,rfl,rfl,iff_of_true rfl (fun h=>by rcases h with h | h | h;exact e1 h;exact e2 h;exact e3 h)⟩ Zw Zb
       ·refine zW ?_;intros
        exact midN ⟨false,rfl,rfl,rfl,iff_of_false Zh (fun h=>h (.inr (.inr e3)))⟩ Zw Zb
      ·refine zW ?_;intros
       exact midN ⟨false,rfl,rfl,rfl,iff_of_false Zh (fun h=>h (.inr (.inl e2)))⟩ Zw Zb
     ·refine zW ?_;intros
      exact midN ⟨false,rfl,rfl,rfl,iff_of_false Zh (fun h=>h (.inl e1))⟩ Zw Zb
    rintro σ fz' H' ⟨b,rfl,rfl,rfl,hb⟩
    simp only at hM
    cases b with
    | true=>
     rw [if_neg (hb.1 rfl)] at hM
     refine zW ?_;intros
     refine zb (Wk hw) (fun f1=>?_) (fun f1=>?_)
     ·rw [if_pos (Zt f1)] at hM
      refine zW ?_;intros
      refine Ya Zz (Ym [] _ Zz Zz Zz (Yim ir Zi) (fun r2 fz2 H2 hle2 hR2=>?_))
      obtain ⟨rfl,hR2⟩:=hR2
      cases ht:Yao r with
      | error c=>
       rw [ht] at hM hR2
       obtain ⟨rfl,hc⟩:=hR2
       rw [Yj hc]
       refine zW ?_;intros
       exact YQ T (vs:=[.agg #[.string ⟨#[]⟩,.string ⟨#[]⟩,.int .i64 0,.slice none 0 0,.slice none 0 0],.iface 65 (.int .i64 c)]) Zz ⟨⟨_,_,0,_,_,_,rfl,rfl,rfl,rfl,rfl,rfl⟩,rfl,trivial⟩ (fun fz3 hle3 hf3=>⟨rfl,ResL.err hM hc YaA⟩)
      | ok a=>
       rw [ht] at hM hR2
       obtain ⟨A3,n3,c3,rfl,ia⟩:=hR2
       refine zW ?_;intros
       exact YQ T (vs:=[.agg #[.string kFluent,.string w,.int .i64 0,.slice A3 n3 c3,.slice none 0 0],.nilIface]) Zz ⟨⟨_,_,0,_,_,_,rfl,rfl,rfl,rfl,rfl,rfl⟩,rfl,trivial⟩ (fun fz3 hle3 hf3=>⟨rfl,ResL.fine hM (Yel (by unfold Short;decide) hw i64z ⟨_,_,_,rfl,ia.mono hle3⟩ IsSl.nil)⟩)
     ·rw [if_neg (Zf f1)] at hM
      refine zW ?_;intros
      exact YQ T (vs:=[.agg #[.string ⟨#[]⟩,.string ⟨#[]⟩,.int .i64 0,.slice none 0 0,.slice none 0 0],.iface 65 (.int .i64 8)]) Zz ⟨⟨_,_,0,_,_,_,rfl,rfl,rfl,rfl,rfl,rfl⟩,rfl,trivial⟩ (fun fz3 hle3 hf3=>⟨rfl,ResL.err hM Zh YaA⟩)
    | false=>
     rw [if_pos (Classical.byContradiction fun h=>absurd (hb.2 h) Zh)] at hM
     refine zW ?_;intros
     refine zC (fun e4=>?_) (fun e4=>?_)
     ·rw [if_pos Zi] at hM
      refine zW ?_;intros
      exact YQ T (vs:=[.agg #[.string ⟨#[]⟩,.string ⟨#[]⟩,.int .i64 0,.slice none 0 0,.slice none 0 0],.iface 65 (.int .i64 2)]) Zz ⟨⟨_,_,0,_,_,_,rfl,rfl,rfl,rfl,rfl,rfl⟩,rfl,trivial⟩ (fun fz3 hle3 hf3=>⟨rfl,ResL.err hM Zh YaA⟩)
     ·rw [if_neg Zi] at hM
      have hn2:n'=2:=by omega
      subst hn2
      refine zW ?_;intros
      rename_i g9
      refine Yl (fun q σ fz' H'=>∃ (k:Nat) (v:Value) (Hs:HP) (out:List Lx.Expr),k≤2∧q=2 - k∧σ=[(66,.int .i64 k),(65,.int .i64 2),(64,.slice A' 2 c'),(9,.pointer (some ⟨g9,0,none⟩)),(2,.pointer (some ⟨g2,0,none⟩))]∧Le fz1 fz'∧H'=(g9,.cells #[.string w,.string ⟨#[]⟩,.int .i64 0,.slice none 0 0,v] 120 (0,0))::(g2,.cells #[.string ⟨#[]⟩,.string ⟨#[]⟩,.int .i64 0,.slice none 0 0,.slice none 0 0] 120 (0,0))::Hs∧Grow exprL 120 fz' v k Hs out∧mapE (Yc7 d) r=exA out (mapE (Yc7 d) (r.drop k))) ⟨0,_,[],[],Z0 _,rfl,rfl,Le.refl _,rfl,Grow.nil _ _ _,by rw [Ycg];rfl⟩ Zw Zb ?_
      rintro q σ fz' H' ⟨k,v,Hs,out,hk,rfl,rfl,hle,rfl,hG,hmap⟩
      obtain ⟨Av,cv,rfl,_,_⟩:=hG.form
      refine zW ?_;intros
      refine zC (fun e5=>?_) (fun e5=>?_)
      ·obtain ⟨y,hy⟩:=Yn (l:=r) (k:=k) Zi
       have hlt:=YiM hh (Zm hy)
       refine zW ?_;intros
       refine zI (ir.mono hle) hy (fun p hp=>?_)
       refine zL hp ?_
       intro cs hcs
       obtain ⟨vy,rfl,hRy⟩:=Yh hcs
       obtain ⟨Ay,ny,cy,rfl,iy⟩:=hRy.kids
       refine zW ?_;intros
       rename_i g11
       refine Ya Zz (Ym [] _ Zz Zz Zz (Yd0 d Zi (X7 hs hh (Zm hy)) hRy) (fun r2 fz2 H2 hle2 hR2=>?_))
       obtain ⟨rfl,de,cs2,hr2,hR2⟩:=hR2
       obtain ⟨va2,vk2,rfl,hE2⟩:=YT hr2
       obtain ⟨Aa2,na2,ca2,rfl,ia2⟩:=hE2.args
       obtain ⟨Ak2,nk2,ck2,rfl,ik2⟩:=hE2.kids
       cases hx:Yc7 d y with
       | error c=>
        rw [hx] at hR2
        obtain ⟨rfl,hc⟩:=hR2
        have hm:=Yed hy hmap hx
        rw [hm] at hM
        rw [Yj hc]
        refine zW ?_;intros
        exact YQ T (vs:=[.agg #[.string ⟨#[]⟩,.string ⟨#[]⟩,.int .i64 0,.slice none 0 0,.slice none 0 0],.iface 65 (.int .i64 c)]) Zz ⟨⟨_,_,3,_,_,_,rfl,rfl,rfl,rfl,rfl,rfl⟩,rfl,trivial⟩ (fun fz3 hle3 hf3=>⟨rfl,ResL.err hM hc YaA⟩)
       | ok z=>
        rw [hx] at hR2
        obtain ⟨rfl,rfl⟩:=hR2
        have hm:=Ygr hy hmap hx
        refine zW ?_;intros
        refine Ya Zz (Yc T (cs:=[.string z.op,.string z.name,.int .i64 z.n,.slice Aa2 na2 ca2,.slice Ak2 nk2 ck2]) Zz Zz Zz Zz Zz Zz Zz Zz (fun gb=>?_))
        rename_i g12
        refine Ya Zz (YS T (d:=z) (cs:=[.string z.op,.string z.name,.int .i64 z.n,.slice Aa2 na2 ca2,.slice Ak2 nk2 ck2]) (Hr:=(gb,_)::(g12,_)::(g11,_)::(g9,_):: [(g2,_)]) Zz Zz Zz Zz Zz Zz Zz Zz (Zr _) (hG.mono hle2) Ymb (.head _) hr2 (by show _*88≤_;omega) Zi (fun v' Hs' hG'=>?_))
        obtain ⟨Av',cv',rfl,_,_⟩:=hG'.form
        refine zW ?_;intros
        exact Yz ⟨k+1,_,Hs',out++ [z],by omega,rfl,rfl,hle.trans hle2,rfl,hG',hm⟩ Zi Zw Zb
      ·have hm:=Yee Zi hmap
       rw [hm] at hM
       refine zW ?_;intros
       refine YQ T (vs:=[.agg #[.string w,.string ⟨#[]⟩,.int .i64 0,.slice none 0 0,.slice Av k cv],.nilIface]) Zz ⟨⟨_,_,1,_,_,_,rfl,rfl,rfl,rfl,rfl,rfl⟩,rfl,trivial⟩ (fun fz3 hle3 hf3=>⟨rfl,?_⟩)
       obtain ⟨A1,c1',hv1,hS1⟩:=hG.sl hle3 (fun p hp=>hf3 p (by simp [hp])) Zi
       injection hv1 with hv1 hv2 hv3
       subst hv1 hv3
       exact ResL.fine hM (Yel hw XQ i64z IsSl.nil ⟨_,_,_,rfl,hS1⟩)
end Go.Proofs.YtfjopfinkdhmaaaGreatDoor
namespace Go.Lx
open Go.RowKit
variable {fz:FZ} {g j n:Nat} {v:Value}
theorem gB_set {α:Type} {L:Lay α} {e:Nat} {cap:Nat} {cur:List Value} {l:List α} (h:GrowB L e fz g n cap cur l) {o:Nat} {d d':α} (hj:l[j]?=some d) (ho:o<L.size) (hr:∀ cs,L.rep fz d cs→L.rep fz d' (cs.set o v)):
 GrowB L e fz g n cap (cur.set (j*L.size+o) v) (l.set j d'):=by
 obtain ⟨cs,hd,hc⟩:=gB_cut h hj
 have hr:=hr cs hd
 obtain ⟨xs,h1,h2,h3⟩:=h.pairs
 have hl:=h.len
 have hjn:j<n:=by have:=(Zg hj).1;omega
 have hxl:xs.length=n:=by rw [← h1,List.length_map] at hl;exact hl
 have hsz:=h.size
 have hcap:=h.capn
 have hjz:j*L.size+L.size≤n*L.size:=by rw [← Nat.succ_mul];exact Nat.mul_le_mul_right _ hjn
 have hnc:n*L.size≤cap*L.size:=Nat.mul_le_mul_right _ hcap
 refine ⟨⟨xs.set j (d',cs.set o v),by rw [List.map_set,h1],fun p hp=>?_,?_⟩,by rw [List.length_set];exact hl,hcap,h.max,by rw [List.length_set];exact hsz⟩
 ·rcases List.mem_or_eq_of_mem_set hp with hp | hp
  ·exact h2 p hp
  ·subst hp;exact hr
 ·have hcl:cs.length=L.size:=by rw [← hc,List.length_take,List.length_drop];omega
  rw [← YgG (z:=L.size) (d:=(d',cs.set o v)) (by simpa using hcl) (fun p hp=>L.len (h2 p hp)) Zi,← h3]
  refine List.ext_getElem? fun i=>?_
  rw [List.getElem?_take]
  simp only [← hc]
  by_cases hi:i<n*L.size
  ·rw [if_pos hi]
   by_cases h5:i<j*L.size
   ·rw [List.append_assoc,List.getElem?_append_left (by rw [List.length_take,List.length_take];omega),List.getElem?_take_of_lt h5,List.getElem?_take_of_lt hi,List.getElem?_set_ne Zi]
   ·have e1:((cur.take (n*L.size)).take (j*L.size)).length=j*L.size:=by rw [List.length_take,List.length_take];omega
    have e2:(((cur.drop (j*L.size)).take L.size).set o v).length=L.size:=by rw [List.length_set,List.length_take,List.length_drop];omega
    rw [List.append_assoc,List.getElem?_append_right Zi,e1]
    by_cases h6:i<j*L.size+L.size
    ·rw [List.getElem?_append_left Zi]
     by_cases h7:i=j*L.size+o
     ·subst h7
      rw [List.getElem?_set_self Zi,Nat.add_sub_cancel_left,List.getElem?_set_self (by rw [List.length_set] at e2;omega)]
     ·rw [List.getElem?_set_ne Zi,List.getElem?_set_ne Zi,List.getElem?_take_of_lt Zi,List.getElem?_drop]
      congr 1;omega
    ·rw [List.getElem?_append_right Zi,e2,List.getElem?_drop,List.getElem?_take_of_lt Zi,List.getElem?_set_ne Zi]
     congr 1;omega
  ·rw [if_neg hi]
   have:i≥(List.take (j*L.size) (cur.take (n*L.size))++((cur.drop (j*L.size)).take L.size).set o v++(cur.take (n*L.size)).drop (j*L.size+L.size)).length:=by
    simp only [List.length_append,List.length_take,List.length_drop,List.length_set];omega
   rw [List.getElem?_eq_none Zi]
end Go.Lx
namespace Go.Proofs.YtfjopfinkdhmaaaGreatDoor
open Go.Lx Go.RowKit
attribute [local instance 10] Classical.propDecidable
open Go.Proofs.Tryz (prog)
def parT (t:Bs) (l:List Bs):List Param:=l.map fun s=>⟨s,t⟩
def PBad (b:Bool) (s:Bs):Prop:=b=true∧¬VarP s∨b=false∧¬Y5 s
def parM (b:Bool):List Sexpr→List Param→List Bs→Except Int (List Param)
 | [],done,opn=>.ok (done++parT Wh opn)
 | x::r,done,opn=>
  if ¬(x.kind=1∧XVal x) then .error 2
  else if x.text≠Wr then (if PBad b x.text then .error 8 else parM b r done (opn++ [x.text]))
  else match r with
   | []=>.error 2
   | y::r'=>if opn=[]∨¬(y.kind=1∧XVal y) then .error 2 else if ¬YcE y.text then .error 8 else parM b r' (done++parT y.text opn) []
theorem Yhw {b:Bool} {x:Sexpr} {r:List Sexpr} {done:List Param} {opn:List Bs}:parM b (x::r) done opn=if ¬(x.kind=1∧XVal x) then .error 2
 else if x.text≠Wr then (if PBad b x.text then .error 8 else parM b r done (opn++ [x.text]))
 else match r with
  | []=>.error 2
  | y::r'=>if opn=[]∨¬(y.kind=1∧XVal y) then .error 2 else if ¬YcE y.text then .error 8 else parM b r' (done++parT y.text opn) []:=by
 cases r<;>rfl
theorem YlC {t s:Bs} {l:List Bs}:parT t (l++ [s])=parT t l++ [⟨s,t⟩]:=by simp [parT]
variable {j:Nat}
theorem parT_set {t u:Bs} {opn:List Bs} {done:List Param} {s:Bs} (h:opn[j]?=some s):
 (done++parT t (opn.take j)++parT u (opn.drop j)).set (done.length+j) ⟨s,t⟩=done++parT t (opn.take (j+1))++parT u (opn.drop (j+1)):=by
 have hj:=(Zg h).1
 have hl:(done++parT t (opn.take j)).length=done.length+j:=by simp [parT];omega
 rw [List.set_append_right _ _ Zi,hl,Nat.sub_self,Ybj h,List.take_add_one,h]
 simp [parT]
theorem parT_get {t u:Bs} {opn:List Bs} {done:List Param} {s:Bs} (h:opn[j]?=some s):
 (done++parT t (opn.take j)++parT u (opn.drop j))[done.length+j]?=some ⟨s,u⟩:=by
 have hj:=(Zg h).1
 have hl:(done++parT t (opn.take j)).length=done.length+j:=by simp [parT];omega
 rw [List.getElem?_append_right Zi,hl,Nat.sub_self,Ybj h]
 simp [parT]
variable {A:Option Addr} {c n:Nat} {fz:FZ}
set_option maxHeartbeats 8000000 in
theorem Yar {l:List Sexpr} {b:Bool} (h:Sl Yy fz A n c l) (hn:n≤1000000):
 GFn prog 92 [.slice A n c,.bool b] fz [] (fun r fz' H'=>H'=[]∧ResS paramL fz' (parM b l [] []) r):=by
 have hl:=h.len
 refine zF Tryz.func92 Tryz.ntmps92 (fun w0=>?_)
 refine zW ?_;intros
 refine Yl (fun q σ fz' H'=>∃ (i:Nat) (v:Value) (Hs:HP) (done:List Param) (opn:List Bs),i≤n∧q=n - i∧σ=[(8,.int .i64 i),(7,.int .i64 done.length),(6,v),(1,.bool b),(0,.slice A n c)]∧fz=fz'∧H'=Hs∧Grow paramL 110 fz v (done.length+opn.length) Hs (done++parT Wh opn)∧done.length+opn.length≤i∧parM b l [] []=parM b (l.drop i) done opn) ⟨0,_,[],[],[],Z0 _,rfl,rfl,rfl,rfl,Grow.nil _ _ _,Zs _,rfl⟩ Zw Zb ?_
 rintro q σ fz' H' ⟨i,v,Hs,done,opn,hi,rfl,rfl,rfl,rfl,hG,hle,hM⟩
 obtain ⟨Av,cv,rfl,_,_⟩:=hG.form
 refine zW ?_;intros
 refine zC (fun c1=>?_) (fun c1=>?_)
 ·obtain ⟨x,hx⟩:=Yn (l:=l) (k:=i) Zi
  rw [Ybj hx,Yhw] at hM
  refine zW ?_;intros
  refine zI h hx (fun p hp=>?_)
  refine zW ?_;intros
  ((refine zG ?_);refine Xy T Zz Zz Zz hp.Sexpr_kind (fun i1=>?_))
  refine zC (fun c2=>?_) (fun c2=>?_)
  ·rw [if_pos (fun h=>c2 h.1)] at hM
   refine zW ?_;intros
   exact ret2 (H':=[]) rfl rfl rfl Zb ⟨rfl,by rw [hM];exact ⟨rfl,by decide⟩⟩
  ·refine zW ?_;intros
   refine zI h hx (fun p2 hp2=>?_)
   refine zL hp2 ?_
   intro cs hcs
   obtain ⟨vk,rfl,hR⟩:=Yh hcs
   refine zb (WH hR) (fun f1=>?_) (fun f1=>?_)
   ·rw [if_neg (Classical.not_not.2 ⟨by omega,Zt f1⟩)] at hM
    refine zW ?_;intros
    refine zI h hx (fun p3 hp3=>?_)
    refine zW ?_;intros
    refine zH hp3.Sexpr_text (fun hs3=>?_)
    refine zW ?_;intros
    refine zC (fun c3=>?_) (fun c3=>?_)
    ·have c3':x.text≠Wr:=c3
     rw [if_pos c3'] at hM
     refine zWX ?_;intros
     refine Yk ?_
     refine Yk (Wp.mid (fun σ fz' H2=>∃ bb:Bool,σ=[(52,.bool bb),(9,.string x.text),(8,.int .i64 i),(7,.int .i64 done.length),(6,.slice Av (done.length+opn.length) cv),(1,.bool b),(0,.slice A n c)]∧fz=fz'∧H2=H'∧(bb=true↔PBad b x.text)) ?_ ?_)
     ·cases b with
      | true=>
       refine zW ?_;intros
       refine zb (Ybr hR.text) (fun f2=>?_) (fun f2=>?_)
       ·refine zW ?_;intros
        exact midN ⟨false,rfl,rfl,rfl,iff_of_false Zh (fun h=>by rcases h with h | h;exact h.2 (Zt f2);exact absurd h.1 Zh)⟩ Zw Zb
       ·refine zW ?_;intros
        exact midN ⟨true,rfl,rfl,rfl,iff_of_true rfl (.inl ⟨rfl,Zf f2⟩)⟩ Zw Zb
      | false=>
       refine zW ?_;intros
       refine zb (Wk hR.text) (fun f2=>?_) (fun f2=>?_)
       ·refine zW ?_;intros
        exact midN ⟨false,rfl,rfl,rfl,iff_of_false Zh (fun h=>by rcases h with h | h;exact absurd h.1 Zh;exact h.2 (Zt f2))⟩ Zw Zb
       ·refine zW ?_;intros
        exact midN ⟨true,rfl,rfl,rfl,iff_of_true rfl (.inr ⟨rfl,Zf f2⟩)⟩ Zw Zb
     rintro σ fz' H2 ⟨bb,rfl,rfl,rfl,hb⟩
     cases bb with
     | true=>
      rw [if_pos (hb.1 rfl)] at hM
      refine zW ?_;intros
      exact ret2 (H':=[]) rfl rfl rfl Zb ⟨rfl,by rw [hM];exact ⟨rfl,by decide⟩⟩
     | false=>
      rw [if_neg (fun h=>absurd (hb.2 h) Zh)] at hM
      refine zW ?_;intros
      refine Ya Zz (Yc T (cs:=[.string x.text,.string Wh]) Zz Zz Zz Zz Zz Zz Zz Zz (fun gb=>?_))
      refine Ya Zz (YS T (d:=⟨x.text,Wh⟩) (cs:=[.string x.text,.string Wh]) (Hr:=[(gb,_)]) Zz Zz Zz Zz Zz Zz Zz Zz (Zr _) hG WE (.head _) (YbM (x:=⟨x.text,Wh⟩) ⟨hR.text,by show Short Wh;unfold Short;decide⟩) (by show _*32≤_;omega) Zi (fun v' Hs' hG'=>?_))
      refine zW ?_;intros
      exact Yz ⟨i+1,v',Hs',done,opn++ [x.text],by omega,rfl,rfl,rfl,rfl,hG'.of (by rw [YlC,List.append_assoc]) (by rw [List.length_append];rfl),by rw [List.length_append,List.length_singleton];omega,hM⟩ Zi Zw Zb
    ·have c3':¬x.text≠Wr:=Classical.not_not.2 c3
     rw [if_neg c3'] at hM
     have bad:∀ {y r},l.drop (i+1)=y::r→(opn=[]∨¬(y.kind=1∧XVal y))→parM b l [] []=.error 2:=fun e h0=>by
      rw [e] at hM
      exact hM.trans (if_pos h0)
     have nob:l.drop (i+1)=[]→parM b l [] []=.error 2:=fun e=>by
      rw [e] at hM
      exact hM
     have bad0:opn=[]→parM b l [] []=.error 2:=fun h0=>by
      cases e:l.drop (i+1) with
      | nil=>exact nob e
      | cons y r=>exact bad e (.inl h0)
     refine zW ?_;intros
     refine zC (fun c4=>?_) (fun c4=>?_)
     ·refine zW ?_;intros
      exact ret2 (H':=[]) rfl rfl rfl Zb ⟨rfl,by rw [bad0 (List.eq_nil_of_length_eq_zero Zi)];exact ⟨rfl,by decide⟩⟩
     ·refine zW ?_;intros
      refine zC (fun c5=>?_) (fun c5=>?_)
      ·refine zW ?_;intros
       exact ret2 (H':=[]) rfl rfl rfl Zb ⟨rfl,by rw [nob (List.drop_eq_nil_of_le Zi)];exact ⟨rfl,by decide⟩⟩
      ·obtain ⟨y,hy⟩:=Yn (l:=l) (k:=i+1) Zi
       refine zW ?_;intros
       refine zI h hy (fun p4 hp4=>?_)
       refine zW ?_;intros
       ((refine zG ?_);refine Xy T Zz Zz Zz hp4.Sexpr_kind (fun i4=>?_))
       refine zC (fun c6=>?_) (fun c6=>?_)
       ·refine zW ?_;intros
        exact ret2 (H':=[]) rfl rfl rfl Zb ⟨rfl,by rw [bad (Ybj hy) (.inr (fun h=>c6 h.1))];exact ⟨rfl,by decide⟩⟩
       ·refine zW ?_;intros
        refine zI h hy (fun p5 hp5=>?_)
        refine zL hp5 ?_
        intro cs5 hcs5
        obtain ⟨vk5,rfl,hR5⟩:=Yh hcs5
        refine zb (WH hR5) (fun f5=>?_) (fun f5=>?_)
        ·rw [Ybj hy] at hM
         have hM:=hM.trans (if_neg (fun h=>by rcases h with h | h;exact c4 (by rw [h];simp);exact h ⟨by omega,Zt f5⟩))
         refine zW ?_;intros
         refine zI h hy (fun p6 hp6=>?_)
         refine zW ?_;intros
         refine zH hp6.Sexpr_text (fun hs6=>?_)
         refine zb (YkV hR5.text) (fun f6=>?_) (fun f6=>?_)
         ·rw [if_neg (Classical.not_not.2 (Zt f6))] at hM
          obtain ⟨g,cap,cur,hv,rfl,hB⟩:=hG.b Zi
          injection hv with hv1 hv2 hv3
          subst hv1 hv3
          refine zW ?_;intros
          refine Yl (fun q σ fz' H'=>∃ (j:Nat) (cur:List Value),j≤opn.length∧q=opn.length - j∧σ=[(8,.int .i64 (i+1:Nat)),(7,.int .i64 (done.length+j:Nat)),(6,.slice (some ⟨g,0,none⟩) (done.length+opn.length) cv),(1,.bool b),(0,.slice A n c)]∧fz=fz'∧H'=[(g,.cells (List.toArray cur) 110 (0,0))]∧GrowB paramL 110 fz g (done.length+opn.length) cv cur (done++parT y.text (opn.take j)++parT Wh (opn.drop j))) ⟨0,cur,Z0 _,rfl,rfl,rfl,rfl,by simpa [parT] using hB⟩ Zw Zb ?_
          rintro q σ fz' H' ⟨j,cur,hj,rfl,rfl,rfl,rfl,hB⟩
          have hcapB:=hB.capn
          have hszB:cur.length=cv*2:=hB.size
          refine zW ?_;intros
          refine zC (fun c7=>?_) (fun c7=>?_)
          ·obtain ⟨s,hs⟩:=Yn (l:=opn) (k:=j) Zi
           refine zW ?_;intros
           refine zI h hy (fun p7 hp7=>?_)
           refine zW ?_;intros
           refine zH hp7.Sexpr_text (fun hs7=>?_)
           refine zG ?_;refine YC T Zz Zz Zz Zz Zz rfl Zi Zi ?_
           refine zW ?_;intros
           refine YE (YbR T (pre:=[]) Zz Zz Zz rfl Zz Zz Zz (by show (done.length+j)*2+1<cur.length;omega) ?_)
           refine zW ?_;intros
           exact Yz ⟨j+1,_,by omega,rfl,rfl,rfl,rfl,by
            have h9:=gB_set hB (o:=1) (d':=⟨s,y.text⟩) (v:=.string y.text) (parT_get hs) Zh (fun cs hcs=>by obtain ⟨rfl,hp⟩:=YV hcs;exact YbM (x:=⟨s,y.text⟩) ⟨hp.name,hR5.text⟩)
            rw [parT_set hs] at h9
            exact h9⟩ Zi Zw Zb
          ·have hjo:j=opn.length:=by omega
           subst hjo
           rw [List.take_length,List.drop_length] at hB
           refine zW ?_;intros
           have e7:(done++parT y.text opn).length=done.length+opn.length:=by simp [parT]
           exact Yz (σ':=[(8,.int .i64 (i+2:Nat)),(7,.int .i64 (done.length+opn.length:Nat)),(6,.slice (some ⟨g,0,none⟩) (done.length+opn.length) cv),(1,.bool b),(0,.slice A n c)]) ⟨i+2,_,_,done++parT y.text opn,[],by omega,rfl,by rw [e7],rfl,rfl,hB.grow.of rfl (by simp [parT]),by simp [parT];omega,hM⟩ Zi Zw Zb
         ·rw [if_pos (Zf f6)] at hM
          refine zW ?_;intros
          exact ret2 (H':=[]) rfl rfl rfl Zb ⟨rfl,by rw [hM];exact ⟨rfl,by decide⟩⟩
        ·refine zW ?_;intros
         exact ret2 (H':=[]) rfl rfl rfl Zb ⟨rfl,by rw [bad (Ybj hy) (.inr (fun h=>Zf f5 h.2))];exact ⟨rfl,by decide⟩⟩
   ·rw [if_pos (fun h=>Zf f1 h.2)] at hM
    refine zW ?_;intros
    exact ret2 (H':=[]) rfl rfl rfl Zb ⟨rfl,by rw [hM];exact ⟨rfl,by decide⟩⟩
 ·rw [List.drop_eq_nil_of_le Zi,parM] at hM
  refine zW ?_;intros
  refine Yiq rfl rfl rfl (fun fz3 hle3 hf3=>⟨rfl,?_⟩)
  obtain ⟨A1,c1',hv1,hS1⟩:=hG.sl hle3 hf3 Zi
  injection hv1 with hv1 hv2 hv3
  subst hv1 hv3
  rw [hM]
  exact ⟨_,_,_,rfl,hS1⟩
def Yfq (x:Sexpr):Except Int Lx.Expr:=Yc7 (SizeOf.sizeOf x) x
variable {vk:Value}
theorem YiA {x:Sexpr} (hs:XSm x) (hR:YW fz x vk):
 GFn prog 239 [.agg #[.int .i64 x.kind,.int .i64 x.value,.int .i64 x.line,.int .i64 x.column,.string x.text,vk]] fz [] (fun r fz' H'=>H'=[]∧ResL exprL fz' (Yfq x) r):=Yd0 _ (Zs _) hs hR
variable {va ve vp:Value}
theorem Yal {w u:Bs} {a:List Bs} {p:List Param} {e:List Lx.Expr} {k:List Formula} (h1:Short w) (h2:Short u) (h3:IsSl strL fz va a) (h4:IsSl paramL fz vp p) (h5:IsSl exprL fz ve e) (h6:IsSl Y1 fz vk k):Y1.rep fz (.mk w u a p e k) [.string w,.string u,va,vp,ve,vk]:=YaG (x:=.mk w u a p e k) ⟨h1,h2,h3,h4,h5,h6⟩
theorem Yaj:Y1.rep fz (.mk ⟨#[]⟩ ⟨#[]⟩ [] [] [] []) [.string ⟨#[]⟩,.string ⟨#[]⟩,.slice none 0 0,.slice none 0 0,.slice none 0 0,.slice none 0 0]:=Yal XQ XQ IsSl.nil IsSl.nil IsSl.nil IsSl.nil
theorem Ydf:OneC Y1:=by
 intro fz d cs h u hu
 obtain ⟨v1,v2,v3,v4,rfl,hR⟩:=YK h
 obtain ⟨A,n,c,rfl,_⟩:=hR.args
 obtain ⟨B,m,b,rfl,_⟩:=hR.params
 obtain ⟨C,o,e,rfl,_⟩:=hR.exprs
 obtain ⟨D,q,f,rfl,_⟩:=hR.kids
 simp at hu
 rcases hu with rfl | rfl | rfl | rfl | rfl | rfl<;>rfl
def cmpF2 (w:Bs) (a b:Lx.Expr):Formula:=
 if w=kGt then .mk kLt ⟨#[]⟩ [] [] [b,a] [] else if w=kGe then .mk kLe ⟨#[]⟩ [] [] [b,a] [] else .mk w ⟨#[]⟩ [] [] [a,b] []
def cmpM (w:Bs) (y z:Sexpr):Except Int Formula:=
 if w=kEq∧y.kind=1∧z.kind=1 then match Yao [y,z] with
  | .error c=>.error c
  | .ok a=>.ok (.mk kSame ⟨#[]⟩ a [] [] [])
 else match Yfq y with
  | .error c=>.error c
  | .ok a=>match Yfq z with
   | .error c=>.error c
   | .ok b=>.ok (cmpF2 w a b)
set_option maxHeartbeats 8000000 in
theorem Ykr {w:Bs} {y z:Sexpr} {vy vz:Value} (hw:Short w) (hsy:XSm y) (hsz:XSm z) (hy:YW fz y vy) (hz:YW fz z vz):
 GFn prog 217 [.string w,.agg #[.int .i64 y.kind,.int .i64 y.value,.int .i64 y.line,.int .i64 y.column,.string y.text,vy],.agg #[.int .i64 z.kind,.int .i64 z.value,.int .i64 z.line,.int .i64 z.column,.string z.text,vz]] fz [] (fun r fz' H'=>H'=[]∧ResL Y1 fz' (cmpM w y z) r):=by
 obtain ⟨A,n,c,rfl,iy⟩:=hy.kids
 obtain ⟨B,m,b,rfl,iz⟩:=hz.kids
 have hM:cmpM w y z=if w=kEq∧y.kind=1∧z.kind=1 then match Yao [y,z] with
  | .error c=>.error c
  | .ok a=>.ok (.mk kSame ⟨#[]⟩ a [] [] [])
 else match Yfq y with
  | .error c=>.error c
  | .ok a=>match Yfq z with
   | .error c=>.error c
   | .ok b=>.ok (cmpF2 w a b):=rfl
 refine zF Tryz.func217 Tryz.ntmps217 (fun w0=>?_)
 refine zWX ?_;intros
 refine Yk ?_
 refine zWX ?_;intros
 rename_i g4 g5 g6
 refine Yk ?_
 refine Yk (Wp.mid (fun σ fz' H'=>∃ bb:Bool,σ=[(24,.bool bb),(6,.pointer (some ⟨g6,0,none⟩)),(5,.pointer (some ⟨g5,0,none⟩)),(4,.pointer (some ⟨g4,0,none⟩)),(0,.string w)]∧fz=fz'∧H'=[(g6,.cells #[.string ⟨#[]⟩,.string ⟨#[]⟩,.slice none 0 0,.slice none 0 0,.slice none 0 0,.slice none 0 0] 38 (0,0)),(g5,.cells #[.int .i64 z.kind,.int .i64 z.value,.int .i64 z.line,.int .i64 z.column,.string z.text,.slice B m b] 57 (0,0)),(g4,.cells #[.int .i64 y.kind,.int .i64 y.value,.int .i64 y.line,.int .i64 y.column,.string y.text,.slice A n c] 57 (0,0))]∧(bb=true↔w=kEq∧y.kind=1∧z.kind=1)) ?_ ?_)
 ·refine zW ?_;intros
  refine zC (fun c1=>?_) (fun c1=>?_)
  ·refine zW ?_;intros
   refine zC (fun c2=>?_) (fun c2=>?_)
   ·refine zW ?_;intros
    refine zC (fun c3=>?_) (fun c3=>?_)
    ·refine zW ?_;intros
     exact midN ⟨true,rfl,rfl,rfl,iff_of_true rfl ⟨c1,by omega,by omega⟩⟩ Zw Zb
    ·refine zW ?_;intros
     exact midN ⟨false,rfl,rfl,rfl,iff_of_false Zh (fun h=>c3 Zi)⟩ Zw Zb
   ·refine zW ?_;intros
    exact midN ⟨false,rfl,rfl,rfl,iff_of_false Zh (fun h=>c2 Zi)⟩ Zw Zb
  ·refine zW ?_;intros
   exact midN ⟨false,rfl,rfl,rfl,iff_of_false Zh (fun h=>c1 h.1)⟩ Zw Zb
 rintro σ fz' H' ⟨bb,rfl,rfl,rfl,hb⟩
 cases bb with
 | true=>
  rw [if_pos (hb.1 rfl)] at hM
  refine zW ?_;intros
  refine Ya Zz (Yc T (cs:=[.int .i64 y.kind,.int .i64 y.value,.int .i64 y.line,.int .i64 y.column,.string y.text,.slice A n c]++ [.int .i64 z.kind,.int .i64 z.value,.int .i64 z.line,.int .i64 z.column,.string z.text,.slice B m b]) Zz Zz Zz Zz Zz Zz Zz Zz (fun gb=>?_))
  first | refine Wp.freeze Zz (fun fz1 hle1 hg1=>?_) | refine Seq.freeze Zz (fun fz1 hle1 hg1=>?_)
  refine Ya Zz (Ym [] _ Zz Zz Zz (Yim (n:=2) (Xt (m:=2) (l:=[y,z]) (ys:=[(y,[.int .i64 y.kind,.int .i64 y.value,.int .i64 y.line,.int .i64 y.column,.string y.text,.slice A n c]),(z,[.int .i64 z.kind,.int .i64 z.value,.int .i64 z.line,.int .i64 z.column,.string z.text,.slice B m b])]) hg1 rfl rfl (by intro p hp;simp only [List.mem_cons,List.not_mem_nil,or_false] at hp;rcases hp with rfl | rfl;exact Yg (hy.mono hle1);exact Yg (hz.mono hle1)) rfl Zh) Zh) (fun r2 fz2 H2 hle2 hR2=>?_))
  obtain ⟨rfl,hR2⟩:=hR2
  cases ht:Yao [y,z] with
  | error c'=>
   rw [ht] at hM hR2
   obtain ⟨rfl,hc⟩:=hR2
   rw [Yj hc]
   refine zW ?_;intros
   exact YQ T (vs:=[.agg #[.string kSame,.string ⟨#[]⟩,.slice none 0 0,.slice none 0 0,.slice none 0 0,.slice none 0 0],.iface 65 (.int .i64 c')]) Zz ⟨⟨_,_,0,_,_,_,rfl,rfl,rfl,rfl,rfl,rfl⟩,rfl,trivial⟩ (fun fz3 hle3 hf3=>⟨rfl,ResL.err hM hc (Yal (a:=[]) (p:=[]) (e:=[]) (k:=[]) (by unfold Short;decide) XQ IsSl.nil IsSl.nil IsSl.nil IsSl.nil)⟩)
  | ok a=>
   rw [ht] at hM hR2
   obtain ⟨A3,n3,c3,rfl,ia⟩:=hR2
   refine zW ?_;intros
   exact YQ T (vs:=[.agg #[.string kSame,.string ⟨#[]⟩,.slice A3 n3 c3,.slice none 0 0,.slice none 0 0,.slice none 0 0],.nilIface]) Zz ⟨⟨_,_,0,_,_,_,rfl,rfl,rfl,rfl,rfl,rfl⟩,rfl,trivial⟩ (fun fz3 hle3 hf3=>⟨rfl,ResL.fine hM (Yal (by unfold Short;decide) XQ ⟨_,_,_,rfl,ia.mono hle3⟩ IsSl.nil IsSl.nil IsSl.nil)⟩)
 | false=>
  rw [if_neg (fun h=>absurd (hb.2 h) Zh)] at hM
  refine zW ?_;intros
  refine Ya Zz (Ym [] _ Zz Zz Zz (YiA hsy hy) (fun r2 fz2 H2 hle2 hR2=>?_))
  obtain ⟨rfl,ea,cs2,hr2,hR2⟩:=hR2
  obtain ⟨va2,vk2,rfl,hE2⟩:=YT hr2
  obtain ⟨Aa,na,ca,rfl,ia2⟩:=hE2.args
  obtain ⟨Ba,ma,ba,rfl,ik2⟩:=hE2.kids
  cases hx:Yfq y with
  | error c'=>
   rw [hx] at hM hR2
   obtain ⟨rfl,hc⟩:=hR2
   rw [Yj hc]
   refine zW ?_;intros
   exact YQ T (vs:=[.agg #[.string ⟨#[]⟩,.string ⟨#[]⟩,.slice none 0 0,.slice none 0 0,.slice none 0 0,.slice none 0 0],.iface 65 (.int .i64 c')]) Zz ⟨⟨_,_,1,_,_,_,rfl,rfl,rfl,rfl,rfl,rfl⟩,rfl,trivial⟩ (fun fz3 hle3 hf3=>⟨rfl,ResL.err hM hc Yaj⟩)
  | ok ea2=>
   rw [hx] at hM hR2
   obtain ⟨rfl,rfl⟩:=hR2
   refine zW ?_;intros
   refine Ya Zz (Ym [] _ Zz Zz Zz (YiA hsz (hz.mono hle2)) (fun r4 fz4 H4 hle4 hR4=>?_))
   obtain ⟨rfl,eb,cs4,hr4,hR4⟩:=hR4
   obtain ⟨va4,vk4,rfl,hE4⟩:=YT hr4
   obtain ⟨Ab,nb,cb,rfl,ia4⟩:=hE4.args
   obtain ⟨Bb,mb,bb2,rfl,ik4⟩:=hE4.kids
   cases hx4:Yfq z with
   | error c'=>
    rw [hx4] at hM hR4
    obtain ⟨rfl,hc⟩:=hR4
    rw [Yj hc]
    refine zW ?_;intros
    exact YQ T (vs:=[.agg #[.string ⟨#[]⟩,.string ⟨#[]⟩,.slice none 0 0,.slice none 0 0,.slice none 0 0,.slice none 0 0],.iface 65 (.int .i64 c')]) Zz ⟨⟨_,_,2,_,_,_,rfl,rfl,rfl,rfl,rfl,rfl⟩,rfl,trivial⟩ (fun fz3 hle3 hf3=>⟨rfl,ResL.err hM hc Yaj⟩)
   | ok eb2=>
    rw [hx4] at hM hR4
    obtain ⟨rfl,rfl⟩:=hR4
    simp only [cmpF2] at hM
    have ra:exprL.rep fz4 ea2 [.string ea2.op,.string ea2.name,.int .i64 ea2.n,.slice Aa na ca,.slice Ba ma ba]:=exprL.mono hle4 hr2
    refine zW ?_;intros
    refine zC (fun c7=>?_) (fun c7=>?_)
    ·rw [if_pos (show w=kGt from c7)] at hM
     refine zW ?_;intros
     refine Ya Zz (Yc T (cs:=[.string eb2.op,.string eb2.name,.int .i64 eb2.n,.slice Ab nb cb,.slice Bb mb bb2]++ [.string ea2.op,.string ea2.name,.int .i64 ea2.n,.slice Aa na ca,.slice Ba ma ba]) Zz Zz Zz Zz Zz Zz Zz Zz (fun gb=>?_))
     refine zW ?_;intros
     refine YQ T (vs:=[.agg #[.string kLt,.string ⟨#[]⟩,.slice none 0 0,.slice none 0 0,.slice (some ⟨gb,0,none⟩) 2 2,.slice none 0 0],.nilIface]) Zz ⟨⟨_,_,3,_,_,_,rfl,rfl,rfl,rfl,rfl,rfl⟩,rfl,trivial⟩ (fun fz3 hle3 hf3=>⟨rfl,ResL.fine hM ?_⟩)
     exact Yal (by first | exact hw | (unfold Short;decide)) XQ IsSl.nil IsSl.nil ⟨_,_,_,rfl,Xt (m:=2) (ys:=[(eb2,[.string eb2.op,.string eb2.name,.int .i64 eb2.n,.slice Ab nb cb,.slice Bb mb bb2]),(ea2,[.string ea2.op,.string ea2.name,.int .i64 ea2.n,.slice Aa na ca,.slice Ba ma ba])]) (hf3 (gb,_) (.head _)) rfl rfl (by intro p hp;simp only [List.mem_cons,List.not_mem_nil,or_false] at hp;rcases hp with rfl | rfl;exact exprL.mono hle3 hr4;exact exprL.mono hle3 ra) rfl Zh⟩ IsSl.nil
    ·rw [if_neg (show ¬w=kGt from c7)] at hM
     refine zW ?_;intros
     refine zC (fun c8=>?_) (fun c8=>?_)
     ·rw [if_pos (show w=kGe from c8)] at hM
      refine zW ?_;intros
      refine Ya Zz (Yc T (cs:=[.string eb2.op,.string eb2.name,.int .i64 eb2.n,.slice Ab nb cb,.slice Bb mb bb2]++ [.string ea2.op,.string ea2.name,.int .i64 ea2.n,.slice Aa na ca,.slice Ba ma ba]) Zz Zz Zz Zz Zz Zz Zz Zz (fun gb=>?_))
      refine zW ?_;intros
      refine YQ T (vs:=[.agg #[.string kLe,.string ⟨#[]⟩,.slice none 0 0,.slice none 0 0,.slice (some ⟨gb,0,none⟩) 2 2,.slice none 0 0],.nilIface]) Zz ⟨⟨_,_,3,_,_,_,rfl,rfl,rfl,rfl,rfl,rfl⟩,rfl,trivial⟩ (fun fz3 hle3 hf3=>⟨rfl,ResL.fine hM ?_⟩)
      exact Yal (by first | exact hw | (unfold Short;decide)) XQ IsSl.nil IsSl.nil ⟨_,_,_,rfl,Xt (m:=2) (ys:=[(eb2,[.string eb2.op,.string eb2.name,.int .i64 eb2.n,.slice Ab nb cb,.slice Bb mb bb2]),(ea2,[.string ea2.op,.string ea2.name,.int .i64 ea2.n,.slice Aa na ca,.slice Ba ma ba])]) (hf3 (gb,_) (.head _)) rfl rfl (by intro p hp;simp only [List.mem_cons,List.not_mem_nil,or_false] at hp;rcases hp with rfl | rfl;exact exprL.mono hle3 hr4;exact exprL.mono hle3 ra) rfl Zh⟩ IsSl.nil
     ·rw [if_neg (show ¬w=kGe from c8)] at hM
      refine zW ?_;intros
      refine Ya Zz (Yc T (cs:=[.string ea2.op,.string ea2.name,.int .i64 ea2.n,.slice Aa na ca,.slice Ba ma ba]++ [.string eb2.op,.string eb2.name,.int .i64 eb2.n,.slice Ab nb cb,.slice Bb mb bb2]) Zz Zz Zz Zz Zz Zz Zz Zz (fun gb=>?_))
      refine zW ?_;intros
      refine YQ T (vs:=[.agg #[.string w,.string ⟨#[]⟩,.slice none 0 0,.slice none 0 0,.slice (some ⟨gb,0,none⟩) 2 2,.slice none 0 0],.nilIface]) Zz ⟨⟨_,_,3,_,_,_,rfl,rfl,rfl,rfl,rfl,rfl⟩,rfl,trivial⟩ (fun fz3 hle3 hf3=>⟨rfl,ResL.fine hM ?_⟩)
      exact Yal (by first | exact hw | (unfold Short;decide)) XQ IsSl.nil IsSl.nil ⟨_,_,_,rfl,Xt (m:=2) (ys:=[(ea2,[.string ea2.op,.string ea2.name,.int .i64 ea2.n,.slice Aa na ca,.slice Ba ma ba]),(eb2,[.string eb2.op,.string eb2.name,.int .i64 eb2.n,.slice Ab nb cb,.slice Bb mb bb2])]) (hf3 (gb,_) (.head _)) rfl rfl (by intro p hp;simp only [List.mem_cons,List.not_mem_nil,or_false] at hp;rcases hp with rfl | rfl;exact exprL.mono hle3 ra;exact exprL.mono hle3 hr4) rfl Zh⟩ IsSl.nil
end Go.Proofs.YtfjopfinkdhmaaaGreatDoor
