/- The texts QTw, GOpenA, QRowTB, laid together. Conditions: none. -/
import Derived.Test.YtbnpeechpebmeaaGreatDoorRBV
import Derived.Lay
import Derived.LaidOnce
import Derived.Carry
import Derived.MakeChecks
import Derived.LaidSub
import Derived.Deep.DeepHandedRow
import Derived.Lib.LaidTab
import Derived.Shelf.Vars
import Derived.Deep.Slices
import Derived.SizedLaws
set_option linter.all false
set_option maxRecDepth 20000
namespace Go.Lx
open Go.RowKit
def u8L:Lay Nat where
 size:=1
 rep:=fun _ x cs=>cs=[.int .u8 x]∧x≤255
 len:=fun h=>by obtain ⟨rfl,_⟩:=h;rfl
 mono:=fun _ h=>h
section
variable {P:Program} {cx:Cx} {r:Operand→Option Value} {fz:FZ} {H:HP} {V:Value→Prop} {dst:Option Nat} {ty:TypeId} {pos:String} {af:Array Edge} {gd:Option (Nat × Bool)}
variable {X:Ty} {t:TypeId} {x:Operand}
theorem Yll (T:Tab P) {p:Addr} {d:Nat} (hT:T.inf t=some X) (hd:XL X.desc=false) (hx:r x=some (.pointer (some p))) (h:At u8L fz p d) (hV:d≤255→V (.int .u8 d)):DoesQ P cx ⟨dst,.load t x,ty,pos,af,gd⟩ r fz H V:=by
 obtain ⟨v,⟨h1,h8⟩,h2⟩:=h.cell rfl
 injection h1 with h1
 subst h1
 exact W5 T hT hd hx h2 (hV h8)
end
end Go.Lx
namespace Go.Proofs.YtbnpeechpebmeaaGreatDoor
open Go.Lx Go.RowKit
attribute [local instance 10] Classical.propDecidable
open Go.Proofs.Tryz (prog)
variable {j:Nat}
theorem alt_snoc:altN (j+1)=altN j++ [atmF (if j % 2=0 then bA else bB)]:=by simp [altN,List.range_succ]
theorem two_get:([Value.string bA,.string bB])[j % 2*1]?=some (.string (if j % 2=0 then bA else bB)):=by
 rcases Nat.mod_two_eq_zero_or_one j with e | e<;>rw [e]<;>rfl
variable {k:Nat}
theorem map_take {α β:Type} {f:α→β} {l:List α}:(l.map f).take k=(l.take k).map f:=List.map_take.symm
def prdC:List Value:=[.string bA,.slice none 0 0,.string bB,.slice none 0 0,.string bC,.slice none 0 0]
def goC (A:Option Addr) (k c g7:Nat):List Value:=[.string bGo,.slice none 0 0,.int .i64 0,.string kAnd,.string ⟨#[]⟩,.slice none 0 0,.slice none 0 0,.slice none 0 0,.slice A k c,.slice (some ⟨g7,0,none⟩) 1 1]
def chW (w:Formula) (q1 q2 q3 q4:Value):List Value:=[.int .i64 1,.slice none 0 0,.string w.op,.string w.name,q1,q2,q3,q4,.string bC,.slice none 0 0,.string ⟨#[]⟩,.string ⟨#[]⟩,.int .i64 0,.slice none 0 0,.slice none 0 0]
def acW (pre:Formula) (p1 p2 p3 p4:Value) (g7:Nat):List Value:=[.string bGo,.slice none 0 0,.int .i64 0,.string pre.op,.string pre.name,p1,p2,p3,p4,.slice (some ⟨g7,0,none⟩) 1 1]
variable {fz:FZ}
theorem YgW {g3 g7 g9:Nat} {e3 e7 e9:TypeId} {pre w:Formula} {p1 p2 p3 p4 q1 q2 q3 q4:Value} (h3:fz g3=some (.cells prdC.toArray e3 (0,0))) (h7:fz g7=some (.cells (chW w q1 q2 q3 q4).toArray e7 (0,0))) (h9:fz g9=some (.cells (acW pre p1 p2 p3 p4 g7).toArray e9 (0,0)))
 (hp:FormulaR fz pre p1 p2 p3 p4) (hw:FormulaR fz w q1 q2 q3 q4):DomainR fz (YdO pre w) (.slice none 0 0) (.slice none 0 0) (.slice (some ⟨g3,0,none⟩) 3 3) (.slice none 0 0) (.slice (some ⟨g9,0,none⟩) 1 1) (.slice none 0 0):=by
 have s7:Sl changeL fz (some ⟨g7,0,none⟩) 1 1 [addW w]:=Xg (ys:=[(addW w,chW w q1 q2 q3 q4)]) h7 (List.append_nil _).symm rfl (List.forall_mem_cons.2 ⟨Yak (x:=addW w) ⟨by show I64 1;unfold I64;omega,IsSl.nil,hw,by show bC.size≤_;decide,IsSl.nil,nilE_R⟩,nilP⟩) rfl (by simp)
 have s9:Sl actionL fz (some ⟨g9,0,none⟩) 1 1 [goA pre w]:=Xg (ys:=[(goA pre w,acW pre p1 p2 p3 p4 g7)]) h9 (List.append_nil _).symm rfl (List.forall_mem_cons.2 ⟨Yh5 (x:=goA pre w) ⟨by show bGo.size≤_;decide,IsSl.nil,XH,hp,s7.is⟩,nilP⟩) rfl (by simp)
 have s3:Sl predicateL fz (some ⟨g3,0,none⟩) 3 3 [⟨bA,[]⟩,⟨bB,[]⟩,⟨bC,[]⟩]:=Xg (ys:=[(⟨bA,[]⟩,[.string bA,.slice none 0 0]),(⟨bB,[]⟩,[.string bB,.slice none 0 0]),(⟨bC,[]⟩,[.string bC,.slice none 0 0])]) h3 rfl rfl
  (List.forall_mem_cons.2 ⟨XZ (x:=⟨bA,[]⟩) ⟨by show bA.size≤_;decide,IsSl.nil⟩,List.forall_mem_cons.2 ⟨XZ (x:=⟨bB,[]⟩) ⟨by show bB.size≤_;decide,IsSl.nil⟩,List.forall_mem_cons.2 ⟨XZ (x:=⟨bC,[]⟩) ⟨by show bC.size≤_;decide,IsSl.nil⟩,nilP⟩⟩⟩) rfl Zh
 exact ⟨by show bD.size≤_;decide,IsSl.nil,IsSl.nil,s3.is,IsSl.nil,s9.is,IsSl.nil⟩
variable {A:Option Addr} {c n:Nat}
theorem Yeh {ks:List Nat} (h:Sl formulaL fz A n c (ks.map orK)):FormulaR fz (YbL ks) (.slice none 0 0) (.slice none 0 0) (.slice none 0 0) (.slice A n c):=⟨by show kAnd.size≤_;decide,Y5,IsSl.nil,IsSl.nil,IsSl.nil,h.is⟩
set_option maxHeartbeats 16000000 in
theorem lterms_q {l:List Nat} {wh:Bool} (hM:MaxF fz) (h:Sl u8L fz A n c l):QFn prog 3 [.slice A n c,.bool wh] fz (.bool true):=by
 have l1:=h.len
 have s1:=h.short
 have ha:=@alw_q
 unfold Yav at ha
 obtain ⟨ks,hks⟩:∃ ks:List Nat,ks=l.map (· % 20):=⟨_,rfl⟩
 have lk:ks.length=n:=by rw [hks,List.length_map];exact l1
 have bk:∀ k∈ks,k≤19:=fun k hk=>by
  rw [hks] at hk
  obtain ⟨x,_,rfl⟩:=List.mem_map.1 hk
  omega
 refine GFn.quiet ?_
 refine zF Tryz.func3 Tryz.ntmps3 (fun w0=>?_)
 refine zW ?_;intros
 refine zC (fun c1=>?_) (fun c1=>?_)
 ·refine zW ?_;intros
  refine zc (Yh1 hM) ?_
  refine zW ?_;intros
  exact zR (h:=rfl)
 ·refine zW ?_;intros
  refine zc (Yh1 hM) ?_
  refine zW ?_;intros
  refine zc ha ?_
  refine Yb Zz (YI T Zz Zz (fun gf=>?_))
  refine zW ?_;intros
  refine Yk (fun q σ fz' H'=>∃ (k:Nat) (v:Value) (Hs:HP),k≤n∧q=n - k∧σ=[(7,.int .i64 k),(6,.int .i64 (tmL 1 (ks.take k):Nat)),(5,.pointer (some ⟨gf,0,none⟩)),(1,.bool wh),(0,.slice A n c)]∧Le fz fz'∧H'=(gf,.cells #[.string kAnd,.string ⟨#[]⟩,.slice none 0 0,.slice none 0 0,.slice none 0 0,v] 29 (0,0))::Hs∧Grow formulaL 29 fz' v k Hs ((ks.take k).map orK)) ⟨0,_,[],Z0 _,rfl,rfl,Le.refl _,rfl,Grow.nil _ _ _⟩ Zw Zb ?_
  rintro q σ fz1 H1 ⟨k,v1,Hs,hk,rfl,rfl,hle1,rfl,hG⟩
  obtain ⟨Av,cv,rfl,_,_⟩:=hG.form
  have bt:=YkS (ks.take k) (n:=1) Zi (fun x hx=>bk x (List.mem_of_mem_take hx))
  refine zW ?_;intros
  refine zC (fun c2=>?_) (fun c2=>?_)
  ·obtain ⟨x,hx⟩:=Yg (l:=l) (k:=k) Zi
   have hy:ks[k]?=some (x % 20):=by rw [hks,List.getElem?_map,hx];rfl
   have by_:=bk _ (Zm hy)
   refine zW ?_;intros
   refine zI (h.mono hle1) hx (fun p1 hp1=>?_)
   refine zG ?_;refine Yll T Zz Zz Zz hp1 (fun h8=>?_)
   refine zG ?_;refine WM T Zz Zz Zz Zz (Xx Zi) ?_
   refine zG ?_;refine q_remN (b:=20) Zz Zz Zi ?_
   refine zW ?_;intros
   rename_i go
   refine Yk (fun q σ fz' H'=>∃ (j:Nat) (v:Value) (Hs2:HP),j≤x % 20∧q=x % 20 - j∧σ=[(10,.int .i64 j),(9,.pointer (some ⟨go,0,none⟩)),(8,.int .i64 (x % 20:Nat)),(7,.int .i64 k),(6,.int .i64 (tmL 1 (ks.take k):Nat)),(5,.pointer (some ⟨gf,0,none⟩)),(1,.bool wh),(0,.slice A n c)]∧fz1=fz'∧H'=(go,.cells #[.string kOr,.string ⟨#[]⟩,.slice none 0 0,.slice none 0 0,.slice none 0 0,v] 29 (0,0))::(gf,.cells #[.string kAnd,.string ⟨#[]⟩,.slice none 0 0,.slice none 0 0,.slice none 0 0,.slice Av k cv] 29 (0,0))::(Hs++Hs2)∧Grow formulaL 29 fz' v j Hs2 (altN j)) ⟨0,_,[],Z0 _,rfl,rfl,rfl,by rw [List.append_nil],Grow.nil _ _ _⟩ Zw Zb ?_
   rintro q σ fz2 H2 ⟨j,v2,Hs2,hj,rfl,rfl,rfl,rfl,hG2⟩
   obtain ⟨Aw,cw,rfl,_,_⟩:=hG2.form
   refine zW ?_;intros
   refine zC (fun c3=>?_) (fun c3=>?_)
   ·refine zWN ?_;intros
    refine Wp.drawK (Hq:=[_,_]) T.mixed Zj Zj Zb ?_
    refine zW ?_;intros
    refine Ye ?_
    refine zW ?_;intros
    refine zG ?_;refine q_remN (b:=2) Zz Zz Zi ?_
    refine Ye ?_
    refine Ye ?_
    refine Ye ?_
    refine Ye ?_
    refine Ye ?_
    refine zW ?_;intros
    refine Ye ?_
    refine YD ⟨by kernel_rfl,?_⟩
    refine Yj (Yc T (cs:=[.string bA,.string bB]) Zz Zz Zz Zz Zz Zz Zz Zz (fun ga=>⟨(⟨Le.refl _,Zx⟩),?_⟩))
    refine Ch.qk (⟨Le.refl _,Zx⟩) (Yo (z:=1) T Zz Zz Zz Zz Zz rfl Zi Zi ?_)
    refine Ch.qk (⟨Le.refl _,Zx⟩) (Yt T 0 Zz Zz Zz Zz two_get ?_)
    refine Ch.qk (⟨Le.refl _,Zx⟩) (YB Zz Zz atm_q ?_)
    generalize hbb:(if j % 2=0 then bA else bB)=bb
    have hbs:bb.size≤1000:=by rw [← hbb];split<;>decide
    refine Yj (Yc T (cs:=[.string kAtom,.string bb,.slice none 0 0,.slice none 0 0,.slice none 0 0,.slice none 0 0]) Zz Zz Zz Zz Zz Zz Zz Zz (fun gb=>⟨(⟨Le.refl _,Zx⟩),?_⟩))
    refine Yj (YK T (Hr:=(gb,_)::(ga,_)::(go,_)::(gf,_)::Hs) (d:=atmF bb) Zz Zz Zz Zz Zz Zz Zz Zz (Zr _) hG2 Yb3 (.head _) (YX (x:=atmF bb) (atm_R hbs)) (by show _*128≤_;omega) Zi (fun v3 H3 hO3=>⟨(⟨Le.refl _,Zx⟩),?_⟩))
    obtain ⟨Ax,cx',rfl,_,_⟩:=hO3.form
    refine Ch.hard0 Zj (XK T Zz Zz Zz Zz Zz Zz ?_)
    refine Ch.done ?_
    refine zW ?_;intros
    exact YA ⟨j+1,_,H3,by omega,rfl,rfl,rfl,rfl,hO3.of (by rw [alt_snoc,hbb]) rfl⟩ Zi Zw (List.Sublist.cons _ (List.Sublist.cons _ (List.Sublist.refl _)))
   ·have hj2:j=x % 20:=by omega
    subst hj2
    refine Seq.freezeAll (H1:=(go,_)::(gf,_)::Hs) (H2:=Hs2) (Zr _) (fun fz3 hle3 hf3=>?_)
    obtain ⟨Ay,cy,ey,hSy⟩:=hG2.sl hle3 hf3 Zi
    injection ey with ey1 ey2 ey3
    subst ey1;subst ey3
    have hor:formulaL.rep fz3 (orK (x % 20)) [.string kOr,.string ⟨#[]⟩,.slice none 0 0,.slice none 0 0,.slice none 0 0,.slice Aw (x % 20) cw]:=YX (x:=orK (x % 20)) ⟨by show kOr.size≤_;decide,Y5,IsSl.nil,IsSl.nil,IsSl.nil,hSy.is⟩
    refine zW ?_;intros
    refine Yb Zz (Yc T (cs:=[.string kOr,.string ⟨#[]⟩,.slice none 0 0,.slice none 0 0,.slice none 0 0,.slice Aw (x % 20) cw]) Zz Zz Zz Zz Zz Zz Zz Zz (fun gb=>?_))
    refine Yb Zz (YK T (Hr:=[(gb,_),(go,_),(gf,_)]) (d:=orK (x % 20)) Zz Zz Zz Zz Zz Zz Zz Zz (Zr _) (hG.mono hle3) Yb3 (.head _) hor (by show _*128≤_;omega) Zi (fun v4 H4 hO4=>?_))
    obtain ⟨Az,cz,rfl,_,_⟩:=hO4.form
    have hO5:=hO4.of (l':=(ks.take (k+1)).map orK) (by rw [List.take_add_one,hy];simp) rfl
    have et:tmL 1 (ks.take (k+1))=if tmL 1 (ks.take k)≤64 then tmL 1 (ks.take k)*(x % 20) else tmL 1 (ks.take k):=by rw [List.take_add_one,hy];exact Yi1 _ _ _
    have bt2:=YkS (ks.take (k+1)) (n:=1) Zi (fun x hx=>bk x (List.mem_of_mem_take hx))
    refine zW ?_;intros
    refine zC (fun c4=>?_) (fun c4=>?_)
    ·rw [if_pos Zi] at et
     refine zW ?_;intros
     refine zG ?_;refine Yj9 (c:=(tmL 1 (ks.take (k+1)):Nat)) Zz Zz (by rw [← Int.natCast_mul,← et];exact Xx Zi) ?_
     refine zW ?_;intros
     exact YA ⟨k+1,_,H4,by omega,rfl,rfl,hle1.trans hle3,rfl,hO5⟩ Zi Zw (List.Sublist.cons _ (List.Sublist.cons _ (List.Sublist.refl _)))
    ·rw [if_neg Zi] at et
     rw [← et]
     refine zW ?_;intros
     exact YA ⟨k+1,_,H4,by omega,rfl,rfl,hle1.trans hle3,rfl,hO5⟩ Zi Zw (List.Sublist.cons _ (List.Sublist.cons _ (List.Sublist.refl _)))
  ·have hk2:k=n:=by omega
   subst hk2
   rw [Zl (show ks.length≤k by omega)] at hG bt ⊢
   refine zW ?_;intros
   refine Wp.freezeAll (H1:=[(gf,_)]) (H2:=Hs) (Zr _) (fun fz4 hle4 hf4=>?_)
   obtain ⟨Aq,cq,eq_,hSq⟩:=hG.sl hle4 hf4 Zi
   injection eq_ with eq1 eq2 eq3
   subst eq1;subst eq3
   have hx4:=hle1.trans hle4
   refine (Wp.mid (fun σ fz' H'=>∃ gd g9 g7 g3,σ=[(11,.pointer (some ⟨gd,0,none⟩)),(6,.int .i64 (tmL 1 ks:Nat)),(5,.pointer (some ⟨gf,0,none⟩)),(1,.bool wh)]∧fz'=fz4∧H'=[(gd,.cells #[.string bD,.slice none 0 0,.slice none 0 0,.slice (some ⟨g3,0,none⟩) 3 3,.slice none 0 0,.slice (some ⟨g9,0,none⟩) 1 1,.slice none 0 0] 46 (0,0)),(g9,.cells (goC Av k cv g7).toArray 41 (0,0)),(g7,.cells (YdR 1 bC).toArray 38 (0,0)),(g3,.cells prdC.toArray 33 (0,0)),(gf,.cells #[.string kAnd,.string ⟨#[]⟩,.slice none 0 0,.slice none 0 0,.slice none 0 0,.slice Av k cv] 29 (0,0))]) ?_ ?_)
   ·refine Wp.drawP [] (Hq:=[_]) T.mixed Zj Zj Zb ?_
    refine zW ?_;intros
    refine Yf ?_
    refine zW ?_;intros
    refine zc ha ?_
    refine zW ?_;intros
    refine Yf ?_
    refine Yf ?_
    refine Yf ?_
    refine Yf ?_
    refine Yf ?_
    refine Yf ?_
    refine PK.done ⟨by kernel_rfl,?_⟩
    -- R16
    refine Po.three Zz Zz Zz Zz ?_ ?_ ?_
    ·refine Yd (Yc T (cs:=prdC) Zz Zz Zz Zz Zz Zz Zz Zz (fun g3=>⟨(⟨Le.refl _,Zx⟩),?_⟩))
     refine Ys Zz Zz Zz ?_ ?_
     ·refine Yd (Yc T (cs:=YdR 1 bC) Zz Zz Zz Zz Zz Zz Zz Zz (fun g7=>⟨(⟨Le.refl _,Zx⟩),?_⟩))
      refine Ys Zz Zz Zz ?_ ?_
      ·refine PoS.qk (⟨Le.refl _,Zx⟩) (YS T Zz Zz Zz Zz Zz ?_)
       refine Ys Zz Zz Zz ?_ ?_
       ·refine Yd (Yc T (cs:=goC Av k cv g7) Zz Zz Zz Zz Zz Zz Zz Zz (fun g9=>⟨(⟨Le.refl _,Zx⟩),?_⟩))
        refine Ys Zz Zz Zz ?_ ?_
        ·refine PoS.qk (⟨Le.refl _,Zx⟩) (YS T Zz Zz Zz Zz Zz ?_)
         refine Ya Zz Zz ?_
         refine Yd (YI T Zz Zz (fun gd=>⟨(⟨Le.refl _,Zx⟩),?_⟩))
         refine Ya Zz Zz ?_
         refine PoS.hard0 Zj (YU T (pre:=[]) Zz Zz Zz rfl Zz Zz Zz ?_)
         refine Po.done ?_
         exact midP (Xb [0,1,2,3,4] rfl rfl) ⟨_,_,_,_,rfl,rfl,rfl⟩ Zw Zb
        ·refine Yd (YI T Zz Zz (fun gd=>⟨(⟨Le.refl _,Zx⟩),?_⟩))
         refine Ya Zz Zz ?_
         refine PoS.qk (⟨Le.refl _,Zx⟩) (YS T Zz Zz Zz Zz Zz ?_)
         refine Ya Zz Zz ?_
         refine PoS.hard0 Zj (YU T (pre:=[]) Zz Zz Zz rfl Zz Zz Zz ?_)
         refine Po.done ?_
         exact midP (Xb [0,1,2,3,4] rfl rfl) ⟨_,_,_,_,rfl,rfl,rfl⟩ Zw Zb
       ·refine Yd (YI T Zz Zz (fun gd=>⟨(⟨Le.refl _,Zx⟩),?_⟩))
        refine Ya Zz Zz ?_
        refine Yd (Yc T (cs:=goC Av k cv g7) Zz Zz Zz Zz Zz Zz Zz Zz (fun g9=>⟨(⟨Le.refl _,Zx⟩),?_⟩))
        refine Ya Zz Zz ?_
        refine PoS.qk (⟨Le.refl _,Zx⟩) (YS T Zz Zz Zz Zz Zz ?_)
        refine Ya Zz Zz ?_
        refine PoS.hard0 Zj (YU T (pre:=[_]) Zz Zz Zz rfl Zz Zz Zz ?_)
        refine Po.done ?_
        exact midP (Xb [1,0,2,3,4] rfl rfl) ⟨_,_,_,_,rfl,rfl,rfl⟩ Zw Zb
      ·refine Yd (YI T Zz Zz (fun gd=>⟨(⟨Le.refl _,Zx⟩),?_⟩))
       refine Ya Zz Zz ?_
       refine PoS.qk (⟨Le.refl _,Zx⟩) (YS T Zz Zz Zz Zz Zz ?_)
       refine Ya Zz Zz ?_
       refine Yd (Yc T (cs:=goC Av k cv g7) Zz Zz Zz Zz Zz Zz Zz Zz (fun g9=>⟨(⟨Le.refl _,Zx⟩),?_⟩))
       refine Ya Zz Zz ?_
       refine PoS.qk (⟨Le.refl _,Zx⟩) (YS T Zz Zz Zz Zz Zz ?_)
       refine Ya Zz Zz ?_
       refine PoS.hard0 Zj (YU T (pre:=[_]) Zz Zz Zz rfl Zz Zz Zz ?_)
       refine Po.done ?_
       exact midP (Xb [1,0,2,3,4] rfl rfl) ⟨_,_,_,_,rfl,rfl,rfl⟩ Zw Zb
     ·refine Yd (YI T Zz Zz (fun gd=>⟨(⟨Le.refl _,Zx⟩),?_⟩))
      refine Ya Zz Zz ?_
      refine Yd (Yc T (cs:=YdR 1 bC) Zz Zz Zz Zz Zz Zz Zz Zz (fun g7=>⟨(⟨Le.refl _,Zx⟩),?_⟩))
      refine Ya Zz Zz ?_
      refine PoS.qk (⟨Le.refl _,Zx⟩) (YS T Zz Zz Zz Zz Zz ?_)
      refine Ya Zz Zz ?_
      refine Yd (Yc T (cs:=goC Av k cv g7) Zz Zz Zz Zz Zz Zz Zz Zz (fun g9=>⟨(⟨Le.refl _,Zx⟩),?_⟩))
      refine Ya Zz Zz ?_
      refine PoS.qk (⟨Le.refl _,Zx⟩) (YS T Zz Zz Zz Zz Zz ?_)
      refine Ya Zz Zz ?_
      refine PoS.hard0 Zj (YU T (pre:=[_,_]) Zz Zz Zz rfl Zz Zz Zz ?_)
      refine Po.done ?_
      exact midP (Xb [2,0,1,3,4] rfl rfl) ⟨_,_,_,_,rfl,rfl,rfl⟩ Zw Zb
    ·refine Yd (Yc T (cs:=YdR 1 bC) Zz Zz Zz Zz Zz Zz Zz Zz (fun g7=>⟨(⟨Le.refl _,Zx⟩),?_⟩))
     refine Po.three Zz Zz Zz Zz ?_ ?_ ?_
     ·refine Yd (Yc T (cs:=prdC) Zz Zz Zz Zz Zz Zz Zz Zz (fun g3=>⟨(⟨Le.refl _,Zx⟩),?_⟩))
      refine Ys Zz Zz Zz ?_ ?_
      ·refine PoS.qk (⟨Le.refl _,Zx⟩) (YS T Zz Zz Zz Zz Zz ?_)
       refine Ys Zz Zz Zz ?_ ?_
       ·refine Yd (Yc T (cs:=goC Av k cv g7) Zz Zz Zz Zz Zz Zz Zz Zz (fun g9=>⟨(⟨Le.refl _,Zx⟩),?_⟩))
        refine Ys Zz Zz Zz ?_ ?_
        ·refine PoS.qk (⟨Le.refl _,Zx⟩) (YS T Zz Zz Zz Zz Zz ?_)
         refine Ya Zz Zz ?_
         refine Yd (YI T Zz Zz (fun gd=>⟨(⟨Le.refl _,Zx⟩),?_⟩))
         refine Ya Zz Zz ?_
         refine PoS.hard0 Zj (YU T (pre:=[]) Zz Zz Zz rfl Zz Zz Zz ?_)
         refine Po.done ?_
         exact midP (Xb [0,1,3,2,4] rfl rfl) ⟨_,_,_,_,rfl,rfl,rfl⟩ Zw Zb
        ·refine Yd (YI T Zz Zz (fun gd=>⟨(⟨Le.refl _,Zx⟩),?_⟩))
         refine Ya Zz Zz ?_
         refine PoS.qk (⟨Le.refl _,Zx⟩) (YS T Zz Zz Zz Zz Zz ?_)
         refine Ya Zz Zz ?_
         refine PoS.hard0 Zj (YU T (pre:=[]) Zz Zz Zz rfl Zz Zz Zz ?_)
         refine Po.done ?_
         exact midP (Xb [0,1,3,2,4] rfl rfl) ⟨_,_,_,_,rfl,rfl,rfl⟩ Zw Zb
       ·refine Yd (YI T Zz Zz (fun gd=>⟨(⟨Le.refl _,Zx⟩),?_⟩))
        refine Ya Zz Zz ?_
        refine Yd (Yc T (cs:=goC Av k cv g7) Zz Zz Zz Zz Zz Zz Zz Zz (fun g9=>⟨(⟨Le.refl _,Zx⟩),?_⟩))
        refine Ya Zz Zz ?_
        refine PoS.qk (⟨Le.refl _,Zx⟩) (YS T Zz Zz Zz Zz Zz ?_)
        refine Ya Zz Zz ?_
        refine PoS.hard0 Zj (YU T (pre:=[_]) Zz Zz Zz rfl Zz Zz Zz ?_)
        refine Po.done ?_
        exact midP (Xb [1,0,3,2,4] rfl rfl) ⟨_,_,_,_,rfl,rfl,rfl⟩ Zw Zb
      ·refine Yd (YI T Zz Zz (fun gd=>⟨(⟨Le.refl _,Zx⟩),?_⟩))
       refine Ya Zz Zz ?_
       refine PoS.qk (⟨Le.refl _,Zx⟩) (YS T Zz Zz Zz Zz Zz ?_)
       refine Ya Zz Zz ?_
       refine Yd (Yc T (cs:=goC Av k cv g7) Zz Zz Zz Zz Zz Zz Zz Zz (fun g9=>⟨(⟨Le.refl _,Zx⟩),?_⟩))
       refine Ya Zz Zz ?_
       refine PoS.qk (⟨Le.refl _,Zx⟩) (YS T Zz Zz Zz Zz Zz ?_)
       refine Ya Zz Zz ?_
       refine PoS.hard0 Zj (YU T (pre:=[_]) Zz Zz Zz rfl Zz Zz Zz ?_)
       refine Po.done ?_
       exact midP (Xb [1,0,3,2,4] rfl rfl) ⟨_,_,_,_,rfl,rfl,rfl⟩ Zw Zb
     ·refine PoS.qk (⟨Le.refl _,Zx⟩) (YS T Zz Zz Zz Zz Zz ?_)
      refine Po.three Zz Zz Zz Zz ?_ ?_ ?_
      ·refine Yd (Yc T (cs:=prdC) Zz Zz Zz Zz Zz Zz Zz Zz (fun g3=>⟨(⟨Le.refl _,Zx⟩),?_⟩))
       refine Ys Zz Zz Zz ?_ ?_
       ·refine Yd (Yc T (cs:=goC Av k cv g7) Zz Zz Zz Zz Zz Zz Zz Zz (fun g9=>⟨(⟨Le.refl _,Zx⟩),?_⟩))
        refine Ys Zz Zz Zz ?_ ?_
        ·refine PoS.qk (⟨Le.refl _,Zx⟩) (YS T Zz Zz Zz Zz Zz ?_)
         refine Ya Zz Zz ?_
         refine Yd (YI T Zz Zz (fun gd=>⟨(⟨Le.refl _,Zx⟩),?_⟩))
         refine Ya Zz Zz ?_
         refine PoS.hard0 Zj (YU T (pre:=[]) Zz Zz Zz rfl Zz Zz Zz ?_)
         refine Po.done ?_
         exact midP (Xb [0,1,3,2,4] rfl rfl) ⟨_,_,_,_,rfl,rfl,rfl⟩ Zw Zb
        ·refine Yd (YI T Zz Zz (fun gd=>⟨(⟨Le.refl _,Zx⟩),?_⟩))
         refine Ya Zz Zz ?_
         refine PoS.qk (⟨Le.refl _,Zx⟩) (YS T Zz Zz Zz Zz Zz ?_)
         refine Ya Zz Zz ?_
         refine PoS.hard0 Zj (YU T (pre:=[]) Zz Zz Zz rfl Zz Zz Zz ?_)
         refine Po.done ?_
         exact midP (Xb [0,1,3,2,4] rfl rfl) ⟨_,_,_,_,rfl,rfl,rfl⟩ Zw Zb
       ·refine Yd (YI T Zz Zz (fun gd=>⟨(⟨Le.refl _,Zx⟩),?_⟩))
        refine Ya Zz Zz ?_
        refine Yd (Yc T (cs:=goC Av k cv g7) Zz Zz Zz Zz Zz Zz Zz Zz (fun g9=>⟨(⟨Le.refl _,Zx⟩),?_⟩))
        refine Ya Zz Zz ?_
        refine PoS.qk (⟨Le.refl _,Zx⟩) (YS T Zz Zz Zz Zz Zz ?_)
        refine Ya Zz Zz ?_
        refine PoS.hard0 Zj (YU T (pre:=[_]) Zz Zz Zz rfl Zz Zz Zz ?_)
        refine Po.done ?_
        exact midP (Xb [1,0,3,2,4] rfl rfl) ⟨_,_,_,_,rfl,rfl,rfl⟩ Zw Zb
      ·refine Yd (Yc T (cs:=goC Av k cv g7) Zz Zz Zz Zz Zz Zz Zz Zz (fun g9=>⟨(⟨Le.refl _,Zx⟩),?_⟩))
       refine Ys Zz Zz Zz ?_ ?_
       ·refine Yd (Yc T (cs:=prdC) Zz Zz Zz Zz Zz Zz Zz Zz (fun g3=>⟨(⟨Le.refl _,Zx⟩),?_⟩))
        refine Ys Zz Zz Zz ?_ ?_
        ·refine PoS.qk (⟨Le.refl _,Zx⟩) (YS T Zz Zz Zz Zz Zz ?_)
         refine Ya Zz Zz ?_
         refine Yd (YI T Zz Zz (fun gd=>⟨(⟨Le.refl _,Zx⟩),?_⟩))
         refine Ya Zz Zz ?_
         refine PoS.hard0 Zj (YU T (pre:=[]) Zz Zz Zz rfl Zz Zz Zz ?_)
         refine Po.done ?_
         exact midP (Xb [0,2,3,1,4] rfl rfl) ⟨_,_,_,_,rfl,rfl,rfl⟩ Zw Zb
        ·refine Yd (YI T Zz Zz (fun gd=>⟨(⟨Le.refl _,Zx⟩),?_⟩))
         refine Ya Zz Zz ?_
         refine PoS.qk (⟨Le.refl _,Zx⟩) (YS T Zz Zz Zz Zz Zz ?_)
         refine Ya Zz Zz ?_
         refine PoS.hard0 Zj (YU T (pre:=[]) Zz Zz Zz rfl Zz Zz Zz ?_)
         refine Po.done ?_
         exact midP (Xb [0,2,3,1,4] rfl rfl) ⟨_,_,_,_,rfl,rfl,rfl⟩ Zw Zb
       ·refine Yd (YI T Zz Zz (fun gd=>⟨(⟨Le.refl _,Zx⟩),?_⟩))
        refine Ya Zz Zz ?_
        refine Yd (Yc T (cs:=prdC) Zz Zz Zz Zz Zz Zz Zz Zz (fun g3=>⟨(⟨Le.refl _,Zx⟩),?_⟩))
        refine Ya Zz Zz ?_
        refine PoS.qk (⟨Le.refl _,Zx⟩) (YS T Zz Zz Zz Zz Zz ?_)
        refine Ya Zz Zz ?_
        refine PoS.hard0 Zj (YU T (pre:=[_]) Zz Zz Zz rfl Zz Zz Zz ?_)
        refine Po.done ?_
        exact midP (Xb [1,2,3,0,4] rfl rfl) ⟨_,_,_,_,rfl,rfl,rfl⟩ Zw Zb
      ·refine Yd (YI T Zz Zz (fun gd=>⟨(⟨Le.refl _,Zx⟩),?_⟩))
       refine Ys Zz Zz Zz ?_ ?_
       ·refine Yd (Yc T (cs:=prdC) Zz Zz Zz Zz Zz Zz Zz Zz (fun g3=>⟨(⟨Le.refl _,Zx⟩),?_⟩))
        refine Ya Zz Zz ?_
        refine Yd (Yc T (cs:=goC Av k cv g7) Zz Zz Zz Zz Zz Zz Zz Zz (fun g9=>⟨(⟨Le.refl _,Zx⟩),?_⟩))
        refine Ya Zz Zz ?_
        refine PoS.qk (⟨Le.refl _,Zx⟩) (YS T Zz Zz Zz Zz Zz ?_)
        refine Ya Zz Zz ?_
        refine PoS.hard0 Zj (YU T (pre:=[_,_]) Zz Zz Zz rfl Zz Zz Zz ?_)
        refine Po.done ?_
        exact midP (Xb [2,0,3,1,4] rfl rfl) ⟨_,_,_,_,rfl,rfl,rfl⟩ Zw Zb
       ·refine Yd (Yc T (cs:=goC Av k cv g7) Zz Zz Zz Zz Zz Zz Zz Zz (fun g9=>⟨(⟨Le.refl _,Zx⟩),?_⟩))
        refine Ya Zz Zz ?_
        refine Yd (Yc T (cs:=prdC) Zz Zz Zz Zz Zz Zz Zz Zz (fun g3=>⟨(⟨Le.refl _,Zx⟩),?_⟩))
        refine Ya Zz Zz ?_
        refine PoS.qk (⟨Le.refl _,Zx⟩) (YS T Zz Zz Zz Zz Zz ?_)
        refine Ya Zz Zz ?_
        refine PoS.hard0 Zj (YU T (pre:=[_,_]) Zz Zz Zz rfl Zz Zz Zz ?_)
        refine Po.done ?_
        exact midP (Xb [2,1,3,0,4] rfl rfl) ⟨_,_,_,_,rfl,rfl,rfl⟩ Zw Zb
     ·refine Yd (YI T Zz Zz (fun gd=>⟨(⟨Le.refl _,Zx⟩),?_⟩))
      refine Ys Zz Zz Zz ?_ ?_
      ·refine Yd (Yc T (cs:=prdC) Zz Zz Zz Zz Zz Zz Zz Zz (fun g3=>⟨(⟨Le.refl _,Zx⟩),?_⟩))
       refine Ya Zz Zz ?_
       refine PoS.qk (⟨Le.refl _,Zx⟩) (YS T Zz Zz Zz Zz Zz ?_)
       refine Ya Zz Zz ?_
       refine Yd (Yc T (cs:=goC Av k cv g7) Zz Zz Zz Zz Zz Zz Zz Zz (fun g9=>⟨(⟨Le.refl _,Zx⟩),?_⟩))
       refine Ya Zz Zz ?_
       refine PoS.qk (⟨Le.refl _,Zx⟩) (YS T Zz Zz Zz Zz Zz ?_)
       refine Ya Zz Zz ?_
       refine PoS.hard0 Zj (YU T (pre:=[_,_]) Zz Zz Zz rfl Zz Zz Zz ?_)
       refine Po.done ?_
       exact midP (Xb [2,0,3,1,4] rfl rfl) ⟨_,_,_,_,rfl,rfl,rfl⟩ Zw Zb
      ·refine PoS.qk (⟨Le.refl _,Zx⟩) (YS T Zz Zz Zz Zz Zz ?_)
       refine Ys Zz Zz Zz ?_ ?_
       ·refine Yd (Yc T (cs:=prdC) Zz Zz Zz Zz Zz Zz Zz Zz (fun g3=>⟨(⟨Le.refl _,Zx⟩),?_⟩))
        refine Ya Zz Zz ?_
        refine Yd (Yc T (cs:=goC Av k cv g7) Zz Zz Zz Zz Zz Zz Zz Zz (fun g9=>⟨(⟨Le.refl _,Zx⟩),?_⟩))
        refine Ya Zz Zz ?_
        refine PoS.qk (⟨Le.refl _,Zx⟩) (YS T Zz Zz Zz Zz Zz ?_)
        refine Ya Zz Zz ?_
        refine PoS.hard0 Zj (YU T (pre:=[_,_]) Zz Zz Zz rfl Zz Zz Zz ?_)
        refine Po.done ?_
        exact midP (Xb [2,0,3,1,4] rfl rfl) ⟨_,_,_,_,rfl,rfl,rfl⟩ Zw Zb
       ·refine Yd (Yc T (cs:=goC Av k cv g7) Zz Zz Zz Zz Zz Zz Zz Zz (fun g9=>⟨(⟨Le.refl _,Zx⟩),?_⟩))
        refine Ya Zz Zz ?_
        refine Yd (Yc T (cs:=prdC) Zz Zz Zz Zz Zz Zz Zz Zz (fun g3=>⟨(⟨Le.refl _,Zx⟩),?_⟩))
        refine Ya Zz Zz ?_
        refine PoS.qk (⟨Le.refl _,Zx⟩) (YS T Zz Zz Zz Zz Zz ?_)
        refine Ya Zz Zz ?_
        refine PoS.hard0 Zj (YU T (pre:=[_,_]) Zz Zz Zz rfl Zz Zz Zz ?_)
        refine Po.done ?_
        exact midP (Xb [2,1,3,0,4] rfl rfl) ⟨_,_,_,_,rfl,rfl,rfl⟩ Zw Zb
    ·refine Yd (YI T Zz Zz (fun gd=>⟨(⟨Le.refl _,Zx⟩),?_⟩))
     refine Ys Zz Zz Zz ?_ ?_
     ·refine Yd (Yc T (cs:=prdC) Zz Zz Zz Zz Zz Zz Zz Zz (fun g3=>⟨(⟨Le.refl _,Zx⟩),?_⟩))
      refine Ya Zz Zz ?_
      refine Yd (Yc T (cs:=YdR 1 bC) Zz Zz Zz Zz Zz Zz Zz Zz (fun g7=>⟨(⟨Le.refl _,Zx⟩),?_⟩))
      refine Ya Zz Zz ?_
      refine PoS.qk (⟨Le.refl _,Zx⟩) (YS T Zz Zz Zz Zz Zz ?_)
      refine Ya Zz Zz ?_
      refine Yd (Yc T (cs:=goC Av k cv g7) Zz Zz Zz Zz Zz Zz Zz Zz (fun g9=>⟨(⟨Le.refl _,Zx⟩),?_⟩))
      refine Ya Zz Zz ?_
      refine PoS.qk (⟨Le.refl _,Zx⟩) (YS T Zz Zz Zz Zz Zz ?_)
      refine Ya Zz Zz ?_
      refine PoS.hard0 Zj (YU T (pre:=[_,_,_]) Zz Zz Zz rfl Zz Zz Zz ?_)
      refine Po.done ?_
      exact midP (Xb [3,0,1,2,4] rfl rfl) ⟨_,_,_,_,rfl,rfl,rfl⟩ Zw Zb
     ·refine Yd (Yc T (cs:=YdR 1 bC) Zz Zz Zz Zz Zz Zz Zz Zz (fun g7=>⟨(⟨Le.refl _,Zx⟩),?_⟩))
      refine Ys Zz Zz Zz ?_ ?_
      ·refine Yd (Yc T (cs:=prdC) Zz Zz Zz Zz Zz Zz Zz Zz (fun g3=>⟨(⟨Le.refl _,Zx⟩),?_⟩))
       refine Ya Zz Zz ?_
       refine PoS.qk (⟨Le.refl _,Zx⟩) (YS T Zz Zz Zz Zz Zz ?_)
       refine Ya Zz Zz ?_
       refine Yd (Yc T (cs:=goC Av k cv g7) Zz Zz Zz Zz Zz Zz Zz Zz (fun g9=>⟨(⟨Le.refl _,Zx⟩),?_⟩))
       refine Ya Zz Zz ?_
       refine PoS.qk (⟨Le.refl _,Zx⟩) (YS T Zz Zz Zz Zz Zz ?_)
       refine Ya Zz Zz ?_
       refine PoS.hard0 Zj (YU T (pre:=[_,_,_]) Zz Zz Zz rfl Zz Zz Zz ?_)
       refine Po.done ?_
       exact midP (Xb [3,0,2,1,4] rfl rfl) ⟨_,_,_,_,rfl,rfl,rfl⟩ Zw Zb
      ·refine PoS.qk (⟨Le.refl _,Zx⟩) (YS T Zz Zz Zz Zz Zz ?_)
       refine Ys Zz Zz Zz ?_ ?_
       ·refine Yd (Yc T (cs:=prdC) Zz Zz Zz Zz Zz Zz Zz Zz (fun g3=>⟨(⟨Le.refl _,Zx⟩),?_⟩))
        refine Ya Zz Zz ?_
        refine Yd (Yc T (cs:=goC Av k cv g7) Zz Zz Zz Zz Zz Zz Zz Zz (fun g9=>⟨(⟨Le.refl _,Zx⟩),?_⟩))
        refine Ya Zz Zz ?_
        refine PoS.qk (⟨Le.refl _,Zx⟩) (YS T Zz Zz Zz Zz Zz ?_)
        refine Ya Zz Zz ?_
        refine PoS.hard0 Zj (YU T (pre:=[_,_,_]) Zz Zz Zz rfl Zz Zz Zz ?_)
        refine Po.done ?_
        exact midP (Xb [3,0,2,1,4] rfl rfl) ⟨_,_,_,_,rfl,rfl,rfl⟩ Zw Zb
       ·refine Yd (Yc T (cs:=goC Av k cv g7) Zz Zz Zz Zz Zz Zz Zz Zz (fun g9=>⟨(⟨Le.refl _,Zx⟩),?_⟩))
        refine Ya Zz Zz ?_
        refine Yd (Yc T (cs:=prdC) Zz Zz Zz Zz Zz Zz Zz Zz (fun g3=>⟨(⟨Le.refl _,Zx⟩),?_⟩))
        refine Ya Zz Zz ?_
        refine PoS.qk (⟨Le.refl _,Zx⟩) (YS T Zz Zz Zz Zz Zz ?_)
        refine Ya Zz Zz ?_
        refine PoS.hard0 Zj (YU T (pre:=[_,_,_]) Zz Zz Zz rfl Zz Zz Zz ?_)
        refine Po.done ?_
        exact midP (Xb [3,1,2,0,4] rfl rfl) ⟨_,_,_,_,rfl,rfl,rfl⟩ Zw Zb
    -- R16 end
   ·rintro σ fz5 H5 ⟨gd,g9,g7,g3,rfl,rfl,rfl⟩
    refine Yp (Wp.mid (fun σ fz' H'=>∃ pre w v3 v5 gd,Plc ks pre w∧σ=[(11,.pointer (some ⟨gd,0,none⟩)),(6,.int .i64 (tmL 1 ks:Nat))]∧Le fz5 fz'∧H'=[(gd,.cells #[.string bD,.slice none 0 0,.slice none 0 0,v3,.slice none 0 0,v5,.slice none 0 0] 46 (0,0))]∧DomainR fz' (YdO pre w) (.slice none 0 0) (.slice none 0 0) v3 (.slice none 0 0) v5 (.slice none 0 0)) ?_ ?_)
    ·cases wh with
     | false=>
      refine zW ?_;intros
      exact midF (H':=[_]) (H2:=[_,_,_,_]) (Zr _) (fun fz6 hle6 hf6=>⟨YbL ks,Y8,_,_,gd,.inl ⟨rfl,rfl⟩,rfl,hle6,rfl,YgW (q1:=.slice none 0 0) (q2:=.slice none 0 0) (q3:=.slice none 0 0) (q4:=.slice none 0 0) (p1:=.slice none 0 0) (p2:=.slice none 0 0) (p3:=.slice none 0 0) (hf6 _ (.tail _ (.tail _ (.head _)))) (hf6 _ (.tail _ (.head _))) (hf6 _ (.head _)) (Yeh (hSq.mono hle6)) Ww⟩) Zw
     | true=>
      refine zW ?_;intros
      refine Wp.drawP [] (Hq:=[_,_,_,_,_]) T.mixed Zj Zj Zb ?_
      refine zW ?_;intros
      refine zG ?_;refine Yo (z:=10) (j:=0) T Zz Zz Zz Zz Zz rfl Zi Zi ?_
      refine zW ?_;intros
      refine zc ha ?_
      refine Yf ?_
      refine Yf ?_
      refine Yf ?_
      refine Yf ?_
      refine Yf ?_
      refine Yf ?_
      refine Yf ?_
      refine PK.done ⟨by kernel_rfl,?_⟩
      -- R18
      refine Ys Zz Zz Zz ?_ ?_
      ·refine PoS.qk ⟨Le.refl _,fun p hp=>hp⟩ (Yx T 4 Zz Zz Zz Zz Zz ?_)
       refine Ya Zz Zz ?_
       refine PoS.qk ⟨Le.refl _,fun p hp=>hp⟩ (Yo (z:=10) (j:=0) T Zz Zz Zz Zz Zz rfl Zi Zi ?_)
       refine Ya Zz Zz ?_
       refine PoS.qk ⟨Le.refl _,fun p hp=>hp⟩ (Y2 T Zz Zz Zz Zz Zz Zz ?_)
       refine Ya Zz Zz ?_
       refine PoS.hard0 Zj (YU T (pre:=[_]) Zz Zz Zz rfl Zz Zz Zz ?_)
       refine Ya Zz Zz ?_
       refine PoS.hard Zj (DoesQ.does (Yo (z:=15) (j:=0) T Zz Zz Zz Zz Zz rfl Zi Zi ?_))
       refine Ya Zz Zz ?_
       refine PoS.hard Zj (DoesQ.does (Y2 T Zz Zz Zz Zz Zz Zz ?_))
       refine Ya Zz Zz ?_
       refine PoS.hard0 Zj (YU T (pre:=[_,_]) Zz Zz Zz rfl Zz Zz Zz ?_)
       refine Po.done ?_
       exact midF (H':=[_]) (H2:=[_,_,_,_]) (Zr _) (fun fz6 hle6 hf6=>⟨Y8,YbL ks,_,_,gd,.inr ⟨rfl,rfl⟩,rfl,hle6,rfl,YgW (q1:=.slice none 0 0) (q2:=.slice none 0 0) (q3:=.slice none 0 0) (p1:=.slice none 0 0) (p2:=.slice none 0 0) (p3:=.slice none 0 0) (p4:=.slice none 0 0) (hf6 _ (.tail _ (.tail _ (.head _)))) (hf6 _ (.tail _ (.head _))) (hf6 _ (.head _)) Ww (Yeh (hSq.mono hle6))⟩) Zw
      ·refine PoS.qk ⟨Le.refl _,fun p hp=>hp⟩ (Yo (z:=10) (j:=0) T Zz Zz Zz Zz Zz rfl Zi Zi ?_)
       refine Ys Zz Zz Zz ?_ ?_
       ·refine PoS.qk ⟨Le.refl _,fun p hp=>hp⟩ (Yx T 4 Zz Zz Zz Zz Zz ?_)
        refine Ya Zz Zz ?_
        refine PoS.qk ⟨Le.refl _,fun p hp=>hp⟩ (Y2 T Zz Zz Zz Zz Zz Zz ?_)
        refine Ya Zz Zz ?_
        refine PoS.hard0 Zj (YU T (pre:=[_]) Zz Zz Zz rfl Zz Zz Zz ?_)
        refine Ya Zz Zz ?_
        refine PoS.hard Zj (DoesQ.does (Yo (z:=15) (j:=0) T Zz Zz Zz Zz Zz rfl Zi Zi ?_))
        refine Ya Zz Zz ?_
        refine PoS.hard Zj (DoesQ.does (Y2 T Zz Zz Zz Zz Zz Zz ?_))
        refine Ya Zz Zz ?_
        refine PoS.hard0 Zj (YU T (pre:=[_,_]) Zz Zz Zz rfl Zz Zz Zz ?_)
        refine Po.done ?_
        exact midF (H':=[_]) (H2:=[_,_,_,_]) (Zr _) (fun fz6 hle6 hf6=>⟨Y8,YbL ks,_,_,gd,.inr ⟨rfl,rfl⟩,rfl,hle6,rfl,YgW (q1:=.slice none 0 0) (q2:=.slice none 0 0) (q3:=.slice none 0 0) (p1:=.slice none 0 0) (p2:=.slice none 0 0) (p3:=.slice none 0 0) (p4:=.slice none 0 0) (hf6 _ (.tail _ (.tail _ (.head _)))) (hf6 _ (.tail _ (.head _))) (hf6 _ (.head _)) Ww (Yeh (hSq.mono hle6))⟩) Zw
       ·refine PoS.qk ⟨Le.refl _,fun p hp=>hp⟩ (Y2 T Zz Zz Zz Zz Zz Zz ?_)
        refine Ys Zz Zz Zz ?_ ?_
        ·refine PoS.qk ⟨Le.refl _,fun p hp=>hp⟩ (Yx T 4 Zz Zz Zz Zz Zz ?_)
         refine Ya Zz Zz ?_
         refine PoS.hard0 Zj (YU T (pre:=[_]) Zz Zz Zz rfl Zz Zz Zz ?_)
         refine Ya Zz Zz ?_
         refine PoS.hard Zj (DoesQ.does (Yo (z:=15) (j:=0) T Zz Zz Zz Zz Zz rfl Zi Zi ?_))
         refine Ya Zz Zz ?_
         refine PoS.hard Zj (DoesQ.does (Y2 T Zz Zz Zz Zz Zz Zz ?_))
         refine Ya Zz Zz ?_
         refine PoS.hard0 Zj (YU T (pre:=[_,_]) Zz Zz Zz rfl Zz Zz Zz ?_)
         refine Po.done ?_
         exact midF (H':=[_]) (H2:=[_,_,_,_]) (Zr _) (fun fz6 hle6 hf6=>⟨Y8,YbL ks,_,_,gd,.inr ⟨rfl,rfl⟩,rfl,hle6,rfl,YgW (q1:=.slice none 0 0) (q2:=.slice none 0 0) (q3:=.slice none 0 0) (p1:=.slice none 0 0) (p2:=.slice none 0 0) (p3:=.slice none 0 0) (p4:=.slice none 0 0) (hf6 _ (.tail _ (.tail _ (.head _)))) (hf6 _ (.tail _ (.head _))) (hf6 _ (.head _)) Ww (Yeh (hSq.mono hle6))⟩) Zw
        ·refine PoS.hard0 Zj (YU T (pre:=[_]) Zz Zz Zz rfl Zz Zz Zz ?_)
         refine Ya Zz Zz ?_
         refine PoS.hard Zj (DoesQ.does (Yx T 4 Zz Zz Zz Zz Zz ?_))
         refine Ya Zz Zz ?_
         refine PoS.hard Zj (DoesQ.does (Yo (z:=15) (j:=0) T Zz Zz Zz Zz Zz rfl Zi Zi ?_))
         refine Ya Zz Zz ?_
         refine PoS.hard Zj (DoesQ.does (Y2 T Zz Zz Zz Zz Zz Zz ?_))
         refine Ya Zz Zz ?_
         refine PoS.hard0 Zj (YU T (pre:=[_,_]) Zz Zz Zz rfl Zz Zz Zz ?_)
         refine Po.done ?_
         exact midF (H':=[_]) (H2:=[_,_,_,_]) (Zr _) (fun fz6 hle6 hf6=>⟨Y8,YbL ks,_,_,gd,.inr ⟨rfl,rfl⟩,rfl,hle6,rfl,YgW (q1:=.slice none 0 0) (q2:=.slice none 0 0) (q3:=.slice none 0 0) (p1:=.slice none 0 0) (p2:=.slice none 0 0) (p3:=.slice none 0 0) (p4:=.slice none 0 0) (hf6 _ (.tail _ (.tail _ (.head _)))) (hf6 _ (.tail _ (.head _))) (hf6 _ (.head _)) Ww (Yeh (hSq.mono hle6))⟩) Zw
      -- R18 end
    ·rintro σ fz6 H6 ⟨pre,w,v3,v5,ge,hplc,rfl,hle6,rfl,hD⟩
     obtain ⟨A3,n3,b3,rfl,_⟩:=id hD.predicates
     obtain ⟨A5,n5,b5,rfl,_⟩:=id hD.actions
     have hn12:ks.length≤12:=by omega
     have hchks:=Ymn (Yk1 hplc hn12 bk) YkZ
     refine zWN ?_;intros
     refine Yb Zz (Yc T (cs:=[.string bA,.slice none 0 0]) Zz Zz Zz Zz Zz Zz Zz Zz (fun ga=>?_))
     refine Seq.freezeAll (H1:=[_]) (H2:=[_]) (List.Perm.swap _ _ _) (fun fz7 hle7 hf7=>?_)
     have sP:Sl atomL fz7 (some ⟨ga,0,none⟩) 1 1 [⟨bA,[]⟩]:=Xg (ys:=[(⟨bA,[]⟩,[.string bA,.slice none 0 0])]) (hf7 _ (.head _)) rfl rfl (List.forall_mem_cons.2 ⟨YfP (x:=⟨bA,[]⟩) ⟨by show bA.size≤_;decide,IsSl.nil⟩,nilP⟩) rfl Zh
     have hP:ProblemR fz7 YjX (.slice none 0 0) (.slice (some ⟨ga,0,none⟩) 1 1) (.slice none 0 0) (.slice none 0 0) (.slice none 0 0) (.slice none 0 0) (.slice none 0 0):=⟨by show bP.size≤_;decide,by show bD.size≤_;decide,IsSl.nil,sP.is,IsSl.nil,Ww⟩
     have hD7:=hD.mono hle7
     have hx7:=hx4.trans (hle6.trans hle7)
     have hM7:MaxF fz7:=hM.mono hx7
     have hck:=Ymq hM7 hD7 hP hchks
     rw [resV] at hck
     refine zW ?_;intros
     refine zc ha ?_
     refine zW ?_;intros
     rename_i gp
     by_cases hc:(XJ (YdO pre w) YjX).2=0
     rotate_left 1
     ·have hpl:=Ymo hc
      rw [YF hc] at hck
      refine zc hck ?_
      refine zW ?_;intros
      exact zR (h:=rfl)
     ·rw [hc,show errV 0=.nilIface from rfl] at hck
      obtain ⟨hn1,hn2⟩:=Yk0 hplc hc
      refine zc hck ?_
      refine zW ?_;intros
      refine Yb Zz (Yl [] _ Zz Zz Zz (Ymw hM7 hD7 hP hchks (fun h=>apt_of h (Yk1 hplc hn12 bk) YkZ)) (fun v8 fz8 H8 hle8 hR8=>?_))
      obtain ⟨rfl,S0,hS0,v,rfl,hz1,hz2⟩:=hR8
      have e0:=term_S0 hS0
      subst e0
      have hE:W0 (YdO pre w) YjX [aA]=if 64<tmL 1 ks then 5 else 0:=by
       rw [W0,if_neg (fun h=>h hc)]
       exact expE_t hn1 hn2 hplc bk
      by_cases hb:64<tmL 1 ks
      ·rw [if_pos hb] at hE
       obtain rfl:=hz1 (by rw [hE];decide)
       have his:=bis_q (fz:=fz8) (n:=5) (m:=5) Zh
       rw [YF Zh] at his
       rw [hE,YF Zh]
       refine zW ?_;intros
       refine zC (fun c6=>?_) (fun c6=>?_)
       ·refine zW ?_;intros
        refine zc his ?_
        refine zV ?_;intros
        refine zC (fun c8=>?_) (fun c8=>?_)
        ·refine zV ?_;intros
         exact zR (h:=rfl)
        ·exact absurd rfl c8
       ·exact absurd Zi c6
      ·rw [if_neg hb] at hE
       obtain ⟨l8,hl8,hp8,_⟩:=hz2 hE
       obtain ⟨A8,n8,c8,rfl,hs8⟩:=hl8
       have ln8:=hs8.len
       rw [exp_t hn1 hn2 hplc] at hp8
       have hp9:=hp8.length_eq
       have htp:=YkR ks (n:=1) Zi Zi
       rw [hE,show errV 0=.nilIface from rfl]
       refine zW ?_;intros
       refine zC (fun c6=>?_) (fun c6=>?_)
       ·exact absurd Zi hb
       ·refine zW ?_;intros
        refine zC (fun c7=>?_) (fun c7=>?_)
        ·rw [if_pos (htp.1 Zi)] at hp9
         have:n8=2:=by rw [← ln8,hp9];rfl
         subst this
         refine zV ?_;intros
         refine zC (fun c8=>?_) (fun c8=>?_)
         ·refine zV ?_;intros
          exact zR (h:=rfl)
         ·exact absurd rfl c8
        ·rw [if_neg (fun h=>c7 (by have:=htp.2 h;omega))] at hp9
         have:n8=1:=by rw [← ln8,hp9];rfl
         subst this
         refine zV ?_;intros
         refine zC (fun c8=>?_) (fun c8=>?_)
         ·refine zV ?_;intros
          exact zR (h:=rfl)
         ·exact absurd rfl c8
end Go.Proofs.YtbnpeechpebmeaaGreatDoor
namespace Go.Lx
open Go.RowKit Go.ChangeShapes Go.WideShapes Go.Deep
theorem YlH {α:Type} {p:Nat→α→Prop}:∀ {n:Nat},(∀ i,i<n→∃ d,p i d)→∃ ds:List α,ds.length=n∧∀ i d,ds[i]?=some d→p i d
 | 0,_=>⟨[],rfl,by simp⟩
 | n+1,h=>by
  obtain ⟨ds,h1,h2⟩:=YlH (n:=n) (fun i hi=>h i Zi)
  obtain ⟨d,hd⟩:=h n Zi
  refine ⟨ds++ [d],by simp [h1],fun i e he=>?_⟩
  by_cases hi:i<ds.length
  ·rw [List.getElem?_append_left hi] at he;exact h2 i e he
  ·have hl:=(Zg he).1
   simp at hl
   have:i=n:=by omega
   subst this
   rw [List.getElem?_append_right Zi,h1] at he
   simp at he
   subst he
   exact hd
section
variable {H:Type} {enc:TypeId × Value→H} {P:Program} {w:World} {base:Nat} {spare:Nat→Bool} {held:Bool}
def YiS (enc:TypeId × Value→H) (P:Program) (w:World) (base:Nat) (spare:Nat→Bool) (held:Bool) {α:Type} (L:Lay α) (t:TypeId) (fuel:Nat):Prop:=
 ∀ cs x,DataW.trod enc P w base spare held fuel t cs=some x→(∀ q∈x.1.weights P t,q≤reachBytes)→∃ d,L.rep (fzOf w) d cs
theorem Yeb {e:TypeId}:∀ {l:List (DataW H)} {d:DataW H},d∈l→∀ q∈d.weights P e,q∈DataW.weightsAll P e l
 | [],_,h,_,_=>by cases h
 | a::r,d,h,q,hq=>by
  rw [DataW.weightsAll]
  rcases List.mem_cons.1 h with rfl | h
  ·exact List.mem_append.2 (.inl hq)
  ·exact List.mem_append.2 (.inr (Yeb h q hq))
variable {t:TypeId}
theorem Yis {α:Type} {L:Lay α} {e:TypeId} {fuel:Nat} (ht:P.underlying t=some (.slice e)) (hc:P.cellsOf e=L.size) (hb':Nat.ble 1 (P.bytesOf e)=true) (he:∀ n,n<fuel→YiS enc P w base spare held L e n):YiS enc P w base spare held (slL L) t fuel:=fun cs x h hq=>by
 have hb:=Nat.le_of_ble_eq_true hb'
 rcases DataW.trod_slice ht h with ⟨rfl,_⟩ | ⟨a,len,cap,elems,rest,n,hfu,rfl,rfl,_,hl,hm,hlen,hel,_,_⟩
 ·exact ⟨[],none,0,0,rfl,Sl.nil Zi⟩
 ·simp only [DataW.weights,ht,List.mem_cons,List.mem_append] at hq
  obtain ⟨ds,h1,h2⟩:=YlH (p:=fun i d=>At L (fzOf w) (a.add (i*L.size)) d) (n:=len) (fun i hil=>by
   have hx:elems[i]?=some (elems[i]'Zi):=List.getElem?_eq_getElem _
   have h3:=hel i hil
   rw [hx] at h3
   cases hcs:w.cells? base (a.add (i*P.cellsOf e)) (P.cellsOf e) with
   | none=>rw [hcs] at h3;cases h3
   | some cs'=>
    rw [hcs] at h3
    obtain ⟨d,hd⟩:=he n Zi _ _ h3 (fun q hq'=>hq q (.inr (.inl (Yeb (d:=(elems[i]'Zi).1) (List.mem_map.2 ⟨_,Zm hx,rfl⟩) q hq'))))
    obtain ⟨_,hlen,hat⟩:=World.cells?_some hcs
    refine ⟨d,cs',hd,fun j u hu=>?_⟩
    have hj:j<cs'.length:=(Zg hu).1
    rw [← hc]
    exact YjL ((hat j Zi).trans hu))
  have hreach:=hq _ (.inl rfl)
  have hlen2:len≤140737488355328:=by
   simp only [List.length_map] at hreach
   have:len*1≤(elems.length+rest.length)*P.bytesOf e:=Nat.mul_le_mul Zi hb
   have hr:reachBytes≤140737488355328:=by decide
   omega
  exact ⟨ds,some a,len,cap,rfl,h1,hl,by simpa [maxLen] using hm,hlen2,.inr ⟨a,rfl,h2⟩⟩
end
end Go.Lx
namespace Go.Proofs.YtbnpeechpebmeaaGreatDoor
open Go.ChangeShapes Go.WideShapes Go.ChangeAt Go.RowKit Go.Lx
variable {t:TypeId} {w:World}
theorem opens_u8 {H:Type} {enc:TypeId × Value→H} {P:Program} {base:Nat} {spare:Nat→Bool} {held:Bool} {fuel:Nat} (ht:P.underlying t=some (.int .u8)):YiS enc P w base spare held u8L t fuel:=fun cs x h _=>by
 obtain ⟨n,h1,_,h2⟩:=DataW.trod_int ht h
 have h3:0≤n∧n≤255:=by
  simp [Lit.wf,IntKind.min,IntKind.max,IntKind.signed,IntKind.bits] at h2
  omega
 refine ⟨n.toNat,?_,by omega⟩
 rw [h1,Int.toNat_of_nonneg h3.1]
theorem Yet:ownKnob Tryz.prog.godebug=none:=by kernel_rfl
theorem YeB:laidOutB Tryz.prog=true:=by kernel_rfl
theorem Ykh {W:World} (h:W.ShapedOpen Tryz.prog):MaxF (fzOf W):=by
 obtain ⟨m,hm⟩:=cell_of_shapedOpen_int (P:=Tryz.prog) (g:=0) (t:=3) (zero:=#[.int .i64 0]) h (of_decide_eq_true Zj) Zj rfl Zj Zj Tryz.underlying3
 exact ⟨m,YjL hm⟩
theorem Yg8 (os:Os) {H:Type} (enc:TypeId × Value→H):∃ places,DataW.whole enc Tryz.prog ((World.laidAll Tryz.prog os Rows.reachTermsRow.laid).forCall (fun _ _=>0) ⟨#[],#[.slice none 0 0,.bool false],[]⟩).memory Tryz.f3.params.toList (OpenSpec.ofChange Rows.reachTermsSpec).vars false (#[.slice none 0 0,.bool false]:Array Value).toList 8=some ([.nil,.lit (.bool false)],[],places):=⟨[],by kernel_rfl⟩
set_option maxRecDepth 100000 in
set_option maxHeartbeats 4000000 in
theorem Yf7 (os:Os) (started:os.Started) (H:Type) (enc:TypeId × Value→H) (F:Stop.Interp):
 ReturnsInHanded {} Tryz.checked os 3 .any ((OpenSpec.ofChange Rows.reachTermsSpec).preRow enc Tryz.prog Tryz.f3 Rows.reachTermsRow.domain false Rows.reachTermsRow.laid) (((OpenSpec.ofChange Rows.reachTermsSpec).at F).post enc Tryz.prog Tryz.f3 false true false false):=by
 obtain ⟨places,hx⟩:=Yg8 os enc
 refine returnsInHanded_of_row (C:=Tryz.checked) (s:=OpenSpec.ofChange Rows.reachTermsSpec) Yet started Zj Tryz.func3
  ⟨World.laidAll Tryz.prog os Rows.reachTermsRow.laid,fun _ _=>0,⟨#[],#[.slice none 0 0,.bool false],[]⟩,World.laidAll_os _ _ _,World.shaped_of_ZipB Zj Zj,rfl,(Input.okWide_of_okWideB Zj).2,
   OpenSpec.preRow_of_cond 8 hx Zj (fun k hk=>by cases hk) Zj (by rw [MakeChecks.laidMetH_plain _ _ _ Zj];exact laidMet_laidAll _ Zj Zj),
   by simp only [Assume.holds];exact ⟨by simp,by simp,fun _=>Modest.zero,by simp,by simp⟩⟩ ?_
 intro W base args ds gs before hval0 hW _ _ hsz0 _ hsh _
 have hval:∀ (j:Nat) t v,Tryz.f3.params[j]?=some t→args[j]?=some v→Value.okWide Tryz.prog W .any base t v:=hval0
 have hsz:(DataW.weightsEach Tryz.prog (Tryz.f3.params.toList++Rows.reachTermsSpec.plain.varTypes Tryz.prog) (ds++gs)).all (·≤reachBytes)=true:=hsz0
 have hW':DataW.Whole enc Tryz.prog Tryz.f3.params.toList Rows.reachTermsSpec.vars false W args.toList ds gs before:=hW
 obtain ⟨p,q,hA0,hV,rfl,_,_⟩:=hW
 have hA:DataW.TrodAll enc Tryz.prog W 0 (fun _=>true) true Tryz.f3.params.toList args.toList ds p:=hA0
 rw [Tryz.params3] at hA hval hsz
 obtain ⟨v0,v1,d0,d1,p0,p1,rfl,rfl,rfl,h0,h1⟩:=trodAll_two hA
 obtain ⟨rfl,rfl⟩:=trodVars_none hV
 clear hA0 hval0 hsz0
 simp only [List.append_nil] at hW'
 have hlt:∀ x∈p0++p1,x.block<W.heap.size:=fun x hx=>hW'.lt x hx
 have hq0:∀ n∈d0.weights Tryz.prog 22,n≤reachBytes:=fun n hn=>by
  have:=List.all_eq_true.1 hsz n (DataW.weights_mem_each (j:=0) (t:=22) (d:=d0) rfl rfl n hn)
  simpa using this
 obtain ⟨b1,rfl,rfl,rfl⟩:=open_bool Tryz.underlying4 (hval 1 4 v1 rfl rfl) h1
 obtain ⟨fuel,hf⟩:=id h0
 obtain ⟨B,n,c,rfl⟩:=okWide_slice Tryz.underlying22 (hval 0 22 v0 rfl rfl)
 obtain ⟨ls,B,n,c,e1,h2⟩:=Yis (L:=u8L) Tryz.underlying22 Zj Zj (fun _ _=>opens_u8 Tryz.underlying5) _ _ hf hq0
 have e2:=List.head_eq_of_cons_eq e1
 rw [e2] at h0 ⊢
 refine ((lterms_q (Ykh hsh) h2).calls (hp_of W)).mono fun e W' ⟨he1,hfr⟩=>?_
 have hb:=below_of hfr
 have k0:=Below.trod YeB Zj (of_decide_eq_true Zj) h0 hb (fun x hx=>hlt x (by simp [hx]))
 show ∃ v,e=.returned v∧Rows.reachTermsSpec.post enc Tryz.prog Tryz.f3 false true false false W _ v W'
 rw [e2] at hW'
 exact ⟨_,he1,[d0,_],[],_,[],_,[],hW',trodAll_mk1 (shut_bool Tryz.underlying4 true),trodAll_mk2 k0 (shut_bool Tryz.underlying4 _),rfl,hb.frame _,fun h=>by cases h⟩
end Go.Proofs.YtbnpeechpebmeaaGreatDoor
