/- The texts PCA, PCB, PWalkC, PWalkD, PPlain, PWalkE, laid together. Conditions: none. -/
import Derived.Test.YtbnpeechpebmeaaGreatDoorRBE
set_option linter.all false
noncomputable section
set_option maxRecDepth 20000
namespace Go.Lx
open Go.RowKit
section
variable {P:Program} {cx:Cx} {r:Operand→Option Value} {fz:FZ} {H:HP} {dst:Option Nat} {ty:TypeId} {pos:String} {af:Array Edge} {gd:Option (Nat × Bool)} {V:Value→Prop}
variable {X:Ty} {t:TypeId} {x y:Operand}
theorem Yhc (T:Tab P) {t':TypeId} {e:TypeId} {p:Option Addr} (hT:T.inf t=some X) (hd:X.desc=.pointer e) (hx:r x=some (.pointer p)) (hy:r y=some (.pointer none)) (h:V (.bool p.isNone)):
 DoesQ P cx ⟨dst,.binOp .eql t x y t',ty,pos,af,gd⟩ r fz H V:=
 YN (fun ρ w hr=>by
  have hu:P.underlying t=some (.pointer (P.pointee t)):=by rw [Program.pointee,und_plain T hT hd rfl]
  simp only [execOp,hr _ _ hx,hr _ _ hy,Sem.run_bind,eqGuard_at_pointer,Sem.run_pure,Result.andThen_ok,run_eql_pointer_nil w t p hu]) h
end
end Go.Lx
namespace Go.Proofs.YtbnpeechpebmeaaGreatDoor
open Go.Lx Go.RowKit
attribute [local instance 10] Classical.propDecidable
open Go.Proofs.Tryz (prog)
def tyM (l:List Param):List (Bs × Value):=l.map fun p=>(p.name,.string p.typ)
def tyF:List Param→Bs→Option Bs
 | [],_=>none
 | p::r,t=>if t=p.name then some p.typ else tyF r t
theorem Ygs (t:Bs):∀ (l:List Param) (i:Nat),(fndS (tyM l) t i).map (·.2)=(tyF l t).map Value.string
 | [],_=>rfl
 | p::r,i=>by
  rw [show tyM (p::r)=(p.name,.string p.typ)::tyM r from rfl,fndS,tyF]
  split
  ·rfl
  ·exact Ygs t r (i+1)
variable {i:Nat}
theorem fndS_val {m:List (Bs × Value)} {t:Bs} {z:Value}:(fndS m t i).elim z (·.2)=((fndS m t i).map (·.2)).getD z:=by cases fndS m t i<;>rfl
theorem fndS_ok {m:List (Bs × Value)} {t:Bs}:(fndS m t i).isSome=((fndS m t i).map (·.2)).isSome:=by cases fndS m t i<;>rfl
theorem YfY {l:List Param} {t:Bs}:(fndS (tyM l) t 0).elim (.string ⟨#[]⟩) (·.2)=.string ((tyF l t).getD ⟨#[]⟩):=by
 rw [fndS_val,Ygs];cases tyF l t<;>rfl
theorem YkO {l:List Param} {t:Bs}:(fndS (tyM l) t 0).isSome=(tyF l t).isSome:=by
 rw [fndS_ok,Ygs];cases tyF l t<;>rfl
def ForR (fz:FZ) (v:Value) (l:List Param):Prop:=∃ gf gm,v=.pointer (some ⟨gf,0,none⟩)∧fz gf=some (.cells #[.map (some gm)] 179 (0,0))∧fz gm=some (mapS (tyM l))
variable {fz fz':FZ} {v:Value}
theorem ForR.mono {l:List Param} (h:ForR fz v l) (hle:Le fz fz'):ForR fz' v l:=by
 obtain ⟨gf,gm,h1,h2,h3⟩:=h
 exact ⟨gf,gm,h1,hle _ _ h2,hle _ _ h3⟩
def HasT (l:List Param) (t:Bs):Prop:=t=W8∨(tyF l t).isSome=true
theorem has_q {l:List Param} {t:Bs} (h:ForR fz v l):QFn prog 100 [v,.string t] fz (.bool (decide (HasT l t))):=by
 obtain ⟨gf,gm,rfl,h1,h2⟩:=h
 refine GFn.quiet ?_
 refine zF Tryz.func100 Tryz.ntmps100 (fun w0=>?_)
 refine zV ?_;intros
 refine zG ?_;refine YY T Zz Zz Zz Zz Zz Zz Zz h2 YfY YkO ?_
 refine zV ?_;intros
 cases hs:(tyF l t).isSome with
 | true=>
  refine zV ?_;intros
  exact ret1 rfl rfl Zb (YC (.inr hs))
 | false=>
  refine zV ?_;intros
  refine zC (fun c1=>?_) (fun c1=>?_)
  ·refine zV ?_;intros
   exact ret1 rfl rfl Zb (YC (.inl c1))
  ·refine zV ?_;intros
   exact ret1 rfl rfl Zb (Ym (fun h0=>h0.elim c1 (fun h0=>by rw [hs] at h0;cases h0)))
def upT (l:List Param) (t:Bs):Bs:=(tyF l t).getD ⟨#[]⟩
def cycM (l:List Param) (t:Bs):Nat→Bs→Bool
 | 0,_=>false
 | n+1,a=>if upT l a=t then true else if upT l a=W8 then false else cycM l t n (upT l a)
theorem cycle_q {l:List Param} {t:Bs} (h:ForR fz v l) (hn:l.length≤1000000000):QFn prog 101 [v,.string t] fz (.bool (cycM l t l.length t)):=by
 obtain ⟨gf,gm,rfl,h1,h2⟩:=h
 have hlen:(tyM l).length=l.length:=by unfold tyM;simp
 refine GFn.quiet ?_
 refine zF Tryz.func101 Tryz.ntmps101 (fun w0=>?_)
 refine zV ?_;intros
 refine zG ?_;refine Yga T Zz Zz Zz h2 ?_
 rw [hlen]
 refine zV ?_;intros
 refine Yk (fun q σ fz' H'=>∃ (k:Nat) (a:Bs),k≤l.length∧q=l.length - k∧σ=[(12,.int .i64 k),(11,.int .i64 l.length),(5,.string a),(0,.pointer (some ⟨gf,0,none⟩)),(1,.string t)]∧fz=fz'∧H'=[]∧cycM l t (l.length - k) a=cycM l t l.length t) ⟨0,t,Z0 _,rfl,rfl,rfl,rfl,rfl⟩ Zw Zb ?_
 rintro q σ fz' H' ⟨k,a,hk,rfl,rfl,rfl,rfl,hh⟩
 refine zV ?_;intros
 refine zC (fun c1=>?_) (fun c1=>?_)
 ·have e1:l.length - k=(l.length - (k+1))+1:=by omega
  rw [e1,cycM] at hh
  refine zV ?_;intros
  refine zG ?_;refine Wi T Zz Zz Zz Zz Zz Zz Zz h2 YfY ?_
  rw [show (tyF l a).getD ⟨#[]⟩=upT l a from rfl]
  refine zV ?_;intros
  refine zC (fun c2=>?_) (fun c2=>?_)
  ·rw [if_pos c2] at hh
   refine zV ?_;intros
   exact zR (h:=by rw [← hh])
  ·rw [if_neg c2] at hh
   refine zV ?_;intros
   refine zC (fun c3=>?_) (fun c3=>?_)
   ·rw [if_pos (show upT l a=W8 from c3)] at hh
    refine zV ?_;intros
    exact zR (h:=by rw [← hh])
   ·rw [if_neg (show ¬upT l a=W8 from c3)] at hh
    refine zV ?_;intros
    exact YA ⟨k+1,upT l a,by omega,rfl,rfl,rfl,rfl,hh⟩ Zi Zw Zb
 ·have e1:l.length - k=0:=by omega
  rw [e1] at hh
  refine zV ?_;intros
  exact zR (h:=by rw [← hh];rfl)
def upN (l:List Param):Nat→Bs→Prop
 | 0,t=>t=W8
 | n+1,t=>t≠W8∧upN l n (upT l t)
def chN (l:List Param):Nat→Bs→List Bs
 | 0,t=>[t]
 | n+1,t=>t::chN l n (upT l t)
theorem YkM {l:List Param}:∀ {n m:Nat} {t:Bs},upN l n t→upN l m t→n=m
 | 0,0,_,_,_=>rfl
 | 0,m+1,t,h1,h2=>absurd h1 h2.1
 | n+1,0,t,h1,h2=>absurd h2 h1.1
 | n+1,m+1,t,h1,h2=>by rw [YkM h1.2 h2.2]
theorem YkL {l:List Param} (hs:∀ p∈l,Short p.typ) {t:Bs}:Short (upT l t):=by
 unfold upT
 induction l with
 | nil=>show Short ⟨#[]⟩;unfold Short;decide
 | cons p r ih=>
  rw [tyF]
  split
  ·exact hs p (by simp)
  ·exact ih (fun q hq=>hs q (by simp [hq]))
theorem YbM:OneC strL:=by
 intro fz d cs h u hu
 obtain ⟨rfl,_⟩:=h
 simp at hu
 subst hu
 rfl
set_option maxHeartbeats 1000000 in
theorem above_q {l:List Param} {t:Bs} {m:Nat} (h:ForR fz v l) (hs:∀ p∈l,Short p.typ) (ht:Short t) (hm:m≤1000000000) (hu:upN l m t):
 GFn prog 215 [v,.string t] fz [] (fun v fz' H'=>H'=[]∧∃ A c,v=.slice A (m+1) c∧Sl strL fz' A (m+1) c (chN l m t)):=by
 obtain ⟨gf,gm,rfl,h1,h2⟩:=h
 refine zF Tryz.func215 Tryz.ntmps215 (fun w0=>?_)
 refine zV ?_;intros
 refine Yb Zz (Yc T (cs:=[.string t]) Zz Zz Zz Zz Zz Zz Zz Zz (fun gb=>?_))
 refine zV ?_;intros
 refine Yk (fun q σ fz' H'=>∃ (k n:Nat) (a:Bs) (vo:Value) (Ho:HP) (out:List Bs),k≤m∧q=m - k∧n=k+1∧σ=[(5,vo),(0,.pointer (some ⟨gf,0,none⟩)),(1,.string a)]∧fz=fz'∧H'=Ho∧Short a∧upN l (m - k) a∧Grow strL 9 fz vo n Ho (out++ [a])∧out++chN l (m - k) a=chN l m t)
  ⟨0,1,t,_,_,[],Z0 _,rfl,rfl,rfl,rfl,rfl,ht,hu,Grow.block (ys:=[(t,[.string t])]) rfl rfl (by intro p hp;simp only [List.mem_singleton] at hp;subst hp;exact ⟨rfl,ht⟩) rfl Zh,rfl⟩ Zw Zb ?_
 rintro q σ fz' H' ⟨k,n,a,vo,Ho,out,hk,rfl,rfl,rfl,rfl,rfl,ha,hua,hG,hh⟩
 obtain ⟨Ao,co,rfl,_,_⟩:=hG.form
 refine zV ?_;intros
 refine zC (fun c1=>?_) (fun c1=>?_)
 ·have e1:m - k=(m - (k+1))+1:=by
   have:m - k≠0:=fun h0=>by rw [h0] at hua;exact c1 hua
   omega
  rw [e1] at hua hh
  refine zV ?_;intros
  refine zG ?_;refine Wi T Zz Zz Zz Zz Zz Zz Zz h2 YfY ?_
  rw [show (tyF l a).getD ⟨#[]⟩=upT l a from rfl]
  have hsu:=YkL hs (t:=a)
  refine zV ?_;intros
  refine Yb Zz (Yc T (cs:=[.string (upT l a)]) Zz Zz Zz Zz Zz Zz Zz Zz (fun gc=>?_))
  refine Yb Zz (YK T (Hr:=[_]) (d:=upT l a) Zz Zz Zz Zz Zz Zz Zz Zz (Zr _) hG YbM (.head _) ⟨rfl,hsu⟩ (by show _*16≤_;omega) Zi (fun v' Hs' hO'=>?_))
  obtain ⟨Av',cv',rfl,_,_⟩:=hO'.form
  refine zV ?_;intros
  exact YA ⟨k+1,_,upT l a,_,Hs',out++ [a],by omega,rfl,rfl,rfl,rfl,rfl,hsu,hua.2,hO',by rw [← hh,chN];simp⟩ Zi Zw Zb
 ·have e1:m - k=0:=by
   cases hd:m - k with
   | zero=>rfl
   | succ j=>rw [hd] at hua;exact absurd c1 hua.1
  rw [e1] at hh
  have hkm:k=m:=by omega
  subst hkm
  refine zV ?_;intros
  refine YdP rfl rfl (fun fz3 hle3 hf3=>?_)
  obtain ⟨A',c',he,hsl⟩:=hG.sl hle3 hf3 Zi
  injection he with x1 x2 x3
  subst x1 x3
  exact ⟨rfl,_,_,rfl,by rw [← hh];exact hsl⟩
def WFT (l:List Param):Prop:=(∀ p∈l,Short p.typ)∧∀ t,HasT l t→∃ m,m≤1000∧upN l m t
def IsT (l:List Param) (a b:Bs):Prop:=HasT l a∧HasT l b∧∃ m,upN l m a∧b∈chN l m a
theorem YlT {l:List Param} {a b:Bs} {m:Nat} (h:upN l m a):(∃ m,upN l m a∧b∈chN l m a)↔b∈chN l m a:=
 ⟨fun ⟨k,h1,h2⟩=>by rw [YkM h h1];exact h2,fun h2=>⟨m,h,h2⟩⟩
theorem is_q {l:List Param} {a b:Bs} (h:ForR fz v l) (hw:WFT l) (ha:Short a):QFn prog 195 [v,.string a,.string b] fz (.bool (decide (IsT l a b))):=by
 have h0:=h
 obtain ⟨gf,gm,rfl,h1,h2⟩:=h
 refine GFn.quiet ?_
 refine zF Tryz.func195 Tryz.ntmps195 (fun w0=>?_)
 refine zV ?_;intros
 refine zb (has_q h0) (fun f1=>?_) (fun f1=>?_)
 ·have hA:=Zt f1
  refine zV ?_;intros
  refine zb (has_q h0) (fun f2=>?_) (fun f2=>?_)
  ·have hB:=Zt f2
   obtain ⟨m,hm,hu⟩:=hw.2 a hA
   refine zV ?_;intros
   refine Seq.guard_yesK Zz Zz Zz (Yl [] _ Zz Zz Zz (above_q h0 hw.1 ha Zi hu) (fun v6 fz6 H6 hle6 hR6=>?_))
   obtain ⟨rfl,B6,cc6,rfl,hs6⟩:=hR6
   refine zV ?_;intros
   refine zb (YeZ (x:=b) hs6) (fun f3=>?_) (fun f3=>?_)
   ·refine zV ?_;intros
    exact ret1 rfl rfl Zb (YC ⟨hA,hB,(YlT hu).2 (Zt f3)⟩)
   ·refine zV ?_;intros
    exact ret1 rfl rfl Zb (Ym (fun h=>Zf f3 ((YlT hu).1 h.2.2)))
  ·refine zV ?_;intros
   exact ret1 rfl rfl Zb (Ym (fun h=>Zf f2 h.2.1))
 ·refine zV ?_;intros
  exact ret1 rfl rfl Zb (Ym (fun h=>Zf f1 h.1))
def ofT (l:List Param) (t:Bs) (os:List Param):List Bs:=(os.filter fun o=>decide (IsT l o.typ t)).map (·.name)
variable {A:Option Addr} {c n:Nat}
set_option maxHeartbeats 1000000 in
theorem of_q {l os:List Param} {t:Bs} (h:ForR fz v l) (hw:WFT l) (ho:Sl paramL fz A n c os) (hn:n≤1000000000):
 GFn prog 156 [v,.slice A n c,.string t] fz [] (fun v fz' H'=>H'=[]∧∃ B m cc,v=.slice B m cc∧Sl strL fz' B m cc (ofT l t os)):=by
 have h0:=h
 obtain ⟨gf,gm,rfl,h1,h2⟩:=h
 have lo:=ho.len
 have so:=ho.short
 refine zF Tryz.func156 Tryz.ntmps156 (fun w0=>?_)
 refine zV ?_;intros
 refine Yk (fun q σ fz' H'=>∃ (k m:Nat) (vo:Value) (Ho:HP),k≤n∧q=n - k∧m≤k∧σ=[(12,.int .i64 k),(11,.int .i64 n),(10,.slice A n c),(7,vo),(0,.pointer (some ⟨gf,0,none⟩)),(2,.string t)]∧Le fz fz'∧H'=Ho∧Grow strL 9 fz' vo m Ho (ofT l t (os.take k)))
  ⟨0,0,_,[],Z0 _,rfl,Zs _,rfl,Le.refl _,rfl,Grow.nil _ _ _⟩ Zw Zb ?_
 rintro q σ fz' H' ⟨k,m,vo,Ho,hk,rfl,hmk,rfl,hlk,rfl,hG⟩
 obtain ⟨Ao,co,rfl,_,_⟩:=hG.form
 have ok:=ho.mono hlk
 refine zV ?_;intros
 refine zC (fun c1=>?_) (fun c1=>?_)
 ·obtain ⟨x,hx⟩:=Yg (l:=os) (k:=k) Zi
  refine zV ?_;intros
  refine zI ok hx (fun p hp=>?_)
  refine zL hp ?_
  intro cs hcs
  obtain ⟨rfl,hR⟩:=YT hcs
  refine zV ?_;intros
  refine zb (is_q (h0.mono hlk) hw hR.typ) (fun f1=>?_) (fun f1=>?_)
  ·have e1:ofT l t (os.take (k+1))=ofT l t (os.take k)++ [x.name]:=by
    rw [List.take_add_one,hx]
    simp [ofT,Zt f1]
   refine zV ?_;intros
   refine Yb Zz (Yc T (cs:=[.string x.name]) Zz Zz Zz Zz Zz Zz Zz Zz (fun gc=>?_))
   refine Yb Zz (YK T (Hr:=[_,_]) (d:=x.name) Zz Zz Zz Zz Zz Zz Zz Zz (Zr _) hG YbM (.head _) ⟨rfl,hR.name⟩ (by show _*16≤_;omega) Zi (fun v' Hs' hO'=>?_))
   obtain ⟨Av',cv',rfl,_,_⟩:=hO'.form
   refine zV ?_;intros
   exact YA ⟨k+1,m+1,_,Hs',by omega,rfl,by omega,rfl,hlk,rfl,hO'.of e1.symm rfl⟩ Zi Zw Zb
  ·have e1:ofT l t (os.take (k+1))=ofT l t (os.take k):=by
    rw [List.take_add_one,hx]
    simp [ofT,Zf f1]
   refine zV ?_;intros
   exact YA ⟨k+1,m,_,_,by omega,rfl,by omega,rfl,hlk,rfl,hG.of e1.symm rfl⟩ Zi Zw Zb
 ·have hk1:n=k:=by omega
  subst hk1
  rw [show os.take n=os from Zl Zi] at hG
  refine zV ?_;intros
  refine YdP rfl rfl (fun fz3 hle3 hf3=>?_)
  obtain ⟨A',c',he,hsl⟩:=hG.sl hle3 hf3 Zi
  injection he with x1 x2 x3
  subst x1 x3
  exact ⟨rfl,_,_,_,rfl,hsl⟩
end Go.Proofs.YtbnpeechpebmeaaGreatDoor
namespace Go.Proofs.YtbnpeechpebmeaaGreatDoor
open Go.Lx Go.RowKit
open Go.Proofs.Tryz (prog)
def kNumber:Bs:=⟨#[110,117,109,98,101,114]⟩
def kFluent:Bs:=⟨#[102,108,117,101,110,116]⟩
def SxIs (fz:FZ) (v:Value) (x:Sexpr):Prop:=∃ cs,v=.agg (List.toArray cs)∧YL.rep fz x cs
variable {fz fz':FZ} {v:Value}
theorem SxIs.mono (h:Le fz fz') {x:Sexpr} (hs:SxIs fz v x):SxIs fz' v x:=by
 obtain ⟨cs,e,hr⟩:=hs
 exact ⟨cs,e,YL.mono h hr⟩
def YH (l:List Sexpr):Sexpr:=.mk 3 0 0 0 ⟨#[]⟩ l
def numE (n:Int):Sexpr:=.mk 2 n 0 0 ⟨#[]⟩ []
def XT (f:Bs) (l:List Bs):Sexpr:=YH (Yh f::l.map Yh)
theorem XH:I64 0:=by unfold I64;omega
theorem i64_2:I64 2:=by unfold I64;omega
theorem YeI:I64 3:=by unfold I64;omega
theorem Y5:Short ⟨#[]⟩:=by unfold Short;decide
variable {A:Option Addr} {c n:Nat}
theorem Wu {l:List Sexpr} (h:Sl YL fz A n c l):SxIs fz (sxV 3 0 ⟨#[]⟩ (.slice A n c)) (YH l):=
 ⟨_,rfl,Yi (x:=YH l) ⟨YeI,XH,XH,XH,Y5,h.is⟩⟩
theorem numE_is {n:Int} (h:I64 n):SxIs fz (sxV 2 n ⟨#[]⟩ (.slice none 0 0)) (numE n):=
 ⟨_,rfl,Yi (x:=numE n) ⟨i64_2,h,XH,XH,Y5,IsSl.nil⟩⟩
inductive EShape:Lx.Expr→Prop
 | num {e:Lx.Expr} (h:e.op=kNumber):EShape e
 | flu {e:Lx.Expr} (h:e.op=kFluent) (hn:e.args.length≤1000000000):EShape e
 | bin {e a b:Lx.Expr} (h1:e.op≠kNumber) (h2:e.op≠kFluent) (hk:e.kids=[a,b]) (ha:EShape a) (hb:EShape b):EShape e
def X9:Nat→Lx.Expr→Sexpr
 | 0,_=>numE 0
 | s+1,e=>open Classical in if e.op=kNumber then numE e.n else if e.op=kFluent then XT e.name e.args else YH (Yh e.op::e.kids.map (X9 s))
set_option maxHeartbeats 1000000 in
theorem Yci:∀ (s:Nat) {fz:FZ} {e:Lx.Expr} {va vk:Value},SizeOf.sizeOf e≤s→ExprR fz e va vk→EShape e→
 GFn prog 142 [.agg #[.string e.op,.string e.name,.int .i64 e.n,va,vk]] fz [] (fun v fz' H'=>H'=[]∧SxIs fz' v (X9 s e))
 | 0,_,e,_,_,hs,_,_=>by cases e;simp at hs
 | s+1,fz,e,va,vk,hs,h,hE=>by
  obtain ⟨A,n,c,rfl,ha⟩:=h.args
  obtain ⟨B,m,d,rfl,hk⟩:=h.kids
  refine zF Tryz.func142 Tryz.ntmps142 (fun w0=>?_)
  refine Yp (Yq (Yb Zz (Y3 _ Zz Zz (fun g0=>?_))))
  refine zW ?_;intros
  rename_i g1
  refine zC (fun x1=>?_) (fun y1=>?_)
  ·refine zW ?_;intros
   refine Y1 T (i:=0) rfl Zz Zz Zz Zz Zz (fun fz3 hle3 hf3=>⟨rfl,?_⟩)
   rw [X9,if_pos (show e.op=kNumber from x1)]
   exact numE_is h.n
  ·refine zW ?_;intros
   refine zC (fun x2=>?_) (fun y2=>?_)
   ·have hn:e.args.length≤1000000000:=by
     cases hE with
     | num h=>exact absurd h y1
     | flu _ hn=>exact hn
     | bin _ h2=>exact absurd x2 h2
    refine zW ?_;intros
    refine Yb Zz (Yl [] [_,_] Zz Zz Zz (Ygp (f0:=e.name) h.name ha (by rw [← ha.len];exact hn)) (fun v fz2 H2 hle2 hR=>?_))
    obtain ⟨rfl,C,mm,cc,rfl,hsl⟩:=hR
    unfold sxV
    refine zW ?_;intros
    refine Y1 T (i:=0) rfl Zz Zz Zz Zz Zz (fun fz3 hle3 hf3=>⟨rfl,?_⟩)
    rw [X9,if_neg (show ¬e.op=kNumber from y1),if_pos (show e.op=kFluent from x2)]
    exact (Wu hsl).mono hle3
   ·obtain ⟨a,b,hab,hsa,hsb⟩:∃ a b,e.kids=[a,b]∧EShape a∧EShape b:=by
     cases hE with
     | num h=>exact absurd h y1
     | flu h _=>exact absurd h y2
     | bin _ _ hk ha hb=>exact ⟨_,_,hk,ha,hb⟩
    have la:=Lx.Expr.kids_lt (x:=e) (k:=a) (by rw [hab];simp)
    have lb:=Lx.Expr.kids_lt (x:=e) (k:=b) (by rw [hab];simp)
    have l2:=hk.len
    rw [hab] at l2
    simp at l2
    subst l2
    refine zW ?_;intros
    refine Wp.drawK (Hq:=[_,_]) T.mixed Zj Zj Zb ?_
    refine zW ?_;intros
    refine Ye ?_
    refine zW ?_;intros
    ((refine zG ?_);refine Yam T 0 Zz Zz Zz Zz Zz Zz hk (by first | rfl | omega) (by rw [hab];rfl:e.kids[0]?=some a) (fun p hp=>?_))
    refine zL hp ?_
    intro cs hcs
    obtain ⟨wa,wk,rfl,hRa⟩:=YP hcs
    refine Ye ?_
    refine zW ?_;intros
    ((refine zG ?_);refine Yam T 1 Zz Zz Zz Zz Zz Zz hk (by first | rfl | omega) (by rw [hab];rfl:e.kids[1]?=some b) (fun p2 hp2=>?_))
    refine zL hp2 ?_
    intro cs2 hcs2
    obtain ⟨za,zk,rfl,hRb⟩:=YP hcs2
    refine Ye ?_
    refine Ye ?_
    refine Ye ?_
    refine Ye ?_
    refine YD ⟨by kernel_rfl,?_⟩
    refine Ch.qk (⟨Le.refl _,Zx⟩) (YB Zz Zz (YaJ (s:=e.op)) ?_)
    refine Yj (Yl [] [_,_] Zz Zz Zz (Yci s (e:=a) Zi hRa hsa) (fun v2 fz2 H2 hle2 hR2=>?_))
    obtain ⟨rfl,cs3,rfl,hr3⟩:=hR2
    obtain ⟨vk3,rfl,hR3⟩:=YG hr3
    refine ⟨(⟨hle2,Zp2⟩),?_⟩
    refine Yj (Yl [] [_,_] Zz Zz Zz (Yci s (e:=b) Zi (hRb.mono hle2) hsb) (fun v4 fz4 H4 hle4 hR4=>?_))
    obtain ⟨rfl,cs5,rfl,hr5⟩:=hR4
    obtain ⟨vk5,rfl,hR5⟩:=YG hr5
    refine ⟨(⟨(hle2.trans hle4),Zp2⟩),?_⟩
    refine Yj (Yc T (cs:=Yr e.op++ [.int .i64 (X9 s a).kind,.int .i64 (X9 s a).value,.int .i64 (X9 s a).line,.int .i64 (X9 s a).column,.string (X9 s a).text,vk3]++ [.int .i64 (X9 s b).kind,.int .i64 (X9 s b).value,.int .i64 (X9 s b).line,.int .i64 (X9 s b).column,.string (X9 s b).text,vk5]) Zz Zz Zz Zz Zz Zz Zz Zz (fun gb=>⟨(⟨(hle2.trans hle4),Zp3⟩),?_⟩))
    refine Ch.qk (⟨(hle2.trans hle4),Zp3⟩) (YB Zz Zz YbU ?_)
    unfold sxV
    refine Ch.hard0 Zj (YZ T Zz Zz Zz Zz Zz Zz ?_)
    refine Ch.done ?_
    refine zW ?_;intros
    refine Y1 T (i:=1) rfl Zz Zz Zz Zz Zz (fun fz3 hle3 hf3=>⟨rfl,?_⟩)
    rw [X9,if_neg (show ¬e.op=kNumber from y1),if_neg (show ¬e.op=kFluent from y2),hab]
    obtain ⟨A',c',he,hsl⟩:=Yf1 (β:={p:Sexpr × List Value // p.2.length=6}) (L:=YL) (f:=fun p=>p.1.2) (g:=fun p=>p.1.1) (e:=74) (n:=3) (v:=.slice (some ⟨gb,0,none⟩) 3 3)
     (l:=[⟨(Yh e.op,Yr e.op),rfl⟩,⟨(X9 s a,[.int .i64 (X9 s a).kind,.int .i64 (X9 s a).value,.int .i64 (X9 s a).line,.int .i64 (X9 s a).column,.string (X9 s a).text,vk3]),rfl⟩,⟨(X9 s b,[.int .i64 (X9 s b).kind,.int .i64 (X9 s b).value,.int .i64 (X9 s b).line,.int .i64 (X9 s b).column,.string (X9 s b).text,vk5]),rfl⟩]) (fun p=>p.2) (OwnS.of_block (size:=6) rfl Zh) (fun p hp=>hf3 p (by simp at hp;subst hp;exact .head _)) rfl Zh (fun x hx=>by
      simp only [List.mem_cons,List.not_mem_nil,or_false] at hx
      rcases hx with rfl | rfl | rfl
      ·exact Yv h.op
      ·exact Yi (x:=X9 s a) (hR3.mono (hle4.trans hle3))
      ·exact Yi (x:=X9 s b) (hR5.mono hle3))
    injection he with he1 he2 he3
    subst he1 he3
    exact Wu hsl
theorem Ydu:∀ (s s':Nat) (e:Lx.Expr),SizeOf.sizeOf e≤s→SizeOf.sizeOf e≤s'→X9 s e=X9 s' e
 | 0,_,e,h,_=>by cases e;simp at h
 | _+1,0,e,_,h=>by cases e;simp at h
 | s+1,s'+1,e,h,h'=>by
  have hk:e.kids.map (X9 s)=e.kids.map (X9 s'):=List.map_congr_left (fun k hk=>Ydu s s' k (by have:=Lx.Expr.kids_lt hk;omega) (by have:=Lx.Expr.kids_lt hk;omega))
  simp only [X9,hk]
def XN (e:Lx.Expr):Sexpr:=X9 (SizeOf.sizeOf e) e
open Classical in
theorem exprX_eq (e:Lx.Expr):XN e=if e.op=kNumber then numE e.n else if e.op=kFluent then XT e.name e.args else YH (Yh e.op::e.kids.map XN):=by
 have hk:e.kids.map (X9 (SizeOf.sizeOf e))=e.kids.map XN:=List.map_congr_left (fun k hk=>Ydu _ _ k (by have:=Lx.Expr.kids_lt hk;omega) (Zs _))
 rw [XN,Ydu _ (SizeOf.sizeOf e+1) e (Zs _) Zi,X9,hk]
variable {va vk:Value}
theorem We {e:Lx.Expr} (h:ExprR fz e va vk) (hE:EShape e):
 GFn prog 142 [.agg #[.string e.op,.string e.name,.int .i64 e.n,va,vk]] fz [] (fun v fz' H'=>H'=[]∧SxIs fz' v (XN e)):=Yci _ (Zs _) h hE
def kAtom:Bs:=⟨#[97,116,111,109]⟩
def kSame:Bs:=⟨#[115,97,109,101]⟩
def kEq:Bs:=⟨#[61]⟩
def kLt:Bs:=⟨#[60]⟩
def kLe:Bs:=⟨#[60,61]⟩
def kAnd:Bs:=⟨#[97,110,100]⟩
def kForall:Bs:=⟨#[102,111,114,97,108,108]⟩
def kExists:Bs:=⟨#[101,120,105,115,116,115]⟩
def CmpOp (s:Bs):Prop:=s=kLt∨s=kLe∨s=kEq
inductive FShape:Formula→Prop
 | atom {f:Formula} (h:f.op=kAtom∨f.op=kSame) (hn:f.args.length≤1000000000):FShape f
 | cmp {f:Formula} {a b:Lx.Expr} (h:CmpOp f.op) (he:f.exprs=[a,b]) (ha:EShape a) (hb:EShape b):FShape f
 | other {f:Formula} (h0:f.op≠kAtom) (h1:f.op≠kSame) (h2:¬CmpOp f.op) (hp:f.params.length≤1000000000) (hn:f.kids.length≤1000000000) (hk:∀ k∈f.kids,FShape k):FShape f
open Classical in
def YaK:Nat→Formula→Sexpr
 | 0,_=>numE 0
 | s+1,f=>if f.op=kAtom then XT f.name f.args else if f.op=kSame then XT kEq f.args else if CmpOp f.op then YH (Yh f.op::f.exprs.map XN)
  else YH ((if f.op≠kAnd∨f.kids≠ [] then [Yh f.op] else [])++(if f.op=kForall∨f.op=kExists then [YH ((f.params.flatMap WX).map Yh)] else [])++f.kids.map (YaK s))
theorem Yds:∀ (s s':Nat) (f:Formula),SizeOf.sizeOf f≤s→SizeOf.sizeOf f≤s'→YaK s f=YaK s' f
 | 0,_,e,h,_=>by cases e;simp at h
 | _+1,0,e,_,h=>by cases e;simp at h
 | s+1,s'+1,e,h,h'=>by
  have hk:e.kids.map (YaK s)=e.kids.map (YaK s'):=List.map_congr_left (fun k hk=>Yds s s' k (by have:=Formula.kids_lt hk;omega) (by have:=Formula.kids_lt hk;omega))
  simp only [YaK,hk]
theorem Yee {fz3:FZ} {gb:Nat} {o:Bs} {X Y:Sexpr} {vk3 vk5:Value} (ho:Short o) (hg:fz3 gb=some (.cells (Yr o++ [.int .i64 X.kind,.int .i64 X.value,.int .i64 X.line,.int .i64 X.column,.string X.text,vk3]++ [.int .i64 Y.kind,.int .i64 Y.value,.int .i64 Y.line,.int .i64 Y.column,.string Y.text,vk5]).toArray 74 (0,0))) (hX:XU fz3 X vk3) (hY:XU fz3 Y vk5):
 SxIs fz3 (sxV 3 0 ⟨#[]⟩ (.slice (some ⟨gb,0,none⟩) 3 3)) (YH [Yh o,X,Y]):=by
 obtain ⟨A',c',he,hsl⟩:=Yf1 (β:={p:Sexpr × List Value // p.2.length=6}) (L:=YL) (f:=fun p=>p.1.2) (g:=fun p=>p.1.1) (e:=74) (n:=3) (v:=.slice (some ⟨gb,0,none⟩) 3 3) (fz':=fz3)
  (l:=[⟨(Yh o,Yr o),rfl⟩,⟨(X,[.int .i64 X.kind,.int .i64 X.value,.int .i64 X.line,.int .i64 X.column,.string X.text,vk3]),rfl⟩,⟨(Y,[.int .i64 Y.kind,.int .i64 Y.value,.int .i64 Y.line,.int .i64 Y.column,.string Y.text,vk5]),rfl⟩]) (fun p=>p.2) (OwnS.of_block (size:=6) rfl Zh) (fun p hp=>by simp at hp;subst hp;exact hg) rfl Zh (fun x hx=>by
   simp only [List.mem_cons,List.not_mem_nil,or_false] at hx
   rcases hx with rfl | rfl | rfl
   ·exact Yv ho
   ·exact Yi (x:=X) hX
   ·exact Yi (x:=Y) hY)
 injection he with he1 he2 he3
 subst he1 he3
 exact Wu hsl
variable {f:Formula}
theorem Ymk (hF:FShape f) (hc:CmpOp f.op):∃ a b,f.exprs=[a,b]∧EShape a∧EShape b:=by
 cases hF with
 | atom h0=>
  rcases h0 with h0 | h0<;>rw [h0] at hc<;>rcases hc with hc | hc | hc<;>exact absurd (congrArg ByteArray.size hc) Zh
 | cmp _ he ha hb=>exact ⟨_,_,he,ha,hb⟩
 | other _ _ h2=>exact absurd hc h2
set_option maxHeartbeats 2000000 in
theorem YkC:∀ (s:Nat) {fz:FZ} {f:Formula} {va vp ve vk:Value},SizeOf.sizeOf f≤s→FormulaR fz f va vp ve vk→FShape f→
 GFn prog 87 [.agg #[.string f.op,.string f.name,va,vp,ve,vk]] fz [] (fun v fz' H'=>H'=[]∧SxIs fz' v (YaK s f))
 | 0,_,f,_,_,_,_,hs,_,_=>by cases f;simp at hs
 | s+1,fz,f,va,vp,ve,vk,hs,h,hF=>by
  obtain ⟨A,n,c,rfl,ha⟩:=h.args
  obtain ⟨B,m,d,rfl,hp⟩:=h.params
  obtain ⟨C,r,cr,rfl,he⟩:=h.exprs
  obtain ⟨D,q,cq,rfl,hk⟩:=h.kids
  refine zF Tryz.func87 Tryz.ntmps87 (fun w0=>?_)
  refine Yp (Yq (Yb Zz (Y3 _ Zz Zz (fun g0=>?_))))
  refine zW ?_;intros
  rename_i g1
  refine zC (fun x1=>?_) (fun y1=>?_)
  ·have hn:f.args.length≤1000000000:=by
    cases hF with
    | atom _ hn=>exact hn
    | cmp hc=>rw [show f.op=kAtom from x1] at hc;rcases hc with hc | hc | hc<;>exact absurd (congrArg ByteArray.size hc) Zh
    | other h0=>exact absurd x1 h0
   refine zW ?_;intros
   refine Yb Zz (Yl [] [_,_] Zz Zz Zz (Ygp (f0:=f.name) h.name ha (by rw [← ha.len];exact hn)) (fun v fz2 H2 hle2 hR=>?_))
   obtain ⟨rfl,C,mm,cc,rfl,hsl⟩:=hR
   unfold sxV
   refine zW ?_;intros
   refine Y1 T (i:=0) rfl Zz Zz Zz Zz Zz (fun fz3 hle3 hf3=>⟨rfl,?_⟩)
   rw [YaK,if_pos (show f.op=kAtom from x1)]
   exact (Wu hsl).mono hle3
  ·refine zW ?_;intros
   refine zC (fun x2=>?_) (fun y2=>?_)
   ·have hn:f.args.length≤1000000000:=by
     cases hF with
     | atom _ hn=>exact hn
     | cmp hc=>rw [show f.op=kSame from x2] at hc;rcases hc with hc | hc | hc<;>exact absurd (congrArg ByteArray.size hc) Zh
     | other _ h1=>exact absurd x2 h1
    refine zW ?_;intros
    refine Yb Zz (Yl [] [_,_] Zz Zz Zz (Ygp (f0:=kEq) (by unfold Short kEq;decide) ha (by rw [← ha.len];exact hn)) (fun v fz2 H2 hle2 hR=>?_))
    obtain ⟨rfl,C,mm,cc,rfl,hsl⟩:=hR
    unfold sxV
    refine zW ?_;intros
    refine Y1 T (i:=0) rfl Zz Zz Zz Zz Zz (fun fz3 hle3 hf3=>⟨rfl,?_⟩)
    rw [YaK,if_neg (show ¬f.op=kAtom from y1),if_pos (show f.op=kSame from x2)]
    exact (Wu hsl).mono hle3
   ·refine zW ?_;intros
    refine zC (fun x3=>?_) (fun y3=>?_)
    ·have hcmp:CmpOp f.op:=.inl x3
     obtain ⟨a,b,hab,hsa,hsb⟩:=Ymk hF hcmp;have l2:=he.len;rw [hab] at l2;simp at l2;subst l2;refine zW ?_;intros;refine Wp.drawK (Hq:=[_,_]) T.mixed Zj Zj Zb ?_;refine zW ?_;intros;refine Ye ?_;refine zW ?_;intros;((refine zG ?_);refine Yam T 0 Zz Zz Zz Zz Zz Zz he (by first | rfl | omega) (by rw [hab];rfl:f.exprs[0]?=some a) (fun p hp0=>?_));refine zL hp0 ?_;intro cs hcs;obtain ⟨wa,wk,rfl,hRa⟩:=YP hcs;refine Ye ?_;refine zW ?_;intros;((refine zG ?_);refine Yam T 1 Zz Zz Zz Zz Zz Zz he (by first | rfl | omega) (by rw [hab];rfl:f.exprs[1]?=some b) (fun p2 hp2=>?_));refine zL hp2 ?_;intro cs2 hcs2;obtain ⟨za,zk,rfl,hRb⟩:=YP hcs2;refine Ye ?_;refine Ye ?_;refine Ye ?_;refine Ye ?_;refine YD ⟨by kernel_rfl,?_⟩
     refine Ch.qk (⟨Le.refl _,Zx⟩) (YB Zz Zz (YaJ (s:=f.op)) ?_);refine Yj (Yl [] [_,_] Zz Zz Zz (We hRa hsa) (fun v2 fz2 H2 hle2 hR2=>?_));obtain ⟨rfl,cs3,rfl,hr3⟩:=hR2;obtain ⟨vk3,rfl,hR3⟩:=YG hr3;refine ⟨(⟨hle2,Zp2⟩),?_⟩;refine Yj (Yl [] [_,_] Zz Zz Zz (We (hRb.mono hle2) hsb) (fun v4 fz4 H4 hle4 hR4=>?_));obtain ⟨rfl,cs5,rfl,hr5⟩:=hR4;obtain ⟨vk5,rfl,hR5⟩:=YG hr5;refine ⟨(⟨(hle2.trans hle4),Zp2⟩),?_⟩;refine Yj (Yc T (cs:=Yr f.op++ [.int .i64 (XN a).kind,.int .i64 (XN a).value,.int .i64 (XN a).line,.int .i64 (XN a).column,.string (XN a).text,vk3]++ [.int .i64 (XN b).kind,.int .i64 (XN b).value,.int .i64 (XN b).line,.int .i64 (XN b).column,.string (XN b).text,vk5]) Zz Zz Zz Zz Zz Zz Zz Zz (fun gb=>⟨(⟨(hle2.trans hle4),Zp3⟩),?_⟩));refine Ch.qk (⟨(hle2.trans hle4),Zp3⟩) (YB Zz Zz YbU ?_);unfold sxV;refine Ch.hard0 Zj (YZ T Zz Zz Zz Zz Zz Zz ?_);refine Ch.done ?_;refine zW ?_;intros;refine Y1 T (i:=1) rfl Zz Zz Zz Zz Zz (fun fz3 hle3 hf3=>⟨rfl,?_⟩);rw [YaK,if_neg (show ¬f.op=kAtom from y1),if_neg (show ¬f.op=kSame from y2),if_pos hcmp,hab];exact Yee h.op (hf3 _ (.head _)) (hR3.mono (hle4.trans hle3)) (hR5.mono hle3)
    ·refine zW ?_;intros
     refine zC (fun x4=>?_) (fun y4=>?_)
     ·have hcmp:CmpOp f.op:=.inr (.inl x4)
      obtain ⟨a,b,hab,hsa,hsb⟩:=Ymk hF hcmp;have l2:=he.len;rw [hab] at l2;simp at l2;subst l2;refine zW ?_;intros;refine Wp.drawK (Hq:=[_,_]) T.mixed Zj Zj Zb ?_;refine zW ?_;intros;refine Ye ?_;refine zW ?_;intros;((refine zG ?_);refine Yam T 0 Zz Zz Zz Zz Zz Zz he (by first | rfl | omega) (by rw [hab];rfl:f.exprs[0]?=some a) (fun p hp0=>?_));refine zL hp0 ?_;intro cs hcs;obtain ⟨wa,wk,rfl,hRa⟩:=YP hcs;refine Ye ?_;refine zW ?_;intros;((refine zG ?_);refine Yam T 1 Zz Zz Zz Zz Zz Zz he (by first | rfl | omega) (by rw [hab];rfl:f.exprs[1]?=some b) (fun p2 hp2=>?_));refine zL hp2 ?_;intro cs2 hcs2;obtain ⟨za,zk,rfl,hRb⟩:=YP hcs2;refine Ye ?_;refine Ye ?_;refine Ye ?_;refine Ye ?_;refine YD ⟨by kernel_rfl,?_⟩
      refine Ch.qk (⟨Le.refl _,Zx⟩) (YB Zz Zz (YaJ (s:=f.op)) ?_);refine Yj (Yl [] [_,_] Zz Zz Zz (We hRa hsa) (fun v2 fz2 H2 hle2 hR2=>?_));obtain ⟨rfl,cs3,rfl,hr3⟩:=hR2;obtain ⟨vk3,rfl,hR3⟩:=YG hr3;refine ⟨(⟨hle2,Zp2⟩),?_⟩;refine Yj (Yl [] [_,_] Zz Zz Zz (We (hRb.mono hle2) hsb) (fun v4 fz4 H4 hle4 hR4=>?_));obtain ⟨rfl,cs5,rfl,hr5⟩:=hR4;obtain ⟨vk5,rfl,hR5⟩:=YG hr5;refine ⟨(⟨(hle2.trans hle4),Zp2⟩),?_⟩;refine Yj (Yc T (cs:=Yr f.op++ [.int .i64 (XN a).kind,.int .i64 (XN a).value,.int .i64 (XN a).line,.int .i64 (XN a).column,.string (XN a).text,vk3]++ [.int .i64 (XN b).kind,.int .i64 (XN b).value,.int .i64 (XN b).line,.int .i64 (XN b).column,.string (XN b).text,vk5]) Zz Zz Zz Zz Zz Zz Zz Zz (fun gb=>⟨(⟨(hle2.trans hle4),Zp3⟩),?_⟩));refine Ch.qk (⟨(hle2.trans hle4),Zp3⟩) (YB Zz Zz YbU ?_);unfold sxV;refine Ch.hard0 Zj (YZ T Zz Zz Zz Zz Zz Zz ?_);refine Ch.done ?_;refine zW ?_;intros;refine Y1 T (i:=1) rfl Zz Zz Zz Zz Zz (fun fz3 hle3 hf3=>⟨rfl,?_⟩);rw [YaK,if_neg (show ¬f.op=kAtom from y1),if_neg (show ¬f.op=kSame from y2),if_pos hcmp,hab];exact Yee h.op (hf3 _ (.head _)) (hR3.mono (hle4.trans hle3)) (hR5.mono hle3)
     ·refine zW ?_;intros
      refine zC (fun x5=>?_) (fun y5=>?_)
      ·have hcmp:CmpOp f.op:=.inr (.inr x5)
       obtain ⟨a,b,hab,hsa,hsb⟩:=Ymk hF hcmp;have l2:=he.len;rw [hab] at l2;simp at l2;subst l2;refine zW ?_;intros;refine Wp.drawK (Hq:=[_,_]) T.mixed Zj Zj Zb ?_;refine zW ?_;intros;refine Ye ?_;refine zW ?_;intros;((refine zG ?_);refine Yam T 0 Zz Zz Zz Zz Zz Zz he (by first | rfl | omega) (by rw [hab];rfl:f.exprs[0]?=some a) (fun p hp0=>?_));refine zL hp0 ?_;intro cs hcs;obtain ⟨wa,wk,rfl,hRa⟩:=YP hcs;refine Ye ?_;refine zW ?_;intros;((refine zG ?_);refine Yam T 1 Zz Zz Zz Zz Zz Zz he (by first | rfl | omega) (by rw [hab];rfl:f.exprs[1]?=some b) (fun p2 hp2=>?_));refine zL hp2 ?_;intro cs2 hcs2;obtain ⟨za,zk,rfl,hRb⟩:=YP hcs2;refine Ye ?_;refine Ye ?_;refine Ye ?_;refine Ye ?_;refine YD ⟨by kernel_rfl,?_⟩
       refine Ch.qk (⟨Le.refl _,Zx⟩) (YB Zz Zz (YaJ (s:=f.op)) ?_);refine Yj (Yl [] [_,_] Zz Zz Zz (We hRa hsa) (fun v2 fz2 H2 hle2 hR2=>?_));obtain ⟨rfl,cs3,rfl,hr3⟩:=hR2;obtain ⟨vk3,rfl,hR3⟩:=YG hr3;refine ⟨(⟨hle2,Zp2⟩),?_⟩;refine Yj (Yl [] [_,_] Zz Zz Zz (We (hRb.mono hle2) hsb) (fun v4 fz4 H4 hle4 hR4=>?_));obtain ⟨rfl,cs5,rfl,hr5⟩:=hR4;obtain ⟨vk5,rfl,hR5⟩:=YG hr5;refine ⟨(⟨(hle2.trans hle4),Zp2⟩),?_⟩;refine Yj (Yc T (cs:=Yr f.op++ [.int .i64 (XN a).kind,.int .i64 (XN a).value,.int .i64 (XN a).line,.int .i64 (XN a).column,.string (XN a).text,vk3]++ [.int .i64 (XN b).kind,.int .i64 (XN b).value,.int .i64 (XN b).line,.int .i64 (XN b).column,.string (XN b).text,vk5]) Zz Zz Zz Zz Zz Zz Zz Zz (fun gb=>⟨(⟨(hle2.trans hle4),Zp3⟩),?_⟩));refine Ch.qk (⟨(hle2.trans hle4),Zp3⟩) (YB Zz Zz YbU ?_);unfold sxV;refine Ch.hard0 Zj (YZ T Zz Zz Zz Zz Zz Zz ?_);refine Ch.done ?_;refine zW ?_;intros;refine Y1 T (i:=1) rfl Zz Zz Zz Zz Zz (fun fz3 hle3 hf3=>⟨rfl,?_⟩);rw [YaK,if_neg (show ¬f.op=kAtom from y1),if_neg (show ¬f.op=kSame from y2),if_pos hcmp,hab];exact Yee h.op (hf3 _ (.head _)) (hR3.mono (hle4.trans hle3)) (hR5.mono hle3)
      ·refine zW ?_;intros
       have hc:¬CmpOp f.op:=fun h1=>h1.elim y3 (fun h1=>h1.elim y4 y5)
       obtain ⟨hpn,hkn,hks⟩:f.params.length≤1000000000∧f.kids.length≤1000000000∧∀ k∈f.kids,FShape k:=by
        cases hF with
        | atom h0=>exact (h0.elim y1 y2).elim
        | cmp h1=>exact absurd h1 hc
        | other _ _ _ h1 h2 h3=>exact ⟨h1,h2,h3⟩
       refine zc (YbU (A:=none) (n:=0) (c:=0)) ?_
       unfold sxV
       refine zWO ?_;intros
       rename_i g2
       have l4:=hk.len
       refine Yp (Wp.mid (fun σ fz' H'=>∃ (v:Value) (k:Nat) (Hs:HP),σ=[(3,.pointer (some ⟨g2,0,none⟩)),(2,.pointer (some ⟨g1,0,none⟩)),(1,.pointer (some ⟨g0,0,none⟩))]∧fz=fz'∧k≤1∧
        H'=(g2,.cells #[.int .i64 3,.int .i64 0,.int .i64 0,.int .i64 0,.string ⟨#[]⟩,v] 74 (0,0))::(g1,.cells #[.int .i64 0,.int .i64 0,.int .i64 0,.int .i64 0,.string ⟨#[]⟩,.slice none 0 0] 74 (0,0))::(g0,.cells #[.string f.op,.string f.name,.slice A n c,.slice B m d,.slice C r cr,.slice D q cq] 29 (0,0))::Hs∧
        Grow YL 74 fz' v k Hs (if f.op≠kAnd∨f.kids≠ [] then [Yh f.op] else [])) ?_ ?_)
       ·refine zW ?_;intros
        refine zC (fun z1=>?_) (fun z1=>?_)
        ·refine zW ?_;intros
         refine Wp.drawK (Hq:=[_,_,_]) T.mixed Zj Zj Zb ?_
         refine zW ?_;intros
         refine Ye ?_
         refine Ye ?_
         refine Ye ?_
         refine zW ?_;intros
         refine Ye ?_
         refine YD ⟨by kernel_rfl,?_⟩
         refine Ch.qk (⟨Le.refl _,Zx⟩) (YB Zz Zz (YaJ (s:=f.op)) ?_)
         refine Yj (Yc T (cs:=Yr f.op) Zz Zz Zz Zz Zz Zz Zz Zz (fun gb=>⟨(⟨Le.refl _,Zx⟩),?_⟩))
         refine Yj (YK T (Hr:=[_,_,_,_]) Zz Zz Zz Zz Zz Zz Zz Zz (Zr _) (Grow.nil YL 74 fz) Yu (.head _) (Yv h.op) Zh Zh (fun v' Hs' hO'=>⟨(⟨Le.refl _,Zx⟩),?_⟩))
         obtain ⟨Av',cv',rfl,_,_⟩:=hO'.form
         refine Ch.hard0 Zj (YZ T Zz Zz Zz Zz Zz Zz ?_)
         refine Ch.done ?_
         refine zW ?_;intros
         exact midN ⟨_,1,Hs',rfl,rfl,by omega,rfl,by rw [if_pos (.inl z1)];exact hO'⟩ Zw Zb
        ·refine zW ?_;intros
         refine zC (fun z2=>?_) (fun z2=>?_)
         ·have hkn0:f.kids≠ []:=fun h0=>by rw [h0] at l4;simp at l4;omega
          refine zW ?_;intros
          refine Wp.drawK (Hq:=[_,_,_]) T.mixed Zj Zj Zb ?_
          refine zW ?_;intros
          refine Ye ?_
          refine Ye ?_
          refine Ye ?_
          refine zW ?_;intros
          refine Ye ?_
          refine YD ⟨by kernel_rfl,?_⟩
          refine Ch.qk (⟨Le.refl _,Zx⟩) (YB Zz Zz (YaJ (s:=f.op)) ?_)
          refine Yj (Yc T (cs:=Yr f.op) Zz Zz Zz Zz Zz Zz Zz Zz (fun gb=>⟨(⟨Le.refl _,Zx⟩),?_⟩))
          refine Yj (YK T (Hr:=[_,_,_,_]) Zz Zz Zz Zz Zz Zz Zz Zz (Zr _) (Grow.nil YL 74 fz) Yu (.head _) (Yv h.op) Zh Zh (fun v' Hs' hO'=>⟨(⟨Le.refl _,Zx⟩),?_⟩))
          obtain ⟨Av',cv',rfl,_,_⟩:=hO'.form
          refine Ch.hard0 Zj (YZ T Zz Zz Zz Zz Zz Zz ?_)
          refine Ch.done ?_
          refine zW ?_;intros
          exact midN ⟨_,1,Hs',rfl,rfl,by omega,rfl,by rw [if_pos (.inr hkn0)];exact hO'⟩ Zw Zb
         ·have hkn0:f.kids=[]:=List.eq_nil_of_length_eq_zero Zi
          refine zW ?_;intros
          exact midN ⟨_,0,[],rfl,rfl,by omega,rfl,by rw [if_neg (by rintro (h0 | h0);exact h0 z1;exact h0 hkn0)];exact Grow.nil _ _ _⟩ Zw Zb
       ·rintro σ fz' H' ⟨v,k,Hs,rfl,rfl,hk1,rfl,hG⟩
        refine Yp (Wp.mid (fun σ fz' H'=>∃ (v:Value) (k:Nat) (Hs:HP),σ=[(3,.pointer (some ⟨g2,0,none⟩)),(2,.pointer (some ⟨g1,0,none⟩)),(1,.pointer (some ⟨g0,0,none⟩))]∧Le fz fz'∧k≤2∧
         H'=(g2,.cells #[.int .i64 3,.int .i64 0,.int .i64 0,.int .i64 0,.string ⟨#[]⟩,v] 74 (0,0))::(g1,.cells #[.int .i64 0,.int .i64 0,.int .i64 0,.int .i64 0,.string ⟨#[]⟩,.slice none 0 0] 74 (0,0))::(g0,.cells #[.string f.op,.string f.name,.slice A n c,.slice B m d,.slice C r cr,.slice D q cq] 29 (0,0))::Hs∧
         Grow YL 74 fz' v k Hs ((if f.op≠kAnd∨f.kids≠ [] then [Yh f.op] else [])++(if f.op=kForall∨f.op=kExists then [YH ((f.params.flatMap WX).map Yh)] else []))) ?_ ?_)
        ·obtain ⟨Av,cv,rfl,_,_⟩:=hG.form
         refine zW ?_;intros
         refine zC (fun w1=>?_) (fun w1=>?_)
         ·refine zW ?_;intros
          refine Wp.drawK (Hq:=[_,_,_]) T.mixed Zj Zj Zb ?_
          refine zW ?_;intros
          refine Ye ?_
          refine Ye ?_
          refine Ye ?_
          refine Ye ?_
          refine zW ?_;intros
          refine Ye ?_
          refine YD ⟨by kernel_rfl,?_⟩
          refine Yj (Yl [] _ Zz Zz Zz (YcG hp (by rw [← hp.len];exact hpn)) (fun v2 fz2 H2 hle2 hR2=>?_))
          obtain ⟨rfl,B2,cc2,rfl,hsl2⟩:=hR2
          refine ⟨(⟨hle2,Zx⟩),?_⟩
          refine Ch.qk (⟨hle2,Zx⟩) (YB Zz Zz YbU ?_)
          unfold sxV
          refine Yj (Yc T (cs:=[.int .i64 3,.int .i64 0,.int .i64 0,.int .i64 0,.string ⟨#[]⟩,.slice B2 (3*m) cc2]) Zz Zz Zz Zz Zz Zz Zz Zz (fun gb=>⟨(⟨hle2,Zx⟩),?_⟩))
          refine Yj (YK T (Hr:=[_,_,_,_]) (d:=YH ((f.params.flatMap WX).map Yh)) Zz Zz Zz Zz Zz Zz Zz Zz (Zr _) (hG.mono hle2) Yu (.head _) (Yi (x:=YH _) ⟨YeI,XH,XH,XH,Y5,hsl2.is⟩) (by show _*72≤_;omega) Zi (fun v' Hs' hO'=>⟨(⟨hle2,Zx⟩),?_⟩))
          obtain ⟨Av',cv',rfl,_,_⟩:=hO'.form
          refine Ch.hard0 Zj (YZ T Zz Zz Zz Zz Zz Zz ?_)
          refine Ch.done ?_
          refine zW ?_;intros
          exact midN ⟨_,k+1,Hs',rfl,hle2,by omega,rfl,by rw [if_pos (Or.inl w1:f.op=kForall∨f.op=kExists)];exact hO'⟩ Zw Zb
         ·refine zW ?_;intros
          refine zC (fun w2=>?_) (fun w2=>?_)
          ·refine zW ?_;intros
           refine Wp.drawK (Hq:=[_,_,_]) T.mixed Zj Zj Zb ?_
           refine zW ?_;intros
           refine Ye ?_
           refine Ye ?_
           refine Ye ?_
           refine Ye ?_
           refine zW ?_;intros
           refine Ye ?_
           refine YD ⟨by kernel_rfl,?_⟩
           refine Yj (Yl [] _ Zz Zz Zz (YcG hp (by rw [← hp.len];exact hpn)) (fun v2 fz2 H2 hle2 hR2=>?_))
           obtain ⟨rfl,B2,cc2,rfl,hsl2⟩:=hR2
           refine ⟨(⟨hle2,Zx⟩),?_⟩
           refine Ch.qk (⟨hle2,Zx⟩) (YB Zz Zz YbU ?_)
           unfold sxV
           refine Yj (Yc T (cs:=[.int .i64 3,.int .i64 0,.int .i64 0,.int .i64 0,.string ⟨#[]⟩,.slice B2 (3*m) cc2]) Zz Zz Zz Zz Zz Zz Zz Zz (fun gb=>⟨(⟨hle2,Zx⟩),?_⟩))
           refine Yj (YK T (Hr:=[_,_,_,_]) (d:=YH ((f.params.flatMap WX).map Yh)) Zz Zz Zz Zz Zz Zz Zz Zz (Zr _) (hG.mono hle2) Yu (.head _) (Yi (x:=YH _) ⟨YeI,XH,XH,XH,Y5,hsl2.is⟩) (by show _*72≤_;omega) Zi (fun v' Hs' hO'=>⟨(⟨hle2,Zx⟩),?_⟩))
           obtain ⟨Av',cv',rfl,_,_⟩:=hO'.form
           refine Ch.hard0 Zj (YZ T Zz Zz Zz Zz Zz Zz ?_)
           refine Ch.done ?_
           refine zW ?_;intros
           exact midN ⟨_,k+1,Hs',rfl,hle2,by omega,rfl,by rw [if_pos (Or.inr w2:f.op=kForall∨f.op=kExists)];exact hO'⟩ Zw Zb
          ·refine zW ?_;intros
           exact midN ⟨_,k,Hs,rfl,Le.refl _,by omega,rfl,by rw [if_neg (show ¬(f.op=kForall∨f.op=kExists) from fun h0=>h0.elim w1 w2),List.append_nil];exact hG⟩ Zw Zb
        ·rintro σ fz' H' ⟨v,k,Hs,rfl,hle,hk1,rfl,hG⟩
         generalize hbase:(if f.op≠kAnd∨f.kids≠ [] then [Yh f.op] else [])++(if f.op=kForall∨f.op=kExists then [YH ((f.params.flatMap WX).map Yh)] else [])=base at hG
         refine zW ?_;intros
         refine Yk (fun mm σ fz2 H'=>∃ (j:Nat) (v:Value) (k:Nat) (Hs:HP),j≤q∧mm=q - j∧σ=[(77,.int .i64 j),(76,.int .i64 q),(75,.slice D q cq),(3,.pointer (some ⟨g2,0,none⟩)),(2,.pointer (some ⟨g1,0,none⟩))]∧Le fz' fz2∧k≤2+j∧
          H'=(g2,.cells #[.int .i64 3,.int .i64 0,.int .i64 0,.int .i64 0,.string ⟨#[]⟩,v] 74 (0,0))::(g1,.cells #[.int .i64 0,.int .i64 0,.int .i64 0,.int .i64 0,.string ⟨#[]⟩,.slice none 0 0] 74 (0,0))::Hs∧Grow YL 74 fz2 v k Hs (base++(f.kids.take j).map (YaK s)))
          ⟨0,v,k,Hs,Z0 _,rfl,rfl,Le.refl _,by omega,rfl,by simpa using hG⟩ Zw Zb ?_
         rintro mm σ fz2 H' ⟨j,v,k,Hs,hj,rfl,rfl,hle2,hk2,rfl,hG⟩
         obtain ⟨Av,cv,rfl,_,_⟩:=hG.form
         have hk3:=hk.mono (hle.trans hle2)
         refine zW ?_;intros
         refine zC (fun c1=>?_) (fun c1=>?_)
         ·obtain ⟨x,hx⟩:=Yg (l:=f.kids) (k:=j) Zi
          have hxm:x∈f.kids:=Zm hx
          have hlt:=Formula.kids_lt hxm
          refine zW ?_;intros
          refine zI hk3 hx (fun p hp5=>?_)
          refine zL hp5 ?_
          intro cs hcs
          obtain ⟨wa,wp,we,wk,rfl,hRx⟩:=YM hcs
          obtain ⟨A1,n1,b1,rfl,_⟩:=hRx.args
          obtain ⟨A2,n2,b2,rfl,_⟩:=hRx.params
          obtain ⟨A3,n3,b3,rfl,_⟩:=hRx.exprs
          obtain ⟨A4,n4,b4,rfl,_⟩:=hRx.kids
          refine zW ?_;intros
          rename_i g5
          refine Wp.drawK (Hq:=[_,_,_]) T.mixed Zj Zj Zb ?_
          refine zW ?_;intros
          refine Ye ?_
          refine Ye ?_
          refine Ye ?_
          refine zW ?_;intros
          refine Ye ?_
          refine YD ⟨by kernel_rfl,?_⟩
          refine Yj (Yl [] _ Zz Zz Zz (YkC s (f:=x) Zi hRx (hks x hxm)) (fun v2 fz4 H2 hle4 hR2=>?_))
          obtain ⟨rfl,cs3,rfl,hr3⟩:=hR2
          obtain ⟨vk3,rfl,hR3⟩:=YG hr3
          refine ⟨(⟨hle4,Zx⟩),?_⟩
          refine Yj (Yc T (cs:=[.int .i64 (YaK s x).kind,.int .i64 (YaK s x).value,.int .i64 (YaK s x).line,.int .i64 (YaK s x).column,.string (YaK s x).text,vk3]) Zz Zz Zz Zz Zz Zz Zz Zz (fun gb=>⟨(⟨hle4,Zx⟩),?_⟩))
          refine Yj (YK T (Hr:=[_,_,_,_]) (d:=YaK s x) Zz Zz Zz Zz Zz Zz Zz Zz (Zr _) (hG.mono hle4) Yu (.head _) (Yi hR3) (by show _*72≤_;omega) Zi (fun v' Hs' hO'=>⟨(⟨hle4,Zx⟩),?_⟩))
          obtain ⟨Av',cv',rfl,_,_⟩:=hO'.form
          refine Ch.hard0 Zj (XK T Zz Zz Zz Zz Zz Zz ?_)
          refine Ch.done ?_
          refine zW ?_;intros
          exact YA ⟨j+1,_,k+1,Hs',by omega,rfl,rfl,hle2.trans hle4,by omega,rfl,by rw [List.take_add_one,hx,Option.toList,List.map_append,← List.append_assoc];exact hO'⟩ Zi Zw Zb
         ·have hj1:j=q:=by omega
          subst hj1
          refine zW ?_;intros
          refine Y1 T (i:=1) rfl Zz Zz Zz Zz Zz (fun fz3 hle3 hf3=>⟨rfl,?_⟩)
          rw [Zl Zi] at hG
          obtain ⟨A',c',he5,hsl⟩:=hG.sl hle3 (fun p hp=>hf3 p (by simp [hp])) Zi
          injection he5 with e1 e2 e3
          subst e1 e3
          rw [YaK,if_neg (show ¬f.op=kAtom from y1),if_neg (show ¬f.op=kSame from y2),if_neg hc,hbase]
          exact Wu hsl
def Y9 (f:Formula):Sexpr:=YaK (SizeOf.sizeOf f) f
open Classical in
theorem Yd3 (f:Formula):Y9 f=if f.op=kAtom then XT f.name f.args else if f.op=kSame then XT kEq f.args else if CmpOp f.op then YH (Yh f.op::f.exprs.map XN)
 else YH ((if f.op≠kAnd∨f.kids≠ [] then [Yh f.op] else [])++(if f.op=kForall∨f.op=kExists then [YH ((f.params.flatMap WX).map Yh)] else [])++f.kids.map Y9):=by
 have hk:f.kids.map (YaK (SizeOf.sizeOf f))=f.kids.map Y9:=List.map_congr_left (fun k hk=>Yds _ _ k (by have:=Formula.kids_lt hk;omega) (Zs _))
 rw [Y9,Yds _ (SizeOf.sizeOf f+1) f (Zs _) Zi,YaK,hk]
variable {ve vp:Value}
theorem YkB (h:FormulaR fz f va vp ve vk) (hF:FShape f):
 GFn prog 87 [.agg #[.string f.op,.string f.name,va,vp,ve,vk]] fz [] (fun v fz' H'=>H'=[]∧SxIs fz' v (Y9 f)):=YkC _ (Zs _) h hF
end Go.Proofs.YtbnpeechpebmeaaGreatDoor
namespace Go.Lx
def Yc0 (n:Int):Prop:= -1099511627776≤n∧n≤1099511627776
mutual
def ecount:Expr→Nat
 | .mk _ _ _ _ kids=>1+ecountL kids
def ecountL:List Expr→Nat
 | []=>0
 | k::r=>ecount k+ecountL r
end
mutual
def edepth:Expr→Nat
 | .mk _ _ _ _ kids=>1+edepthL kids
def edepthL:List Expr→Nat
 | []=>0
 | k::r=>max (edepth k) (edepthL r)
end
mutual
def fcount:Formula→Nat
 | .mk _ _ _ _ exprs kids=>1+ecountL exprs+fcountL kids
def fcountL:List Formula→Nat
 | []=>0
 | k::r=>fcount k+fcountL r
end
mutual
def fdepth:Formula→Nat
 | .mk _ _ _ _ exprs kids=>1+max (edepthL exprs) (fdepthL kids)
def fdepthL:List Formula→Nat
 | []=>0
 | k::r=>max (fdepth k) (fdepthL r)
end
mutual
def xcount:Sexpr→Nat
 | .mk _ _ _ _ _ kids=>1+xcountL kids
def xcountL:List Sexpr→Nat
 | []=>0
 | k::r=>xcount k+xcountL r
end
mutual
def xdepth:Sexpr→Nat
 | .mk kind _ _ _ _ kids=>xdepthL kids+(if kind=3 then 1 else 0)
def xdepthL:List Sexpr→Nat
 | []=>0
 | k::r=>max (xdepth k) (xdepthL r)
end
theorem YcT (e:Expr):ecount e=1+ecountL e.kids:=by cases e;simp [ecount,Expr.kids]
theorem YcS (e:Expr):edepth e=1+edepthL e.kids:=by cases e;simp [edepth,Expr.kids]
theorem YeV (f:Formula):fcount f=1+ecountL f.exprs+fcountL f.kids:=by cases f;simp [fcount,Formula.kids,Formula.exprs]
theorem YeU (f:Formula):fdepth f=1+max (edepthL f.exprs) (fdepthL f.kids):=by cases f;simp [fdepth,Formula.kids,Formula.exprs]
theorem Yd9 (x:Sexpr):xcount x=1+xcountL x.kids:=by cases x;simp [xcount,Sexpr.kids]
theorem Yd8 (x:Sexpr):xdepth x=xdepthL x.kids+(if x.kind=3 then 1 else 0):=by cases x;rw [xdepth];rfl
theorem YhS {l:List Expr} {x:Expr}:ecountL (l++ [x])=ecountL l+ecount x:=by
 induction l with
 | nil=>simp [ecountL]
 | cons a r ih=>simp only [List.cons_append,ecountL,ih];omega
theorem YhJ {l:List Formula} {x:Formula}:fcountL (l++ [x])=fcountL l+fcount x:=by
 induction l with
 | nil=>simp [fcountL]
 | cons a r ih=>simp only [List.cons_append,fcountL,ih];omega
theorem YgP {l:List Sexpr} {x:Sexpr}:xcountL (l++ [x])=xcountL l+xcount x:=by
 induction l with
 | nil=>simp [xcountL]
 | cons a r ih=>simp only [List.cons_append,xcountL,ih];omega
theorem Yfj {l m:List Expr}:ecountL (l++m)=ecountL l+ecountL m:=by
 induction l with
 | nil=>simp [ecountL]
 | cons a r ih=>simp only [List.cons_append,ecountL,ih];omega
theorem Yfh {l m:List Formula}:fcountL (l++m)=fcountL l+fcountL m:=by
 induction l with
 | nil=>simp [fcountL]
 | cons a r ih=>simp only [List.cons_append,fcountL,ih];omega
theorem Ycd {l m:List Sexpr}:xcountL (l++m)=xcountL l+xcountL m:=by
 induction l with
 | nil=>simp [xcountL]
 | cons a r ih=>simp only [List.cons_append,xcountL,ih];omega
theorem Ye9 {l m:List Sexpr}:xdepthL (l++m)=max (xdepthL l) (xdepthL m):=by
 induction l with
 | nil=>simp [xdepthL]
 | cons a r ih=>simp only [List.cons_append,xdepthL,ih];omega
theorem Yh9 {l:List Sexpr} {x:Sexpr} (h:x∈l):xcount x≤xcountL l:=by
 induction l with
 | nil=>cases h
 | cons a r ih=>
  simp only [xcountL]
  rcases List.mem_cons.1 h with rfl | h
  ·omega
  ·have:=ih h;omega
theorem YfJ {l:List Expr} {b:Nat}:edepthL l≤b↔∀ x∈l,edepth x≤b:=by
 induction l with
 | nil=>simp [edepthL]
 | cons a r ih=>simp only [edepthL,List.mem_cons,forall_eq_or_imp,Nat.max_le,ih]
theorem YfI {l:List Formula} {b:Nat}:fdepthL l≤b↔∀ x∈l,fdepth x≤b:=by
 induction l with
 | nil=>simp [fdepthL]
 | cons a r ih=>simp only [fdepthL,List.mem_cons,forall_eq_or_imp,Nat.max_le,ih]
theorem Yc5 {l:List Sexpr} {b:Nat}:xdepthL l≤b↔∀ x∈l,xdepth x≤b:=by
 induction l with
 | nil=>simp [xdepthL]
 | cons a r ih=>simp only [xdepthL,List.mem_cons,forall_eq_or_imp,Nat.max_le,ih]
variable {k:Nat}
theorem YhR {l:List Expr} {x:Expr} (hx:l[k]?=some x):ecountL (l.take (k+1))=ecountL (l.take k)+ecount x:=by
 rw [List.take_add_one,hx];simp only [Option.toList];exact YhS
theorem YhQ {l:List Expr}:ecountL (l.take k)≤ecountL l:=by
 have h:=Yfj (l:=l.take k) (m:=l.drop k)
 rw [List.take_append_drop] at h;omega
theorem YhI {l:List Formula} {x:Formula} (hx:l[k]?=some x):fcountL (l.take (k+1))=fcountL (l.take k)+fcount x:=by
 rw [List.take_add_one,hx];simp only [Option.toList];exact YhJ
theorem YhH {l:List Formula}:fcountL (l.take k)≤fcountL l:=by
 have h:=Yfh (l:=l.take k) (m:=l.drop k)
 rw [List.take_append_drop] at h;omega
theorem YgO {l:List Sexpr} {x:Sexpr} (hx:l[k]?=some x):xcountL (l.take (k+1))=xcountL (l.take k)+xcount x:=by
 rw [List.take_add_one,hx];simp only [Option.toList];exact YgP
theorem YgN {l:List Sexpr}:xcountL (l.take k)≤xcountL l:=by
 have h:=Ycd (l:=l.take k) (m:=l.drop k)
 rw [List.take_append_drop] at h;omega
mutual
/-- what holds of all parts -/
def EAll (p:Expr→Prop):Expr→Prop
 | .mk op name n args kids=>p (.mk op name n args kids)∧EAllL p kids
def EAllL (p:Expr→Prop):List Expr→Prop
 | []=>True
 | k::r=>EAll p k∧EAllL p r
end
mutual
def FAll (p:Formula→Prop) (q:Expr→Prop):Formula→Prop
 | .mk op name args params exprs kids=>p (.mk op name args params exprs kids)∧EAllL q exprs∧FAllL p q kids
def FAllL (p:Formula→Prop) (q:Expr→Prop):List Formula→Prop
 | []=>True
 | k::r=>FAll p q k∧FAllL p q r
end
mutual
def XAll (p:Sexpr→Prop):Sexpr→Prop
 | .mk kind value line column text kids=>p (.mk kind value line column text kids)∧XAllL p kids
def XAllL (p:Sexpr→Prop):List Sexpr→Prop
 | []=>True
 | k::r=>XAll p k∧XAllL p r
end
theorem Yh8 {p:Expr→Prop} {l:List Expr}:EAllL p l↔∀ k∈l,EAll p k:=by
 induction l with
 | nil=>simp [EAllL]
 | cons a r ih=>simp only [EAllL,ih,List.mem_cons,forall_eq_or_imp]
theorem YmJ {p:Formula→Prop} {q:Expr→Prop} {l:List Formula}:FAllL p q l↔∀ k∈l,FAll p q k:=by
 induction l with
 | nil=>simp [FAllL]
 | cons a r ih=>simp only [FAllL,ih,List.mem_cons,forall_eq_or_imp]
theorem YmE {p:Sexpr→Prop} {l:List Sexpr}:XAllL p l↔∀ k∈l,XAll p k:=by
 induction l with
 | nil=>simp [XAllL]
 | cons a r ih=>simp only [XAllL,ih,List.mem_cons,forall_eq_or_imp]
theorem YbH {p:Expr→Prop} {e:Expr}:EAll p e↔p e∧∀ k∈e.kids,EAll p k:=by cases e;simp only [EAll,Yh8,Expr.kids]
variable {f:Formula}
theorem Wv {p:Formula→Prop} {q:Expr→Prop}:FAll p q f↔p f∧(∀ e∈f.exprs,EAll q e)∧∀ k∈f.kids,FAll p q k:=by cases f;simp only [FAll,YmJ,Yh8,Formula.kids,Formula.exprs]
theorem Yaw {p:Sexpr→Prop} {x:Sexpr}:XAll p x↔p x∧∀ k∈x.kids,XAll p k:=by cases x;simp only [XAll,YmE,Sexpr.kids]
theorem Wt {P:Program} {cx:Cx} {r:Operand→Option Value} {fz:FZ} {H:HP} {V:Value→Prop} {dst:Option Nat} {ty:TypeId} {pos:String} {af:Array Edge} {gd:Option (Nat × Bool)} {f:FuncId} {ff:Operand} {xs:List Operand} {ats:Array TypeId} {us vs first capt:List Value} {p:Prop} [Decidable p] (hf:r ff=some (.func (.func f) first.toArray capt.toArray)) (hx:rds r xs=some us) (hv:first++us++capt=vs) (hq:QFn P f vs fz (.bool (decide p)))
 (h1:p→V (.bool true)) (h2:¬p→V (.bool false)):DoesQ P cx ⟨dst,.call {callee:=.value ff,args:=xs.toArray,argTypes:=ats},ty,pos,af,gd⟩ r fz H V:=
 YaG hf hx hv hq (YfX h1 h2)
end Go.Lx
namespace Go.Proofs.YtbnpeechpebmeaaGreatDoor
open Go.Lx Go.RowKit
attribute [local instance 10] Classical.propDecidable
open Go.Proofs.Tryz (prog)
theorem YjM {p:Prop} [Decidable p]:Value.bool (!decide p)=Value.bool (decide (¬p)):=by rw [decide_not]
variable {A:Option Addr} {c n:Nat} {fz:FZ}
theorem indexF_q {l:List Bs} {ff:FuncId} {p:Bs→Prop} [DecidablePred p] (h1:Sl strL fz A n c l) (hq:∀ x,Short x→QFn prog ff [.string x] fz (.bool (decide (p x)))):
 QFn prog 190 [.slice A n c,.func (.func ff) #[] #[]] fz (.int .i64 (WZ p l 0)):=by
 refine GFn.quiet ?_
 refine zF Tryz.func190 Tryz.ntmps190 (fun w0=>?_)
 have l1:=h1.len
 have hm:=h1.short
 refine zW ?_;intros
 refine Yk (fun q σ fz' H'=>∃ k:Nat,k≤n∧q=n - k∧σ=[(8,.int .i64 k),(7,.int .i64 n),(0,.slice A n c),(1,.func (.func ff) #[] #[])]∧fz=fz'∧H'=[]∧(∀ i,i<k→∀ x,l[i]?=some x→¬p x)) ⟨0,Z0 _,rfl,rfl,rfl,rfl,(fun i hi=>absurd hi Zi)⟩ Zw Zb ?_;rintro q σ fz' H' ⟨k,hk,rfl,rfl,rfl,rfl,hh⟩
 refine zW ?_;intros
 refine zC (fun hlt=>?_) (fun hge=>?_)
 ·refine zW ?_;intros
  obtain ⟨x,hx⟩:=Yg (l:=l) (k:=k) Zi
  refine zI h1 hx (fun a ha=>?_)
  refine zH ha (fun iy=>?_)
  refine zW ?_;intros
  ((refine zG ?_);refine Wt Zz Zz Zz (hq x iy) (fun c1=>?_) (fun c1=>?_))
  ·refine zW ?_;intros
   exact zR (h:=by rw [Wo hh hx c1,Int.zero_add])
  ·refine zW ?_;intros
   exact YA ⟨k+1,by omega,rfl,rfl,rfl,rfl,(YO hh hx c1)⟩ Zi Zw Zb
 ·refine zW ?_;intros
  exact zR (h:=by rw [XS (Xf hh Zi)])
theorem YbE {l:List Bs} {ff:FuncId} {p:Bs→Prop} [DecidablePred p] (h1:Sl strL fz A n c l) (hq:∀ x,Short x→QFn prog ff [.string x] fz (.bool (decide (p x)))):
 QFn prog 143 [.slice A n c,.func (.func ff) #[] #[]] fz (.bool (decide (∃ x∈l,p x))):=by
 refine GFn.quiet ?_
 refine zF Tryz.func143 Tryz.ntmps143 (fun w0=>?_)
 refine zW ?_;intros
 refine zc (indexF_q h1 hq) ?_
 refine zC (fun c1=>?_) (fun c1=>?_)
 ·refine zW ?_;intros
  exact ret1 rfl rfl Zb (YC ((Xj (Int.le_refl 0)).1 c1))
 ·refine zW ?_;intros
  exact ret1 rfl rfl Zb (Ym (fun h=>c1 ((Xj (Int.le_refl 0)).2 h)))
theorem YgZ {s:Bs} (hs:Short s):QFn prog 186 [.string s] fz (.bool (decide (¬YdA s))):=by
 refine GFn.quiet ?_
 refine zF Tryz.func186 Tryz.ntmps186 (fun w0=>?_)
 refine zW ?_;intros
 refine zc (term_q hs) ?_
 refine zW ?_;intros
 exact ret1 rfl rfl Zb YjM
theorem Yl1 {s:Bs} (hs:Short s):QFn prog 212 [.string s] fz (.bool (decide (¬YdA s))):=by
 refine GFn.quiet ?_
 refine zF Tryz.func212 Tryz.ntmps212 (fun w0=>?_)
 refine zW ?_;intros
 refine zc (term_q hs) ?_
 refine zW ?_;intros
 exact ret1 rfl rfl Zb YjM
def budO (c:Int):Obj:=.cells #[.int .i64 c] 219 (0,0)
variable {g:Nat}
theorem take_q {d:Nat} (hc:c≤5000):GFn prog 185 [.pointer (some ⟨g,0,none⟩),.int .i64 d] fz [(g,budO c)] (fun v fz' H'=>Le fz fz'∧H'=[(g,budO (c+1:Nat))]∧∃ b:Bool,v=.bool b∧(b=true↔c+1≤4096∧d≤32)):=by
 unfold budO
 refine zF Tryz.func185 Tryz.ntmps185 (fun w0=>?_)
 refine zW ?_;intros
 refine zC (fun c1=>?_) (fun c1=>?_)
 ·refine zW ?_;intros
  refine zC (fun c2=>?_) (fun c2=>?_)
  ·refine zW ?_;intros
   exact ret1 rfl rfl Zb ⟨Le.refl _,rfl,true,rfl,iff_of_true rfl ⟨by omega,by omega⟩⟩
  ·refine zW ?_;intros
   exact ret1 rfl rfl Zb ⟨Le.refl _,rfl,false,rfl,iff_of_false (by simp) (fun h=>c2 Zi)⟩
 ·refine zW ?_;intros
  exact ret1 rfl rfl Zb ⟨Le.refl _,rfl,false,rfl,iff_of_false (by simp) (fun h=>c1 Zi)⟩
def kPlus:Bs:=⟨#[43]⟩
def kStar:Bs:=⟨#[42]⟩
def BinP (s:Bs):Prop:=s=kPlus∨s=YbS∨s=kStar
def Ye8 (e:Lx.Expr):Prop:=
 (e.op=kNumber∧e.name=WY∧e.args=[]∧e.kids=[]∧Yc0 e.n)∨(e.op=kFluent∧e.n=0∧e.kids=[]∧Xk e.name∧∀ s∈e.args,YdA s)∨(BinP e.op∧e.n=0∧e.name=WY∧e.args=[]∧e.kids.length=2)
abbrev EOk (e:Lx.Expr):Prop:=EAll Ye8 e
theorem YhN {e:Lx.Expr} (h:e.op=kNumber):Ye8 e↔e.name=WY∧e.args=[]∧e.kids=[]∧Yc0 e.n:=by
 unfold Ye8 BinP
 rw [h]
 refine ⟨fun h=>?_,fun h=>.inl ⟨rfl,h⟩⟩
 rcases h with h | h | h
 ·exact h.2
 ·exact absurd (congrArg (fun s=>Yap s 0) h.1) Zh
 ·rcases h.1 with h | h | h<;>exact absurd (congrArg ByteArray.size h) Zh
theorem YhO {e:Lx.Expr} (h:e.op=kFluent):Ye8 e↔e.n=0∧e.kids=[]∧Xk e.name∧∀ s∈e.args,YdA s:=by
 unfold Ye8 BinP
 rw [h]
 refine ⟨fun h=>?_,fun h=>.inr (.inl ⟨rfl,h⟩)⟩
 rcases h with h | h | h
 ·exact absurd (congrArg (fun s=>Yap s 0) h.1) Zh
 ·exact h.2
 ·rcases h.1 with h | h | h<;>exact absurd (congrArg ByteArray.size h) Zh
theorem YhP {e:Lx.Expr} (h1:¬e.op=kNumber) (h2:¬e.op=kFluent):Ye8 e↔BinP e.op∧e.n=0∧e.name=WY∧e.args=[]∧e.kids.length=2:=
 ⟨fun h=>by rcases h with h | h | h;exact absurd h.1 h1;exact absurd h.1 h2;exact h,fun h=>.inr (.inr h)⟩
def EBud (g:Nat) (e:Lx.Expr) (d c:Nat) (v:Value) (H':HP):Prop:=
 ∃ (b:Bool) (c':Int),v=.bool b∧H'=[(g,budO c')]∧(b=true→c'=((c+ecount e:Nat):Int))∧(b=true↔EOk e∧d+edepth e≤33∧c+ecount e≤4096)
theorem Ygz {e:Lx.Expr} {d:Nat} {c':Int} (h:¬(EOk e∧d+edepth e≤33∧c+ecount e≤4096)):EBud g e d c (.bool false) [(g,budO c')]:=⟨false,c',rfl,rfl,(by simp),iff_of_false (by simp) h⟩
theorem YhT {e:Lx.Expr} {d:Nat} (h:Ye8 e) (hk:e.kids=[]) (ht:c+1≤4096∧d≤32):EBud g e d c (.bool true) [(g,budO (c+1:Nat))]:=by
 have h1:ecount e=1:=by rw [YcT,hk];simp [ecountL]
 have h2:edepth e=1:=by rw [YcS,hk];simp [edepthL]
 exact ⟨true,_,rfl,rfl,fun _=>by rw [h1],iff_of_true rfl ⟨YbH.2 ⟨h,by rw [hk];simp⟩,by omega,by omega⟩⟩
theorem len0 {α:Type} {l:List α} (h:l.length=n):(n:Int)=0↔l=[]:=by
 constructor
 ·intro h0;exact List.eq_nil_of_length_eq_zero Zi
 ·intro h0;subst h0;simp at h;omega
set_option maxHeartbeats 1000000 in
theorem Ygr:∀ (s:Nat) {fz:FZ} {e:Lx.Expr} {va vk:Value} {g d c:Nat},SizeOf.sizeOf e≤s→ExprR fz e va vk→d≤33→c≤4096→
 GFn prog 189 [.agg #[.string e.op,.string e.name,.int .i64 e.n,va,vk],.int .i64 d,.pointer (some ⟨g,0,none⟩)] fz [(g,budO c)] (fun v fz' H'=>Le fz fz'∧EBud g e d c v H')
 | 0,_,e,_,_,_,_,_,hs,_,_,_=>by cases e;simp at hs
 | s+1,fz,e,va,vk,g,d,c,hs,h,hd,hc=>by
  obtain ⟨A,n,ca,rfl,ha⟩:=h.args
  obtain ⟨B,m,cb,rfl,hk⟩:=h.kids
  have no:∀ {c':Int},¬Ye8 e→EBud g e d c (.bool false) [(g,budO c')]:=fun h0=>Ygz (fun h1=>h0 (YbH.1 h1.1).1)
  refine zF Tryz.func189 Tryz.ntmps189 (fun w0=>?_)
  refine Yp (Yq (Yb Zz (Y3 _ Zz Zz (fun g0=>?_))))
  first | refine Wp.perm (List.Perm.swap _ _ _) ?_ | refine Seq.perm (List.Perm.swap _ _ _) ?_
  refine zW ?_;intros
  refine Yb Zz (Yl [_] [_] Zz Zz Zz (take_q Zi) (fun v fz2 H2 hle2 hR=>?_))
  obtain ⟨hle3,rfl,b,rfl,hb⟩:=hR
  cases b
  ·refine zW ?_;intros
   (exact ret1 rfl rfl Zb ⟨hle2,Ygz (fun h0=>by
    have h1:=YcT e
    have h2:=YcS e
    exact absurd (hb.2 ⟨by omega,by omega⟩) (by simp))⟩)
  ·have ht:=hb.1 rfl
   refine zW ?_;intros
   refine zC (fun x1=>?_) (fun y1=>?_)
   ·have hn:=YhN (e:=e) x1
    refine zW ?_;intros
    (((refine zC (fun n1=>?_) (fun n1=>?_));rotate_left 1;((refine zW ?_;intros);(exact ret1 rfl rfl Zb ⟨hle2,no (fun h0=>n1 (hn.1 h0).1)⟩));(refine zW ?_;intros)))
    (((refine zC (fun n2=>?_) (fun n2=>?_));rotate_left 1;((refine zW ?_;intros);(exact ret1 rfl rfl Zb ⟨hle2,no (fun h0=>n2 ((len0 ha.len).2 (hn.1 h0).2.1))⟩));(refine zW ?_;intros)))
    (((refine zC (fun n3=>?_) (fun n3=>?_));rotate_left 1;((refine zW ?_;intros);(exact ret1 rfl rfl Zb ⟨hle2,no (fun h0=>n3 ((len0 hk.len).2 (hn.1 h0).2.2.1))⟩));(refine zW ?_;intros)))
    (((refine zC (fun n4=>?_) (fun n4=>?_));rotate_left 1;((refine zW ?_;intros);(exact ret1 rfl rfl Zb ⟨hle2,no (fun h0=>n4 (hn.1 h0).2.2.2.1)⟩));(refine zW ?_;intros)))
    (((refine zC (fun n5=>?_) (fun n5=>?_));rotate_left 1;((refine zW ?_;intros);(exact ret1 rfl rfl Zb ⟨hle2,no (fun h0=>n5 (hn.1 h0).2.2.2.2)⟩));(refine zW ?_;intros)))
    exact ret1 rfl rfl Zb ⟨hle2,YhT (hn.2 ⟨n1,(len0 ha.len).1 n2,(len0 hk.len).1 n3,n4,n5⟩) ((len0 hk.len).1 n3) ht⟩
   ·refine zW ?_;intros
    refine zC (fun x2=>?_) (fun y2=>?_)
    ·have hn:=YhO (e:=e) x2
     refine zW ?_;intros
     (((refine zC (fun n1=>?_) (fun n1=>?_));rotate_left 1;((refine zW ?_;intros);(exact ret1 rfl rfl Zb ⟨hle2,no (fun h0=>n1 (hn.1 h0).1)⟩));(refine zW ?_;intros)))
     (((refine zC (fun n2=>?_) (fun n2=>?_));rotate_left 1;((refine zW ?_;intros);(exact ret1 rfl rfl Zb ⟨hle2,no (fun h0=>n2 ((len0 hk.len).2 (hn.1 h0).2.1))⟩));(refine zW ?_;intros)))
     refine zb (Yah h.name) (fun f1=>?_) (fun f1=>?_)
     ·refine zW ?_;intros
      ((refine zG ?_);refine XY Zz Zz (YbE (ha.mono hle2) (fun x hx=>Yl1 hx)) (fun f2=>?_) (fun f2=>?_))
      ·refine zW ?_;intros
       (exact ret1 rfl rfl Zb ⟨hle2,no (fun h0=>by
        obtain ⟨x,hx,hx2⟩:=Zt f2
        exact hx2 ((hn.1 h0).2.2.2 x hx))⟩)
      ·refine zW ?_;intros
       exact ret1 rfl rfl Zb ⟨hle2,YhT (hn.2 ⟨n1,(len0 hk.len).1 n2,Zt f1,fun x hx=>Classical.byContradiction fun h0=>Zf f2 ⟨x,hx,h0⟩⟩) ((len0 hk.len).1 n2) ht⟩
     ·refine zW ?_;intros
      exact ret1 rfl rfl Zb ⟨hle2,no (fun h0=>Zf f1 (hn.1 h0).2.2.1)⟩
    ·refine zWO ?_;intros
     refine Wp.cond_false Zz ?_
     refine Yp (Wp.mid (fun σ fz' H'=>∃ b:Bool,σ=[(62,.bool b),(3,.pointer (some ⟨g0,0,none⟩)),(2,.pointer (some ⟨g,0,none⟩)),(1,.int .i64 d)]∧fz2=fz'∧H'=[(g,budO (c+1:Nat)),(g0,.cells #[.string e.op,.string e.name,.int .i64 e.n,.slice A n ca,.slice B m cb] 36 (0,0))]∧(b=true↔BinP e.op)) ?_ ?_)
     ·refine zW ?_;intros
      refine zC (fun p1=>?_) (fun p1=>?_)
      ·refine zW ?_;intros
       exact midN ⟨true,rfl,rfl,rfl,iff_of_true rfl (.inl p1)⟩ Zw Zb
      ·refine zW ?_;intros
       refine zC (fun p2=>?_) (fun p2=>?_)
       ·refine zW ?_;intros
        exact midN ⟨true,rfl,rfl,rfl,iff_of_true rfl (.inr (.inl p2))⟩ Zw Zb
       ·refine zW ?_;intros
        refine zC (fun p3=>?_) (fun p3=>?_)
        ·refine zW ?_;intros
         exact midN ⟨true,rfl,rfl,rfl,iff_of_true rfl (.inr (.inr p3))⟩ Zw Zb
        ·refine zW ?_;intros
         exact midN ⟨false,rfl,rfl,rfl,iff_of_false (by simp) (fun h0=>h0.elim p1 (fun h0=>h0.elim p2 p3))⟩ Zw Zb
     ·rintro σ fz' H' ⟨b,rfl,rfl,rfl,hbp⟩
      have hn:=YhP (e:=e) y1 y2
      cases b
      ·refine zW ?_;intros
       exact ret1 rfl rfl Zb ⟨hle2,no (fun h0=>absurd (hbp.2 (hn.1 h0).1) (by simp))⟩
      ·have lk:=hk.len
       refine zW ?_;intros
       (((refine zC (fun n1=>?_) (fun n1=>?_));rotate_left 1;((refine zW ?_;intros);(exact ret1 rfl rfl Zb ⟨hle2,no (fun h0=>n1 (hn.1 h0).2.1)⟩));(refine zW ?_;intros)))
       (((refine zC (fun n2=>?_) (fun n2=>?_));rotate_left 1;((refine zW ?_;intros);(exact ret1 rfl rfl Zb ⟨hle2,no (fun h0=>n2 (hn.1 h0).2.2.1)⟩));(refine zW ?_;intros)))
       (((refine zC (fun n3=>?_) (fun n3=>?_));rotate_left 1;((refine zW ?_;intros);(exact ret1 rfl rfl Zb ⟨hle2,no (fun h0=>n3 ((len0 ha.len).2 (hn.1 h0).2.2.2.1))⟩));(refine zW ?_;intros)))
       (((refine zC (fun n4=>?_) (fun n4=>?_));rotate_left 1;((refine zW ?_;intros);(exact ret1 rfl rfl Zb ⟨hle2,no (fun h0=>n4 (by have:=(hn.1 h0).2.2.2.2;omega))⟩));(refine zW ?_;intros)))
       have hN:Ye8 e:=hn.2 ⟨hbp.1 rfl,n1,n2,(len0 ha.len).1 n3,by omega⟩
       obtain ⟨a,b,hab⟩:∃ a b,e.kids=[a,b]:=by
        match hK:e.kids,(show e.kids.length=2 by omega) with
        | [a,b],_=>exact ⟨a,b,rfl⟩
       have la:=Lx.Expr.kids_lt (x:=e) (k:=a) (by rw [hab];simp)
       have lb:=Lx.Expr.kids_lt (x:=e) (k:=b) (by rw [hab];simp)
       have hcnt:ecount e=1+(ecount a+ecount b):=by rw [YcT,hab];simp [ecountL]
       have hdep:edepth e=1+max (edepth a) (edepth b):=by rw [YcS,hab];simp [edepthL]
       have hall:EOk e↔EOk a∧EOk b:=by
        refine (YbH (p:=Ye8) (e:=e)).trans ?_
        rw [hab]
        simp only [List.mem_cons,List.not_mem_nil,or_false,forall_eq_or_imp,forall_eq]
        exact ⟨fun h0=>h0.2,fun h0=>⟨hN,h0⟩⟩
       have hk2:=hk.mono hle2
       ((refine zG ?_);refine Yam T 0 Zz Zz Zz Zz Zz Zz hk2 (by first | rfl | omega) (by rw [hab];rfl:e.kids[0]?=some a) (fun p hp=>?_))
       refine zL hp ?_
       intro cs hcs
       obtain ⟨wa,wk,rfl,hRa⟩:=YP hcs
       refine zW ?_;intros
       refine Seq.guard_yesK Zz Zz Zz (Yl [_] [_] Zz Zz Zz (Ygr s (e:=a) (d:=d+1) (c:=c+1) Zi hRa Zi Zi) (fun v4 fz4 H4 hle4 hR4=>?_))
       obtain ⟨_,b1,c1,rfl,rfl,hc1,hb1⟩:=hR4
       cases b1
       ·refine zW ?_;intros
        exact ret1 rfl rfl Zb ⟨hle2.trans hle4,Ygz (fun h0=>absurd (hb1.2 ⟨(hall.1 h0.1).1,by omega,by omega⟩) (by simp))⟩
       ·have hc1:=hc1 rfl
        have hb1:=hb1.1 rfl
        subst hc1
        refine zW ?_;intros
        ((refine zG ?_);refine Yam T 1 Zz Zz Zz Zz Zz Zz (hk2.mono hle4) (by first | rfl | omega) (by rw [hab];rfl:e.kids[1]?=some b) (fun p2 hp2=>?_))
        refine zL hp2 ?_
        intro cs2 hcs2
        obtain ⟨za,zk,rfl,hRb⟩:=YP hcs2
        refine zW ?_;intros
        refine Seq.guard_yesK Zz Zz Zz (Yl [_] [_] Zz Zz Zz (Ygr s (e:=b) (d:=d+1) (c:=c+1+ecount a) Zi hRb Zi Zi) (fun v5 fz5 H5 hle5 hR5=>?_))
        obtain ⟨_,b2,c2,rfl,rfl,hc2,hb2⟩:=hR5
        cases b2
        ·refine zW ?_;intros
         exact ret1 rfl rfl Zb ⟨hle2.trans (hle4.trans hle5),Ygz (fun h0=>absurd (hb2.2 ⟨(hall.1 h0.1).2,by omega,by omega⟩) (by simp))⟩
        ·have hc2:=hc2 rfl
         have hb2:=hb2.1 rfl
         subst hc2
         refine zW ?_;intros
         exact ret1 rfl rfl Zb ⟨hle2.trans (hle4.trans hle5),true,_,rfl,rfl,fun _=>by omega,iff_of_true rfl ⟨hall.2 ⟨hb1.1,hb2.1⟩,by omega,by omega⟩⟩
variable {va vk:Value}
theorem Yjy {e:Lx.Expr} {d:Nat} (h:ExprR fz e va vk) (hd:d≤33) (hc:c≤4096):
 GFn prog 189 [.agg #[.string e.op,.string e.name,.int .i64 e.n,va,vk],.int .i64 d,.pointer (some ⟨g,0,none⟩)] fz [(g,budO c)] (fun v fz' H'=>Le fz fz'∧EBud g e d c v H'):=Ygr _ (Zs _) h hd hc
end Go.Proofs.YtbnpeechpebmeaaGreatDoor
