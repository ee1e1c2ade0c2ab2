/- The texts HE, ShelfQ, HF, UK, UL, HC, HD, U7, QAt, QIn, laid together. Conditions: none. -/
import Derived.Test.YtacfpcbladaohaaGreatDoorSAR
import Derived.Sort.OwnSorted
import Derived.Shelf.Sort.Plain
import Derived.Shelf.Slices.In.SortNone
import Derived.Shelf.Slices.CompactS
set_option linter.all false
set_option maxHeartbeats 8000000
noncomputable section
set_option maxRecDepth 20000
open Go.Lx Go.RowKit
attribute [local instance 10] Classical.propDecidable
open Go.Proofs.Tryz (prog)
namespace Go.Proofs.YtacfpcbladaohaaGreatDoor
variable {d:Domain} {fz fz':FZ} {v va vk:Value} {p:Problem} {cs:List Value} {s:Bs} {A B:Option Addr} {c n:Nat} {vars:List Param}
theorem Yom:∀ {l:List Param} {k:Nat} {x:Param} {t:Bs},(∀ j,j<k->∀ y,l[j]?=some y->¬y.name=t)->l[k]?=some x->x.name=t->tyF l t=some x.typ
 | [],_,_,_,_,h,_=>by simp at h
 | p::r,0,x,t,_,h,hx=>by simp at h;subst h;rw [tyF,if_pos hx.symm]
 | p::r,k+1,x,t,hh,h,hx=>by
  rw [tyF,if_neg (fun e=>hh 0 Zi p rfl e.symm)];exact Yom (k:=k) (fun j hj y hy=>hh (j+1) Zi y (by simpa using hy)) (by simpa using h) hx
theorem Yim:∀ {l:List Param} {t:Bs},(∀ x∈l,¬x.name=t)->tyF l t=none
 | [],_,_=>rfl
 | p::r,t,h=>by rw [tyF,if_neg (fun e=>h p (by simp) e.symm)];exact Yim (fun x hx=>h x (by simp [hx]))
structure MfR (fz:FZ) (v:Value) (d:Domain) (os:List Param):Prop where
 ex:∃ (g:Nat) (a0 a1 a2 a5 a6 a7 a8 a9 a10 a11 a12 a13 a14 a15 a16 a17 vf:Value) (A3:Option Addr) (n3 c3:Nat) (A4:Option Addr) (n4 c4:Nat) (A:Option Addr) (n c:Nat),
  v=Zp g/\fz g=some (Zu #[a0,a1,a2,Zc A3 n3 c3,Zc A4 n4 c4,a5,a6,a7,a8,a9,a10,a11,a12,a13,a14,a15,a16,a17,vf,Zc A n c] 160)/\
  Sl predicateL fz A3 n3 c3 d.predicates/\Sl functionL fz A4 n4 c4 d.functions/\ForR fz vf d.types/\Sl paramL fz A n c os
 w:WFT d.types
theorem MfR.mono {os:List Param} (h:MfR fz v d os) (hle:Le fz fz'):MfR fz' v d os:=by
 obtain ⟨⟨g,a0,a1,a2,a5,a6,a7,a8,a9,a10,a11,a12,a13,a14,a15,a16,a17,vf,A3,n3,c3,A4,n4,c4,A,n,c,h1,h2,h3,h4,h5,h6⟩,hw⟩:=h;exact ⟨⟨g,a0,a1,a2,a5,a6,a7,a8,a9,a10,a11,a12,a13,a14,a15,a16,a17,vf,A3,n3,c3,A4,n4,c4,A,n,c,h1,hle _ _ h2,h3.mono hle,h4.mono hle,h5.mono hle,h6.mono hle⟩,hw⟩
theorem MfR.of (h:MnR fz v (mnM d p)):MfR fz v d (objsM d p):=by
 obtain ⟨⟨g,v1,v2,v3,v4,v5,v6,a7,a8,a9,a10,a11,a12,a13,a14,a15,a16,a17,vf,A,n,c,rfl,hg,hD,hF,hO⟩,hw,_⟩:=h;obtain ⟨A3,n3,c3,rfl,i3⟩:=hD.predicates;obtain ⟨A4,n4,c4,rfl,i4⟩:=hD.functions;exact ⟨⟨g,_,_,_,_,_,_,_,_,_,_,_,_,_,_,_,_,_,A3,n3,c3,A4,n4,c4,A,n,c,rfl,hg,i3,i4,hF,hO⟩,hw⟩
def Yhd (os vars vs:List Param):Prop:=∀ t,(match tyF vs t with | some u=>some u | none=>tyF os t)=WK os vars t
def YpV (o:Option Bs):Value:=.tuple #[Zy (o.getD ⟨#[]⟩),Zo o.isSome]
theorem mtype1_q {x:Param} {g0:Nat} {t0:TypeId} (h0:fz g0=some (.cells #[Zy s] t0 (0,0))) (hcs:paramL.rep fz x cs):
 QFn prog 151 (.agg cs.toArray:: [Zp g0]) fz (Zo (decide (x.name=s))):=by
 obtain ⟨rfl,hR⟩:=Yz hcs;refine qF Tryz.func151 Tryz.ntmps151 (fun w0=>?_);refine pX (fun g9=>?_);refine zW ?_;intros;refine zC ?_ ?_<;>intro c1
 ·refine zW ?_;intros;exact wR (h:=by exact Ym c1)
 refine zW ?_;intros;exact wR (h:=by exact Yg c1)
theorem Yo7 {os vs:List Param} (h:MfR fz v d os) (h1:Sl paramL fz A n c vs) (hv:Yhd os vars vs):
 QFn prog 68 [v,Zy s,Zc A n c] fz (YpV (WK os vars s)):=by
 obtain ⟨⟨g,a0,a1,a2,a5,a6,a7,a8,a9,a10,a11,a12,a13,a14,a15,a16,a17,vf,A3,x3,y3,A4,x4,y4,B,m,e,rfl,hg,i3,i4,hF,hO⟩,hw⟩:=h;have hvs:=hv s;refine qF Tryz.func68 Tryz.ntmps68 (fun w0=>?_);refine pX (fun g4=>?_);refine zV ?_;intros;refine Ya (Yb (cs:=[Zc A n c,Zc B m e]) (fun gb=>?_));refine Seq.freezeAll (H1:=[_]) (H2:=[_]) (Zq (l₁:=[_]) (l₂:=[_])) (fun fz2 hle2 hf2=>?_);have hl:Sl (slL paramL) fz2 (some ⟨gb,0,none⟩) 2 2 [vs,os]:=XI (ys:=[(vs,[Value.slice A n c]),(os,[Zc B m e])]) (hf2 _ (.head _)) rfl rfl (by
  intro q hq;simp only [List.mem_cons,List.not_mem_nil,or_false] at hq;rcases hq with rfl | rfl
  ·exact ⟨_,_,_,rfl,h1.mono hle2⟩
  exact ⟨_,_,_,rfl,hO.mono hle2⟩) rfl Zh
 refine zV ?_;intros;refine Yi (fun q σ fz' H'=>∃ k:Nat,k<=2/\q=2 - k/\σ=[(18,Zk k),(17,Zk 2),(16,Zv gb 2 2),(4,Zp g4)]/\fz2=fz'/\H'=[(g4,Zu #[Zy s] 9)]/\(∀ i,i<k->∀ l,[vs,os][i]?=some l->tyF l s=none)) ⟨0,Z0 _,rfl,rfl,rfl,rfl,fun i hi=>absurd hi Zi⟩ Zw Zb ?_;rintro q σ fz' H' ⟨k,hk,rfl,rfl,rfl,rfl,hh⟩;refine zV ?_;intros;refine zC ?_ ?_<;>intro c1
 ·obtain ⟨l,hlk⟩:=Yc (l:=[vs,os]) (k:=k) (by show k<2;omega);refine zV ?_;intros;refine zI hl hlk (fun p1 hp1=>?_);refine zV ?_;intros
  ((refine zG ?_);refine XQ hp1 (fun D1 n1 e1 j1=>?_));have l1:=j1.len;have s1:=j1.short;refine zV ?_;intros;refine zG ?_;refine YG ?_;refine zG ?_;refine XJ (fun fz' hle hf=>Yee (cap:=[Zp g4]) (p:=fun y:Param=>y.name=s) (j1.mono hle) (fun y _ cs hcs=>mtype1_q (s:=s) (hf _ (.head _)) hcs)) ?_;rcases Ybc (p:=fun y:Param=>y.name=s) l with hno | ⟨i,x,hi1,hi2,hi3⟩
  ·rw [YR hno];refine zV ?_;intros;refine zC ?_ ?_<;>intro c0
   ·exact absurd c0 Zh
   refine zV ?_;intros;exact wM (h:=by exact Yx hh hlk (Yim hno))
  have hil:i<l.length:=(Zg hi2).1;have e3:WK os vars s=some x.typ:=by
   have e4:=Yom hi1 hi2 hi3;rw [<- hvs]
   match k,hlk with
   | 0,hlk=>cases hlk;rw [e4]
   | 1,hlk=>cases hlk;rw [hh 0 Zi vs rfl];exact e4
   | k+2,hlk=>simp at hlk
  rw [Xg hi1 hi2 hi3,Int.zero_add];refine zV ?_;intros;refine zC ?_ ?_<;>intro c0;rotate_left 1
  ·exact absurd (Int.natCast_nonneg i) c0
  refine zV ?_;intros;refine zI j1 hi2 (fun p9 hp9=>?_);refine zV ?_;intros;refine zH hp9.Param_typ (fun hn9=>?_);refine zV ?_;intros;exact ret2 rfl rfl rfl (List.nil_sublist _) (by rw [e3];rfl)
 have e3:WK os vars s=none:=by
  rw [<- hvs,hh 0 Zi vs rfl];exact hh 1 Zi os rfl
 refine zV ?_;intros;exact ret2 rfl rfl rfl (List.nil_sublist _) (by rw [e3];rfl)
theorem Ypa {os vs ps:List Param} {args:List Bs} {C:Option Addr} {n2 c2 n3 c3:Nat} (h:MfR fz v d os) (h1:Sl paramL fz A n c vs) (hv:Yhd os vars vs) (h2:Sl strL fz B n2 c2 args) (h3:Sl paramL fz C n3 c3 ps):
 QFn prog 67 [v,Zc B n2 c2,Zc C n3 c3,Zc A n c] fz (errV (YdS d os vars args ps)):=by
 have h0:=h;obtain ⟨⟨g,a0,a1,a2,a5,a6,a7,a8,a9,a10,a11,a12,a13,a14,a15,a16,a17,vf,A3,x3,y3,A4,x4,y4,Ao,mo,eo,rfl,hg,i3,i4,hF,hO⟩,hw⟩:=h;have hF0:=hF;obtain ⟨gf,gm,rfl,hf1,hf2⟩:=hF;have l2:=h2.len;have l3:=h3.len;have s2:=h2.short;have s3:=h3.short;refine qF Tryz.func67 Tryz.ntmps67 (fun w0=>?_);refine zV ?_;intros;refine zC ?_ ?_<;>intro e0
 ·refine zV ?_;intros;exact zR (h:=by rw [YdS,if_pos Zi];rfl)
 have e1:YdS d os vars args ps=(YX (Xt d os vars) ((args.zip ps).map (fun z=>((⟨#[]⟩:Bs),z))++ [])).2:=if_neg Zi;refine zV ?_;intros;refine XW n2 (fun k=>[(21,Zk k),(20,Zk n2),(19,Zc B n2 c2),(0,Zp g),(3,Zc A n c),(2,Zc C n3 c3)]) [] (fun k=>(∀ i,i<k->∀ z,(args.zip ps)[i]?=some z->Xt d os vars z=0)) (fun i hi=>absurd hi Zi) ?_;intro k hk hh;refine zV ?_;intros;refine zC ?_ ?_<;>intro c1
 ·obtain ⟨x,hx⟩:=Yc (l:=args) (k:=k) Zi;obtain ⟨y,hy⟩:=Yc (l:=ps) (k:=k) Zi;have hz:(args.zip ps)[k]?=some (x,y):=by rw [List.getElem?_zip_eq_some];exact ⟨hx,hy⟩
  refine zV ?_;intros;refine zI h2 hx (fun p1 hp1=>?_);refine zH hp1 (fun hxs=>?_);refine zV ?_;intros;refine zc (Yo7 h0 h1 hv) ?_;cases hr:WK os vars x with
  | none=>
   have e2:Xt d os vars (x,y)=8:=by rw [Xt,hr]
   rw [show YpV none=.tuple #[Ze,Zo false] from rfl];refine zV ?_;intros;exact zR (h:=by rw [e1,XC (f:=fun _=>(⟨#[]⟩:Bs)) (g:=fun z=>z) hz hh (by rw [e2];decide),e2];rfl)
  | some t=>
   have ht:Short t:=by
    rw [<- hv x] at hr;cases hr2:tyF vs x with
    | some u=>rw [hr2] at hr;cases hr;obtain ⟨q,hq,rfl⟩:=Yf3 hr2;exact (XY h1 q hq).2
    | none=>rw [hr2] at hr;obtain ⟨q,hq,rfl⟩:=Yf3 hr;exact (XY hO q hq).2
   rw [show YpV (some t)=.tuple #[Zy t,Zo true] from rfl];refine zV ?_;intros;refine zI h3 hy (fun p2 hp2=>?_);refine zV ?_;intros;refine zH hp2.Param_typ (fun hts=>?_);refine zV ?_;intros;refine zb (is_q hF0 hw ht) (fun f1=>?_) (fun f1=>?_)
   ·have e2:Xt d os vars (x,y)=0:=by rw [Xt,hr];exact if_pos (Zt f1)
    refine zV ?_;intros;exact wM (h:=by exact Yx hh hz e2)
   have e2:Xt d os vars (x,y)=9:=by rw [Xt,hr];exact if_neg (Zf f1)
   refine zV ?_;intros;exact zR (h:=by rw [e1,XC (f:=fun _=>(⟨#[]⟩:Bs)) (g:=fun z=>z) hz hh (by rw [e2];decide),e2];rfl)
 have hA:∀ z∈args.zip ps,Xt d os vars z=0:=fun z hz=>by
  obtain ⟨i,hi⟩:=List.getElem?_of_mem hz;have:=(Zg hi).1;rw [List.length_zip] at this;exact hh i Zi z hi
 refine zV ?_;intros;exact zR (h:=by rw [e1,YO (f:=fun _=>(⟨#[]⟩:Bs)) (g:=fun z=>z) hA];rfl)
theorem mexpr1_q {e:Lx.Expr} {x:Function} {g0:Nat} {t0:TypeId} (h0:fz g0=some (.cells #[Zy e.op,Zy e.name,Zk e.n,va,vk] t0 (0,0))) (hcs:functionL.rep fz x cs):
 QFn prog 153 (.agg cs.toArray:: [Zp g0]) fz (Zo (decide (x.name=e.name))):=by
 obtain ⟨u0,rfl,hR⟩:=YU hcs;obtain ⟨P0,p0,q0,rfl,_⟩:=id hR.params;refine qF Tryz.func153 Tryz.ntmps153 (fun w0=>?_);refine pX (fun g9=>?_);refine zW ?_;intros;refine zC ?_ ?_<;>intro c1
 ·refine zW ?_;intros;exact wR (h:=by exact Ym c1)
 refine zW ?_;intros;exact wR (h:=by exact Yg c1)
theorem Yo9:∀ (s:Nat) {fz:FZ} {v:Value} {d:Domain} {os vars vs:List Param} {e:Lx.Expr} {va vk:Value} {A:Option Addr} {n c:Nat},SizeOf.sizeOf e<=s->MfR fz v d os->Sl paramL fz A n c vs->Yhd os vars vs->ExprR fz e va vk->
 QFn prog 76 [v,.agg #[Zy e.op,Zy e.name,Zk e.n,va,vk],Zc A n c] fz (errV (exprM d os vars e))
 | 0,_,_,_,_,_,_,e,_,_,_,_,_,hse,_,_,_,_=>by cases e;simp at hse
 | s+1,fz,v,d,os,vars,vs,e,va,vk,A,n,c,hse,h,h1,hv,hR=>by
  have h0:=h;obtain ⟨⟨g,a0,a1,a2,a5,a6,a7,a8,a9,a10,a11,a12,a13,a14,a15,a16,a17,vf,A3,x3,y3,A4,x4,y4,Ao,mo,eo,rfl,hg,i3,i4,hF,hO⟩,hw⟩:=h;obtain ⟨⟨B,n2,c2,rfl,ia⟩,⟨C,n3,c3,rfl,ik⟩⟩:=hR.sls;have l3:=ik.len;have s3:=ik.short;have l4:=i4.len;have s4:=i4.short;refine qF Tryz.func76 Tryz.ntmps76 (fun w0=>?_);refine pX (fun g5=>?_);refine zV ?_;intros;refine zC ?_ ?_<;>intro x1
  ·have e1:exprM d os vars e=fluM d os vars e.name e.args:=by rw [Ydi,if_pos (show e.op=kFluent from x1)]
   refine zV ?_;intros;refine zG ?_;refine YG ?_;refine zG ?_;refine XJ (fun fz' hle hf=>W3 (cap:=[Zp g5]) (p:=fun y:Function=>y.name=e.name) (i4.mono hle) (fun y _ cs hcs=>mexpr1_q (e:=e) (hf _ (.head _)) hcs)) ?_;rcases Ybc (p:=fun y:Function=>y.name=e.name) d.functions with hno | ⟨k,x,hk1,hk2,hk3⟩
   ·rw [YR hno];refine zV ?_;intros;refine zC ?_ ?_<;>intro c0;rotate_left 1
    ·exact absurd Zh c0
    refine zV ?_;intros;exact zR (h:=by rw [e1,fluM,show fstF d.functions e.name=none from YfO (p:=fun y:Function=>y.name=e.name) hno];rfl)
   have hkl:k<d.functions.length:=(Zg hk2).1;rw [Xg hk1 hk2 hk3,Int.zero_add];refine zV ?_;intros;refine zC ?_ ?_<;>intro c0
   ·exact absurd c0 Zi
   refine zV ?_;intros;refine zI i4 hk2 (fun p9 hp9=>?_);refine zV ?_;intros
   ((refine zG ?_);refine XQ hp9.Function_params (fun C9 n9 c9 h9=>?_));refine zV ?_;intros;refine zc (Ypa h0 h1 hv ia h9) ?_;refine zV ?_;intros;exact zR (h:=by rw [e1,fluM,show fstF d.functions e.name=some x from Yeg (p:=fun y:Function=>y.name=e.name) hk1 hk2 hk3])
  have e1:exprM d os vars e=exprML d os vars e.kids:=by rw [Ydi,if_neg (show ¬e.op=kFluent from x1)]
  refine zV ?_;intros;refine XW n3 (fun k=>[(41,Zk k),(40,Zk n3),(39,Zc C n3 c3),(0,Zp g),(2,Zc A n c)]) [] (fun k=>(∀ i,i<k->∀ y,e.kids[i]?=some y->exprM d os vars y=0)) (fun i hi=>absurd hi Zi) ?_;intro k hk hh;refine zV ?_;intros;refine zC ?_ ?_<;>intro c1
  ·obtain ⟨x,hx⟩:=Yc (l:=e.kids) (k:=k) Zi;have hlt:=Lx.Expr.kids_lt (Zm hx);refine zV ?_;intros;refine zI ik hx (fun p1 hp1=>?_);refine zL hp1 ?_;intro cs hcs;obtain ⟨wa,wk,rfl,hRx⟩:=Yw hcs;obtain ⟨⟨B1,m1,d1,rfl,_⟩,⟨B2,m2,d2,rfl,_⟩⟩:=hRx.sls;refine zV ?_;intros
   ((refine zG ?_);refine Yu (Yo9 s Zi h0 h1 hv hRx) ?_);by_cases hz:exprM d os vars x=0
   ·rw [hz,show errV 0=.nilIface from rfl];refine zV ?_;intros;exact wM (h:=by exact Yx hh hx hz)
   rw [Yq hz];refine zV ?_;intros;exact zR (h:=by rw [e1,Ybz hx hh hz,Yq hz])
  have hA:=YQ hh Zi;refine zV ?_;intros;exact zR (h:=by rw [e1,W7 hA];rfl)
end Go.Proofs.YtacfpcbladaohaaGreatDoor
namespace Go.Proofs
open Go.Shelf
def YfA:Go.Shelf.Ren:=⟨fun | 190=>70 | 125=>104 | 258=>152 | 128=>204 | 129=>205 | 302=>232 | 303=>233 | 304=>234 | 305=>235 | 306=>236 | 307=>237 | 308=>238 | 309=>239 | 310=>240 | 333=>278 | 329=>261 | 330=>262 | 334=>279 | 335=>280 | 336=>206 | 344=>302 | n=>n,fun | 31=>31 | 9=>9 | 3=>3 | 46=>204 | 0=>0 | 51=>284 | 53=>286 | 4=>4 | 183=>278 | 182=>277 | 131=>251 | 5=>5 | 218=>323 | 222=>227 | 228=>347 | 229=>348 | n=>n,fun | n=>n⟩
theorem Yfr:Go.Proofs.Lays.n190 Tryz.prog YfA:={
 mixed:=by kernel_rfl
 f125:=Tryz.func104.trans (congrArg some (by kernel_rfl))
 f128:=Tryz.func204.trans (congrArg some (by kernel_rfl))
 f129:=Tryz.func205.trans (congrArg some (by kernel_rfl))
 f190:=Tryz.func70.trans (congrArg some (by kernel_rfl))
 f258:=Tryz.func152.trans (congrArg some (by kernel_rfl))
 f302:=Tryz.func232.trans (congrArg some (by kernel_rfl))
 f303:=Tryz.func233.trans (congrArg some (by kernel_rfl))
 f304:=Tryz.func234.trans (congrArg some (by kernel_rfl))
 f305:=Tryz.func235.trans (congrArg some (by kernel_rfl))
 f306:=Tryz.func236.trans (congrArg some (by kernel_rfl))
 f307:=Tryz.func237.trans (congrArg some (by kernel_rfl))
 f308:=Tryz.func238.trans (congrArg some (by kernel_rfl))
 f309:=Tryz.func239.trans (congrArg some (by kernel_rfl))
 f310:=Tryz.func240.trans (congrArg some (by kernel_rfl))
 f329:=Tryz.func261.trans (congrArg some (by kernel_rfl))
 f330:=Tryz.func262.trans (congrArg some (by kernel_rfl))
 f333:=Tryz.func278.trans (congrArg some (by kernel_rfl))
 f334:=Tryz.func279.trans (congrArg some (by kernel_rfl))
 f335:=Tryz.func280.trans (congrArg some (by kernel_rfl))
 f336:=Tryz.func206.trans (congrArg some (by kernel_rfl))
 f344:=Tryz.func302.trans (congrArg some (by kernel_rfl))
 t0:=Tryz.underlying0
 a0:=Tryz.isAgg0
 z0:=Tryz.sizeOf0
 v0:=Tryz.zeroValue0
 t3:=Tryz.underlying3
 a3:=Tryz.isAgg3
 z3:=Tryz.sizeOf3
 v3:=Tryz.zeroValue3
 t4:=Tryz.underlying4
 a4:=Tryz.isAgg4
 z4:=Tryz.sizeOf4
 v4:=Tryz.zeroValue4
 t5:=Tryz.underlying5
 a5:=Tryz.isAgg5
 z5:=Tryz.sizeOf5
 v5:=Tryz.zeroValue5
 t9:=Tryz.underlying9
 a9:=Tryz.isAgg9
 z9:=Tryz.sizeOf9
 v9:=Tryz.zeroValue9
 t31:=Tryz.underlying31
 a31:=Tryz.isAgg31
 z31:=Tryz.sizeOf31
 v31:=Tryz.zeroValue31
 t46:=Tryz.underlying204
 a46:=Tryz.isAgg204
 z46:=Tryz.sizeOf204
 v46:=Tryz.zeroValue204
 t51:=Tryz.underlying284
 a51:=Tryz.isAgg284
 z51:=Tryz.sizeOf284
 v51:=Tryz.zeroValue284
 t53:=Tryz.underlying286
 a53:=Tryz.isAgg286
 z53:=Tryz.sizeOf286
 v53:=Tryz.zeroValue286
 t131:=Tryz.underlying251
 a131:=Tryz.isAgg251
 z131:=Tryz.sizeOf251
 v131:=Tryz.zeroValue251
 t182:=Tryz.underlying277
 a182:=Tryz.isAgg277
 z182:=Tryz.sizeOf277
 v182:=Tryz.zeroValue277
 t183:=Tryz.underlying278
 a183:=Tryz.isAgg278
 z183:=Tryz.sizeOf278
 v183:=Tryz.zeroValue278
 t218:=Tryz.underlying323
 a218:=Tryz.isAgg323
 z218:=Tryz.sizeOf323
 v218:=Tryz.zeroValue323
 t222:=Tryz.underlying227
 a222:=Tryz.isAgg227
 z222:=Tryz.sizeOf227
 v222:=Tryz.zeroValue227
 t228:=Tryz.underlying347
 a228:=Tryz.isAgg347
 z228:=Tryz.sizeOf347
 v228:=Tryz.zeroValue347
 t229:=Tryz.underlying348
 a229:=Tryz.isAgg348
 z229:=Tryz.sizeOf348
 v229:=Tryz.zeroValue348}
def Yfz:Go.Shelf.Ren:=⟨fun | 194=>71 | n=>n,fun | 31=>31 | 9=>9 | 3=>3 | 4=>4 | 0=>0 | n=>n,fun | n=>n⟩
theorem Yfq:Go.Proofs.Lays.n194 Tryz.prog Yfz:={
 mixed:=by kernel_rfl
 f194:=Tryz.func71.trans (congrArg some (by kernel_rfl))
 t0:=Tryz.underlying0
 a0:=Tryz.isAgg0
 z0:=Tryz.sizeOf0
 v0:=Tryz.zeroValue0
 t3:=Tryz.underlying3
 a3:=Tryz.isAgg3
 z3:=Tryz.sizeOf3
 v3:=Tryz.zeroValue3
 t4:=Tryz.underlying4
 a4:=Tryz.isAgg4
 z4:=Tryz.sizeOf4
 v4:=Tryz.zeroValue4
 t9:=Tryz.underlying9
 a9:=Tryz.isAgg9
 z9:=Tryz.sizeOf9
 v9:=Tryz.zeroValue9
 t31:=Tryz.underlying31
 a31:=Tryz.isAgg31
 z31:=Tryz.sizeOf31
 v31:=Tryz.zeroValue31}
end Go.Proofs
namespace Go.Proofs.YtacfpcbladaohaaGreatDoor
variable {α:Type} {fz:FZ} {g k n:Nat} {w':World} {Hs:HP} {v:Value} {t:TypeId} {L:Lay α} {l:List α}
def Yhj (zs:List (List UInt8)):List (List UInt8):=zs.mergeSort fun x y=>decide (x<=y)
def cmpU (zs:List (List UInt8)):Nat:=(Lib.compact zs).length
theorem Ymd {w:World} {cap:Nat} {cur:Array Value} {ss ts:List (List UInt8)} {os:Array Obj} (hw:Hp fz [(g,Zu cur 9)] w) (hl:ss.length=n) (ht:ts.length=n) (h3:n<=cap) (h4:cap<=maxLen) (h5:cur.size=cap*1) (he:w'=Sort.grow (Sort.putRow encStr (Sort.ahead w k) g 0 ts.toArray) os):
 ∃ cur',Hp fz [(g,Zu cur' 9)] w'/\Fr [g] w w'/\OwnS 9 1 (Zv g n cap) n (ts.map encStr) [(g,Zu cur' 9)]:=by
 have hb:=(hw.own (g,Zu cur 9) (by simp)).1;have hg:=grownBy_sorted (w:=w) (g:=g) (n:=k) (os:=os) ts.toArray;have ho:=ownsRow_sorted (w:=w) (base:=0) (g:=g) (cap:=cap) (n:=k) (e:=9) (os:=os) (cur:=cur) (ss:=ss) (ts:=ts) Zi (Z0 _) hb Zi h4 h5;rw [<- he] at hg ho;rw [hl] at ho;rcases ho.2 with ⟨h7,_⟩ | ⟨g',cap',cur',h7,_,h9,h10,h11,h12,h13⟩
 ·cases h7
 injection h7 with h7 h8 h8'
 injection h7 with h7
 injection h7 with h7
 subst h7 h8';refine ⟨cur',⟨fun b o hbo=>?_,(fun p hp=>by simp only [List.mem_singleton] at hp;subst hp;exact ⟨h9,(hw.own (g,Zu cur 9) (by simp)).2⟩),by simp⟩,⟨hg.os,hg.tape,hg.output,hg.size,fun b hb' hn'=>hg.block b hb' (fun he=>hn' (by injection he with he;simp [he])),fun h=>h.elim⟩,ho.1,.inr ⟨g,cap,cur',rfl,rfl,h10,h11,h12,h13⟩⟩;have h14:=hw.keep b o hbo;rw [hg.block b (lt_of_heap h14) (fun he=>by
  injection he with he;subst he
  have:=(hw.own (b,Zu cur 9) (by simp)).2;rw [hbo] at this;cases this)]
 exact h14
theorem sortU_f {zs:List (List UInt8)} (h:OwnS 9 1 v n (zs.map encStr) Hs) (hn:n<=1000000000):
 GFn prog 70 [v] fz Hs fun u fz' H'=>u=.tuple #[]/\fz=fz'/\OwnS 9 1 v n ((Yhj zs).map encStr) H':=by
 have hl:zs.length=n:=by have:=h.1;simpa using this
 have hc:YaT prog 70:=⟨_,Tryz.func70,by decide,by decide⟩;refine GFn.of hc fun w hw=>?_
 rcases h.2 with ⟨rfl,h2,rfl⟩ | ⟨g,cap,cur,rfl,rfl,h3,h4,h5,h6⟩
 ·subst h2;have hz:zs=[]:=List.eq_nil_of_length_eq_zero hl;subst hz;exact (Any.slices_Sort_string_none Yfr none 0 w).mono fun e w' ⟨he,hw'⟩=>⟨_,fz,[],he,⟨rfl,rfl,by simpa [Yhj] using OwnS.nil _ _⟩,by subst hw';exact hw,by subst hw';exact Fr.refl _ _,⟨fun _ _ h=>h,fun _ _ _=>rfl,by simp⟩⟩
 have hb:=(hw.own (g,Zu cur 9) (by simp)).1;have:=Any.slices_Sort_string Yfr g 0 cap zs w (holds_of_block hb (by rw [hl];simpa using h6)) (lt_of_heap hb) Zi;rw [hl] at this;refine this.mono fun e w' ⟨he,k,os,hw'⟩=>?_
 obtain ⟨cur',a1,a2,a3⟩:=Ymd (ts:=Yhj zs) hw hl (by simp [Yhj,hl]) h3 h4 h5 hw';exact ⟨_,fz,_,he,⟨rfl,rfl,a3⟩,a1,a2,⟨fun _ _ h=>h,fun _ _ _=>rfl,fun p hp=>.inl (by simp at hp;subst hp;simp)⟩⟩
theorem YnM {zs:List (List UInt8)} (h:OwnS 9 1 v n (zs.map encStr) Hs) (hn:n<=1000000000):
 GFn prog 71 [v] fz Hs fun u fz' H'=>fz=fz'/\∃ A c,u=Zc A (cmpU zs) c:=by
 unfold cmpU;have hl:zs.length=n:=by have:=h.1;simpa using this
 have hc:YaT prog 71:=⟨_,Tryz.func71,by decide,by decide⟩;refine GFn.of hc fun w hw=>?_
 rcases h.2 with ⟨rfl,h2,rfl⟩ | ⟨g,cap,cur,rfl,rfl,h3,h4,h5,h6⟩
 ·subst h2;have hz:zs=[]:=List.eq_nil_of_length_eq_zero hl;subst hz;exact (Any.slices_Compact_string_empty Yfq none 0 w).mono fun e w' ⟨he,hw'⟩=>⟨_,fz,[],he,⟨rfl,_,_,rfl⟩,by subst hw';exact hw,by subst hw';exact Fr.refl _ _,⟨fun _ _ h=>h,fun _ _ _=>rfl,by simp⟩⟩
 have hb:=(hw.own (g,Zu cur 9) (by simp)).1;have:=Any.slices_Compact_string Yfq g 0 cap zs w (holds_of_block hb (by rw [hl];simpa using h6)) Zi Zi;have hcl:(Lib.compact zs).length<=zs.length:=by
  unfold Lib.compact Lib.compactUpTo;rw [List.length_map];exact Nat.le_trans (List.length_filter_le _ _) (by rw [List.length_range];exact Zs _)
 rw [hl] at this;refine this.mono fun e w' ⟨he,k,hw'⟩=>?_
 obtain ⟨cur',a1,a2,a3⟩:=Ymd (w':=w') (ts:=Lib.compact zs++List.replicate (n - (Lib.compact zs).length) []) (k:=k) (os:=#[]) hw hl (by rw [List.length_append,List.length_replicate];omega) h3 h4 h5 (by rw [Sort.grow_empty];exact hw');exact ⟨_,fz,_,he,⟨rfl,_,_,rfl⟩,a1,a2,⟨fun _ _ h=>h,fun _ _ _=>rfl,fun p hp=>.inl (by simp at hp;subst hp;simp)⟩⟩
def SortedBy {α:Type} (C:α->α->Int) (l:List α):Prop:=∀ (i j:Nat) (a b:α),i<j->l[i]?=some a->l[j]?=some b->¬C b a<0
theorem sortG {ρ:Go.Shelf.Ren} (Ly:Go.Proofs.SlLaysF0.n6 prog ρ) {f6:FuncId} (hf6:ρ.f 6=f6) (hca:YaT prog f6) (hone:OneC L) {z:Nat} (hz:L.size=z) (hz0:0<z) (hag:∀ W,(isAgg (ρ.t 24)).run prog W=.ok true W) (hsi:∀ W,(Go.sizeOf (ρ.t 24)).run prog W=.ok z W)
 {C:α->α->Int} (hsw:∀ {β:Type} (f:β->α),Go.Sort.SWO (ltOf fun x y=>C (f x) (f y))) {fc:FuncId} (hen:∀ args w,(callFunc fc args).run prog w=.ok (.enter fc args) w)
 (hcf:∀ {fz:FZ} {a b:α} {ca cb:List Value},L.rep fz a ca->L.rep fz b cb->@GFn drT prog fc [.agg ca.toArray,.agg cb.toArray] fz [] (fun r fz' H'=>H'=[]/\r=Zk (C a b))) {cap:Nat} {cur:List Value} (hB:GrowB L t fz g n cap cur l) (hn:0<n) (hn2:n<=2000000):
 GFn prog f6 [Zv g n cap,.func (.func fc) #[] #[]] fz [(g,Zu cur.toArray t)]
  (fun r fz' H'=>r=.tuple #[]/\fz=fz'/\∃ cur' l',H'=[(g,Zu (List.toArray cur') t)]/\GrowB L t fz g n cap cur' l'/\l'.Perm l/\SortedBy C l'):=by
 subst hf6;obtain ⟨xs,e1,e2,e3⟩:=hB.pairs;have hxl:xs.length=n:=by have:=hB.len;rw [<- e1,List.length_map] at this;exact this
 have hsz:=hB.size;have hcap:=hB.capn;rw [hz] at hsz e3;refine GFn.of hca (fun w hw=>?_);have hg:=hw.own (g,Zu cur.toArray t) (.head _);simp only at hg;have hgs:=lt_of_heap hg.1;obtain ⟨x0,hx0⟩:=Yc (l:=xs) (k:=0) Zi
 haveI:Inhabited {x:α × List Value // L.rep fz x.1 x.2}:=⟨⟨x0,e2 x0 (Zm hx0)⟩⟩
 generalize hds:(xs.attach.map fun p=>(⟨p.1,e2 p.1 p.2⟩:{x:α × List Value // L.rep fz x.1 x.2}))=ds;have hdm:ds.map (·.1)=xs:=by rw [<- hds,List.map_map];exact List.attach_map_subtype_val xs
 have hdl:ds.length=n:=by rw [<- hxl,<- hdm,List.length_map]
 have hk2:∀ x:{x:α × List Value // L.rep fz x.1 x.2},x.1.2.length=z:=fun x=>(L.len x.2).trans hz
 have h1c:∀ x:{x:α × List Value // L.rep fz x.1 x.2},∀ v∈x.1.2,v.oneCell'=true:=fun x v hv=>hone _ _ _ x.2 v hv
 have hpos:∀ (k:Nat) (cs:List Value) (ys:List {x:α × List Value // L.rep fz x.1 x.2}),True:=fun _ _ _=>trivial
 have hcell:∀ (ys:List {x:α × List Value // L.rep fz x.1 x.2}) (j:Nat),j<ys.length*z->∃ v,((ys.map (·.1)).flatMap Prod.snd)[j]?=some v/\(Go.Sort.flatK (fun x:{x:α × List Value // L.rep fz x.1 x.2}=>x.1.2) z ys.toArray)[j]! =v:=by
  intro ys j hj;obtain ⟨y,hy⟩:=Yc (l:=ys) (k:=j / z) ((Nat.div_lt_iff_lt_mul hz0).2 hj);obtain ⟨v,hv⟩:=Yc (l:=y.1.2) (k:=j % z) (by rw [hk2 y];exact Nat.mod_lt _ hz0);have hf:=Yek (z:=z) (l:=ys.map (·.1)) (i:=j / z) (j:=j % z) (x:=y.1) (u:=v) (fun p hp=>by
   obtain ⟨q,_,rfl⟩:=List.mem_map.1 hp;exact hk2 q) (by rw [List.getElem?_map,hy];rfl) hv
  rw [Nat.div_add_mod'] at hf;refine ⟨v,hf,?_⟩;rw [Go.Sort.get_flatK _ _ _ _ (by simpa using hj),list_get! hy];exact Ykj hv
 have hcmp:CmpLays prog fc #[] (fun x:{x:α × List Value // L.rep fz x.1 x.2}=>x.1.2) z (fun x y=>C x.1.1 y.1.1) g 0 ds.toArray.size w:=by
  intro m os dk _ x y;have hD:=@GFn.out drT _ _ _ _ _ _ (hcf x.2 y.2) (sortWorldK (fun x:{x:α × List Value // L.rep fz x.1 x.2}=>x.1.2) z w g 0 m dk os) ⟨fun b o hbo=>by
   have h1:=hw.keep b o hbo;rw [YeF (lt_of_heap h1) (fun e=>by subst e;rw [hg.2] at hbo;cases hbo)];exact h1,by simp,by simp⟩
  refine hD.mono fun e w' hh=>?_
  obtain ⟨v,fz',H',he,⟨_,rfl⟩,_,hfr,_⟩:=hh;exact ⟨he,YhB hfr⟩
 have hH:Go.Sort.HoldsK (fun x:{x:α × List Value // L.rep fz x.1 x.2}=>x.1.2) z w g 0 ds.toArray:=by
  intro j hj;rw [Go.Sort.size_flatK] at hj;simp only [List.size_toArray] at hj;obtain ⟨v,h1,h2⟩:=hcell ds j hj;rw [hdm,<- e3] at h1;refine ⟨?_,?_⟩
  ·rw [h2];show w.cell? ⟨g,0+j,none⟩=some v;rw [List.getElem?_take_of_lt (by rw [<- hdl];exact hj)] at h1;simp [World.cell?,hg.1,h1]
  simp [World.frozen?,hg.1]
 have hcon:=AnyQ.slices_SortFunc Ly z hag hsi (fun x:{x:α × List Value // L.rep fz x.1 x.2}=>x.1.2) hk2 h1c (fun x y=>C x.1.1 y.1.1) (hsw (fun x:{x:α × List Value // L.rep fz x.1 x.2}=>x.1.1)) fc #[] g 0 cap ds.toArray w hen hcmp hH hgs (by simp;omega);simp only [List.size_toArray,hdl] at hcon;refine Calls.mono hcon fun e w' hh=>?_
 obtain ⟨he,d',m,os,hp,hs,rfl⟩:=hh;have hsd:d'.size=n:=by rw [hp.1];simp [hdl]
 obtain ⟨ys,rfl⟩:∃ ys:List {x:α × List Value // L.rep fz x.1 x.2},d'=ys.toArray:=⟨d'.toList,by simp⟩;simp only [List.size_toArray] at hsd;have hperm:ys.Perm ds:=by
  have h:=hp.2.2;rw [show (ys.toArray.extract 0 n)=ys.toArray from by rw [<- hsd];simp,show (ds.toArray.extract 0 n)=ds.toArray from by rw [<- hdl];simp] at h;simpa using h
 have hgw:=YjI (enc:=fun x:{x:α × List Value // L.rep fz x.1 x.2}=>x.1.2) (k:=z) (m:=m) (dk:=ys.toArray) (os:=os) hg.1;generalize hF:Go.Sort.flatK (fun x:{x:α × List Value // L.rep fz x.1 x.2}=>x.1.2) z ys.toArray=F at hgw;have hFs:F.size=n*z:=by rw [<- hF,Go.Sort.size_flatK];simp [hsd]
 have hFc:∀ j,j<n*z->∃ v,((ys.map (·.1)).flatMap Prod.snd)[j]?=some v/\F[j]! =v:=fun j hj=>by
  have:=hcell ys j (by rw [hsd];exact hj)
  rwa [hF] at this
 refine ⟨_,fz,[(g,Zu (List.toArray (Go.Sort.putCells id 0 F cur.toArray).toList) t)],he,⟨rfl,rfl,_,ys.map (·.1.1),rfl,⟨⟨ys.map (·.1),by rw [List.map_map];rfl,fun p hp=>?_,?_⟩,by rw [List.length_map];exact hsd,hcap,hB.max,?_⟩,?_,?_⟩,⟨fun b o hbo=>?_,fun p hp=>?_,by simp⟩,⟨rfl,rfl,rfl,?_,fun b hb hnb=>?_,fun h=>h.elim⟩,⟨fun _ _ h=>h,fun _ _ _=>rfl,fun p hp=>?_⟩⟩
 ·obtain ⟨q,_,rfl⟩:=List.mem_map.1 hp;exact q.2
 ·rw [hz];refine List.ext_getElem? fun j=>?_
  by_cases hj:j<n*z
  ·obtain ⟨v,h1,h2⟩:=hFc j hj;have hlt:j<cur.length:=by rw [hsz];exact Nat.lt_of_lt_of_le hj (Nat.mul_le_mul_right z hcap)
   rw [h1,List.getElem?_take_of_lt hj,Array.getElem?_toList];unfold Go.Sort.putCells;simp [hlt,hFs,hj];rw [<- h2];exact (getElem!_pos F j Zi).symm
  rw [List.getElem?_eq_none (by rw [List.length_take];omega),List.getElem?_eq_none];rw [Yau (z:=z) (fun p hp=>by
   obtain ⟨q,_,rfl⟩:=List.mem_map.1 hp;exact hk2 q),List.length_map,hsd]
  omega
 ·unfold Go.Sort.putCells;simp [hsz,hz]
 ·have h1:=hperm.map (fun x:{x:α × List Value // L.rep fz x.1 x.2}=>x.1.1);have h2:ds.map (fun x:{x:α × List Value // L.rep fz x.1 x.2}=>x.1.1)=l:=by rw [<- e1,<- hdm,List.map_map];rfl
  rw [h2] at h1;exact h1
 ·intro i j a b hij ha hb;rw [List.getElem?_map] at ha hb;cases hya:ys[i]? with
  | none=>rw [hya] at ha;cases ha
  | some p=>
   cases hyb:ys[j]? with
   | none=>rw [hyb] at hb;cases hb
   | some q=>
    rw [hya] at ha;rw [hyb] at hb;injection ha with ha;injection hb with hb
    have h:=hs i j (Z0 _) hij (by have:=(Zg hyb).1;omega);rw [list_get! hya,list_get! hyb] at h;unfold ltOf at h;have h:=Zf h;rw [<- ha,<- hb];exact h
 ·have h1:=hw.keep b o hbo;rw [YeF (lt_of_heap h1) (fun e=>by subst e;rw [hg.2] at hbo;cases hbo)];exact h1
 ·rw [List.mem_singleton] at hp;subst hp;exact ⟨by simpa using hgw,hg.2⟩
 ·unfold sortWorldK Go.Sort.grow Go.Sort.putRowK Go.Sort.putRow Go.Sort.mapBlock Go.Sort.ahead;simp
 ·exact YeF hb (fun e=>hnb (by simp [e]))
 rw [List.mem_singleton] at hp;subst hp;exact .inl (by simp)
end Go.Proofs.YtacfpcbladaohaaGreatDoor
namespace Go.Lx
open Go.RowKit
section
variable {P:Program} {cx:Cx} {r:Operand->Option Value} {fz:FZ} {H:HP} {V:Value->Prop} {dst:Option Nat} {ty:TypeId} {pos:String} {af:Array Edge} {gd:Option (Nat × Bool)}
variable {g j:Nat}
theorem addr_add {o:Nat}:(⟨g,o,none⟩:Addr).add j=⟨g,o+j,none⟩:=by unfold Addr.add;split<;>simp_all
theorem Yfg {t e:TypeId} {x i:Operand} {X Y:Ty} {g n c z:Nat} {j:Nat} (hz:Y.size=z)
 (h:V (.slice (some ⟨g,j*z,none⟩) (n - j) (c - j))) (T:Tab P:=by exact T) (hT:T.inf t=some X:=by exact rfl) (hd:X.desc=.slice e:=by exact rfl) (hY:T.inf e=some Y:=by exact rfl) (hx:r x=some (Zv g n c):=by exact rfl) (hi:r i=some (Zk j):=by exact rfl) (hj:j<=n:=by omega) (hc:j<c:=by omega):DoesQ P cx ⟨dst,.slice t x (some i) none none,ty,pos,af,gd⟩ r fz H V:=
  YC (v:=Zc (some ⟨g,j*z,none⟩) (n - j) (c - j)) (fun ρ w hr=>by
   have hu:=run_underlying (und_plain T hT hd rfl) w;have hs:=Lx.run_sizeOf T hY w;have ha:(⟨g,0,none⟩:Addr).add (j*Y.size)=⟨g,j*z,none⟩:=by rw [hz,addr_add,Nat.zero_add]
   simp [execOp,hr _ _ hx,hr _ _ hi,Instr.sliceAt,Instr.slice,Instr.sliceBounds,Instr.sliceBound,asIntOf,hu,hs,hj,ha];omega) h
variable {A:Option Addr} {X Y:Ty} {c n:Nat} {e t:TypeId} {x:Operand}
theorem YjW (T:Tab P) {i:Operand} (hT:T.inf t=some X) (hd:X.desc=.slice e) (hY:T.inf e=some Y)
 (hx:r x=some (.slice A n c)) (hi:r i=some (Zk j)) (hj:j<=c) (h:V (.slice A j c)):DoesQ P cx ⟨dst,.slice t x none (some i) none,ty,pos,af,gd⟩ r fz H V:=
 YC (fun ρ w hr=>by
  have hu:=run_underlying (und_plain T hT hd rfl) w;have hs:=Lx.run_sizeOf T hY w;simp [execOp,hr _ _ hx,hr _ _ hi,Instr.sliceAt,Instr.slice,Instr.sliceBounds,Instr.sliceBound,asIntOf,hu,hs,hj];intro _;cases A<;>simp [Addr.add]) h
theorem YcR {t e:TypeId} {x i:Operand} {X Y:Ty} {g b n c z:Nat} {k:IntKind} {j:Int}
 (hs:Y.size=z) (h:V (.pointer (some ⟨g,(b+j.toNat)*z,none⟩))) (T:Tab P:=by exact T) (hT:T.inf t=some X:=by exact rfl) (hd:X.desc=.slice e:=by exact rfl) (hY:T.inf e=some Y:=by exact rfl) (hx:r x=some (.slice (some ⟨g,b*z,none⟩) n c):=by exact rfl) (hi:r i=some (.int k j):=by exact rfl) (h0:0<=j:=by omega) (hn:j<n:=by omega):DoesQ P cx ⟨dst,.indexAddr t x i,ty,pos,af,gd⟩ r fz H V:=by
  refine Ycs T hT hd hY hx hi h0 hn ?_;rw [hs,addr_add,<- Nat.add_mul];exact h
variable {t':TypeId}
theorem k_clear (T:Tab P) {pre post:HP} {o z:Nat} {cur:List Value} {K:Value->FZ->HP->Prop} (hT:T.inf t=some X) (hd:X.desc=.slice e) (hY:T.inf e=some Y) (hz:Y.zero.cells.size=z) (h1:Y.zero.cells.toList.all (·.oneCell')=true) (hz0:0<z)
 (hx:r x=some (Zc (some ⟨g,o,none⟩) n c)) (hn:0<n) (hH:H=pre++(g,Zu cur.toArray t')::post) (hle:o+n*z<=cur.length)
 (h:∀ cur':List Value,cur'.length=cur.length->cur'.take o=cur.take o->K (.tuple #[]) fz (pre++(g,Zu cur'.toArray t')::post)):
 Does P cx ⟨dst,.call {callee:=.builtin .clear,args:=#[x],argTypes:=#[t]},ty,pos,af,gd⟩ r fz H K:=by
 refine Does.of fun ρ w hr hw=>?_
 subst hH;have hb:=(hw.hp.own (g,Zu cur.toArray t') (by simp)).1;obtain ⟨n,rfl⟩:∃ m,n=m+1:=⟨n - 1,by omega⟩;generalize hcs:(Builtin.zeroCells Y.zero.cells (n+1)).toList=cs;have hcl:cs.length=(n+1)*z:=by rw [<- hcs];simp [Builtin.zeroCells,hz]
 have hc1:∀ u∈cs,u.oneCell'=true:=by
  intro u hu;rw [<- hcs] at hu;simp only [Builtin.zeroCells,Array.toList_map,Array.toList_range,List.mem_map,List.mem_range] at hu;obtain ⟨i,hi,rfl⟩:=hu;have hlt:i % Y.zero.cells.size<Y.zero.cells.size:=Nat.mod_lt _ Zi;rw [getElem!_pos Y.zero.cells _ hlt];exact List.all_eq_true.1 h1 _ (Array.getElem_mem_toList hlt)
 have hst:=run_storeCells_at (P:=P) g o t' cs 0 cur.toArray w hb (by simp;omega) hc1;simp only [Nat.add_zero] at hst;have hu:=run_underlying (und_plain T hT hd rfl) w;have hze:=YbF T hY w;have hexec:(execOp ρ ⟨dst,.call {callee:=.builtin .clear,args:=#[x],argTypes:=#[t]},ty,pos,af,gd⟩).run P w=.ok (.value (.tuple #[])) (w.setRow g (cur.take o++cs++cur.drop (o+cs.length)).toArray):=by
  simp only [execOp,resolve,invoke,builtin,Sem.run_bind,Sem.run_pure,Result.andThen_ok,List.map_toArray,List.map_cons,List.map_nil,hr _ _ hx,Builtin.clear_];simp [hu,hze,hcs,hst]
 rw [hexec];refine ⟨fz,_,hw.write (o':=.cells (cur.take o++cs++cur.drop (o+cs.length)).toArray t' (0,0)) rfl rfl rfl (by simp) ?_ (fun k hk=>?_),h _ ?_ ?_⟩
 ·simp [World.setRow,Array.getElem?_modify,hb]
 ·simp only [World.setRow,Array.getElem?_modify];rw [if_neg Zi]
 ·simp;omega
 rw [List.append_assoc,List.take_append_of_le_length (by rw [List.length_take];omega),List.take_take,Nat.min_self]
end
end Go.Lx
namespace Go.Proofs.YtacfpcbladaohaaGreatDoor
variable {i:Nat} {a:Atom} {fz:FZ}
def cpt (l:List Atom):Nat->List Atom
 | 0=>[]
 | i+1=>match l[i]? with
  | none=>cpt l i
  | some x=>if i≠0/\l[i - 1]?=some x then cpt l i else cpt l i++ [x]
theorem YmN {l:List Atom} {x:Atom} (h0:i≠0) (hx:l[i]?=some x) (hy:l[i - 1]?=some x):cpt l (i+1)=cpt l i:=by
 rw [cpt,hx];exact if_pos ⟨h0,hy⟩
theorem Yjc {l:List Atom} {x:Atom} (hx:l[i]?=some x) (h:i=0\/l[i - 1]?≠some x):cpt l (i+1)=cpt l i++ [x]:=by
 rw [cpt,hx];exact if_neg (fun hh=>h.elim hh.1 (fun h=>h hh.2))
theorem Yjd (l:List Atom):∀ i,(cpt l i).length<=i
 | 0=>Zs _
 | i+1=>by
  have:=Yjd l i;rw [cpt];split
  ·omega
  split
  ·omega
  rw [List.length_append];simp;omega
theorem Yqd {l:List Atom} {a:Atom}:∀ i,a∈cpt l i↔a∈l.take i
 | 0=>by simp [cpt]
 | i+1=>by
  have ih:=Yqd (l:=l) (a:=a) i;rw [cpt,List.take_add_one];split
  ·rename_i h;rw [h];simpa using ih
  rename_i x h;rw [h];split
  ·rename_i hc;rw [ih];constructor
   ·exact fun hh=>List.mem_append.2 (.inl hh)
   intro hh;rcases List.mem_append.1 hh with hh | hh
   ·exact hh
   simp at hh;subst hh;have:(l.take i)[i - 1]?=some a:=by rw [List.getElem?_take_of_lt Zi];exact hc.2
   exact Zm this
  simp [ih]
def cptM (l:List Atom):List Atom:=cpt l l.length
theorem YfU {l:List Atom}:a∈cptM l↔a∈l:=by unfold cptM;rw [Yqd,List.take_length]
theorem YnO {fv:Value}:QFn prog 113 [Zn,fv] fz Zn:=by
 refine qF Tryz.func113 Tryz.ntmps113 (fun w0=>?_);refine wC ?_ ?_<;>intro c1
 ·exact wR (h:=rfl)
 exact absurd c1 Zh
end Go.Proofs.YtacfpcbladaohaaGreatDoor
namespace Go.Proofs.YtacfpcbladaohaaGreatDoor
end Go.Proofs.YtacfpcbladaohaaGreatDoor
namespace Go.Lx
variable {α:Type} {A:Option Addr} {c k n:Nat} {fz:FZ} {L:Lay α}
theorem Sl.cutTo {xs:List α} (h:Sl L fz A n c xs) (hk:k<=n):Sl L fz A k c (xs.take k):=
 ⟨by rw [List.length_take,h.len];omega,by have:=h.cap;omega,h.max,by have:=h.short;omega,by
  rcases h.elem with h0 | ⟨ad,h1,h2⟩
  ·exact .inl Zi
  exact .inr ⟨ad,h1,fun i d hd=>h2 i d (by
   rw [List.getElem?_take] at hd;split at hd
   ·exact hd
   cases hd)⟩⟩
end Go.Lx
namespace Go.Proofs.YtacfpcbladaohaaGreatDoor
variable {A:Option Addr} {c n:Nat} {d:Domain} {f:Formula} {fz:FZ} {v va ve vk vp:Value} {vars:List Param}
def Yea (d:Domain) (os vars:List Param) (f:Formula):Int:=if f.op=kAtom then atomM d os vars f.name f.args else ownM d os vars f.op f.args f.params
def YiQ (vars:List Param) (f:Formula):List Param:=if f.op=kAtom then [] else varsM vars f.op f.params
theorem kown_f {os:List Param} (h:KfR fz v d os) (h1:Sl paramL fz A n c vars) (hR:FormulaR fz f va vp ve vk) (hW:n+fW f<=1000000000):
 GFn prog 55 [v,Zc A n c,.agg #[Zy f.op,Zy f.name,va,vp,ve,vk]] fz [] (fun r fz' H'=>H'=[]/\∃ A' n' c',r=.tuple #[Zc A' n' c',errV (Yea d os vars f)]/\(Yea d os vars f=0->n'<=n+f.params.length/\Sl paramL fz' A' n' c' (YiQ vars f))):=by
 have h0:=h;obtain ⟨⟨g,a0,a1,a2,a5,a6,a7,a8,a9,a10,a11,a12,a13,a14,a15,a16,a17,vf,b0,b1,A3,x3,y3,A4,x4,y4,Ao,mo,eo,rfl,hg,i3,i4,hF,hO⟩,hw,hu⟩:=h;obtain ⟨⟨B1,m1,d1,rfl,ia⟩,⟨B2,m2,d2,rfl,ip⟩,⟨B3,m3,d3,rfl,ie⟩,⟨B4,m4,d4,rfl,ik⟩⟩:=hR.sls;have l1:=ia.len;have l2:=ip.len;have ln:=h1.len;have s1:=ia.short;have s2:=ip.short;have l3:=i3.len;have s3:=i3.short;have hwp:f.params.length<=fW f:=by rw [Ya6];omega
 refine zF Tryz.func55 Tryz.ntmps55 (fun w0=>?_);refine pX (fun g3=>?_);refine pY (fun g5=>?_);refine zWO ?_;intros;by_cases hat:f.op=kAtom
 ·have e1:Yea d os vars f=atomM d os vars f.name f.args:=if_pos hat;have e2:YiQ vars f=[]:=if_pos hat;refine zV ?_;intros;refine zG ?_;refine YG ?_;refine zG ?_;refine XJ (fun fz' hle hf=>YaM (cap:=[Zp g5]) (p:=fun y:Predicate=>y.name=f.name) (i3.mono hle) (fun y _ cs hcs=>kown1_q (f:=f) (hf _ (.head _)) hcs)) ?_;rcases Ybc (p:=fun y:Predicate=>y.name=f.name) d.predicates with hno | ⟨k,x,hk1,hk2,hk3⟩
  ·have e3:atomM d os vars f.name f.args=8:=by rw [atomM,show fstP d.predicates f.name=none from YfO (p:=fun y:Predicate=>y.name=f.name) hno]
   rw [YR hno];refine zV ?_;intros;refine zC ?_ ?_<;>intro c0;rotate_left 1
   ·exact absurd Zh c0
   refine zV ?_;intros;exact ret2 rfl rfl rfl (List.nil_sublist _) ⟨rfl,_,_,_,by rw [e1,e3];rfl,fun h=>absurd h (by rw [e1,e3];decide)⟩
  have hkl:k<d.predicates.length:=(Zg hk2).1;have e3:atomM d os vars f.name f.args=YdS d os vars f.args x.params:=by rw [atomM,show fstP d.predicates f.name=some x from Yeg (p:=fun y:Predicate=>y.name=f.name) hk1 hk2 hk3]
  rw [Xg hk1 hk2 hk3,Int.zero_add];refine zV ?_;intros;refine zC ?_ ?_<;>intro c0
  ·exact absurd c0 Zi
  refine zV ?_;intros;refine zI i3 hk2 (fun p9 hp9=>?_);refine zV ?_;intros
  ((refine zG ?_);refine XQ hp9.Predicate_params (fun C9 n9 c9 h9=>?_));refine zV ?_;intros;refine zc (Ypv h0 h1 ia h9) ?_;refine zV ?_;intros;exact ret2 rfl rfl rfl (List.nil_sublist _) ⟨rfl,_,_,_,by rw [e1,e3],fun _=>⟨Z0 _,by rw [e2];exact Sl.nil⟩⟩
 have e1:Yea d os vars f=ownM d os vars f.op f.args f.params:=if_neg hat;have e2:YiQ vars f=varsM vars f.op f.params:=if_neg hat;by_cases hsa:f.op=kSame
 ·have e3:varsM vars f.op f.params=vars:=if_pos hsa;have e4:ownM d os vars f.op f.args f.params=if ∀ a∈f.args,(WK os vars a).isSome=true then 0 else 8:=if_pos hsa
  refine zV ?_;intros;refine XW m1 (fun k=>[(48,Zk k),(47,Zk m1),(46,Zc B1 m1 d1),(3,Zp g3),(1,Zc A n c)]) [(g3,Zu #[Zp g] 70)] (fun k=>(∀ i,i<k->∀ x,f.args[i]?=some x->(WK os vars x).isSome=true)) (fun i hi=>absurd hi Zi) ?_;intro k hk hh;refine zV ?_;intros;refine zC ?_ ?_<;>intro c1
  ·obtain ⟨x,hx⟩:=Yc (l:=f.args) (k:=k) Zi;refine zV ?_;intros;refine zI ia hx (fun p1 hp1=>?_);refine zH hp1 (fun hxs=>?_);refine zV ?_;intros;refine zc (Ypq h0 h1 hxs) ?_;cases hr:WK os vars x with
   | none=>
    have e5:ownM d os vars f.op f.args f.params=8:=by rw [e4,if_neg];intro h9;have:=h9 x (Zm hx);rw [hr] at this;cases this
    rw [show Yhs none=.tuple #[Ze,.iface 86 (Zk 8)] from rfl];refine zV ?_;intros;exact ret2 rfl rfl rfl (List.nil_sublist _) ⟨rfl,_,_,_,by rw [e1,e5];rfl,fun h=>absurd h (by rw [e1,e5];decide)⟩
   | some t=>
    rw [show Yhs (some t)=.tuple #[Zy t,.nilIface] from rfl];refine zV ?_;intros;exact wM (h:=by exact Yx (p:=fun x=>(WK os vars x).isSome=true) hh hx (by rw [hr];rfl))
  have hA:=YQ hh Zi;have e5:ownM d os vars f.op f.args f.params=0:=by rw [e4,if_pos hA]
  refine zV ?_;intros;exact ret2 rfl rfl rfl (List.nil_sublist _) ⟨rfl,_,_,_,by rw [e1,e5];rfl,fun _=>⟨by omega,by rw [e2,e3];exact h1⟩⟩
 by_cases hq:Yhf f.op
 ·have e3:varsM vars f.op f.params=vars++f.params:=by rw [varsM,if_neg hsa,if_pos hq]
  have e4:ownM d os vars f.op f.args f.params=if TwP [] (parN f.params) then 4 else if ExP d.types f.params then 0 else 3:=by rw [ownM,if_neg hsa,if_pos hq]
  have key:∀ w:Int,ownM d os vars f.op f.args f.params=w->w≠0->∃ A' n' c',Value.tuple #[Zn,errV w]=.tuple #[Zc A' n' c',errV (Yea d os vars f)]/\(Yea d os vars f=0->n'<=n+f.params.length/\Sl paramL fz A' n' c' (YiQ vars f)):=fun w hw1 hw2=>⟨_,_,_,by rw [e1,hw1],fun h=>absurd h (by rw [e1,hw1];exact hw2)⟩
  refine Yy ?_;refine zVX ?_;intros;refine Yy ?_;refine zVX ?_;intros;refine Yy ?_;refine zVX ?_;intros;refine Yy ?_;refine zVX ?_;intros;refine Yy (YV (fun σ fz' H'=>σ=[(63,Zo true),(5,Zp g5),(3,Zp g3),(1,Zc A n c)]/\fz=fz'/\H'=[(g5,Zu #[Zy f.op,Zy f.name,Zc B1 m1 d1,Zc B2 m2 d2,Zc B3 m3 d3,Zc B4 m4 d4] 35),(g3,Zu #[Zp g] 70)]) ?_ ?_)
  ·rcases hq with w1 | w2
   ·refine zV ?_;intros;exact wN (h:=by exact ⟨rfl,rfl,rfl⟩)
   have w1:¬f.op=kForall:=by rw [w2];decide
   refine zV ?_;intros;exact wN (h:=by exact ⟨rfl,rfl,rfl⟩)
  rintro σ fz1 H' ⟨rfl,rfl,rfl⟩;refine zV ?_;intros;refine XW m2 (fun k=>[(69,Zk k),(68,Zk m2),(67,Zc B2 m2 d2),(5,Zp g5),(3,Zp g3),(1,Zc A n c)]) [(g5,Zu #[Zy f.op,Zy f.name,Zc B1 m1 d1,Zc B2 m2 d2,Zc B3 m3 d3,Zc B4 m4 d4] 35),(g3,Zu #[Zp g] 70)] (fun k=>(∀ i,i<k->∀ x,(parN f.params)[i]?=some x->x ∉ []++(parN f.params).take i)) (fun i hi=>absurd hi Zi) ?_;intro k hk hh;refine zV ?_;intros;refine zC ?_ ?_<;>intro c1
  ·obtain ⟨x,hx⟩:=Yc (l:=f.params) (k:=k) Zi;refine zV ?_;intros;refine zI ip hx (fun p1 hp1=>?_);refine zL hp1 ?_;intro cs hcs;obtain ⟨rfl,hRx⟩:=Yz hcs;refine zV ?_;intros;rename_i g14;refine zG ?_;refine YjW T Zz Zz Zz Zz Zz (by have:=ip.cap;omega) ?_;refine zV ?_;intros;refine zG ?_;refine YG ?_;refine zG ?_;refine YaQ (b:=decide (∃ y∈f.params.take k,y.name=x.name)) (fun fz' hle hf=>Wt (cap:=[Zp g14]) (p:=fun y:Param=>y.name=x.name) ((ip.cutTo Zi).mono hle) (fun y _ cs hcs=>kown2_q (z:=x) (hf _ (.head _)) hcs)) (fun f1=>?_) (fun f1=>?_)
   ·have ht:TwP [] (parN f.params):=⟨k,x.name,YfK hx,by
     obtain ⟨y,hy,e⟩:=Zt f1;rw [List.nil_append,<- YaY,<- e];exact List.mem_map.2 ⟨y,hy,rfl⟩⟩
    refine zV ?_;intros;exact ret2 rfl rfl rfl (List.nil_sublist _) ⟨rfl,key 4 (by rw [e4,if_pos ht]) Zh⟩
   refine zV ?_;intros;exact Wr ⟨k+1,by omega,rfl,rfl,rfl,rfl,fun i hi z hz=>by
    rcases Nat.lt_or_ge i k with h9 | h9
    ·exact hh i h9 z hz
    obtain rfl:i=k:=by omega
    rw [YfK hx] at hz;injection hz with hz
    subst hz;rw [List.nil_append,<- YaY];intro hm;obtain ⟨y,hy,e⟩:=List.mem_map.1 hm;exact Zf f1 ⟨y,hy,e⟩⟩ Zi Zw Zb
  have ht:¬TwP [] (parN f.params):=Yin hh (by rw [Ydc];omega);refine zV ?_;intros;refine zG ?_;refine YG ?_;refine zG ?_;refine YaQ (b:=decide (∃ y∈f.params,¬HasT d.types y.typ)) (fun fz' hle hf=>Wt (cap:=[Zp g3]) (p:=fun y:Param=>¬HasT d.types y.typ) (ip.mono hle) (fun y _ cs hcs=>kown3_q (h0.mono hle) (hf _ (.tail _ (.head _))) hcs)) (fun f1=>?_) (fun f1=>?_)
  ·have hx:¬ExP d.types f.params:=fun h=>by
    obtain ⟨y,hy,hn⟩:=Zt f1;exact hn (h y hy)
   refine zV ?_;intros;exact ret2 rfl rfl rfl (List.nil_sublist _) ⟨rfl,key 3 (by rw [e4,if_neg ht,if_neg hx]) Zh⟩
  have hx:ExP d.types f.params:=fun y hy=>Classical.byContradiction fun hn=>Zf f1 ⟨y,hy,hn⟩
  have e5:ownM d os vars f.op f.args f.params=0:=by rw [e4,if_neg ht,if_pos hx]
  refine zV ?_;intros;refine YS [_,_] ?_;refine zW ?_;intros;refine Yj ?_;refine zW ?_;intros;refine pU ?_;refine Yf (Yh [] [_,_] Zz (Yab h1 Zi) (fun v6 fz6 H6 hle6 hR6=>⟨⟨hle6,Zx⟩,?_⟩));obtain ⟨Av,cv,rfl,_,_⟩:=hR6.form;refine Yf (XF T (Hr:=[_,_]) Zz Zz Zz Zz Zz Zz Zz Zz Zq hR6 WI (ip.mono hle6) (by show _*32<=_;omega) Zi (fun v7 H7 hO7=>⟨⟨hle6,Zx⟩,?_⟩));obtain ⟨Aw,cw,rfl,_,_⟩:=hO7.form;refine Ch.qk ⟨hle6,Zx⟩ (YE ?_);refine Ch.qk ⟨hle6,Zx⟩ (YE ?_);refine Ch.done ?_;refine zW ?_;intros;exact ret2F rfl rfl rfl (fun fz8 hle8 hf8=>by
   obtain ⟨A8,c8,e8,h8⟩:=hO7.sl hle8 (fun p hp=>hf8 p (by simp [hp])) Zi;injection e8 with e81 e82 e83
   subst e81;subst e83;exact ⟨rfl,Aw,_,cw,by rw [e1,e5];rfl,fun _=>⟨by omega,by rw [e2,e3];exact h8⟩⟩)
 have w1:¬f.op=kForall:=fun h=>hq (.inl h)
 have w2:¬f.op=kExists:=fun h=>hq (.inr h)
 have e3:varsM vars f.op f.params=vars:=by rw [varsM,if_neg hsa,if_neg hq]
 have e4:ownM d os vars f.op f.args f.params=0:=by rw [ownM,if_neg hsa,if_neg hq]
 refine zV ?_;intros;exact ret2 rfl rfl rfl (List.nil_sublist _) ⟨rfl,_,_,_,by rw [e1,e4];rfl,fun _=>⟨by omega,by rw [e2,e3];exact h1⟩⟩
theorem Yqt (h:FOk f) (ha:f.op=kAtom):f.exprs=[]/\f.kids=[]:=by
 obtain ⟨_,⟨k,hk,_,h2,h3,_⟩,_⟩:=(XT.1 h).1;rw [WJ,if_pos (.inl ha)] at hk;cases hk;exact ⟨List.eq_nil_of_length_eq_zero h2,List.eq_nil_of_length_eq_zero h3⟩
theorem YpL {os:List Param} (h:FOk f) (hz:Yea d os vars f=0):formM d os vars f=if exprML d os (YiQ vars f) f.exprs≠0 then exprML d os (YiQ vars f) f.exprs else formML d os (YiQ vars f) f.kids:=by
 by_cases ha:f.op=kAtom
 ·obtain ⟨h1,h2⟩:=Yqt h ha;rw [Yea,if_pos ha] at hz;rw [YaR,if_pos ha,h1,h2,hz,exprML,formML,if_neg Zh]
 rw [Yea,if_neg ha] at hz;rw [YaR,if_neg ha,hz,if_neg Zh,YiQ,if_neg ha]
theorem YpM {os:List Param} (hz:Yea d os vars f≠0):formM d os vars f=Yea d os vars f:=by
 by_cases ha:f.op=kAtom
 ·rw [Yea,if_pos ha,YaR,if_pos ha]
 rw [Yea,if_neg ha] at hz ⊢;rw [YaR,if_neg ha,if_pos hz]
theorem Yps:∀ (s:Nat) {fz:FZ} {v:Value} {d:Domain} {os vars:List Param} {f:Formula} {va vp ve vk:Value} {A:Option Addr} {n c:Nat},SizeOf.sizeOf f<=s->KfR fz v d os->Sl paramL fz A n c vars->FormulaR fz f va vp ve vk->FOk f->n+fW f<=1000000000->
 QFn prog 26 [v,Zc A n c,.agg #[Zy f.op,Zy f.name,va,vp,ve,vk]] fz (errV (formM d os vars f))
 | 0,_,_,_,_,_,f,_,_,_,_,_,_,_,hse,_,_,_,_,_=>by cases f;simp at hse
 | s+1,fz,v,d,os,vars,f,va,vp,ve,vk,A,n,c,hse,h,h1,hR,hok,hW=>by
  have h0:=h;obtain ⟨⟨g,a0,a1,a2,a5,a6,a7,a8,a9,a10,a11,a12,a13,a14,a15,a16,a17,vf,b0,b1,A3,x3,y3,A4,x4,y4,Ao,mo,eo,rfl,hg,i3,i4,hF,hO⟩,hw,hu⟩:=h;have hR0:=hR;obtain ⟨⟨B1,m1,d1,rfl,ia⟩,⟨B2,m2,d2,rfl,ip⟩,⟨B3,m3,d3,rfl,ie⟩,⟨B4,m4,d4,rfl,ik⟩⟩:=hR.sls;have l3:=ie.len;have l4:=ik.len;have s3:=ie.short;have s4:=ik.short;refine qF Tryz.func26 Tryz.ntmps26 (fun w0=>?_);refine pX (fun g5=>?_);refine zWO ?_;intros;refine zV ?_;intros;refine Ya (Yh [] [_] Zz (kown_f h0 h1 hR0 hW) (fun v5 fz5 H5 hle5 hR5=>?_));obtain ⟨rfl,A',n',c',rfl,hgood⟩:=hR5;by_cases hz:Yea d os vars f=0;rotate_left 1
  ·rw [Yq hz];refine zV ?_;intros;exact zR (h:=by rw [YpM hz,Yq hz];rfl)
  obtain ⟨hn',h1'⟩:=hgood hz;have e1:=YpL hok hz;rw [hz,show errV 0=.nilIface from rfl];generalize hvs:YiQ vars f=vars' at h1' e1;have h0':=h0.mono hle5;have ie':=ie.mono hle5;have ik':=ik.mono hle5;refine zV ?_;intros;refine Yi (fun q σ fz' H'=>∃ k:Nat,k<=m3/\q=m3 - k/\σ=[(27,Zk k),(26,Zk m3),(25,Zc B3 m3 d3),(5,Zp g5),(0,Zp g),(1,Zc A' n' c')]/\fz5=fz'/\H'=[(g5,Zu #[Zy f.op,Zy f.name,Zc B1 m1 d1,Zc B2 m2 d2,Zc B3 m3 d3,Zc B4 m4 d4] 35)]/\(∀ i,i<k->∀ y,f.exprs[i]?=some y->exprM d os vars' y=0)) ⟨0,Z0 _,rfl,rfl,rfl,rfl,fun i hi=>absurd hi Zi⟩ Zw Zb ?_;rintro q σ fz' H' ⟨k,hk,rfl,rfl,rfl,rfl,hh⟩;refine zV ?_;intros;refine zC ?_ ?_<;>intro c1
  ·obtain ⟨x,hx⟩:=Yc (l:=f.exprs) (k:=k) Zi;refine zV ?_;intros;refine zI ie' hx (fun p1 hp1=>?_);refine zL hp1 ?_;intro cs hcs;obtain ⟨wa,wk,rfl,hRx⟩:=Yw hcs;obtain ⟨⟨E1,r1,q1,rfl,_⟩,⟨E2,r2,q2,rfl,_⟩⟩:=hRx.sls;refine zV ?_;intros
   ((refine zG ?_);refine Yu (Ypu _ (Zs _) h0' h1' hRx) ?_);by_cases hz:exprM d os vars' x=0
   ·rw [hz,show errV 0=.nilIface from rfl];refine zV ?_;intros;exact wM (h:=by exact Yx hh hx hz)
   rw [Yq hz];refine zV ?_;intros;exact zR (h:=by rw [e1,Ybz hx hh hz,if_pos hz,Yq hz])
  have hez:exprML d os vars' f.exprs=0:=W7 (YQ hh Zi);rw [hez,if_neg Zh] at e1;refine zV ?_;intros;refine Yi (fun q σ fz' H'=>∃ k:Nat,k<=m4/\q=m4 - k/\σ=[(42,Zk k),(41,Zk m4),(40,Zc B4 m4 d4),(0,Zp g),(1,Zc A' n' c')]/\fz5=fz'/\H'=[]/\(∀ i,i<k->∀ y,f.kids[i]?=some y->formM d os vars' y=0)) ⟨0,Z0 _,rfl,rfl,rfl,rfl,fun i hi=>absurd hi Zi⟩ Zw (List.nil_sublist _) ?_;rintro q σ fz' H' ⟨k,hk,rfl,rfl,rfl,rfl,hh⟩;refine zV ?_;intros;refine zC ?_ ?_<;>intro c2
  ·obtain ⟨x,hx⟩:=Yc (l:=f.kids) (k:=k) Zi;have hxm:=Zm hx;have hlt:=Lx.Formula.kids_lt hxm;have hkw:=Ypr hxm;refine zV ?_;intros;refine zI ik' hx (fun p1 hp1=>?_);refine zL hp1 ?_;intro cs hcs;obtain ⟨wa,wp,we,wk,rfl,hRx⟩:=Yn hcs;obtain ⟨⟨E1,r1,q1,rfl,_⟩,⟨E2,r2,q2,rfl,_⟩,⟨E3,r3,q3,rfl,_⟩,⟨E4,r4,q4,rfl,_⟩⟩:=hRx.sls;refine zV ?_;intros
   ((refine zG ?_);refine Yu (Yps s Zi h0' h1' hRx ((XT.1 hok).2.2 x hxm) Zi) ?_);by_cases hz:formM d os vars' x=0
   ·rw [hz,show errV 0=.nilIface from rfl];refine zV ?_;intros;exact wM (h:=by exact Yx hh hx hz)
   rw [Yq hz];refine zV ?_;intros;exact zR (h:=by rw [e1,Yei hx hh hz,Yq hz])
  have hA:=YQ hh Zi;refine zV ?_;intros;exact zR (h:=by rw [e1,YcB hA];rfl)
end Go.Proofs.YtacfpcbladaohaaGreatDoor
namespace Go.Proofs.YtacfpcbladaohaaGreatDoor
variable {f:Formula}
theorem WSh.join {op:Bs} {ns:List Formula} (hop:op=kAnd\/op=kOr) (h:∀ n∈ns,WSh n):WSh (joinF op ns):=by
 have a1:¬op=kSame:=by rcases hop with rfl | rfl<;>decide+kernel
 have a2:¬(op=kNot\/QuF op):=by rcases hop with rfl | rfl<;>(unfold QuF;decide+kernel)
 refine .mk (fun e=>absurd e a1) (fun e=>absurd e a2) (hop.elim (fun h=>.inr (.inr (.inr (.inl h)))) (fun h=>.inr (.inr (.inr (.inr (.inl h)))))) (fun k hk=>?_);have hk:k∈joinL op ns:=hk;unfold joinL at hk;obtain ⟨n,hn,hkn⟩:=List.mem_flatMap.1 hk;split at hkn
 ·exact (h n hn).kid hkn
 rw [List.mem_singleton] at hkn;subst hkn;exact h k hn
theorem WSh.cmp {op:Bs} {a b:Lx.Expr} (hop:op=kLt\/op=kLe\/op=kEq) (ha:VSh a) (hb:VSh b):WSh (cmpF op a b):=by
 have a1:¬op=kSame:=by rcases hop with rfl | rfl | rfl<;>decide+kernel
 have a2:¬(op=kNot\/QuF op):=by rcases hop with rfl | rfl | rfl<;>(unfold QuF;decide+kernel)
 exact .mk (fun e=>absurd e a1) (fun e=>absurd e a2) (.inr (.inr (.inr (.inr (.inr (.inr ⟨Zs 2,fun e he=>by
  have he:e∈ [a,b]:=he;rcases List.mem_cons.1 he with rfl | he
  ·exact ha
  rw [List.mem_singleton] at he;subst he;exact hb⟩)))))) (fun k hk=>by cases hk)
theorem Ymo:∀ (n:Nat) {f:Formula} (sg:Bool),SizeOf.sizeOf f<=n->FOk f->WSh (normM sg f)
 | 0,f,_,h,_=>by cases f;simp at h
 | n+1,f,sg,hsz,hok=>by
  have hall:=XT.1 hok;obtain ⟨⟨f1,f2,f3⟩,⟨k,hk,r1,r2,r3,r4⟩,hpar⟩:=hall.1;have ih:∀ (sg':Bool) (x:Formula),x∈f.kids->WSh (normM sg' x):=fun sg' x hx=>Ymo n sg' (by have:=Formula.kids_lt hx;omega) (hall.2.2 x hx)
  have hone:∀ sg':Bool,f.kids.length=1->WSh (headN (f.kids.map (normM sg'))):=fun sg' h1=>by
   obtain ⟨x,hx⟩:=List.length_eq_one_iff.1 h1;rw [hx];exact ih sg' x (by rw [hx];simp)
  have hmap:∀ sg':Bool,∀ x∈f.kids.map (normM sg'),WSh x:=fun sg' x hx=>by
   obtain ⟨y,hy,rfl⟩:=List.mem_map.1 hx;exact ih sg' y hy
  have hex:CmpOp f.op->VSh (exprAt f.exprs 0)/\VSh (exprAt f.exprs 1):=fun hc=>by
   have e:WJ f=some (2,false,0):=by
    unfold WJ;unfold CmpOp at hc;rcases hc with hc | hc | hc<;>rw [hc,if_neg (by decide+kernel),if_pos (by unfold CmpOp;simp)]
   rw [e] at hk;injection hk with hk
   subst hk;have hl:f.exprs.length=2:=r2;have hve:∀ e∈f.exprs,VSh e:=fun e he=>Yn5 _ (Zs _) (hall.2.1 e he)
   obtain ⟨x,y,hxy⟩:∃ x y,f.exprs=[x,y]:=by
    match hf:f.exprs,hl with
    | [x,y],_=>exact ⟨x,y,rfl⟩
   rw [hxy] at hve ⊢;exact ⟨hve x (by simp),hve y (by simp)⟩
  rw [WD];by_cases w1:f.op=kNot
  ·rw [if_pos w1];have e:WJ f=some (0,false,1):=by
    unfold WJ;rw [w1,if_neg (by decide+kernel),if_neg (by unfold CmpOp;decide+kernel),if_neg (by decide+kernel),if_pos rfl]
   rw [e] at hk;injection hk with hk
   subst hk;exact hone _ r3
  rw [if_neg w1];by_cases w2:f.op=kImply
  ·rw [if_pos w2];have e:WJ f=some (0,false,2):=by
    unfold WJ;rw [w2,if_neg (by decide+kernel),if_neg (by unfold CmpOp;decide+kernel),if_neg (by decide+kernel),if_neg (by decide+kernel),if_pos rfl]
   rw [e] at hk;injection hk with hk
   subst hk;have hl:f.kids.length=2:=r3;obtain ⟨x,y,hxy⟩:∃ x y,f.kids=[x,y]:=by
    match hf:f.kids,hl with
    | [x,y],_=>exact ⟨x,y,rfl⟩
   rw [hxy];refine WSh.join (by split<;>simp) (fun z hz=>?_);rcases List.mem_cons.1 hz with rfl | hz
   ·exact ih _ x (by rw [hxy];simp)
   rw [List.mem_singleton] at hz;subst hz;exact ih _ y (by rw [hxy];simp)
  rw [if_neg w2];by_cases w3:f.op=kAnd
  ·rw [if_pos w3];exact WSh.join (by split<;>simp) (hmap sg)
  rw [if_neg w3];by_cases w4:f.op=kOr
  ·rw [if_pos w4];exact WSh.join (by split<;>simp) (hmap sg)
  rw [if_neg w4];by_cases w5:QuF f.op
  ·rw [if_pos w5];have e:WJ f=some (0,true,1):=by
    unfold WJ;rcases w5 with w5 | w5
    ·rw [w5,if_neg (by decide+kernel),if_neg (by unfold CmpOp;decide+kernel),if_neg (by decide+kernel),if_neg (by decide+kernel),if_neg (by decide+kernel),if_pos (by simp)]
    rw [w5,if_neg (by decide+kernel),if_neg (by unfold CmpOp;decide+kernel),if_neg (by decide+kernel),if_neg (by decide+kernel),if_neg (by decide+kernel),if_pos (by simp)]
   rw [e] at hk;injection hk with hk
   subst hk;have hq:∀ op,op=kForall\/op=kExists->¬op=kSame/\¬op=kAtom/\¬op=kNot:=by
    rintro op (rfl | rfl)<;>decide+kernel
   have hop:QuF (if sg=true then f.op else if f.op=kForall then kExists else kForall):=by
    split
    ·exact w5
    split
    ·exact .inr rfl
    exact .inl rfl
   obtain ⟨q1,q2,q3⟩:=hq _ hop;refine .mk (fun e=>absurd e q1) (fun _ h=>by cases h) (.inr (.inr (.inr (.inr (.inr (.inl hop)))))) (fun x hx=>?_);have hx:x∈ [headN (f.kids.map (normM sg))]:=hx;rw [List.mem_singleton] at hx;subst hx;exact hone _ r3
  rw [if_neg w5];by_cases w6:f.op=kLt
  ·rw [if_pos w6];split
   ·exact WSh.cmp (.inl rfl) (hex (.inl w6)).1 (hex (.inl w6)).2
   exact WSh.cmp (.inr (.inl rfl)) (hex (.inl w6)).2 (hex (.inl w6)).1
  rw [if_neg w6];by_cases w7:f.op=kLe
  ·rw [if_pos w7];split
   ·exact WSh.cmp (.inr (.inl rfl)) (hex (.inr (.inl w7))).1 (hex (.inr (.inl w7))).2
   exact WSh.cmp (.inl rfl) (hex (.inr (.inl w7))).2 (hex (.inr (.inl w7))).1
  rw [if_neg w7];by_cases w8:f.op=kEq
  ·rw [if_pos w8];split
   ·exact WSh.cmp (.inr (.inr rfl)) (hex (.inr (.inr w8))).1 (hex (.inr (.inr w8))).2
   have a1:¬kOr=kSame:=by decide+kernel
   have a2:¬(kOr=kNot\/QuF kOr):=by unfold QuF;decide+kernel
   have a3:¬kOr=kAtom:=by decide+kernel
   refine .mk (fun e=>absurd e a1) (fun e=>absurd e a2) (.inr (.inr (.inr (.inr (.inl rfl))))) (fun x hx=>?_);rcases List.mem_cons.1 hx with rfl | hx
   ·exact WSh.cmp (.inl rfl) (hex (.inr (.inr w8))).1 (hex (.inr (.inr w8))).2
   rw [List.mem_singleton] at hx;subst hx;exact WSh.cmp (.inl rfl) (hex (.inr (.inr w8))).2 (hex (.inr (.inr w8))).1
  rw [if_neg w8];have hao:f.op=kAtom\/f.op=kSame:=by
   unfold WJ at hk;by_cases h0:f.op=kAtom\/f.op=kSame
   ·exact h0
   rw [if_neg h0,if_neg (fun h=>by unfold CmpOp at h;rcases h with h | h | h;exact w6 h;exact w7 h;exact w8 h),if_neg (fun h=>h.elim w3 w4),if_neg w1,if_neg w2,if_neg (show ¬(f.op=kForall\/f.op=kExists) from w5)] at hk;cases hk
  have e:k=(0,false,0):=by
   unfold WJ at hk;rw [if_pos hao] at hk;injection hk with hk
   exact hk.symm
  subst e;have hk0:f.kids=[]:=List.eq_nil_of_length_eq_zero r3;have hn1:¬(f.op=kNot\/QuF f.op):=fun h=>h.elim w1 w5
  have hf:WSh f:=by
   exact .mk (fun e=>Nat.le_of_eq (f2 e).2.symm) (fun e=>absurd e hn1) (hao.elim .inl (fun h=>.inr (.inl h))) (fun x hx=>by rw [hk0] at hx;cases hx)
  cases sg with
  | true=>rw [if_pos rfl];exact hf
  | false=>
   rw [if_neg Zh];have a1:¬kNot=kSame:=by decide+kernel
   have a3:¬kNot=kAtom:=by decide+kernel
   refine .mk (fun e=>absurd e a1) (fun _ h=>by cases h) (.inr (.inr (.inl rfl))) (fun x hx=>?_);have hx:x∈ [f]:=hx;rw [List.mem_singleton] at hx;subst hx;exact hf
theorem Ykd (h:FVal f):WSh (normV f):=by
 unfold normV;rw [if_pos h];exact Ymo _ true (Zs _) h.1
theorem eW_at (l:List Lx.Expr):eW (exprAt l 0)+eW (exprAt l 1)<=2+(l.map eW).sum:=by
 have hz:eW YnV=1:=by rw [YnI];rfl
 match l with
 | []=>show eW YnV+eW YnV<=_;omega
 | [x]=>show eW x+eW YnV<=_;simp only [List.map_cons,List.map_nil,List.sum_cons,List.sum_nil];omega
 | x::y::r=>show eW x+eW y<=_;simp only [List.map_cons,List.sum_cons];omega
theorem fW_cmp (op:Bs) (a b:Lx.Expr):fW (cmpF op a b)=1+eW a+eW b:=by
 rw [Ya6];show 1+0+0+(eW a+(eW b+0))+0=_;omega
theorem YpZ {op:Bs}:∀ (ns:List Formula),((joinL op ns).map fW).sum<=(ns.map fW).sum
 | []=>Zs _
 | n::r=>by
  have ih:=YpZ (op:=op) r;have e:joinL op (n::r)=(if n.op=op then n.kids else [n])++joinL op r:=rfl;have hn:=Ya6 n;rw [e,List.map_append,List.sum_append,List.map_cons,List.sum_cons];split
  ·omega
  simp only [List.map_cons,List.map_nil,List.sum_cons,List.sum_nil];omega
theorem Yi7 {op:Bs} (ns:List Formula):fW (joinF op ns)<=1+(ns.map fW).sum:=by
 have h:=YpZ (op:=op) ns;rw [Ya6];show 1+0+0+0+((joinL op ns).map fW).sum<=_;omega
theorem Yp0 (l:List Formula):fW (headN l)<=1+(l.map fW).sum:=by
 have hz:fW YdD=1:=by rw [Ya6];rfl
 match l with
 | []=>show fW YdD<=_;omega
 | x::r=>show fW x<=_;simp only [List.map_cons,List.sum_cons];omega
theorem YpY:∀ (n:Nat) {f:Formula} (sg:Bool),SizeOf.sizeOf f<=n->FOk f->fW (normM sg f)<=8*fW f
 | 0,f,_,h,_=>by cases f;simp at h
 | n+1,f,sg,hsz,hok=>by
  have hall:=XT.1 hok;have ih:∀ (sg':Bool) (x:Formula),x∈f.kids->fW (normM sg' x)<=8*fW x:=fun sg' x hx=>YpY n sg' (by have:=Formula.kids_lt hx;omega) (hall.2.2 x hx)
  have hm:∀ sg':Bool,((f.kids.map (normM sg')).map fW).sum<=8*(f.kids.map fW).sum:=fun sg'=>by
   rw [List.map_map];exact YeH (n:=fW ∘ normM sg') (fun x hx=>ih sg' x hx)
  have he:=eW_at f.exprs;have hf:=Ya6 f;rw [WD];by_cases w1:f.op=kNot
  ·rw [if_pos w1];have:=Yp0 (f.kids.map (normM (!sg)));have:=hm (!sg);omega
  rw [if_neg w1];by_cases w2:f.op=kImply
  ·rw [if_pos w2];obtain ⟨_,⟨k,hk,r1,r2,r3,r4⟩,_⟩:=hall.1;have e:WJ f=some (0,false,2):=by
    unfold WJ;rw [w2,if_neg (by decide+kernel),if_neg (by unfold CmpOp;decide+kernel),if_neg (by decide+kernel),if_neg (by decide+kernel),if_pos rfl]
   rw [e] at hk;injection hk with hk
   subst hk;have hl:f.kids.length=2:=r3;obtain ⟨x,y,hxy⟩:∃ x y,f.kids=[x,y]:=by
    match hf:f.kids,hl with
    | [x,y],_=>exact ⟨x,y,rfl⟩
   have hx:=ih (!sg) x (by rw [hxy];simp);have hy:=ih sg y (by rw [hxy];simp);rw [hxy] at hf ⊢;refine Nat.le_trans (Yi7 _) ?_;show 1+(fW (normM (!sg) x)+(fW (normM sg y)+0))<=_;simp only [List.map_cons,List.map_nil,List.sum_cons,List.sum_nil] at hf;omega
  rw [if_neg w2];by_cases w3:f.op=kAnd
  ·rw [if_pos w3];have:=Yi7 (op:=if sg=true then kAnd else kOr) (f.kids.map (normM sg));have:=hm sg;omega
  rw [if_neg w3];by_cases w4:f.op=kOr
  ·rw [if_pos w4];have:=Yi7 (op:=if sg=true then kOr else kAnd) (f.kids.map (normM sg));have:=hm sg;omega
  rw [if_neg w4];by_cases w5:QuF f.op
  ·rw [if_pos w5,Ya6];have h1:=Yp0 (f.kids.map (normM sg));have h2:=hm sg;show 1+0+f.params.length+0+(fW (headN (f.kids.map (normM sg)))+0)<=_;omega
  rw [if_neg w5];have c1:=fun op=>fW_cmp op (exprAt f.exprs 0) (exprAt f.exprs 1)
  have c2:=fun op=>fW_cmp op (exprAt f.exprs 1) (exprAt f.exprs 0)
  by_cases w6:f.op=kLt
  ·rw [if_pos w6];split<;>simp only [c1,c2]<;>omega
  rw [if_neg w6];by_cases w7:f.op=kLe
  ·rw [if_pos w7];split<;>simp only [c1,c2]<;>omega
  rw [if_neg w7];by_cases w8:f.op=kEq
  ·rw [if_pos w8];split
   ·rw [c1];omega
   rw [Ya6];show 1+0+0+0+(fW (cmpF kLt (exprAt f.exprs 0) (exprAt f.exprs 1))+(fW (cmpF kLt (exprAt f.exprs 1) (exprAt f.exprs 0))+0))<=_;rw [c1,c2];omega
  rw [if_neg w8];split
  ·omega
  rw [Ya6 (.mk kNot ⟨#[]⟩ [] [] [] [f])];show 1+0+0+0+(fW f+0)<=_;omega
theorem Yo2 (h:FVal f):fW (normV f)<=8*fW f:=by
 unfold normV;rw [if_pos h];exact YpY _ true (Zs _) h.1
end Go.Proofs.YtacfpcbladaohaaGreatDoor
namespace Go.Proofs.YtacfpcbladaohaaGreatDoor
variable {a:Atom} {d:Domain} {fz:FZ} {p:Problem} {u1 u2 u3 u4 u5 u6 u7 v1 v2 v3 v4 v5 v6:Value} {k j:Nat}
structure Apt (d:Domain) (p:Problem):Prop where
 init:∀ a∈p.init,AtmOk a
 sch:SchS (knM d p) d
 os:∀ o∈(knM d p).os,PlnS o.name
 sh:schE (knM d p) d=0->∀ s∈schL (knM d p) d,SSh s
theorem Yh2:∀ (l S:List Atom),S.Nodup->(l.foldl YnS S).Nodup
 | [],_,h=>h
 | a::l,S,h=>by
  refine Yh2 l _ ?_;unfold YnS;split
  ·exact h
  rename_i hn;exact List.nodup_append.2 ⟨h,by simp,fun x hx y hy hxy=>by simp at hy;subst hy;subst hxy;exact hn hx⟩
theorem YgH (l:List Atom):(YgJ l).Nodup:=Yh2 l [] List.nodup_nil
theorem YmG:∀ (l S:List Atom) (a:Atom),a∈l.foldl YnS S↔a∈S\/a∈l
 | [],_,_=>by simp
 | b::l,S,a=>by
  rw [List.foldl_cons,YmG l];unfold YnS;split
  ·rename_i hb;constructor
   ·rintro (h | h)
    ·exact .inl h
    exact .inr (by simp [h])
   rintro (h | h)
   ·exact .inl h
   rcases List.mem_cons.1 h with rfl | h
   ·exact .inl hb
   exact .inr h
  simp [or_assoc]
theorem YgI {l:List Atom}:a∈YgJ l↔a∈l:=by
 unfold YgJ;rw [YmG];simp
def Yad (d:Domain) (p:Problem) (S0:List Atom):Int:=if (YT d p).2≠0 then (YT d p).2 else expE (knM d p) d S0
theorem Yqr (hM:MaxF fz) (hD:DomainR fz d v1 v2 v3 v4 v5 v6) (hP:ProblemR fz p u1 u2 u3 u4 u5 u6 u7) (hS:ChkS d p) (hA:(YT d p).2=0->Apt d p):
 GFn prog 8 [ZD d v1 v2 v3 v4 v5 v6,ZP p u1 u2 u3 u4 u5 u6 u7] fz []
  (fun r fz' H'=>H'=[]/\∃ S0,YqC S0 (YgJ p.init)/\∃ v,r=.tuple #[v,errV (Yad d p S0)]/\(Yad d p S0≠0->v=Zn)/\(Yad d p S0=0->∃ l,IsSl atomL fz' v l/\l.Perm (expM (knM d p) d S0).S/\Yjs l/\∀ a∈l,AtmOk a)):=by
 have hD0:=hD;have hP0:=hP;obtain ⟨⟨A1,n1,b1,rfl,i1⟩,⟨A2,n2,b2,rfl,i2⟩,⟨A3,n3,b3,rfl,i3⟩,⟨A4,n4,b4,rfl,i4⟩,⟨A5,n5,b5,rfl,i5⟩,⟨A6,n6,b6,rfl,i6⟩⟩:=hD.sls;obtain ⟨⟨B1,m1,d1,rfl,j1⟩,⟨B2,m2,d2,rfl,j2⟩,⟨B3,m3,d3,rfl,j3⟩⟩:=hP.sls;obtain ⟨⟨B4,m4,d4,rfl,_⟩,⟨B5,m5,d5,rfl,_⟩,⟨B6,m6,d6,rfl,_⟩,⟨B7,m7,d7,rfl,_⟩⟩:=hP.goal.sls;refine zF Tryz.func8 Tryz.ntmps8 (fun w0=>?_);refine pX (fun g2=>?_);refine pY (fun g3=>?_);refine zWO ?_;refine vK (q:=Ylu hM hD0 hP0 hS (fun h=>(hA h).init)) (h:=fun v4 fz4 H4 hle4 hR4=>?_);obtain ⟨rfl,vk,rfl,hkd⟩:=hR4;by_cases hc:(YT d p).2=0;rotate_left 1
 ·rw [Yq hc];exact vS (h:=by exact ⟨rfl,YgJ p.init,⟨YgH p.init,fun _=>Iff.rfl⟩,_,by rw [Yad,if_pos hc,Yq hc];try rfl,fun _=>rfl,fun h=>absurd h (by rw [Yad,if_pos hc];exact hc)⟩)
 rw [hc,show errV 0=.nilIface from rfl];have hap:=hA hc;have hKD:=hkd hc;refine vK (q:=YkH hKD hap.sch hap.os hap.sh) (h:=fun v5 fz5 H5 hle5 hR5=>?_);obtain ⟨rfl,S0,hS0,vr,rfl,hrr⟩:=hR5;have hE:Yad d p S0=expE (knM d p) d S0:=by rw [Yad,if_neg (by rw [hc];decide)]
 by_cases he:expE (knM d p) d S0=0;rotate_left 1
 ·rw [Yq he];exact vS (h:=by exact ⟨rfl,S0,hS0,_,by rw [hE,Yq he];try rfl,fun _=>rfl,fun h=>absurd h (by rw [hE];exact he)⟩)
 rw [he,show errV 0=.nilIface from rfl];obtain ⟨gr,gs,vk',As,Ad,n,cS,cd,vb,m,gD,rfl,h1,h2,h3,h4,h5,h6,h7⟩:=(hrr he).ex;have hlen:(expM (knM d p) d S0).S.length<=4096:=by
  unfold expE at he;split at he
  ·rename_i h;exact absurd he h
  split at he
  ·cases he
  omega
 refine vK (q:=sorted_f h2 h3 Zi) (h:=fun v6 fz6 H6 hle6 hR6=>?_);obtain ⟨rfl,l,hl,hp,hs⟩:=hR6;obtain ⟨Al,nl,cl,rfl,hsl⟩:=hl;refine zV ?_;exact ret2 rfl rfl rfl Zb ⟨rfl,S0,hS0,_,by rw [hE,he];rfl,fun h=>absurd (by rw [hE];exact he) h,fun _=>⟨l,hsl.is,hp,hs,fun a ha=>by
  obtain ⟨i,hi⟩:=List.getElem?_of_mem (hp.mem_iff.1 ha);exact (h3.2.2 i a hi).1⟩⟩
abbrev StepM:=Bs × List Bs
def Ycp:Lay StepM where
 size:=3
 rep:=fun fz x cs=>∃ va,cs=[Zk 0,Zy x.1,va]/\Short x.1/\IsSl strL fz va x.2
 len:=fun h=>by obtain ⟨va,rfl,_⟩:=h;rfl
 mono:=fun hle h=>by obtain ⟨va,e,h1,h2⟩:=h;exact ⟨va,e,h1,h2.mono hle⟩
def Yhq (n:Bs) (as_:List (List Bs)) (b:List Bool):List StepM:=((as_.zip b).filter (·.2)).map fun z=>(n,z.1)
def Ydr (l:List Schema) (D:List (List Bool)):List StepM:=(l.zip D).flatMap fun z=>Yhq z.1.name z.1.arguments z.2
theorem YdU {α β:Type}:∀ (k:Nat) (l:List α) (m:List β),(l.take k).zip (m.take k)=(l.zip m).take k
 | 0,_,_=>by simp
 | k+1,[],_=>by simp
 | k+1,_::_,[]=>by simp
 | k+1,a::l,b::m=>by simp [YdU k l m]
theorem YnB {l:List Schema} {D:List (List Bool)} {s:Schema} {b:List Bool} (hs:l[k]?=some s) (hb:D[k]?=some b):Ydr (l.take (k+1)) (D.take (k+1))=Ydr (l.take k) (D.take k)++Yhq s.name s.arguments b:=by
 unfold Ydr;have hz:(l.zip D)[k]?=some (s,b):=by rw [List.getElem?_zip_eq_some];exact ⟨hs,hb⟩
 rw [YdU,YdU,List.take_add_one,hz];simp
theorem Yh0 {n:Bs} {l:List (List Bs)} {b:List Bool} {a:List Bs} {x:Bool} (ha:l[j]?=some a) (hx:b[j]?=some x):Yhq n (l.take (j+1)) (b.take (j+1))=Yhq n (l.take j) (b.take j)++(if x=true then [(n,a)] else []):=by
 unfold Yhq;have hz:(l.zip b)[j]?=some (a,x):=by rw [List.getElem?_zip_eq_some];exact ⟨ha,hx⟩
 rw [YdU,YdU,List.take_add_one,hz];cases x<;>simp
theorem Ykr {n:Bs} {l:List (List Bs)} {b:List Bool}:(Yhq n l b).length<=l.length:=by
 unfold Yhq;rw [List.length_map];refine Nat.le_trans (List.length_filter_le _ _) ?_;rw [List.length_zip];omega
theorem Yks:∀ (l:List Schema) (D:List (List Bool)),(Ydr l D).length<=YbX l
 | [],_=>by simp [Ydr]
 | _::_,[]=>by simp [Ydr]
 | s::l,b::D=>by
  have h1:=Yks l D;have h2:=Ykr (n:=s.name) (l:=s.arguments) (b:=b);have e:Ydr (s::l) (b::D)=Yhq s.name s.arguments b++Ydr l D:=by simp [Ydr]
  rw [e,List.length_append];unfold YbX at*;simp only [List.map_cons,List.sum_cons];omega
theorem Ynt (l:List Schema) (k:Nat):YbX (l.take k)<=YbX l:=by
 unfold YbX
 conv=>rhs;rw [<- List.take_append_drop k l]
 rw [List.map_append,List.sum_append];omega
theorem YdW:OneC Ycp:=by
 intro fz d cs h u hu;obtain ⟨va,rfl,_,A,n,c,rfl,_⟩:=h;simp at hu;rcases hu with rfl | rfl | rfl<;>rfl
theorem insts_f (hM:MaxF fz) (hD:DomainR fz d v1 v2 v3 v4 v5 v6) (hP:ProblemR fz p u1 u2 u3 u4 u5 u6 u7) (hS:ChkS d p) (hA:(YT d p).2=0->Apt d p):
 GFn prog 16 [ZD d v1 v2 v3 v4 v5 v6,ZP p u1 u2 u3 u4 u5 u6 u7] fz []
  (fun r fz' H'=>∃ S0,YqC S0 (YgJ p.init)/\∃ v,r=.tuple #[v,errV (Yad d p S0)]/\(Yad d p S0≠0->v=Zn/\H'=[])/\(Yad d p S0=0->∃ n,Grow Ycp 69 fz' v n H' (Ydr (schL (knM d p) d) (expM (knM d p) d S0).D))):=by
 have hD0:=hD;have hP0:=hP;obtain ⟨⟨A1,n1,b1,rfl,i1⟩,⟨A2,n2,b2,rfl,i2⟩,⟨A3,n3,b3,rfl,i3⟩,⟨A4,n4,b4,rfl,i4⟩,⟨A5,n5,b5,rfl,i5⟩,⟨A6,n6,b6,rfl,i6⟩⟩:=hD.sls;obtain ⟨⟨B1,m1,d1,rfl,j1⟩,⟨B2,m2,d2,rfl,j2⟩,⟨B3,m3,d3,rfl,j3⟩⟩:=hP.sls;obtain ⟨⟨B4,m4,d4,rfl,_⟩,⟨B5,m5,d5,rfl,_⟩,⟨B6,m6,d6,rfl,_⟩,⟨B7,m7,d7,rfl,_⟩⟩:=hP.goal.sls;refine zF Tryz.func16 Tryz.ntmps16 (fun w0=>?_);refine pX (fun g2=>?_);refine pY (fun g3=>?_);refine zWO ?_;refine vK (q:=Ylu hM hD0 hP0 hS (fun h=>(hA h).init)) (h:=fun v4 fz4 H4 hle4 hR4=>?_);obtain ⟨rfl,vk,rfl,hkd⟩:=hR4;by_cases hc:(YT d p).2=0;rotate_left 1
 ·rw [Yq hc];exact vS (h:=by exact ⟨YgJ p.init,⟨YgH p.init,fun _=>Iff.rfl⟩,_,by rw [Yad,if_pos hc,Yq hc];try rfl,fun _=>⟨rfl,rfl⟩,fun h=>absurd h (by rw [Yad,if_pos hc];exact hc)⟩)
 rw [hc,show errV 0=.nilIface from rfl];have hap:=hA hc;have hKD:=hkd hc;refine vK (q:=YkH hKD hap.sch hap.os hap.sh) (h:=fun v5 fz5 H5 hle5 hR5=>?_);obtain ⟨rfl,S0,hS0,vr,rfl,hrr⟩:=hR5;have hE:Yad d p S0=expE (knM d p) d S0:=by rw [Yad,if_neg (by rw [hc];decide)]
 by_cases he:expE (knM d p) d S0=0;rotate_left 1
 ·rw [Yq he];exact vS (h:=by exact ⟨S0,hS0,_,by rw [hE,Yq he];try rfl,fun _=>⟨rfl,rfl⟩,fun h=>absurd h (by rw [hE];exact he)⟩)
 rw [he,show errV 0=.nilIface from rfl];obtain ⟨gr,gs,vk',As,Ad,n,cS,cd,vb,m,gD,rfl,h1,h2,h3,h4,h5,h6,h7⟩:=(hrr he).ex;have ln:=h4.len;have sn:=h4.short;refine zV ?_;have hE0:schE (knM d p) d=0:=by
  unfold expE at he;by_cases h0:schE (knM d p) d=0
  ·exact h0
  rw [if_pos h0] at he;exact absurd he h0
 have hfit:FitR (schL (knM d p) d) (expM (knM d p) d S0).D:=(YgZ (K:=knM d p) (l:=schL (knM d p) d) _ (w:=⟨S0,exN0 (schL (knM d p) d),exN0 (schL (knM d p) d),false⟩) (Nat.lt_succ_self _) (Yeo _) (Yeo _)).2.2.1;have hmany:YbX (schL (knM d p) d)<=4096:=by
  unfold schE at hE0;by_cases h0:4096<YbX (schL (knM d p) d)
  ·rw [if_pos h0] at hE0;cases hE0
  omega
 have hlen:∀ s∈schL (knM d p) d,∀ a∈s.arguments,a.length<=2000000:=fun s hs a ha=>by
  obtain ⟨s0,h0,rfl⟩:=List.mem_map.1 hs;have h1:=Ymc hap.sch h0;have e:a.length=s0.params.length:=Ye4 ha;omega
 generalize hll:schL (knM d p) d=l at*;generalize hDD:(expM (knM d p) d S0).D=D at*;obtain ⟨hfl,hff⟩:=hfit;refine Yi (fun q σ fz' H'=>∃ (k:Nat) (v:Value) (nn:Nat),k<=n/\q=n - k/\σ=[(36,Zk k),(35,Zk n),(34,Zc As n cS),(9,v),(8,Zp gr)]/\Le fz5 fz'/\Grow Ycp 69 fz' v nn H' (Ydr (l.take k) (D.take k))) ⟨0,_,0,Z0 _,rfl,rfl,Zd,Grow.nil _ _ _⟩ Zw Zb ?_;rintro q σ fz6 H6 ⟨k,v6,nn,hk,rfl,rfl,hle6,hG6⟩;obtain ⟨A6,c6,rfl,_,_⟩:=hG6.form;refine wC ?_ ?_<;>intro c1
 ·obtain ⟨s,hs⟩:=Yc (l:=l) (k:=k) Zi;obtain ⟨b,hb⟩:=Yc (l:=D) (k:=k) Zi;have hbl:=hff k s b hs hb;refine wI (h4.mono hle6) hs (fun p1 hp1=>?_);refine zL hp1 ?_;intro cs hcs;obtain ⟨u0,u1,u2,u3,u4,u5,u6,u7,u8,u9,u10,u11,u12,u13,u14,u15,u16,u17,u18,u19,rfl,hR⟩:=Yaa hcs;obtain ⟨P0,p0,q0,rfl,_⟩:=id hR.params;obtain ⟨⟨P1,p1,q1,rfl,_⟩,⟨P2,p2,q2,rfl,_⟩,⟨P3,p3,q3,rfl,_⟩,⟨P4,p4,q4,rfl,_⟩⟩:=id hR.start.sls;obtain ⟨⟨P5,p5,q5,rfl,_⟩,⟨P6,p6,q6,rfl,_⟩,⟨P7,p7,q7,rfl,_⟩,⟨P8,p8,q8,rfl,_⟩⟩:=id hR.all.sls;obtain ⟨⟨P9,p9,q9,rfl,_⟩,⟨P10,p10,q10,rfl,_⟩,⟨P11,p11,q11,rfl,_⟩,⟨P12,p12,q12,rfl,_⟩⟩:=id hR.over.sls;obtain ⟨⟨P13,p13,q13,rfl,_⟩,⟨P14,p14,q14,rfl,_⟩,⟨P15,p15,q15,rfl,_⟩,⟨P16,p16,q16,rfl,_⟩⟩:=id hR.fin.sls;obtain ⟨P17,p17,q17,rfl,_⟩:=id hR.early;obtain ⟨P18,p18,q18,rfl,_⟩:=id hR.late;obtain ⟨P19,p19,q19,rfl,iar⟩:=id hR.arguments;have lar:=iar.len;have sar:=iar.short;refine Ya (XR (fun ga=>?_));refine zW ?_;refine Yi (fun q σ fz' H'=>∃ (j:Nat) (v:Value) (mm:Nat) (Hs:HP),j<=p19/\q=p19 - j/\σ=[(44,Zk j),(43,Zk p19),(42,Zc P19 p19 q19),(36,Zk k),(35,Zk n),(34,Zc As n cS),(11,Zp ga),(10,Zk k),(9,v),(8,Zp gr)]/\Le fz6 fz'/\H'=(ga,Zu #[Zy s.name,Zc P0 p0 q0,Zy s.start.op,Zy s.start.name,Zc P1 p1 q1,Zc P2 p2 q2,Zc P3 p3 q3,Zc P4 p4 q4,Zy s.all.op,Zy s.all.name,Zc P5 p5 q5,Zc P6 p6 q6,Zc P7 p7 q7,Zc P8 p8 q8,Zy s.over.op,Zy s.over.name,Zc P9 p9 q9,Zc P10 p10 q10,Zc P11 p11 q11,Zc P12 p12 q12,Zy s.fin.op,Zy s.fin.name,Zc P13 p13 q13,Zc P14 p14 q14,Zc P15 p15 q15,Zc P16 p16 q16,Zc P17 p17 q17,Zc P18 p18 q18,Zo s.count,Zc P19 p19 q19] 113)::Hs/\Grow Ycp 69 fz' v mm Hs (Ydr (l.take k) (D.take k)++Yhq s.name (s.arguments.take j) (b.take j))) ⟨0,_,nn,H6,Z0 _,rfl,rfl,Zd,rfl,by simpa [Yhq] using hG6⟩ Zw Zb ?_;rintro q σ fz7 H' ⟨j,v7,mm,H7,hj,rfl,rfl,hle7,rfl,hG7⟩;obtain ⟨A7,c7,rfl,_,_⟩:=hG7.form;have hx7:=hle6.trans hle7;refine wC ?_ ?_<;>intro c2
  ·obtain ⟨a,ha⟩:=Yc (l:=s.arguments) (k:=j) Zi;obtain ⟨x,hx⟩:=Yc (l:=b) (k:=j) Zi;have hgl:gD.length=n:=h6;obtain ⟨gg,hgg⟩:=Yc (l:=gD) (k:=k) Zi;have hz:(gD.zip (l.map fun s=>s.arguments.length))[k]?=some (gg,p19):=by
    rw [List.getElem?_zip_eq_some];refine ⟨hgg,?_⟩;rw [List.getElem?_map,hs];exact congrArg some lar
   have hfg:fz7 gg=some (.cells (b.map Value.bool).toArray 4 (0,0)):=hx7 _ _ (h7 _ (Zm (Ygb hgg hb)));refine wI (iar.mono hle7) ha (fun p1 hp1=>?_)
   ((refine zG ?_);refine XQ hp1 (fun Ay ny cy hy=>?_));have ly:=hy.len;have sy:=hy.short;have hgr7:=hx7 _ _ h1;refine vI (h5.mono hx7) hz (fun p2 hp2=>?_);refine zG ?_;refine Y4 hp2 ?_;refine wG ?_;refine Yv (z:=1) rfl ?_;refine zG ?_;refine YcQ T Zz Zz Zz hfg (W4 hx) ?_;cases x with
   | false=>
    exact wP (h:=by exact ⟨j+1,_,mm,H7,by omega,rfl,rfl,hle7,rfl,hG7.of (by rw [Yh0 ha hx];simp) rfl⟩)
   | true=>
    have hlen7:mm<=8192:=by
     have e7:=hG7.len;have b1:=Yks (l.take k) (D.take k);have b2:=Ynt l k;have b3:=Ykr (n:=s.name) (l:=s.arguments.take j) (b:=b.take j);have b4:s.arguments.length<=YbX l:=YeG (f:=fun s:Schema=>s.arguments.length) (Zm hs);rw [List.length_append] at e7;rw [List.length_take] at b3;omega
    have hny:ny<=2000000:=by rw [<- ly];exact hlen s (Zm hs) a (Zm ha)
    refine zWN ?_;refine YS [(ga,_)] ?_;refine zW ?_;refine pU ?_;refine Yf (Yh [] ((ga,_)::H7) Zz (YbN hy Zi) (fun v8 fz8 H8 hle8 hR8=>?_));obtain ⟨A8,c8,rfl,_,_⟩:=hR8.form;refine ⟨⟨hle8,fun p hp=>List.mem_append_right _ (by simp at hp;subst hp;exact .head _)⟩,?_⟩;refine Ch.qk ⟨hle8,fun p hp=>List.mem_append_right _ (by simp at hp;subst hp;exact .head _)⟩ (Xy ?_);refine Yf (Does.freeze (H1:=(ga,_)::H7) (H2:=H8) Zq (fun fz9 hle9 hf9=>?_));obtain ⟨B8,d8,e8,hS8⟩:=hR8.sl hle9 hf9 Zi;injection e8 with e81 e82 e83
    subst e81;subst e83;refine Yb (cs:=[Zk 0,Zy s.name,Zc A8 ny c8]) (fun gb=>⟨⟨hle8.trans hle9,fun p hp=>by simp at hp;subst hp;simp⟩,?_⟩);refine Yf (YD (Hr:=(gb,_)::(ga,_):: []) (d:=(s.name,a)) (Zr _) (hG7.mono (hle8.trans hle9)) YdW (.head _) ⟨_,rfl,hR.name,_,_,_,rfl,hS8⟩ (fun v10 H10 hO10=>⟨⟨hle8.trans hle9,fun p hp=>by simp at hp;subst hp;simp⟩,?_⟩));obtain ⟨A10,c10,rfl,_,_⟩:=hO10.form;refine Ch.qk ⟨hle8.trans hle9,fun p hp=>by simp at hp;subst hp;simp⟩ (YE ?_);refine Ch.done ?_;refine zW ?_;exact Wr ⟨j+1,_,mm+1,H10,by omega,rfl,rfl,hle7.trans (hle8.trans hle9),rfl,hO10.of (by rw [Yh0 ha hx,if_pos rfl,List.append_assoc]) rfl⟩ Zi Zw (List.Sublist.cons _ (List.Sublist.refl _))
  have hj2:j=p19:=by omega
  subst hj2;rw [Zl (show s.arguments.length<=j by omega),Zl (show b.length<=j by omega),<- YnB hs hb] at hG7;refine zW ?_;exact Wr ⟨k+1,_,mm,by omega,rfl,rfl,hx7,hG7⟩ Zi Zw (List.Sublist.cons _ (List.Sublist.refl _))
 have hk2:k=n:=by omega
 subst hk2;rw [Zl Zi,Zl Zi] at hG6;exact wS (h:=by exact ⟨S0,hS0,_,by rw [hE,he];rfl,fun h=>absurd (by rw [hE];exact he) h,fun _=>⟨nn,by first | exact hG6 | (rw [hDD];exact hG6)⟩⟩)
end Go.Proofs.YtacfpcbladaohaaGreatDoor
