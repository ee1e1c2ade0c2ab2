/- The texts PCV, ShelfC, OpenA, PCQ, PCR, PVal, PGrd, PWalkK, PWalkL, PWalkM, PGrowB, laid together. Conditions: none. -/
import Derived.Test.YtfjopfinkdhmaaaGreatDoorRZJ
import Derived.ChangeSame
import Derived.ProofKit
import Derived.Shelf.Strings.Search3
set_option linter.all false
noncomputable section
set_option maxRecDepth 20000
namespace Go.Proofs.YtfjopfinkdhmaaaGreatDoor
open Go.Lx Go.RowKit
attribute [local instance 10] Classical.propDecidable
open Go.Proofs.Tryz (prog)
def Yar (d:Domain) (p:Problem):List Param:=d.constants++p.objects
variable {d:Domain} {fz:FZ} {u1 u2 u3 u4 u5 u6 u7 v1 v2 v3 v4 v5 v6:Value}
set_option maxHeartbeats 1000000 in
theorem Ym0 {p:Problem} (hD:DomainR fz d v1 v2 v3 v4 v5 v6) (hP:ProblemR fz p u1 u2 u3 u4 u5 u6 u7) (hc:d.constants.length<=1000000000) (ho:p.objects.length<=1000000000):
 GFn prog 28 [.agg #[.string d.name,v1,v2,v3,v4,v5,v6],.agg #[.string p.name,.string p.domain,u1,u2,u3,.string p.goal.op,.string p.goal.name,u4,u5,u6,u7]] fz [] (fun v fz' H'=>Grow paramL 110 fz' v (d.constants.length+p.objects.length) H' (Yar d p)):=by
 obtain ⟨A1,n1,b1,rfl,i1⟩:=hD.types;obtain ⟨A2,n2,b2,rfl,i2⟩:=hD.constants;obtain ⟨A3,n3,b3,rfl,i3⟩:=hD.predicates;obtain ⟨A4,n4,b4,rfl,i4⟩:=hD.functions;obtain ⟨A5,n5,b5,rfl,i5⟩:=hD.actions;obtain ⟨A6,n6,b6,rfl,i6⟩:=hD.duratives;obtain ⟨B1,m1,d1,rfl,j1⟩:=hP.objects;obtain ⟨B2,m2,d2,rfl,j2⟩:=hP.init;obtain ⟨B3,m3,d3,rfl,j3⟩:=hP.values;obtain ⟨B4,m4,d4,rfl,_⟩:=hP.goal.args;obtain ⟨B5,m5,d5,rfl,_⟩:=hP.goal.params;obtain ⟨B6,m6,d6,rfl,_⟩:=hP.goal.exprs;obtain ⟨B7,m7,d7,rfl,_⟩:=hP.goal.kids;have l2:=i2.len;have l1:=j1.len;refine zF Tryz.func28 Tryz.ntmps28 (fun w0=>?_);refine Yj (Yq (Ya Zz (Xb _ Zz Zz (fun g2=>?_))));refine Ya Zz (Xb _ Zz Zz (fun g3=>?_));refine zWO ?_;refine zWN ?_;refine Wp.drawK (Hq:=[_,_]) T.mixed Zj Zj Zb ?_;refine zW ?_;refine Yf ?_;refine zW ?_;refine Yf ?_;refine Yf ?_;refine YM ⟨by kernel_rfl,?_⟩;refine Yt (Yx [] [_,_] Zz Zz Zz (Ybc i2 Zi) (fun v6 fz6 H6 hle6 hR6=>⟨(⟨hle6,Zx⟩),?_⟩));obtain ⟨Av,cv,rfl,_,_⟩:=hR6.form;refine Yt (WX T (Hr:=[_,_]) Zz Zz Zz Zz Zz Zz Zz Zz Zq hR6 WV (j1.mono hle6) (by show _*32<=_;omega) Zi (fun v7 H7 hO7=>⟨(⟨hle6,Zx⟩),?_⟩));obtain ⟨Aw,cw,rfl,_,_⟩:=hO7.form;refine Ch.qk (⟨hle6,Zx⟩) (YY Zz ?_);refine Ch.done ?_;refine zW ?_;exact YjD (H':=H7) (H2:=[_,_]) rfl rfl Zq (fun fz8 hle8 _=>(hO7.mono hle8).of rfl Zi)
def X1 (d:Domain) (all:List Param) (p:Problem):Nat->Bs × Int
 | 0=>match Ybu d all with | some s=>(s,4) | none=>(⟨#[]⟩,0)
 | 1=>Xx (fun l=>if TwP [] (parN l) then 4 else 0) (YbR d [])
 | 2=>Xx (fun l=>if ExP d.types l then 0 else 3) (YbR d all)
 | 3=>Yka d
 | 4=>Xx (fun n=>n) (numsL d)
 | 5=>Xx idN (Ya6 d all)
 | 6=>Yac d all p
 | _=>YiU d all p
variable {A:Option Addr} {c n:Nat}
theorem step1_q {l:List Param} (h:Sl paramL fz A n c l):QFn prog 75 [.slice A n c] fz (errV (if TwP [] (parN l) then 4 else 0)):=by
 refine GFn.quiet ?_;refine zF Tryz.func75 Tryz.ntmps75 (fun w0=>?_);refine vG ?_;refine Yv Zz Zz (Yju h (Sl.nil (A:=none) (c:=0) Zi)) ?_;exact vR (h:=rfl)
structure LenS (d:Domain) (all:List Param):Prop where
 p:d.predicates.length<=1000000
 f:d.functions.length<=1000000
 o:all.length<=1000000
 a:d.actions.length<=1000000
 u:d.duratives.length<=1000000
variable {all:List Param} {v vp:Value}
theorem stepA0_q {p:Problem} {vf vg vo:Value} (h:CkR fz v d p all vf vp vg vo) (hs:NmS d all) (hl:LenS d all):
 QFn prog 31 [v,Zk 0] fz (resV (X1 d all p 0)):=by
 have e0:(0:Int)=0:=rfl;have hr:repV (Ybu d all)=resV (X1 d all p 0):=by unfold X1;cases Ybu d all<;>rfl
 refine GFn.quiet ?_;refine zF Tryz.func31 Tryz.ntmps31 (fun w0=>?_);refine vG ?_;refine Yv Zz Zz (names_q h hs ⟨hl.p,hl.f,hl.o,hl.a,hl.u⟩) ?_;rw [hr];exact vS (h:=rfl)
theorem stepA1_q {p:Problem} {vf vg vo:Value} (h:CkR fz v d p all vf vp vg vo) (hs:NmS d all):
 QFn prog 31 [v,Zk 1] fz (resV (X1 d all p 1)):=by
 have e0:¬(1:Int)=0:=by decide
 have e1:(1:Int)=1:=rfl;refine GFn.quiet ?_;refine zF Tryz.func31 Tryz.ntmps31 (fun w0=>?_);refine vG ?_;refine Yv Zz Zz (Ynd (ob:=false) (first:=[]) (capt:=[]) (E:=fun l=>if TwP [] (parN l) then 4 else 0) h hs (fun hle hs'=>step1_q hs')) ?_;rw [show resV (Xx (fun l=>if TwP [] (parN l) then 4 else 0) (YbR d (if false=true then all else [])))=resV (X1 d all p 1) from rfl];exact vS (h:=rfl)
theorem stepA2_q {p:Problem} {vf vg vo:Value} (h:CkR fz v d p all vf vp vg vo) (hF:ForR fz vf d.types) (hs:NmS d all):
 QFn prog 31 [v,Zk 2] fz (resV (X1 d all p 2)):=by
 have e0:¬(2:Int)=0:=by decide
 have e1:¬(2:Int)=1:=by decide
 have e2:(2:Int)=2:=rfl;refine GFn.quiet ?_;refine zF Tryz.func31 Tryz.ntmps31 (fun w0=>?_);refine vG ?_;refine Yag Zz Zz ?_;refine vG ?_;refine Yv Zz Zz (Ynd (ob:=true) (first:=[v]) (capt:=[]) (E:=fun l=>if ExP d.types l then 0 else 3) h hs (fun hle hs'=>Yj3 (h.mono hle) (hF.mono hle) hs')) ?_;rw [show resV (Xx (fun l=>if ExP d.types l then 0 else 3) (YbR d (if true=true then all else [])))=resV (X1 d all p 2) from rfl];exact vS (h:=rfl)
theorem stepA3_q {p:Problem} {vf vg vo:Value} (h:CkR fz v d p all vf vp vg vo) (hs:NmS d all):
 QFn prog 31 [v,Zk 3] fz (resV (X1 d all p 3)):=by
 have e0:¬(3:Int)=0:=by decide
 have e1:¬(3:Int)=1:=by decide
 have e2:¬(3:Int)=2:=by decide
 have e3:(3:Int)=3:=rfl;refine GFn.quiet ?_;refine zF Tryz.func31 Tryz.ntmps31 (fun w0=>?_);refine vc (cknd_q h hs) ?_;rw [show resV (Yka d)=resV (X1 d all p 3) from rfl];exact vS (h:=rfl)
theorem stepA4_q {p:Problem} {vf vg vo:Value} (h:CkR fz v d p all vf vp vg vo) (hs:NmS d all) (hn:∀ f∈d.functions,NumOk f.lo/\NumOk f.hi):
 QFn prog 31 [v,Zk 4] fz (resV (X1 d all p 4)):=by
 have e0:¬(4:Int)=0:=by decide
 have e1:¬(4:Int)=1:=by decide
 have e2:¬(4:Int)=2:=by decide
 have e3:¬(4:Int)=3:=by decide
 have e4:(4:Int)=4:=rfl;refine GFn.quiet ?_;refine zF Tryz.func31 Tryz.ntmps31 (fun w0=>?_);refine vc (Ym2 h hs hn) ?_;rw [show resV (Xx (fun n=>n) (numsL d))=resV (X1 d all p 4) from rfl];exact vS (h:=rfl)
theorem stepA6_q {p:Problem} (h:CkG fz v d p all) (hs:NmS d all) (hpf:∀ f∈d.functions,f.params.length<=64) (hvs:∀ x∈p.values,x.fluent.name.size<=1000/\∀ a∈x.fluent.args,a.size<=1000) (hal:all.length<=1000000000):
 QFn prog 31 [v,Zk 6] fz (resV (X1 d all p 6)):=by
 have e0:¬(6:Int)=0:=by decide
 have e1:¬(6:Int)=1:=by decide
 have e2:¬(6:Int)=2:=by decide
 have e3:¬(6:Int)=3:=by decide
 have e4:¬(6:Int)=4:=by decide
 have e5:¬(6:Int)=5:=by decide
 have e6:(6:Int)=6:=rfl;refine GFn.quiet ?_;refine zF Tryz.func31 Tryz.ntmps31 (fun w0=>?_);refine vc (YlJ h hs hpf hvs hal) ?_;rw [show resV (Yac d all p)=resV (X1 d all p 6) from rfl];exact vS (h:=rfl)
theorem stepA7_q {p:Problem} (h:CkG fz v d p all) (hW:fW p.goal<=1000000000):
 QFn prog 31 [v,Zk 7] fz (resV (X1 d all p 7)):=by
 have e0:¬(7:Int)=0:=by decide
 have e1:¬(7:Int)=1:=by decide
 have e2:¬(7:Int)=2:=by decide
 have e3:¬(7:Int)=3:=by decide
 have e4:¬(7:Int)=4:=by decide
 have e5:¬(7:Int)=5:=by decide
 have e6:¬(7:Int)=6:=by decide
 refine GFn.quiet ?_;refine zF Tryz.func31 Tryz.ntmps31 (fun w0=>?_);refine vc (cgoal_q h hW) ?_;rw [show resV (YiU d all p)=resV (X1 d all p 7) from rfl];exact vS (h:=rfl)
def ckO (d:Domain) (p:Problem) (v1 v2 v3 v4 v5 v6 u1 u2 u3 u4 u5 u6 u7 vf vp vg vo va:Value):Obj:=.cells #[.string d.name,v1,v2,v3,v4,v5,v6,.string p.name,.string p.domain,u1,u2,u3,.string p.goal.op,.string p.goal.name,u4,u5,u6,u7,vf,vp,vg,vo,va] 94 (0,0)
set_option maxHeartbeats 1000000 in
theorem stepA5_f {gc:Nat} {p:Problem} {vf:Value} {Aa:Option Addr} {na ca:Nat} (hD:DomainR fz d v1 v2 v3 v4 v5 v6) (hP:ProblemR fz p u1 u2 u3 u4 u5 u6 u7) (hall:Sl paramL fz Aa na ca all)
 (hF:ForR fz vf d.types) (hw:WFT d.types) (op:Once (·.name) d.predicates) (of:Once (·.name) d.functions) (oo:Once (·.name) all) (hs:NmS d all) (hWa:∀ a∈d.actions,actW a<=1000000000) (hWd:∀ a∈d.duratives,durW a<=1000000000):
 GFn prog 31 [Zp gc,Zk 5] fz [(gc,ckO d p v1 v2 v3 v4 v5 v6 u1 u2 u3 u4 u5 u6 u7 vf (.map none) (.map none) (.map none) (.slice Aa na ca))] (fun v fz' H'=>H'=[]/\v=resV (X1 d all p 5)/\CkG fz' (Zp gc) d p all):=by
 have e0:¬(5:Int)=0:=by decide
 have e1:¬(5:Int)=1:=by decide
 have e2:¬(5:Int)=2:=by decide
 have e3:¬(5:Int)=3:=by decide
 have e4:¬(5:Int)=4:=by decide
 have e5:(5:Int)=5:=rfl;unfold ckO;refine zF Tryz.func31 Tryz.ntmps31 (fun w0=>?_);refine zV ?_;refine Ya Zz (Yx [_] [] Zz Zz Zz (YnW hD hall op of oo) (fun v6' fz6 H6 hle6 hR6=>?_));obtain ⟨rfl,rfl,go,gg,gp,m1,m2,m3,rfl,h1,h2,h3⟩:=hR6;refine zVX ?_;refine Wp.freezeAll (H1:=[]) (Zr _) (fun fz8 hle8 hf8=>?_);have hG:CkG fz8 (Zp gc) d p all:=⟨⟨vf,.map (some gp),.map (some gg),.map (some go),⟨gc,v1,v2,v3,v4,v5,v6,u1,u2,u3,u4,u5,u6,u7,Aa,na,ca,rfl,hf8 (gc,_) (by simp),hD.mono hle8,hP.mono hle8,hall.mono hle8⟩,hF.mono hle8,
  prdR_of (hf8 (gp,mapS m1) (by simp)) (h1.mono fun y v hv=>by obtain ⟨A,n,c,e,h⟩:=hv;exact ⟨A,n,c,e,h.mono hle8⟩),
  funR_of (hf8 (gg,mapS m2) (by simp)) (h2.mono fun y v hv=>by obtain ⟨A,n,c,e,h⟩:=hv;exact ⟨A,n,c,e,h.mono hle8⟩),
  objR_of (hf8 (go,mapS m3) (by simp)) h3⟩,hw⟩
 refine vc (Yoe hG hs hWa hWd) ?_;rw [show resV (Xx idN (Ya6 d all))=resV (X1 d all p 5) from rfl];exact vS (h:=by exact ⟨rfl,rfl,hG⟩)
end Go.Proofs.YtfjopfinkdhmaaaGreatDoor
namespace Go.Proofs
open Go.Shelf
def Tryz.lays144_ren:Go.Shelf.Ren:=⟨fun | 144=>197 | 143=>228 | 219=>242 | 217=>206 | 225=>244 | 224=>245 | 267=>246 | 266=>235 | 314=>247 | n=>n,fun | 9=>9 | 4=>4 | 3=>3 | 5=>5 | 46=>274 | 146=>301 | 51=>283 | n=>n,fun | 1=>1 | n=>n⟩
theorem Tryz.lays144:Go.Proofs.Lays.n144 Tryz.prog Tryz.lays144_ren:={
 mixed:=by kernel_rfl
 f143:=Tryz.func228.trans (congrArg some (by kernel_rfl))
 f144:=Tryz.func197.trans (congrArg some (by kernel_rfl))
 f217:=Tryz.func206.trans (congrArg some (by kernel_rfl))
 f219:=Tryz.func242.trans (congrArg some (by kernel_rfl))
 f224:=Tryz.func245.trans (congrArg some (by kernel_rfl))
 f225:=Tryz.func244.trans (congrArg some (by kernel_rfl))
 f266:=Tryz.func235.trans (congrArg some (by kernel_rfl))
 f267:=Tryz.func246.trans (congrArg some (by kernel_rfl))
 f314:=Tryz.func247.trans (congrArg some (by kernel_rfl))
 t3:=Tryz.underlying3
 a3:=Tryz.isAgg3
 z3:=Tryz.sizeOf3
 v3:=Tryz.zeroValue3
 t4:=Tryz.underlying4
 a4:=Tryz.isAgg4
 z4:=Tryz.sizeOf4
 v4:=Tryz.zeroValue4
 t5:=Tryz.underlying5
 a5:=Tryz.isAgg5
 z5:=Tryz.sizeOf5
 v5:=Tryz.zeroValue5
 t9:=Tryz.underlying9
 a9:=Tryz.isAgg9
 z9:=Tryz.sizeOf9
 v9:=Tryz.zeroValue9
 t46:=Tryz.underlying274
 a46:=Tryz.isAgg274
 z46:=Tryz.sizeOf274
 v46:=Tryz.zeroValue274
 t51:=Tryz.underlying283
 a51:=Tryz.isAgg283
 z51:=Tryz.sizeOf283
 v51:=Tryz.zeroValue283
 t146:=Tryz.underlying301
 a146:=Tryz.isAgg301
 z146:=Tryz.sizeOf301
 v146:=Tryz.zeroValue301
 g1:=by kernel_rfl}
open Go.RowKit Go.Lib in
/-- strings.Contains: "Contains reports whether substr is within s.": IT RETURNS 'Lib.contains s substr'; the world is as1 it was. (LAID: no walk: one application.) -/
theorem Tryz.strings_Contains (s sub:ByteArray) (m:Int) (w:World) (hs:s.size<4294967281) (hm:w.cell? ⟨1,0,none⟩=some (.int .i64 m)):
 Calls Tryz.prog 197 #[.string s,.string sub] w fun e w'=>e=.returned (.bool (Lib.contains s.data.toList sub.data.toList))/\w'=w:=Any.strings_Contains Tryz.lays144 s sub m w hs hm
end Go.Proofs
namespace Go.Lx
open Go.RowKit
def fzOf (w:World):FZ:=fun g=>w.heap[g]?
variable {v:Value} {w:World}
theorem Ylf {p:Addr} (h:w.cell? p=some v):YcR (fzOf w) p=some v:=by
 unfold World.cell? at h;unfold YcR fzOf;exact h
theorem hp_of (w:World):Hp (fzOf w) [] w:=⟨fun _ _ h=>h,by simp,by simp⟩
variable {w':World}
theorem below_of (h:Fr [] w w'):Below w.heap.size w w':=⟨h.os,h.tape,h.output,h.size,fun k hk=>h.block k hk (by simp)⟩
variable {fz:FZ}
theorem QFn.calls {P:Program} {f:FuncId} {args:List Value} (h:QFn P f args fz v) (hw:Hp fz [] w):Calls P f args.toArray w fun e w'=>e=.returned v/\Fr [] w w':=by
 unfold QFn at h;exact h.2 w hw
end Go.Lx
namespace Go.Lx
open Go
theorem Ymh {s:List UInt8} (h:(32:UInt8) ∉ s) (r:List UInt8):(s++32::r).takeWhile (fun b=>!(b==(32:UInt8)))=s:=by
 induction s with
 | nil=>rfl
 | cons a s ih=>
  have h1:a≠32:=fun e=>h (by simp [e])
  rw [List.cons_append,List.takeWhile_cons,if_pos (by simpa using h1),ih (fun e=>h (by simp [e]))]
variable {j:Nat}
theorem occ_word {R s:List UInt8} (h:(32:UInt8) ∉ s) (ho:Go.Lib.occAt R ([32]++s++ [32]) j=true):s=((R.drop j).drop 1).takeWhile (fun b=>!(b==(32:UInt8))):=by
 unfold Go.Lib.occAt at ho;obtain ⟨r,hr⟩:=List.isPrefixOf_iff_prefix.1 ho;rw [<- hr];have:((([32]:List UInt8)++s++ [32])++r).drop 1=s++32::r:=by simp
 rw [this,Ymh h]
theorem Yj9 {R sub:List UInt8} (h:∀ j,j<=R.length->Go.Lib.occAt R sub j=false):Go.Lib.contains R sub=false:=by
 unfold Go.Lib.contains;rw [Go.Lib.index_none h];rfl
def resT:List UInt8:=[32,97,110,100,32,111,114,32,110,111,116,32,105,109,112,108,121,32,102,111,114,97,108,108,32,101,120,105,115,116,115,32,119,104,101,110,32,97,115,115,105,103,110,32,105,110,99,114,101,97,115,101,32,100,101,99,114,101,97,115,101,32,111,98,106,101,99,116,32]
end Go.Lx
namespace Go.Proofs.YtfjopfinkdhmaaaGreatDoor
open Go.Lx Go.RowKit
attribute [local instance 10] Classical.propDecidable
open Go.Proofs.Tryz (prog)
def resB:Bs:=⟨#[32,97,110,100,32,111,114,32,110,111,116,32,105,109,112,108,121,32,102,111,114,97,108,108,32,101,120,105,115,116,115,32,119,104,101,110,32,97,115,115,105,103,110,32,105,110,99,114,101,97,115,101,32,100,101,99,114,101,97,115,101,32,111,98,106,101,99,116,32]⟩
def YkC:List (List UInt8):=[]::XQ.map (·.data.toList)
theorem res_all:(List.range 70).all (fun j=>!((resT.drop j).headD 0==32) || YkC.contains (((resT.drop j).drop 1).takeWhile (fun b=>!(b==(32:UInt8)))))=true:=by kernel_rfl
theorem YgG {s:Bs} (h:YX s):(32:UInt8) ∉ s.data.toList:=by
 intro h0;obtain ⟨i,hi⟩:=List.getElem?_of_mem h0;have hlt:=(Zg hi).1;have hlt2:i<s.size:=by rw [Array.length_toList] at hlt;exact hlt
 have h1:=h.1 i hlt2;have h2:Yap s i=32:=by
  unfold Yap;rw [getElem?_pos s i hlt2];have h3:s[i]=32:=by
   have:=(Zg hi).2;rw [Array.getElem_toList] at this;exact this
  rw [h3];rfl
 unfold Ybp LetP DigP at h1;rw [h2] at h1;omega
theorem res_no {s:Bs} (h:YX s):Lib.contains resT ([32]++s.data.toList++ [32])=false:=by
 refine Yj9 fun j hj=>?_
 cases ho:Lib.occAt resT ([32]++s.data.toList++ [32]) j with
 | false=>rfl
 | true=>
  exfalso;have h1:=occ_word (YgG h) ho;have h2:(resT.drop j).headD 0=32:=by
   unfold Lib.occAt at ho;obtain ⟨r,hr⟩:=List.isPrefixOf_iff_prefix.1 ho;rw [<- hr];rfl
  have h3:=List.all_eq_true.1 res_all j (by rw [List.mem_range];exact Nat.lt_of_le_of_lt hj Zh);rw [h2,<- h1] at h3;simp only [beq_self_eq_true,Bool.not_true,Bool.false_or] at h3;have h4:s.data.toList∈YkC:=by simpa using h3
  rcases List.mem_cons.1 h4 with h5 | h5
  ·refine h.2.1 (ByteArray.ext ?_);have:s.data=s.data.toList.toArray:=by simp
   rw [this,h5];rfl
  obtain ⟨y,hy,he⟩:=List.mem_map.1 h5;refine h.2.2.2 ?_;have:y=s:=ByteArray.ext (by
   have e1:y.data=y.data.toList.toArray:=by simp
   have e2:s.data=s.data.toList.toArray:=by simp
   rw [e1,e2,he])
  rw [<- this];exact hy
theorem Yno:∀ {l:List UInt8},(32:UInt8) ∉ l->Lib.indexByte l 32= -1
 | [],_=>rfl
 | a::l,h=>by
  have h1:(a==(32:UInt8))=false:=by simpa using fun e:a=32=>h (by simp [e])
  rw [Lib.indexByte,h1,Yno (fun e=>h (by simp [e]))];rfl
theorem blank_no {s:Bs} (h:YX s):Lib.contains s.data.toList [32]=false:=by
 unfold Lib.contains;rw [Lib.index_one,Yno (YgG h)];rfl
def MaxF (fz:FZ):Prop:=∃ m,YcR fz ⟨1,0,none⟩=some (Zk m)
variable {fz fz':FZ}
theorem MaxF.mono (hle:Le fz fz') (h:MaxF fz):MaxF fz':=by obtain ⟨m,hm⟩:=h;exact ⟨m,YgS hle hm⟩
theorem YgQ {s u:Bs} (hM:MaxF fz) (hs:s.size<=4000000000):QFn prog 197 [.string s,.string u] fz (.bool (Lib.contains s.data.toList u.data.toList)):=by
 obtain ⟨m,hm⟩:=hM;unfold QFn;refine ⟨⟨_,Tryz.func197,by decide,by decide⟩,fun w hw=>?_⟩;refine (Tryz.strings_Contains s u m w Zi (hw.cell hm)).mono fun e w' ⟨he,hb⟩=>⟨he,?_⟩
 subst hb;exact Fr.refl _ _
theorem tword_q {s:Bs} (hM:MaxF fz) (h:YX s):QFn prog 164 [.string s] fz (.bool false):=by
 have hz:=h.2.2.1;have hne:¬s=⟨#[]⟩:=h.2.1;refine GFn.quiet ?_;refine zF Tryz.func164 Tryz.ntmps164 (fun w0=>?_);refine wG ?_;refine Yv Zz Zz (YgQ (u:=⟨#[32]⟩) hM Zi) ?_;rw [show (⟨#[32]⟩:Bs).data.toList=[32] from rfl,blank_no h];refine wG ?_;refine XT Zz Zz (by show 1+_<=_;omega) ?_;refine wG ?_;refine XT Zz Zz (by rw [ByteArray.size_append];show 1+_+1<=_;omega) ?_;refine wG ?_;refine Yv Zz Zz (YgQ (s:=resB) (u:=(⟨#[32]⟩++s)++⟨#[32]⟩) hM Zh) ?_;rw [show resB.data.toList=resT from rfl,show ((⟨#[32]⟩++s)++⟨#[32]⟩:Bs).data.toList=[32]++s.data.toList++ [32] from by simp [ByteArray.data_append],res_no h];exact wR (h:=rfl)
theorem Ykw {b:UInt8}:QFn prog 163 [.int .u8 b.toNat] fz (.bool (decide (LetP (b.toNat:Int)))):=by
 refine GFn.quiet ?_;refine zF Tryz.func163 Tryz.ntmps163 (fun w0=>?_);refine wC (fun x1=>?_) (fun x1=>?_)
 ·refine wC (fun x2=>?_) (fun x2=>?_)
  ·exact wR (h:=by exact (Yw ⟨x1,x2⟩))
  exact wR (h:=by exact Yn (fun h=>x2 h.2))
 exact wR (h:=by exact Yn (fun h=>x1 h.1))
theorem Ymb {s:Bs} (hM:MaxF fz) (h:YX s):QFn prog 120 [.string s] fz (.bool true):=by
 have hz:=h.2.2.1;have hp:0<s.size:=Nat.pos_of_ne_zero (fun h0=>h.2.1 (ByteArray.ext (Array.eq_empty_of_size_eq_zero h0)));obtain ⟨b0,hb0,hb02⟩:=Wa (s:=s) (k:=0) hp;have hlet:LetP (b0.toNat:Int):=by
  have:=h.1 0 hp;unfold Ybp at this;rw [hb02] at this;rcases this with h1 | ⟨h1,_⟩
  ·exact h1
  exact absurd rfl h1
 refine GFn.quiet ?_;refine zF Tryz.func120 Tryz.ntmps120 (fun w0=>?_);refine wC (fun x1=>?_) (fun x1=>?_)
 ·omega
 refine wC (fun x2=>?_) (fun x2=>?_)
 ·omega
 refine wG ?_;refine Xr T Zz Zz Zz Zz Zi (by exact hb0) ?_;refine wc Ykw ?_;rw [decide_eq_true hlet];refine wc (tword_q hM h) ?_;refine zW ?_;refine Ym (fun q σ fz' H'=>∃ k:Nat,k<=s.size/\q=s.size - k/\σ=[(25,Zk k),(24,Zk s.size),(0,.string s)]/\fz=fz'/\H'=[]/\True) ⟨0,Z0 _,rfl,rfl,rfl,rfl,trivial⟩ Zw Zb ?_;rintro q σ fz' H' ⟨k,hk,rfl,rfl,rfl,rfl,hh⟩;refine wC (fun hlt=>?_) (fun hge=>?_)
 ·refine zW ?_;obtain ⟨b,hb,hb2⟩:=Wa (s:=s) (k:=k) Zi;have hN:=h.1 k Zi;unfold Ybp at hN;rw [hb2] at hN
  ((refine zG ?_);refine Xr T Zz Zz Zz Zz Zi (by rw [Int.toNat_natCast];exact hb) ?_);refine wb Ykw (fun f1=>?_) (fun f1=>?_)
  ·exact wP (h:=by exact ⟨k+1,by omega,rfl,rfl,rfl,rfl,trivial⟩)
  have h9:DigP (b.toNat:Int)\/(b.toNat:Int)=45\/(b.toNat:Int)=95:=by
   rcases hN with h1 | h1
   ·exact absurd h1 (Zf f1)
   exact h1.2
  unfold DigP at h9;refine wC (fun x3=>?_) (fun x3=>?_)
  ·refine wC (fun x4=>?_) (fun x4=>?_)
   ·omega
   exact wP (h:=by exact ⟨k+1,by omega,rfl,rfl,rfl,rfl,trivial⟩)
  refine wC (fun x5=>?_) (fun x5=>?_)
  ·refine wC (fun x4=>?_) (fun x4=>?_)
   ·refine wC (fun x6=>?_) (fun x6=>?_)
    ·omega
    exact wP (h:=by exact ⟨k+1,by omega,rfl,rfl,rfl,rfl,trivial⟩)
   omega
  exact wP (h:=by exact ⟨k+1,by omega,rfl,rfl,rfl,rfl,trivial⟩)
 exact wR (h:=rfl)
def newM (l:List Param):Int:=
 if TwP [] (parN l) then 4 else if ¬(∀ p∈l,HasT l p.typ) then 3 else if ∃ p∈l,cycM l p.name l.length p.name=true then 21 else 0
def itU (l:List Param):Nat->Bs->Bs
 | 0,t=>t
 | n+1,t=>itU l n (upT l t)
theorem Yhx {l:List Param}:∀ (i k:Nat) (t:Bs),itU l (i+k) t=itU l k (itU l i t)
 | 0,k,t=>by rw [Nat.zero_add];rfl
 | i+1,k,t=>by rw [show i+1+k=(i+k)+1 from by omega,itU,itU,Yhx i k]
theorem cyc_no {l:List Param} {t:Bs}:∀ (n:Nat) {a:Bs},cycM l t n a=false->∀ j,1<=j->j<=n->(∀ i,1<=i->i<j->itU l i a≠Wt)->itU l j a≠t
 | 0,_,_,j,h1,h2,_=>absurd h1 Zi
 | n+1,a,hc,j,h1,h2,hh=>by
  rw [cycM] at hc;by_cases hu:upT l a=t
  ·rw [if_pos hu] at hc;cases hc
  rw [if_neg hu] at hc;obtain ⟨j,rfl⟩:∃ i,j=i+1:=⟨j - 1,by omega⟩;cases j with
  | zero=>exact hu
  | succ j=>
   have h3:upT l a≠Wt:=hh 1 Zi Zi;rw [if_neg h3] at hc;exact cyc_no n hc (j+1) Zi Zi (fun i hi hj=>hh (i+1) Zi Zi)
theorem pigeon {α:Type} [DecidableEq α]:∀ (n:Nat) (L:List α) (f:Nat->α),L.length=n->(∀ i,i<=n->f i∈L)->∃ i j,i<j/\j<=n/\f i=f j
 | 0,L,f,hL,hf=>by
  have:=hf 0 Zi;rw [List.eq_nil_of_length_eq_zero hL] at this;cases this
 | n+1,L,f,hL,hf=>by
  by_cases he:∃ i,i<=n/\f i=f (n+1)
  ·obtain ⟨i,hi,he⟩:=he;exact ⟨i,n+1,by omega,by omega,he⟩
  obtain ⟨i,j,h1,h2,h3⟩:=pigeon n (L.erase (f (n+1))) f (by rw [List.length_erase_of_mem (hf (n+1) Zi),hL];rfl)
   (fun i hi=>(List.mem_erase_of_ne (fun e=>he ⟨i,hi,e⟩)).2 (hf i Zi))
  exact ⟨i,j,h1,by omega,h3⟩
theorem upN_of {l:List Param}:∀ {n:Nat} {t:Bs},itU l n t=Wt->(∀ i,i<n->itU l i t≠Wt)->upN l n t
 | 0,_,h,_=>h
 | n+1,t,h,hh=>⟨hh 0 Zi,upN_of (n:=n) h (fun i hi=>hh (i+1) Zi)⟩
theorem YeX {l:List Param} {t:Bs}:(tyF l t).isSome=true↔t∈parN l:=by
 induction l with
 | nil=>simp [tyF,parN]
 | cons p r ih=>
  rw [tyF];by_cases h:t=p.name
  ·rw [if_pos h];simp [parN,h]
  rw [if_neg h,ih];have:parN (p::r)=p.name::parN r:=rfl;rw [this,List.mem_cons];exact ⟨.inr,fun h1=>h1.elim (fun h2=>absurd h2 h) id⟩
theorem tyF_in:∀ {l:List Param} {t u:Bs},tyF l t=some u->∃ p∈l,p.typ=u
 | p::r,t,u,h=>by
  rw [tyF] at h;by_cases h1:t=p.name
  ·rw [if_pos h1] at h;injection h with h;exact ⟨p,by simp,h⟩
  rw [if_neg h1] at h;obtain ⟨q,hq,e⟩:=tyF_in h;exact ⟨q,by simp [hq],e⟩
theorem hasT_up {l:List Param} (h3:∀ p∈l,HasT l p.typ) {t:Bs} (h:HasT l t) (ho:t≠Wt):HasT l (upT l t):=by
 rcases h with h | h
 ·exact absurd h ho
 obtain ⟨u,hu⟩:=Option.isSome_iff_exists.1 h;obtain ⟨p,hp,e⟩:=tyF_in hu;have:upT l t=p.typ:=by unfold upT;rw [hu,e];rfl
 rw [this];exact h3 p hp
theorem itU_succ {l:List Param} (n:Nat) (t:Bs):itU l (n+1) t=upT l (itU l n t):=by rw [Yhx n 1 t];rfl
theorem wft_of {l:List Param} (hs:∀ p∈l,Short p.typ) (h3:∀ p∈l,HasT l p.typ) (h4:∀ p∈l,cycM l p.name l.length p.name=false) (hl:l.length<=64):WFT l:=by
 refine ⟨hs,fun t ht=>Classical.byContradiction fun hno=>?_⟩;have hob:∀ i,i<=l.length->itU l i t≠Wt:=by
  intro i
  induction i using Nat.strongRecOn with
  | _ i ih=>
   intro hi he;exact hno ⟨i,by omega,upN_of he (fun k hk=>ih k hk Zi)⟩
 have hHas:∀ i,i<=l.length->HasT l (itU l i t):=by
  intro i
  induction i with
  | zero=>intro _;exact ht
  | succ i ih=>intro hi;rw [itU_succ];exact hasT_up h3 (ih Zi) (hob i Zi)
 have hmem:∀ i,i<=l.length->itU l i t∈parN l:=fun i hi=>by
  rcases hHas i hi with h | h
  ·exact absurd h (hob i hi)
  exact YeX.1 h
 obtain ⟨i,j,hij,hj,he⟩:=pigeon l.length (parN l) (fun i=>itU l i t) Yho hmem;obtain ⟨p,hp,hpe⟩:=List.mem_map.1 (hmem i Zi);have hc:=h4 p hp;rw [hpe] at hc;refine cyc_no l.length hc (j - i) Zi Zi (fun k h1 h2=>?_) ?_
 ·rw [<- Yhx];exact hob (i+k) Zi
 rw [<- Yhx,show i+(j - i)=j from by omega];exact he.symm
theorem newM_wft {l:List Param} (h:newM l=0) (hs:∀ p∈l,Short p.typ) (hl:l.length<=64):WFT l:=by
 unfold newM at h;by_cases h1:TwP [] (parN l)
 ·rw [if_pos h1] at h;cases h
 rw [if_neg h1] at h;by_cases h2:∀ p∈l,HasT l p.typ
 ·rw [if_neg (by simpa using h2)] at h;by_cases h3:∃ p∈l,cycM l p.name l.length p.name=true
  ·rw [if_pos h3] at h;cases h
  exact wft_of hs h2 (fun p hp=>by
   cases hc:cycM l p.name l.length p.name with
   | false=>rfl
   | true=>exact absurd ⟨p,hp,hc⟩ h3) hl
 rw [if_pos h2] at h;cases h
variable {i:Nat}
theorem fndS_no {m:List (Bs × Value)} {x:Bs} (h:(fndS m x i).isSome=false):fndS m x i=none:=by cases hf:fndS m x i with | none=>rfl | some p=>rw [hf] at h;cases h
variable {k:Nat}
theorem tyM_add {l:List Param} {x:Param} (hx:l[k]?=some x) (h:x.name ∉ parN (l.take k)):updS (tyM (l.take k)) x.name (.string x.typ)=tyM (l.take (k+1)):=by
 have h1:fndS (tyM (l.take k)) x.name 0=none:=fndS_no (by
  rw [Yl7];cases hc:(tyF (l.take k) x.name).isSome with
  | false=>rfl
  | true=>exact absurd (YeX.1 hc) h)
 have h2:l.take (k+1)=l.take k++ [x]:=by rw [List.take_add_one,hx];rfl
 rw [updS,h1,h2];unfold tyM;rw [List.map_append];rfl
variable {A:Option Addr} {c n:Nat}
set_option maxHeartbeats 4000000 in
theorem tnew_q {l:List Param} (hM:MaxF fz) (h1:Sl paramL fz A n c l) (hl:l.length<=64) (hok:∀ p∈l,YX p.name/\YcT p.typ):
 GFn prog 72 [.slice A n c] fz [] (fun v fz' H'=>H'=[]/\∃ (vf:Value) (z:Int),v=.tuple #[vf,Zk z,errV (newM l)]/\(newM l=0->ForR fz' vf l)):=by
 have ln:=h1.len;refine zF Tryz.func72 Tryz.ntmps72 (fun w0=>?_);refine wC (fun c0=>?_) (fun c0=>?_)
 ·omega
 refine zW ?_;refine Ym (fun q σ fz' H'=>∃ k:Nat,k<=n/\q=n - k/\σ=[(22,Zk k),(21,Zk n),(20,.slice A n c),(0,.slice A n c)]/\fz=fz'/\H'=[]/\True) ⟨0,Z0 _,rfl,rfl,rfl,rfl,trivial⟩ Zw Zb ?_;rintro q σ fz' H' ⟨k,hk,rfl,rfl,rfl,rfl,hh⟩;refine wC (fun c1=>?_) (fun c1=>?_)
 ·obtain ⟨x,hx⟩:=Yl (l:=l) (k:=k) Zi;obtain ⟨hn,ht⟩:=hok x (Zm hx);refine wI h1 hx (fun p1 hp=>?_);refine zL hp ?_;intro cs hcs;obtain ⟨rfl,hR⟩:=YR hcs;refine zW ?_;intros;refine zc (Ymb hM hn) ?_;refine wC (fun x1=>?_) (fun x1=>?_)
  ·have hn2:YX x.typ:=ht.elim id (fun h=>absurd h x1);refine wc (Ymb hM hn2) ?_;exact wP (h:=by exact ⟨k+1,by omega,rfl,rfl,rfl,rfl,trivial⟩)
  exact wP (h:=by exact ⟨k+1,by omega,rfl,rfl,rfl,rfl,trivial⟩)
 refine zW ?_;refine Ya Zz (YaP (fun gm=>?_));refine zW ?_;intros;rename_i gf;refine Ym (fun q σ fz' H'=>∃ k:Nat,k<=n/\q=n - k/\σ=[(50,Zk k),(49,Zk n),(48,.slice A n c),(7,Zp gf),(0,.slice A n c)]/\fz=fz'/\H'=[(gf,.cells #[.map (some gm)] 195 (0,0)),(gm,mapS (tyM (l.take k)))]/\(∀ i,i<k->∀ x,(parN l)[i]?=some x->x ∉ []++(parN l).take i)) ⟨0,Z0 _,rfl,rfl,rfl,rfl,fun i hi=>absurd hi Zi⟩ Zw Zb ?_;rintro q σ fz' H' ⟨k,hk,rfl,rfl,rfl,rfl,hh⟩;refine wC (fun c2=>?_) (fun c2=>?_)
 ·obtain ⟨x,hx⟩:=Yl (l:=l) (k:=k) Zi;have hxn:=YkM hx;refine wI h1 hx (fun p1 hp=>?_);refine zL hp ?_;intro cs hcs;obtain ⟨rfl,hR⟩:=YR hcs;refine zW ?_;intros;refine zG ?_;refine YeN T 2 Zz Zz Zz Zz Zz Zz Zz Zz Yg0 Yl7 ?_;cases hb:(tyF (l.take k) x.name).isSome with
  | true=>
   have hin:=YeX.1 hb;have e1:newM l=4:=if_pos ⟨k,x.name,hxn,by rw [<- YbQ];exact hin⟩;refine zW ?_;refine retN T (vs:=[_,_,_]) Zz ⟨rfl,rfl,rfl,trivial⟩ Zb ⟨rfl,.pointer none,k,by rw [e1];rfl,fun h=>by rw [e1] at h;cases h⟩
  | false=>
   have hnin:x.name ∉ parN (l.take k):=fun h=>by rw [YeX.2 h] at hb;cases hb
   refine zWN ?_;refine Wp.drawK (Hq:=[_,_,_]) T.mixed Zj Zj Zb ?_;refine zW ?_;refine Yf ?_;refine YM ⟨by kernel_rfl,?_⟩;refine Ch.hard0 Zj (Wl T (pre:=[_,_]) Zz Zz Zz Zz Zz Zz Zz (Zr _) ?_);refine Ch.done ?_;rw [tyM_add hx hnin];exact wP (h:=by exact ⟨k+1,by omega,rfl,rfl,rfl,rfl,Ybo (p:=fun i x=>x ∉ []++(parN l).take i) hh hxn (by rw [<- YbQ];exact hnin)⟩)
 have hno:¬TwP [] (parN l):=Yks hh (by rw [Yho];omega);rw [Zl (show l.length<=k by omega)];refine zWX ?_;refine Wp.freezeAll (H1:=[]) (Zr _) (fun fz2 hl2 hf2=>?_);have hF:ForR fz2 (Zp gf) l:=⟨gf,gm,rfl,hf2 (gf,.cells #[.map (some gm)] 195 (0,0)) (by simp),hf2 (gm,mapS (tyM l)) (by simp)⟩;have h2:=h1.mono hl2;refine zW ?_;refine Ym (fun q σ fz' H'=>∃ k:Nat,k<=n/\q=n - k/\σ=[(79,Zk k),(78,Zk n),(77,.slice A n c),(7,Zp gf),(0,.slice A n c)]/\fz2=fz'/\H'=[]/\(∀ i,i<k->∀ x,l[i]?=some x->HasT l x.typ)) ⟨0,Z0 _,rfl,rfl,rfl,rfl,fun i hi=>absurd hi Zi⟩ Zw Zb ?_;rintro q σ fz' H' ⟨k,hk,rfl,rfl,rfl,rfl,hh3⟩;refine wC (fun c3=>?_) (fun c3=>?_)
 ·obtain ⟨x,hx⟩:=Yl (l:=l) (k:=k) Zi;refine wI h2 hx (fun p1 hp=>?_);refine zL hp ?_;intro cs hcs;obtain ⟨rfl,hR⟩:=YR hcs;refine zW ?_;intros;refine zb (has_q hF) (fun f1=>?_) (fun f1=>?_)
  ·exact wP (h:=by exact ⟨k+1,by omega,rfl,rfl,rfl,rfl,YL (p:=fun x:Param=>HasT l x.typ) hh3 hx (Zt f1)⟩)
  have e1:newM l=3:=by rw [newM,if_neg hno,if_pos (fun h=>Zf f1 (h x (Zm hx)))]
  refine zW ?_;refine retN T (vs:=[_,_,_]) Zz ⟨rfl,rfl,rfl,trivial⟩ Zb ⟨rfl,.pointer none,k,by rw [e1];rfl,fun h=>by rw [e1] at h;cases h⟩
 have hall:=Xy (p:=fun x:Param=>HasT l x.typ) hh3 Zi;refine zW ?_;refine Ym (fun q σ fz' H'=>∃ k:Nat,k<=n/\q=n - k/\σ=[(94,Zk k),(93,Zk n),(92,.slice A n c),(7,Zp gf)]/\fz2=fz'/\H'=[]/\(∀ i,i<k->∀ x,l[i]?=some x->cycM l x.name l.length x.name=false)) ⟨0,Z0 _,rfl,rfl,rfl,rfl,fun i hi=>absurd hi Zi⟩ Zw Zb ?_;rintro q σ fz' H' ⟨k,hk,rfl,rfl,rfl,rfl,hh4⟩;refine wC (fun c4=>?_) (fun c4=>?_)
 ·obtain ⟨x,hx⟩:=Yl (l:=l) (k:=k) Zi;refine wI h2 hx (fun p1 hp=>?_);refine zL hp ?_;intro cs hcs;obtain ⟨rfl,hR⟩:=YR hcs;refine zW ?_;intros
  ((refine zG ?_);refine Yv Zz Zz (cycle_q hF Zi) ?_);cases hcy:cycM l x.name l.length x.name with
  | true=>
   have e1:newM l=21:=by rw [newM,if_neg hno,if_neg (by simpa using hall),if_pos ⟨x,Zm hx,hcy⟩]
   refine zW ?_;refine retN T (vs:=[_,_,_]) Zz ⟨rfl,rfl,rfl,trivial⟩ Zb ⟨rfl,.pointer none,k,by rw [e1];rfl,fun h=>by rw [e1] at h;cases h⟩
  | false=>
   exact wP (h:=by exact ⟨k+1,by omega,rfl,rfl,rfl,rfl,YL (p:=fun x:Param=>cycM l x.name l.length x.name=false) hh4 hx hcy⟩)
 have hcn:=Xy (p:=fun x:Param=>cycM l x.name l.length x.name=false) hh4 Zi;have e1:newM l=0:=by
  rw [newM,if_neg hno,if_neg (by simpa using hall),if_neg];rintro ⟨x,hx,h9⟩;rw [hcn x hx] at h9;cases h9
 refine zW ?_;refine retN T (vs:=[_,_,_]) Zz ⟨rfl,rfl,rfl,trivial⟩ Zb ⟨rfl,_,0,by rw [e1];rfl,fun _=>hF⟩
end Go.Proofs.YtfjopfinkdhmaaaGreatDoor
namespace Go.Proofs.YtfjopfinkdhmaaaGreatDoor
open Go.Lx Go.RowKit
attribute [local instance 10] Classical.propDecidable
theorem Wb {x k:Sexpr} (h:XVal x) (hk:k∈x.kids):XVal k:=by
 refine ⟨(Y2.1 h.1).2 k hk,?_,?_⟩
 ·have h1:=h.2.1;rw [Ybd] at h1;have:=Yat.1 (Zs _) k hk;omega
 have h1:=h.2.2;rw [Y4] at h1;have:=XX hk;omega
theorem Yfe {l:List Sexpr} {k:Sexpr} (h:XVal (YD l)) (hk:k∈l):XVal k:=Wb h hk
theorem num_ok {n:Int} (h:XVal (numE n)):NumOk n:=by
 have:=(Y2.1 h.1).1;rcases this with ⟨h1,_⟩ | ⟨_,_,_,h1⟩ | ⟨h1,_⟩
 ·exact absurd (show (2:Int)=1 from h1) Zh
 ·exact h1
 exact absurd (show (2:Int)=3 from h1) Zh
def GrdA (a:Atom):Prop:=YX a.name/\∀ s∈a.args,YX s
end Go.Proofs.YtfjopfinkdhmaaaGreatDoor
namespace Go.Proofs.YtfjopfinkdhmaaaGreatDoor
open Go.Lx Go.RowKit
attribute [local instance 10] Classical.propDecidable
open Go.Proofs.Tryz (prog)
def wrO (b:Bool):Obj:=.cells #[.bool b] 126 (0,0)
def MkR (g:Nat) (b:Bool) (P:Prop) (x:Sexpr) (fz:FZ) (v:Value) (fz':FZ) (H':HP):Prop:=Le fz fz'/\∃ (b':Bool) (y:Sexpr),H'=[(g,wrO b')]/\SxIs fz' v y/\(b'=false↔b=false/\P)/\(b'=false->y=x)
variable {fz:FZ} {g:Nat}
theorem Yb2 {b:Bool} {s:Bs} (hs:Short s):GFn prog 48 [Zp g,.string s] fz [(g,wrO b)] (fun v fz' H'=>Le fz fz'/\v=sxV 1 0 s Zn/\∃ b':Bool,H'=[(g,wrO b')]/\(b'=false↔b=false/\YX s)):=by
 unfold wrO;refine zF Tryz.func48 Tryz.ntmps48 (fun w0=>?_);cases b
 ·refine zW ?_;intros;refine zb (Ww hs) (fun f1=>?_) (fun f1=>?_)
  ·refine wc (Yai (s:=s)) ?_;unfold sxV;refine zW ?_;refine Yam T (i:=0) (H':=[(g,wrO false)]) rfl Zz Zz Zz Zz Zz Zb ?_;exact ⟨Le.refl _,rfl,false,rfl,iff_of_true rfl ⟨rfl,Zt f1⟩⟩
  refine wc (Yai (s:=s)) ?_;unfold sxV;refine zW ?_;refine Yam T (i:=0) (H':=[(g,wrO true)]) rfl Zz Zz Zz Zz Zz Zb ?_;exact ⟨Le.refl _,rfl,true,rfl,iff_of_false (by simp) (fun h=>Zf f1 h.2)⟩
 refine zW ?_;intros;refine zc (Yai (s:=s)) ?_;unfold sxV;refine zW ?_;refine Yam T (i:=0) (H':=[(g,wrO true)]) rfl Zz Zz Zz Zz Zz Zb ?_;exact ⟨Le.refl _,rfl,true,rfl,iff_of_false (by simp) (fun h=>by cases h.1)⟩
def WG (vars:Bool) (p:Param):Prop:=(if vars=true then VarP p.name else YX p.name)/\YcT p.typ
variable {A:Option Addr} {c n:Nat}
set_option maxHeartbeats 1000000 in
theorem Yak {b vars:Bool} {l:List Param} (h1:Sl paramL fz A n c l) (hn:n<=1000000000):
 GFn prog 50 [Zp g,.slice A n c,.bool vars] fz [(g,wrO b)] (fun v fz' H'=>Le fz fz'/\(∃ B cc,v=.slice B (3*n) cc/\Sl Yz fz' B (3*n) cc ((l.flatMap W1).map Yg))/\∃ b':Bool,H'=[(g,wrO b')]/\(b'=false↔b=false/\∀ p∈l,WG vars p)):=by
 have l1:=h1.len;refine zF Tryz.func50 Tryz.ntmps50 (fun w0=>?_);refine zW ?_;refine Ym (fun q σ fz' H'=>∃ (k:Nat) (b':Bool),k<=n/\q=n - k/\σ=[(12,Zk k),(11,Zk n),(10,.slice A n c),(2,.bool vars),(1,.slice A n c),(0,Zp g)]/\fz=fz'/\H'=[(g,wrO b')]/\(b'=false↔b=false/\∀ i,i<k->∀ p,l[i]?=some p->WG vars p)) ⟨0,b,Z0 _,rfl,rfl,rfl,rfl,⟨fun h=>⟨h,fun i hi=>absurd hi Zi⟩,fun h=>h.1⟩⟩ Zw Zb ?_;rintro q σ fz' H' ⟨k,b',hk,rfl,rfl,rfl,rfl,hb⟩;refine wC (fun c1=>?_) (fun c1=>?_)
 ·obtain ⟨x,hx⟩:=Yl (l:=l) (k:=k) Zi;have step:∀ b2:Bool,(b2=false↔b'=false/\WG vars x)->(b2=false↔b=false/\∀ i,i<k+1->∀ p,l[i]?=some p->WG vars p):=fun b2 h=>by
   rw [h,hb];exact ⟨fun h0=>⟨h0.1.1,YL h0.1.2 hx h0.2⟩,fun h0=>⟨⟨h0.1,fun i hi=>h0.2 i Zi⟩,h0.2 k Zi x hx⟩⟩
  refine wI h1 hx (fun p hp=>?_);refine zL hp ?_;intro cs hcs;obtain ⟨rfl,hR⟩:=YR hcs;cases vars
  ·refine zW ?_;intros;rename_i g5;refine zb (Ww hR.name) (fun f1=>?_) (fun f1=>?_)
   ·refine zW ?_;cases b'
    ·refine wC (fun e1=>?_) (fun e1=>?_)
     ·refine wb (Ww hR.typ) (fun f2=>?_) (fun f2=>?_)
      ·exact wP (h:=by exact ⟨k+1,false,by omega,rfl,rfl,rfl,rfl,step false (iff_of_true rfl ⟨rfl,Zt f1,.inl (Zt f2)⟩)⟩)
      exact wP (h:=by exact ⟨k+1,true,by omega,rfl,rfl,rfl,rfl,step true (iff_of_false (by simp) (fun h=>h.2.2.elim (Zf f2) e1))⟩)
     exact wP (h:=by exact ⟨k+1,false,by omega,rfl,rfl,rfl,rfl,step false (iff_of_true rfl ⟨rfl,Zt f1,.inr e1⟩)⟩)
    exact wP (h:=by exact ⟨k+1,true,by omega,rfl,rfl,rfl,rfl,step true (iff_of_false (by simp) (fun h=>by cases h.1))⟩)
   refine zW ?_;cases b'
   ·exact wP (h:=by exact ⟨k+1,true,by omega,rfl,rfl,rfl,rfl,step true (iff_of_false (by simp) (fun h=>Zf f1 h.2.1))⟩)
   exact wP (h:=by exact ⟨k+1,true,by omega,rfl,rfl,rfl,rfl,step true (iff_of_false (by simp) (fun h=>by cases h.1))⟩)
  refine zW ?_;intros;rename_i g5;refine zc (Ww hR.name) ?_;refine wb (YbN hR.name) (fun f1=>?_) (fun f1=>?_)
  ·refine zW ?_;cases b'
   ·refine wC (fun e1=>?_) (fun e1=>?_)
    ·refine wb (Ww hR.typ) (fun f2=>?_) (fun f2=>?_)
     ·exact wP (h:=by exact ⟨k+1,false,by omega,rfl,rfl,rfl,rfl,step false (iff_of_true rfl ⟨rfl,Zt f1,.inl (Zt f2)⟩)⟩)
     exact wP (h:=by exact ⟨k+1,true,by omega,rfl,rfl,rfl,rfl,step true (iff_of_false (by simp) (fun h=>h.2.2.elim (Zf f2) e1))⟩)
    exact wP (h:=by exact ⟨k+1,false,by omega,rfl,rfl,rfl,rfl,step false (iff_of_true rfl ⟨rfl,Zt f1,.inr e1⟩)⟩)
   exact wP (h:=by exact ⟨k+1,true,by omega,rfl,rfl,rfl,rfl,step true (iff_of_false (by simp) (fun h=>by cases h.1))⟩)
  refine zW ?_;cases b'
  ·exact wP (h:=by exact ⟨k+1,true,by omega,rfl,rfl,rfl,rfl,step true (iff_of_false (by simp) (fun h=>Zf f1 h.2.1))⟩)
  exact wP (h:=by exact ⟨k+1,true,by omega,rfl,rfl,rfl,rfl,step true (iff_of_false (by simp) (fun h=>by cases h.1))⟩)
 have hk1:k=n:=by omega
 subst hk1;refine wK (q:=YdK h1 hn) (h:=fun v2 fz2 H2 hle2 hR2=>?_);obtain ⟨rfl,B2,cc2,rfl,hsl2⟩:=hR2;exact wR (h:=by exact ⟨hle2,⟨B2,cc2,rfl,hsl2⟩,b',rfl,by rw [hb];exact ⟨fun h=>⟨h.1,Xy h.2 Zi⟩,fun h=>⟨h.1,fun i _ p hp=>h.2 p (Zm hp)⟩⟩⟩)
variable {va ve vk vp:Value}
theorem YbM {b:Bool} {f:Formula} (h:FormulaR fz f va vp ve vk) (hs:FSm f):GFn prog 105 [Zp g,.agg #[.string f.op,.string f.name,va,vp,ve,vk]] fz [(g,wrO b)] (MkR g b (FVal f) (Xc f) fz):=by
 obtain ⟨A,n,ca,rfl,ha⟩:=h.args;obtain ⟨B,m,cb,rfl,hp⟩:=h.params;obtain ⟨C,r,cr,rfl,he⟩:=h.exprs;obtain ⟨D,q,cq,rfl,hk⟩:=h.kids;refine zF Tryz.func105 Tryz.ntmps105 (fun w0=>?_);refine Yj (Yq (Ya Zz (Xb _ Zz Zz (fun g0=>?_))));refine zW ?_;intros;rename_i g1;refine wK (q:=Yk9 h hs) (h:=fun v6 fz6 H6 hle6 hR6=>?_);obtain ⟨rfl,u,y,rfl,⟨cs,rfl,hr⟩,hyx⟩:=hR6;obtain ⟨vk6,rfl,hX⟩:=Yi hr;obtain ⟨A6,n6,b6,rfl,_⟩:=hX.kids;by_cases hP:FVal f
 ·rw [if_pos hP];cases b
  ·refine zW ?_;intros;refine Yam T (i:=1) (H':=[(g,wrO false)]) rfl Zz Zz Zz Zz Zz Zb ?_;exact ⟨hle6,false,y,rfl,⟨_,rfl,Yh hX⟩,iff_of_true rfl ⟨rfl,hP⟩,fun _=>hyx hP⟩
  refine zW ?_;intros;refine Yam T (i:=1) (H':=[(g,wrO true)]) rfl Zz Zz Zz Zz Zz Zb ?_;exact ⟨hle6,true,y,rfl,⟨_,rfl,Yh hX⟩,iff_of_false (by simp) (fun h0=>by cases h0.1),fun h0=>by cases h0⟩
 rw [if_neg hP];cases b
 ·refine zW ?_;intros;refine Yam T (i:=1) (H':=[(g,wrO true)]) rfl Zz Zz Zz Zz Zz Zb ?_;exact ⟨hle6,true,y,rfl,⟨_,rfl,Yh hX⟩,iff_of_false (by simp) (fun h0=>hP h0.2),fun h0=>by cases h0⟩
 refine zW ?_;intros;refine Yam T (i:=1) (H':=[(g,wrO true)]) rfl Zz Zz Zz Zz Zz Zb ?_;exact ⟨hle6,true,y,rfl,⟨_,rfl,Yh hX⟩,iff_of_false (by simp) (fun h0=>by cases h0.1),fun h0=>by cases h0⟩
def YeM (name:Bs) (args:List Bs):Prop:=YX name/\∀ a∈args,Ydx a
set_option maxHeartbeats 2000000 in
theorem watom_q {b:Bool} {f0:Bs} {l:List Bs} (hf:Short f0) (h1:Sl strL fz A n c l) (hn:n<=1000000000):
 GFn prog 189 [Zp g,.string f0,.slice A n c] fz [(g,wrO b)] (MkR g b (YeM f0 l) (W5 f0 l) fz):=by
 have l1:=h1.len;refine zF Tryz.func189 Tryz.ntmps189 (fun w0=>?_);refine zW ?_;intros;rename_i g4
 first | refine Wp.perm (List.Perm.swap _ _ _) ?_ | refine Seq.perm (List.Perm.swap _ _ _) ?_
 refine Ya Zz (Yx [_] [_] Zz Zz Zz (Yb2 hf) (fun v6 fz6 H6 hle6 hR6=>?_));obtain ⟨_,rfl,b1,rfl,hb1⟩:=hR6;unfold sxV;refine Ya Zz (Yb T (cs:=Yr f0) Zz Zz Zz Zz Zz Zz Zz Zz (fun gb=>?_));refine zc Xo ?_;unfold sxV;refine zW ?_;intros;rename_i g5;refine Wp.perm (List.Perm.cons _ (List.reverse_perm [_,_,_])) ?_;refine Ym (fun q σ fz' H'=>∃ (k:Nat) (v:Value) (Hs:HP) (b':Bool),k<=n/\q=n - k/\σ=[(17,Zk k),(16,Zk n),(15,.slice A n c),(7,Zp g5),(6,Zp g4),(0,Zp g)]/\fz6=fz'/\
  H'=(g5,.cells #[Zk 3,Zk 0,Zk 0,Zk 0,Ze,v] 57 (0,0))::(g4,.cells #[Zk 0,Zk 0,Zk 0,Zk 0,Ze,Zn] 57 (0,0))::(g,wrO b')::Hs/\Grow Yz 57 fz' v (k+1) Hs (Yg f0::(l.take k).map Yg)/\(b'=false↔b=false/\YX f0/\∀ i,i<k->∀ a,l[i]?=some a->Ydx a))
  ⟨0,_,[_],b1,Z0 _,rfl,rfl,rfl,rfl,Grow.block (ys:=[(Yg f0,Yr f0)]) rfl rfl (by simpa using Yu hf) rfl Zh,by rw [hb1];exact ⟨fun h=>⟨h.1,h.2,fun i hi=>absurd hi Zi⟩,fun h=>⟨h.1,h.2.1⟩⟩⟩ Zw Zb ?_
 rintro q σ fz' H' ⟨k,v,Hs,b',hk,rfl,rfl,rfl,rfl,hG,hb⟩;obtain ⟨Av,cv,rfl,_,_⟩:=hG.form;have h2:=h1.mono hle6;refine wC (fun c1=>?_) (fun c1=>?_)
 ·obtain ⟨x,hx⟩:=Yl (l:=l) (k:=k) Zi;have step:∀ b2:Bool,(b2=false↔b'=false/\Ydx x)->(b2=false↔b=false/\YX f0/\∀ i,i<k+1->∀ a,l[i]?=some a->Ydx a):=fun b2 h=>by
   rw [h,hb];exact ⟨fun h0=>⟨h0.1.1,h0.1.2.1,YL h0.1.2.2 hx h0.2⟩,fun h0=>⟨⟨h0.1,h0.2.1,fun i hi=>h0.2.2 i Zi⟩,h0.2.2 k Zi x hx⟩⟩
  refine wI h2 hx (fun p hp=>?_);refine zH hp (fun ix=>?_);refine zWO ?_;refine Yj (Wp.mid (fun σ fz' H'=>∃ b2:Bool,σ=[(9,.string x),(17,Zk k),(16,Zk n),(15,.slice A n c),(7,Zp g5),(6,Zp g4),(0,Zp g)]/\fz6=fz'/\
   H'=(g5,.cells #[Zk 3,Zk 0,Zk 0,Zk 0,Ze,.slice Av (k+1) cv] 57 (0,0))::(g4,.cells #[Zk 0,Zk 0,Zk 0,Zk 0,Ze,Zn] 57 (0,0))::(g,wrO b2)::Hs/\(b2=false↔b'=false/\Ydx x)) ?_ ?_)
  ·cases b'
   ·refine wb (YnS ix) (fun f1=>?_) (fun f1=>?_)
    ·exact wN (h:=by exact ⟨false,rfl,rfl,rfl,iff_of_true rfl ⟨rfl,Zt f1⟩⟩)
    exact wN (h:=by exact ⟨true,rfl,rfl,rfl,iff_of_false (by simp) (fun h=>Zf f1 h.2)⟩)
   exact wN (h:=by exact ⟨true,rfl,rfl,rfl,iff_of_false (by simp) (fun h=>by cases h.1)⟩)
  rintro σ fz' H' ⟨b2,rfl,rfl,rfl,hb2⟩;refine Wp.drawK (Hq:=[_,_,_]) T.mixed Zj Zj Zb ?_;refine zW ?_;refine Yf ?_;refine Yf ?_;refine Yf ?_;refine zW ?_;refine Yf ?_;refine YM ⟨by kernel_rfl,?_⟩;refine Ch.qk (⟨Le.refl _,Zx⟩) (Yv Zz Zz (Yai (s:=x)) ?_);refine Yt (Yb T (cs:=Yr x) Zz Zz Zz Zz Zz Zz Zz Zz (fun gb=>⟨(⟨Le.refl _,Zx⟩),?_⟩));refine Yt (YP T (Hr:=[_,_,_,_]) Zz Zz Zz Zz Zz Zz Zz Zz (Zr _) hG Ys (.head _) (Yu ix) (by show _*72<=_;omega) Zi (fun v' Hs' hO'=>⟨(⟨Le.refl _,Zx⟩),?_⟩));obtain ⟨Av',cv',rfl,_,_⟩:=hO'.form;refine Ch.hard0 Zj (YU T Zz Zz Zz Zz Zz Zz ?_);refine Ch.done ?_;exact wP (h:=by exact ⟨k+1,_,Hs',b2,by omega,rfl,rfl,rfl,rfl,hO'.of (by rw [List.take_add_one,hx];simp) rfl,step b2 hb2⟩)
 have hk1:k=n:=by omega
 subst hk1;rw [Zl Zi] at hG;refine zW ?_;refine YdG T (i:=1) (H':=[(g,wrO b')]) rfl Zz Zz Zz Zz Zz (@List.perm_middle _ _ [_,_] _).symm (fun fz3 hle3 hf3=>?_);obtain ⟨A',c',he,hsl⟩:=hG.sl hle3 (fun p hp=>hf3 p (by simp [hp])) Zi;injection he with he1 he2 he3
 subst he1 he3;exact ⟨hle6.trans hle3,b',_,rfl,Yad hsl,by rw [hb];exact ⟨fun h=>⟨h.1,h.2.1,Xy h.2.2 Zi⟩,fun h=>⟨h.1,h.2.1,fun i _ a ha=>h.2.2 a (Zm ha)⟩⟩,fun _=>rfl⟩
def YcI:Bs:=⟨#[97,115,115,105,103,110]⟩
def YaR:Bs:=⟨#[105,110,99,114,101,97,115,101]⟩
def YaS:Bs:=⟨#[100,101,99,114,101,97,115,101]⟩
def Ygj:Bs:=⟨#[119,104,101,110]⟩
def nilE:Lx.Expr:=.mk ⟨#[]⟩ ⟨#[]⟩ 0 [] []
def Num5 (k:Int):Prop:=k=3\/k=4\/k=5
def YeT (k:Int):Bs:=if k=3 then YcI else if k=4 then YaR else YaS
def YcU (c:Change):Prop:=((c.kind=1\/c.kind=2)/\c.value=nilE)\/(Num5 c.kind/\EVal c.value)
def Yof (c:Change):Prop:=c.when_=Y5\/FVal c.when_
def ChOk (c:Change):Prop:=YeM c.name c.args/\YcU c/\Yof c/\∀ p∈c.params,WG true p
def ChSm (c:Change):Prop:=c.params.length<=1000000000/\c.args.length<=1000000000/\FSm c.when_/\ESm c.value
def chX1 (c:Change):Sexpr:=if c.kind=2 then YD [Yg kNot,W5 c.name c.args] else if Num5 c.kind then YD [Yg (YeT c.kind),W5 c.name c.args,XU c.value] else W5 c.name c.args
def chX2 (c:Change):Sexpr:=if c.when_=Y5 then chX1 c else YD [Yg Ygj,Xc c.when_,chX1 c]
def chX (c:Change):Sexpr:=if c.params=[] then chX2 c else YD [Yg XL,YD ((c.params.flatMap W1).map Yg),chX2 c]
theorem YnU {fz3:FZ} {gb:Nat} {o:Bs} {X:Sexpr} {vk3:Value} (ho:Short o) (hg:fz3 gb=some (.cells (Yr o++ [Zk X.kind,Zk X.value,Zk X.line,Zk X.column,.string X.text,vk3]).toArray 57 (0,0))) (hX:YS fz3 X vk3):
 YS fz3 (YD [Yg o,X]) (Zv gb 2 2):=
 ⟨YfH,Wd,Wd,Wd,Xu,(Xz (ys:=[(Yg o,Yr o),(X,[Zk X.kind,Zk X.value,Zk X.line,Zk X.column,.string X.text,vk3])]) hg rfl rfl (by
  intro p hp;simp only [List.mem_cons,List.not_mem_nil,or_false] at hp;rcases hp with rfl | rfl
  ·exact Yu ho
  exact Yh hX) rfl (by simp)).is⟩
theorem Yd7 {fz3:FZ} {gb:Nat} {o:Bs} {X Y:Sexpr} {vk3 vk5:Value} (ho:Short o) (hg:fz3 gb=some (.cells (Yr o++ [Zk X.kind,Zk X.value,Zk X.line,Zk X.column,.string X.text,vk3]++ [Zk Y.kind,Zk Y.value,Zk Y.line,Zk Y.column,.string Y.text,vk5]).toArray 57 (0,0))) (hX:YS fz3 X vk3) (hY:YS fz3 Y vk5):
 YS fz3 (YD [Yg o,X,Y]) (Zv gb 3 3):=
 ⟨YfH,Wd,Wd,Wd,Xu,(Xz (ys:=[(Yg o,Yr o),(X,[Zk X.kind,Zk X.value,Zk X.line,Zk X.column,.string X.text,vk3]),(Y,[Zk Y.kind,Zk Y.value,Zk Y.line,Zk Y.column,.string Y.text,vk5])]) hg rfl rfl (by
  intro p hp;simp only [List.mem_cons,List.not_mem_nil,or_false] at hp;rcases hp with rfl | rfl | rfl
  ·exact Yu ho
  ·exact Yh hX
  exact Yh hY) rfl (by simp)).is⟩
theorem Yb4 {o:Bs} (h:o=kNot\/o=YcI\/o=YaR\/o=YaS\/o=Ygj\/o=XL):Short o:=by
 rcases h with rfl | rfl | rfl | rfl | rfl | rfl<;>(unfold Short;decide)
variable {v1 v2 v3 v4 v5 v6 v7:Value}
set_option maxHeartbeats 4000000 in
theorem YlX {b:Bool} {c:Change} {v8:Value} (h:ChangeR fz c v1 v2 v3 v4 v5 v6 v7 v8) (hs:ChSm c):
 GFn prog 153 [Zp g,.agg #[Zk c.kind,v1,.string c.when_.op,.string c.when_.name,v2,v3,v4,v5,.string c.name,v6,.string c.value.op,.string c.value.name,Zk c.value.n,v7,v8]] fz [(g,wrO b)] (MkR g b (ChOk c) (chX c) fz):=by
 obtain ⟨A1,n1,b1,rfl,ip⟩:=h.params;obtain ⟨A2,n2,b2,rfl,iw1⟩:=h.when_.args;obtain ⟨A3,n3,b3,rfl,iw2⟩:=h.when_.params;obtain ⟨A4,n4,b4,rfl,iw3⟩:=h.when_.exprs;obtain ⟨A5,n5,b5,rfl,iw4⟩:=h.when_.kids;obtain ⟨A6,n6,b6,rfl,ia⟩:=h.args;obtain ⟨A7,n7,b7,rfl,iv1⟩:=h.value.args;obtain ⟨A8,n8,b8,rfl,iv2⟩:=h.value.kids;refine zF Tryz.func153 Tryz.ntmps153 (fun w0=>?_);refine Yj (Yq (Ya Zz (Xb _ Zz Zz (fun g3=>?_))));refine zW ?_;intros;rename_i g4;refine Seq.perm (@List.perm_middle _ _ [_,_] []).symm ?_;refine Ya Zz (Yx [_] _ Zz Zz Zz (watom_q h.name ia (by rw [<- ia.len];exact hs.2.1)) (fun v9 fz1 H1 hle1 hR1=>?_));obtain ⟨_,ba,y0,rfl,⟨cs0,rfl,hr0⟩,hba,hya⟩:=hR1;obtain ⟨vy0,rfl,hY0⟩:=Yi hr0;obtain ⟨Ay0,ny0,by0,rfl,_⟩:=hY0.kids;refine zWO ?_;intros;rename_i g5;refine Wp.perm (List.Perm.swap _ _ _) ?_;refine Yj (Wp.mid (fun σ fz' H'=>∃ (bb:Bool) (y:Sexpr) (Ay:Option Addr) (ny by_:Nat),σ=[(5,Zp g5),(4,Zp g4),(3,Zp g3),(0,Zp g)]/\Le fz1 fz'/\H'=[(g,wrO bb),(g5,.cells #[Zk y.kind,Zk y.value,Zk y.line,Zk y.column,.string y.text,.slice Ay ny by_] 57 (0,0)),(g4,.cells #[Zk 0,Zk 0,Zk 0,Zk 0,Ze,Zn] 57 (0,0)),(g3,.cells #[Zk c.kind,.slice A1 n1 b1,.string c.when_.op,.string c.when_.name,.slice A2 n2 b2,.slice A3 n3 b3,.slice A4 n4 b4,.slice A5 n5 b5,.string c.name,.slice A6 n6 b6,.string c.value.op,.string c.value.name,Zk c.value.n,.slice A7 n7 b7,.slice A8 n8 b8] 123 (0,0))]/\YS fz' y (.slice Ay ny by_)/\(bb=false↔b=false/\YeM c.name c.args/\YcU c)/\(bb=false->y=chX1 c)) ?_ ?_)
 ·have hM:∀ {fz':FZ},Le fz1 fz'->ExprR fz' c.value (.slice A7 n7 b7) (.slice A8 n8 b8):=fun hle=>h.value.mono (hle1.trans hle)
  refine wC (fun k1=>?_) (fun k1=>?_)
  ·have k2:¬c.kind=2:=by omega
   have hx1:chX1 c=W5 c.name c.args:=by unfold chX1 Num5;rw [if_neg k2,if_neg Zi]
   have hk0:YcU c↔c.value=nilE:=⟨fun h0=>h0.elim (fun h0=>h0.2) (fun h0=>by have:=h0.1;unfold Num5 at this;omega),fun h0=>.inl ⟨.inl k1,h0⟩⟩;refine zW ?_;cases ba
   ·refine wG ?_;refine Yo (vs:=[.string c.value.op,.string c.value.name,Zk c.value.n,.slice A7 n7 b7,.slice A8 n8 b8]) T 3 Zz Zz Zz Zz Zz Zz ?_;refine wG ?_;refine We Zz Zz (YfZ (b:=nilE) (hM (Le.refl _)) Yi3) (fun f1=>?_) (fun f1=>?_)
    ·exact wN (h:=by exact ⟨false,y0,Ay0,ny0,by0,rfl,Le.refl _,rfl,hY0,iff_of_true rfl ⟨(hba.1 rfl).1,(hba.1 rfl).2,hk0.2 (Zt f1)⟩,fun _=>by rw [hx1];exact hya rfl⟩)
    exact wN (h:=by exact ⟨true,y0,Ay0,ny0,by0,rfl,Le.refl _,rfl,hY0,iff_of_false (by simp) (fun h0=>Zf f1 (hk0.1 h0.2.2)),fun h0=>by cases h0⟩)
   exact wN (h:=by exact ⟨true,y0,Ay0,ny0,by0,rfl,Le.refl _,rfl,hY0,iff_of_false (by simp) (fun h0=>by simpa using hba.2 ⟨h0.1,h0.2.1⟩),fun h0=>by cases h0⟩)
  refine wC (fun k2=>?_) (fun k2=>?_)
  ·have hx1:chX1 c=YD [Yg kNot,W5 c.name c.args]:=by unfold chX1;rw [if_pos k2]
   have hk0:YcU c↔c.value=nilE:=⟨fun h0=>h0.elim (fun h0=>h0.2) (fun h0=>by have:=h0.1;unfold Num5 at this;omega),fun h0=>.inl ⟨.inr k2,h0⟩⟩;refine zWO ?_;refine Wp.cond_true Zz ?_;refine Yj (Wp.mid (fun σ fz' H'=>∃ bb:Bool,σ=[(5,Zp g5),(4,Zp g4),(3,Zp g3),(0,Zp g)]/\fz1=fz'/\H'=[(g,wrO bb),(g5,.cells #[Zk y0.kind,Zk y0.value,Zk y0.line,Zk y0.column,.string y0.text,.slice Ay0 ny0 by0] 57 (0,0)),(g4,.cells #[Zk 0,Zk 0,Zk 0,Zk 0,Ze,Zn] 57 (0,0)),(g3,.cells #[Zk c.kind,.slice A1 n1 b1,.string c.when_.op,.string c.when_.name,.slice A2 n2 b2,.slice A3 n3 b3,.slice A4 n4 b4,.slice A5 n5 b5,.string c.name,.slice A6 n6 b6,.string c.value.op,.string c.value.name,Zk c.value.n,.slice A7 n7 b7,.slice A8 n8 b8] 123 (0,0))]/\(bb=false↔b=false/\YeM c.name c.args/\YcU c)) ?_ ?_)
   ·cases ba
    ·refine wG ?_;refine Yo (vs:=[.string c.value.op,.string c.value.name,Zk c.value.n,.slice A7 n7 b7,.slice A8 n8 b8]) T 3 Zz Zz Zz Zz Zz Zz ?_;refine wG ?_;refine We Zz Zz (YfZ (b:=nilE) (hM (Le.refl _)) Yi3) (fun f1=>?_) (fun f1=>?_)
     ·exact wN (h:=by exact ⟨false,rfl,rfl,rfl,iff_of_true rfl ⟨(hba.1 rfl).1,(hba.1 rfl).2,hk0.2 (Zt f1)⟩⟩)
     exact wN (h:=by exact ⟨true,rfl,rfl,rfl,iff_of_false (by simp) (fun h0=>Zf f1 (hk0.1 h0.2.2))⟩)
    exact wN (h:=by exact ⟨true,rfl,rfl,rfl,iff_of_false (by simp) (fun h0=>by simpa using hba.2 ⟨h0.1,h0.2.1⟩)⟩)
   rintro σ fz' H' ⟨bb,rfl,rfl,rfl,hbb⟩;refine zW ?_;refine Wp.drawK (Hq:=[_,_,_,_]) T.mixed Zj Zj Zb ?_;refine zc (Yai (s:=kNot)) ?_;refine zW ?_;refine Yf ?_;refine Yf ?_;refine Yf ?_;refine YM ⟨by kernel_rfl,?_⟩;refine Yt (Yb T (cs:=Yr kNot++ [Zk y0.kind,Zk y0.value,Zk y0.line,Zk y0.column,.string y0.text,.slice Ay0 ny0 by0]) Zz Zz Zz Zz Zz Zz Zz Zz (fun gb=>⟨(⟨Le.refl _,Zx⟩),?_⟩));refine Ch.qk (⟨Le.refl _,Zx⟩) (Yv Zz Zz Xo ?_);unfold sxV;refine Ch.hard0 Zj (Wk T Zz Zz Zz Zz Zz Zz ?_);refine Ch.done ?_;refine zW ?_;refine midF (H':=[(g,wrO bb),(g5,_),(g4,_),(g3,_)]) (H2:=[(gb,_)]) Zq (fun fz2 hl2 hf2=>⟨bb,YD [Yg kNot,y0],_,_,_,rfl,hl2,rfl,YnU (Yb4 (.inl rfl)) (hf2 _ (.head _)) (hY0.mono hl2),hbb,fun h0=>?_⟩) Zw;rw [hx1,hya (hba.2 ⟨(hbb.1 h0).1,(hbb.1 h0).2.1⟩)]
  refine zWO ?_;refine Wp.cond_false Zz ?_;refine Yj (Wp.mid (fun σ fz' H'=>∃ bq:Bool,σ=(43,.bool bq):: [(5,Zp g5),(4,Zp g4),(3,Zp g3),(0,Zp g)]/\fz1=fz'/\H'=[(g,wrO ba),(g5,.cells #[Zk y0.kind,Zk y0.value,Zk y0.line,Zk y0.column,.string y0.text,.slice Ay0 ny0 by0] 57 (0,0)),(g4,.cells #[Zk 0,Zk 0,Zk 0,Zk 0,Ze,Zn] 57 (0,0)),(g3,.cells #[Zk c.kind,.slice A1 n1 b1,.string c.when_.op,.string c.when_.name,.slice A2 n2 b2,.slice A3 n3 b3,.slice A4 n4 b4,.slice A5 n5 b5,.string c.name,.slice A6 n6 b6,.string c.value.op,.string c.value.name,Zk c.value.n,.slice A7 n7 b7,.slice A8 n8 b8] 123 (0,0))]/\(bq=true↔Num5 c.kind)) ?_ ?_)
  ·refine wC (fun k3=>?_) (fun k3=>?_)
   ·exact wN (h:=by exact ⟨true,rfl,rfl,rfl,iff_of_true rfl (.inl k3)⟩)
   refine wC (fun k4=>?_) (fun k4=>?_)
   ·exact wN (h:=by exact ⟨true,rfl,rfl,rfl,iff_of_true rfl (.inr (.inl k4))⟩)
   refine wC (fun k5=>?_) (fun k5=>?_)
   ·exact wN (h:=by exact ⟨true,rfl,rfl,rfl,iff_of_true rfl (.inr (.inr k5))⟩)
   exact wN (h:=by exact ⟨false,rfl,rfl,rfl,iff_of_false (by simp) (fun h0=>h0.elim k3 (fun h0=>h0.elim k4 k5))⟩)
  rintro σ fz' H' ⟨bq,rfl,rfl,rfl,hb5⟩;cases bq
  ·have hk0:¬YcU c:=fun h0=>h0.elim (fun h0=>h0.1.elim k1 k2) (fun h0=>by simpa using hb5.2 h0.1)
   exact wN (h:=by exact ⟨true,y0,Ay0,ny0,by0,rfl,Le.refl _,rfl,hY0,iff_of_false (by simp) (fun h0=>hk0 h0.2.2),fun h0=>by cases h0⟩)
  have hn5:=hb5.1 rfl;have hk0:YcU c↔EVal c.value:=⟨fun h0=>h0.elim (fun h0=>(h0.1.elim k1 k2).elim) (fun h0=>h0.2),fun h0=>.inr ⟨hn5,h0⟩⟩;have hx1:chX1 c=YD [Yg (YeT c.kind),W5 c.name c.args,XU c.value]:=by unfold chX1;rw [if_neg k2,if_pos hn5]
  have hw:([.string YcI,.string YaR,.string YaS]:List Value)[(c.kind - 3).toNat]?=some (.string (YeT c.kind)):=by
   rcases hn5 with h0 | h0 | h0<;>rw [h0]<;>rfl
  have hsw:Short (YeT c.kind):=by
   refine Yb4 ?_;unfold YeT;split
   ·exact .inr (.inl rfl)
   split
   ·exact .inr (.inr (.inl rfl))
   exact .inr (.inr (.inr (.inl rfl)))
  have hn6:3<=c.kind/\c.kind<=5:=by unfold Num5 at hn5;omega
  refine Wp.cond_true Zz ?_;refine wG ?_;refine Yo (vs:=[.string c.value.op,.string c.value.name,Zk c.value.n,.slice A7 n7 b7,.slice A8 n8 b8]) T 3 Zz Zz Zz Zz Zz Zz ?_;refine wK (q:=eWrite_q (hM (Le.refl _)) hs.2.2.2) (h:=fun v8 fz2 H2 hle2 hR2=>?_);obtain ⟨rfl,u,ye,rfl,⟨cse,rfl,hre⟩,hye⟩:=hR2;obtain ⟨vke,rfl,hE⟩:=Yi hre;obtain ⟨Ae,ne,be,rfl,_⟩:=hE.kids;refine zWO ?_;intros;rename_i g6;refine Yj (Wp.mid (fun σ fz' H'=>∃ bb:Bool,σ=(6,Zp g6):: [(5,Zp g5),(4,Zp g4),(3,Zp g3),(0,Zp g)]/\fz2=fz'/\H'=[(g,wrO bb),(g6,.cells #[Zk ye.kind,Zk ye.value,Zk ye.line,Zk ye.column,.string ye.text,.slice Ae ne be] 57 (0,0)),(g5,.cells #[Zk y0.kind,Zk y0.value,Zk y0.line,Zk y0.column,.string y0.text,.slice Ay0 ny0 by0] 57 (0,0)),(g4,.cells #[Zk 0,Zk 0,Zk 0,Zk 0,Ze,Zn] 57 (0,0)),(g3,.cells #[Zk c.kind,.slice A1 n1 b1,.string c.when_.op,.string c.when_.name,.slice A2 n2 b2,.slice A3 n3 b3,.slice A4 n4 b4,.slice A5 n5 b5,.string c.name,.slice A6 n6 b6,.string c.value.op,.string c.value.name,Zk c.value.n,.slice A7 n7 b7,.slice A8 n8 b8] 123 (0,0))]/\(bb=false↔b=false/\YeM c.name c.args/\YcU c)) ?_ ?_)
  ·by_cases hP:EVal c.value
   ·rw [if_pos hP];cases ba
    ·refine zW ?_;exact midP (List.Perm.swap _ _ _) ⟨false,rfl,rfl,rfl,iff_of_true rfl ⟨(hba.1 rfl).1,(hba.1 rfl).2,hk0.2 hP⟩⟩ Zw Zb
    refine zW ?_;exact midP (List.Perm.swap _ _ _) ⟨true,rfl,rfl,rfl,iff_of_false (by simp) (fun h0=>by simpa using hba.2 ⟨h0.1,h0.2.1⟩)⟩ Zw Zb
   rw [if_neg hP];cases ba
   ·refine zW ?_;exact midP (List.Perm.swap _ _ _) ⟨true,rfl,rfl,rfl,iff_of_false (by simp) (fun h0=>hP (hk0.1 h0.2.2))⟩ Zw Zb
   refine zW ?_;exact midP (List.Perm.swap _ _ _) ⟨true,rfl,rfl,rfl,iff_of_false (by simp) (fun h0=>by simpa using hba.2 ⟨h0.1,h0.2.1⟩)⟩ Zw Zb
  rintro σ fz' H' ⟨bb,rfl,rfl,rfl,hbb⟩;refine Wp.drawK (Hq:=[_,_,_,_,_]) T.mixed Zj Zj Zb ?_;refine Yf ?_;refine zW ?_;refine Yf ?_;refine Yf ?_;refine Yf ?_;refine zW ?_;refine Yf ?_;refine Yf ?_;refine Yf ?_;refine YM ⟨by kernel_rfl,?_⟩;refine Yt (Yb T (cs:=[.string YcI,.string YaR,.string YaS]) Zz Zz Zz Zz Zz Zz Zz Zz (fun gs=>⟨(⟨Le.refl _,Zx⟩),?_⟩));refine Ch.qk (⟨Le.refl _,Zx⟩) (XJ T Zz Zz Zz Zz Zz Zz Zi Zi ?_);refine Ch.qk (⟨Le.refl _,Zx⟩) (Y0 T 0 Zz Zz Zz Zz hw ?_);refine Ch.qk (⟨Le.refl _,Zx⟩) (Yv Zz Zz (Yai (s:=YeT c.kind)) ?_);refine Yt (Yb T (cs:=Yr (YeT c.kind)++ [Zk y0.kind,Zk y0.value,Zk y0.line,Zk y0.column,.string y0.text,.slice Ay0 ny0 by0]++ [Zk ye.kind,Zk ye.value,Zk ye.line,Zk ye.column,.string ye.text,.slice Ae ne be]) Zz Zz Zz Zz Zz Zz Zz Zz (fun gb=>⟨(⟨Le.refl _,Zx⟩),?_⟩));refine Ch.qk (⟨Le.refl _,Zx⟩) (Yv Zz Zz Xo ?_);unfold sxV;refine Ch.hard0 Zj (XZ T (pre:=[_,_,_,_]) Zz Zz Zz rfl Zz Zz Zz ?_);refine Ch.done ?_;refine zW ?_;refine midF (H':=[(g,wrO bb),(g5,_),(g4,_),(g3,_)]) (H2:=[(gb,_),(gs,_),(g6,_)]) (X3 [2,4,5,6,0,1,3] Zz Zz) (fun fz3 hl3 hf3=>⟨bb,YD [Yg (YeT c.kind),y0,ye],_,_,_,rfl,hle2.trans hl3,rfl,Yd7 hsw (hf3 _ (.head _)) (hY0.mono (hle2.trans hl3)) (hE.mono hl3),hbb,fun h0=>?_⟩) Zw;rw [hx1,hya (hba.2 ⟨(hbb.1 h0).1,(hbb.1 h0).2.1⟩),hye (hk0.1 (hbb.1 h0).2.2)]
 rintro σ fz9 H' ⟨bb,y,Ay,ny,by_,rfl,hle2,rfl,hY,hbb,hyb⟩;refine Yj (Wp.mid (fun σ fz' H'=>∃ (bb:Bool) (y:Sexpr) (Ay:Option Addr) (ny by_:Nat),σ=[(5,Zp g5),(4,Zp g4),(3,Zp g3),(0,Zp g)]/\Le fz9 fz'/\H'=[(g,wrO bb),(g5,.cells #[Zk y.kind,Zk y.value,Zk y.line,Zk y.column,.string y.text,.slice Ay ny by_] 57 (0,0)),(g4,.cells #[Zk 0,Zk 0,Zk 0,Zk 0,Ze,Zn] 57 (0,0)),(g3,.cells #[Zk c.kind,.slice A1 n1 b1,.string c.when_.op,.string c.when_.name,.slice A2 n2 b2,.slice A3 n3 b3,.slice A4 n4 b4,.slice A5 n5 b5,.string c.name,.slice A6 n6 b6,.string c.value.op,.string c.value.name,Zk c.value.n,.slice A7 n7 b7,.slice A8 n8 b8] 123 (0,0))]/\YS fz' y (.slice Ay ny by_)/\(bb=false↔b=false/\YeM c.name c.args/\YcU c/\Yof c)/\(bb=false->y=chX2 c)) ?_ ?_)
 ·refine Yj ?_;refine Wp.drawK (Hq:=[(g,_),(g5,_),(g4,_),(g3,_)]) T.mixed Zj Zj Zb ?_;refine wG ?_;refine Yo (vs:=[.string c.when_.op,.string c.when_.name,.slice A2 n2 b2,.slice A3 n3 b3,.slice A4 n4 b4,.slice A5 n5 b5]) T 3 Zz Zz Zz Zz Zz Zz ?_;refine zc Yaf ?_;unfold Yc6;refine zb (Yfl (b:=Y5) ((h.when_.mono hle1).mono hle2) Ycw) (fun f1=>?_) (fun f1=>?_)
  ·have hw:=Zt f1;refine zW ?_;refine YM ⟨by kernel_rfl,Ch.done ?_⟩;exact wN (h:=by exact ⟨bb,y,Ay,ny,by_,rfl,Le.refl _,rfl,hY,by rw [hbb];exact ⟨fun h0=>⟨h0.1,h0.2.1,h0.2.2,.inl hw⟩,fun h0=>⟨h0.1,h0.2.1,h0.2.2.1⟩⟩,fun h0=>by rw [chX2,if_pos hw];exact hyb h0⟩)
  have hw:=Zf f1;refine zW ?_;refine YM ⟨by kernel_rfl,Ch.done ?_⟩;refine zW ?_;refine Wp.drawK (Hq:=[(g5,_),(g4,_),(g3,_)]) T.mixed Zj Zj Zb ?_;refine zc (Yai (s:=Ygj)) ?_;refine wG ?_;refine Yo (vs:=[.string c.when_.op,.string c.when_.name,.slice A2 n2 b2,.slice A3 n3 b3,.slice A4 n4 b4,.slice A5 n5 b5]) T 2 Zz Zz Zz Zz Zz Zz ?_;refine Yf ?_;refine zW ?_;refine Yf ?_;refine Yf ?_;refine Yf ?_;refine YM ⟨by kernel_rfl,?_⟩;refine Yt (Yx [_] _ Zz Zz Zz (YbM ((h.when_.mono hle1).mono hle2) hs.2.2.1) (fun v6 fz6 H6 hle6 hR6=>?_));obtain ⟨_,b9,y6,rfl,⟨cs6,rfl,hr6⟩,hb6,hy6⟩:=hR6;obtain ⟨vk6,rfl,hX6⟩:=Yi hr6;obtain ⟨Ae,ne,be,rfl,_⟩:=hX6.kids;refine ⟨(⟨hle6,Zx⟩),?_⟩;refine Yt (Yb T (cs:=Yr Ygj++ [Zk y6.kind,Zk y6.value,Zk y6.line,Zk y6.column,.string y6.text,.slice Ae ne be]++ [Zk y.kind,Zk y.value,Zk y.line,Zk y.column,.string y.text,.slice Ay ny by_]) Zz Zz Zz Zz Zz Zz Zz Zz (fun gb=>⟨(⟨hle6,Zx⟩),?_⟩));refine Ch.qk (⟨hle6,Zx⟩) (Yv Zz Zz Xo ?_);unfold sxV;refine Ch.hard0 Zj (Wk T Zz Zz Zz Zz Zz Zz ?_);refine Ch.done ?_;refine zW ?_;refine midF (H':=[(g,wrO b9),(g5,_),(g4,_),(g3,_)]) (H2:=[(gb,_)]) Zq (fun fz3 hl3 hf3=>⟨b9,YD [Yg Ygj,y6,y],_,_,_,rfl,hle6.trans hl3,rfl,Yd7 (Yb4 (.inr (.inr (.inr (.inr (.inl rfl)))))) (hf3 _ (.head _)) (hX6.mono hl3) ((hY.mono hle6).mono hl3),?_,fun h0=>?_⟩) Zw
  ·rw [hb6,hbb];exact ⟨fun h0=>⟨h0.1.1,h0.1.2.1,h0.1.2.2,.inr h0.2⟩,fun h0=>⟨⟨h0.1,h0.2.1,h0.2.2.1⟩,h0.2.2.2.resolve_left hw⟩⟩
  rw [chX2,if_neg hw,hy6 h0,hyb (hb6.1 h0).1]
 rintro σ fz7 H' ⟨bb,y,Ay,ny,by_,rfl,hle7,rfl,hY,hbb,hyb⟩;have hip:=((ip.mono hle1).mono hle2).mono hle7;refine Yj (Wp.mid (fun σ fz' H'=>∃ (bb:Bool) (y:Sexpr) (Ay:Option Addr) (ny by_:Nat),σ=[(5,Zp g5),(4,Zp g4),(3,Zp g3),(0,Zp g)]/\Le fz7 fz'/\H'=[(g,wrO bb),(g5,.cells #[Zk y.kind,Zk y.value,Zk y.line,Zk y.column,.string y.text,.slice Ay ny by_] 57 (0,0)),(g4,.cells #[Zk 0,Zk 0,Zk 0,Zk 0,Ze,Zn] 57 (0,0)),(g3,.cells #[Zk c.kind,.slice A1 n1 b1,.string c.when_.op,.string c.when_.name,.slice A2 n2 b2,.slice A3 n3 b3,.slice A4 n4 b4,.slice A5 n5 b5,.string c.name,.slice A6 n6 b6,.string c.value.op,.string c.value.name,Zk c.value.n,.slice A7 n7 b7,.slice A8 n8 b8] 123 (0,0))]/\YS fz' y (.slice Ay ny by_)/\(bb=false↔b=false/\ChOk c)/\(bb=false->y=chX c)) ?_ ?_)
 ·refine wC (fun p1=>?_) (fun p1=>?_)
  ·have hp0:=(YaA ip.len).1 p1;refine zW ?_;refine Wp.drawK (Hq:=[(g5,_),(g4,_),(g3,_)]) T.mixed Zj Zj Zb ?_;refine zc (Yai (s:=XL)) ?_;refine zW ?_;refine Yf ?_;refine Yf ?_;refine zW ?_;refine Yf ?_;refine Yf ?_;refine Yf ?_;refine YM ⟨by kernel_rfl,?_⟩;refine Yt (Yx [_] _ Zz Zz Zz (Yak (vars:=true) hip (by rw [<- ip.len];exact hs.1)) (fun v6 fz6 H6 hle6 hR6=>?_));obtain ⟨_,⟨Ae,ce,rfl,hsl6⟩,b9,rfl,hb6⟩:=hR6;refine ⟨(⟨hle6,Zx⟩),?_⟩;refine Ch.qk (⟨hle6,Zx⟩) (Yv Zz Zz Xo ?_);unfold sxV;refine Yt (Yb T (cs:=Yr XL++ [Zk 3,Zk 0,Zk 0,Zk 0,Ze,.slice Ae (3*n1) ce]++ [Zk y.kind,Zk y.value,Zk y.line,Zk y.column,.string y.text,.slice Ay ny by_]) Zz Zz Zz Zz Zz Zz Zz Zz (fun gb=>⟨(⟨hle6,Zx⟩),?_⟩));refine Ch.qk (⟨hle6,Zx⟩) (Yv Zz Zz Xo ?_);unfold sxV;refine Ch.hard0 Zj (Wk T Zz Zz Zz Zz Zz Zz ?_);refine Ch.done ?_;refine zW ?_;refine midF (H':=[(g,wrO b9),(g5,_),(g4,_),(g3,_)]) (H2:=[(gb,_)]) Zq (fun fz3 hl3 hf3=>⟨b9,YD [Yg XL,YD ((c.params.flatMap W1).map Yg),y],_,_,_,rfl,hle6.trans hl3,rfl,Yd7 (X:=YD ((c.params.flatMap W1).map Yg)) (Yb4 (.inr (.inr (.inr (.inr (.inr rfl)))))) (hf3 _ (.head _)) ⟨YfH,Wd,Wd,Wd,Xu,(hsl6.mono hl3).is⟩ ((hY.mono hle6).mono hl3),?_,fun h0=>?_⟩) Zw
   ·rw [hb6,hbb];exact ⟨fun h0=>⟨h0.1.1,h0.1.2.1,h0.1.2.2.1,h0.1.2.2.2,h0.2⟩,fun h0=>⟨⟨h0.1,h0.2.1,h0.2.2.1,h0.2.2.2.1⟩,h0.2.2.2.2⟩⟩
   rw [chX,if_neg hp0,hyb (hb6.1 h0).1]
  have hp0:c.params=[]:=Classical.byContradiction fun h0=>p1 ((YaA ip.len).2 h0)
  exact wN (h:=by exact ⟨bb,y,Ay,ny,by_,rfl,Le.refl _,rfl,hY,by rw [hbb];exact ⟨fun h0=>⟨h0.1,h0.2.1,h0.2.2.1,h0.2.2.2,by rw [hp0];simp⟩,fun h0=>⟨h0.1,h0.2.1,h0.2.2.1,h0.2.2.2.1⟩⟩,fun h0=>by rw [chX,if_pos hp0];exact hyb h0⟩)
 rintro σ fz8 H' ⟨bb,y,Ay,ny,by_,rfl,hle8,rfl,hY,hbb,hyb⟩;refine zW ?_;refine Yam T (i:=2) (H':=[(g,wrO bb)]) rfl Zz Zz Zz Zz Zz Zb ?_;exact ⟨hle1.trans (hle2.trans (hle7.trans hle8)),bb,y,rfl,⟨_,rfl,Yh hY⟩,hbb,hyb⟩
def effX (l:List Change):Sexpr:=if l=[] then YD [] else YD (Yg kAnd::l.map chX)
def Ybq (l:List Change):Prop:=∀ c∈l,ChOk c
def Yjo (l:List Change):Prop:=l.length<=1000000000/\∀ c∈l,ChSm c
theorem Ymp:Short kAnd:=by unfold Short;decide
set_option maxHeartbeats 2000000 in
theorem YdB {b:Bool} {l:List Change} (h1:Sl changeL fz A n c l) (hs:Yjo l):
 GFn prog 106 [Zp g,.slice A n c] fz [(g,wrO b)] (MkR g b (Ybq l) (effX l) fz):=by
 have l1:=h1.len;have hn:=hs.1;refine zF Tryz.func106 Tryz.ntmps106 (fun w0=>?_);refine zW ?_;intros;rename_i g4;refine zC (fun c0=>?_) (fun c0=>?_)
 ·have hl:=(len0 l1).1 c0;refine wc (Xo (A:=none) (n:=0) (c:=0)) ?_;unfold sxV;refine zW ?_;refine Yam T (i:=0) (H':=[(g,wrO b)]) rfl Zz Zz Zz Zz Zz Zb ?_;exact ⟨Le.refl _,b,_,rfl,Yad (Sl.nil Zi),by rw [hl];unfold Ybq;simp,fun _=>by rw [effX,if_pos hl]⟩
 have hl:l≠ []:=fun h0=>c0 ((len0 l1).2 h0)
 refine wc (Yai (s:=kAnd)) ?_;unfold sxV;refine Ya Zz (Yb T (cs:=Yr kAnd) Zz Zz Zz Zz Zz Zz Zz Zz (fun gb=>?_));refine zc Xo ?_;unfold sxV;refine zW ?_;intros;rename_i g5;refine Wp.perm (X3 [3,0,2,1] Zz Zz) ?_;refine Ym (fun q σ fz' H'=>∃ (k:Nat) (v:Value) (Hs:HP) (b':Bool) (ys:List Sexpr),k<=n/\q=n - k/\σ=[(17,Zk k),(16,Zk n),(15,.slice A n c),(5,Zp g5),(4,Zp g4),(0,Zp g)]/\Le fz fz'/\
  H'=(g,wrO b')::(g5,.cells #[Zk 3,Zk 0,Zk 0,Zk 0,Ze,v] 57 (0,0))::(g4,.cells #[Zk 0,Zk 0,Zk 0,Zk 0,Ze,Zn] 57 (0,0))::Hs/\Grow Yz 57 fz' v (k+1) Hs (Yg kAnd::ys)/\(b'=false↔b=false/\∀ i,i<k->∀ a,l[i]?=some a->ChOk a)/\(b'=false->ys=(l.take k).map chX))
  ⟨0,_,[_],b,[],Z0 _,rfl,rfl,Le.refl _,rfl,Grow.block (ys:=[(Yg kAnd,Yr kAnd)]) rfl rfl (by simpa using Yu Ymp) rfl Zh,⟨fun h=>⟨h,fun i hi=>absurd hi Zi⟩,fun h=>h.1⟩,by simp⟩ Zw Zb ?_
 rintro q σ fz' H' ⟨k,v,Hs,b',ys,hk,rfl,rfl,hle,rfl,hG,hb,hys⟩;obtain ⟨Av,cv,rfl,_,_⟩:=hG.form;have h2:=h1.mono hle;refine wC (fun c1=>?_) (fun c1=>?_)
 ·obtain ⟨x,hx⟩:=Yl (l:=l) (k:=k) Zi;refine wI h2 hx (fun p hp=>?_);refine zL hp ?_;intro cs hcs;obtain ⟨v1,v2,v3,v4,v5,v6,v7,v8,rfl,hRx⟩:=Xj hcs;obtain ⟨A1,n1,b1,rfl,_⟩:=hRx.params;obtain ⟨A2,n2,b2,rfl,_⟩:=hRx.when_.args;obtain ⟨A3,n3,b3,rfl,_⟩:=hRx.when_.params;obtain ⟨A4,n4,b4,rfl,_⟩:=hRx.when_.exprs;obtain ⟨A5,n5,b5,rfl,_⟩:=hRx.when_.kids;obtain ⟨A6,n6,b6,rfl,_⟩:=hRx.args;obtain ⟨A7,n7,b7,rfl,_⟩:=hRx.value.args;obtain ⟨A8,n8,b8,rfl,_⟩:=hRx.value.kids;refine zW ?_;intros;rename_i g7;refine Wp.drawK (Hq:=[(g7,_),(g5,_),(g4,_)]) T.mixed Zj Zj Zb ?_;refine zW ?_;refine Yf ?_;refine Yf ?_;refine Yf ?_;refine zW ?_;refine Yf ?_;refine YM ⟨by kernel_rfl,?_⟩;refine Yt (Does.perm (List.Perm.swap _ _ _) (Yx [_] _ Zz Zz Zz (YlX hRx (hs.2 x (Zm hx))) (fun v9 fz6 H6 hle6 hR6=>?_)));obtain ⟨_,b9,y6,rfl,⟨cs6,rfl,hr6⟩,hb6,hy6⟩:=hR6;obtain ⟨vk6,rfl,hX6⟩:=Yi hr6;refine ⟨(⟨hle6,Zx⟩),?_⟩;refine Yt (Yb T (cs:=[Zk y6.kind,Zk y6.value,Zk y6.line,Zk y6.column,.string y6.text,vk6]) Zz Zz Zz Zz Zz Zz Zz Zz (fun gb=>⟨(⟨hle6,Zx⟩),?_⟩));refine Yt (YP T (Hr:=[_,_,_,_,_]) Zz Zz Zz Zz Zz Zz Zz Zz (Zr _) (hG.mono hle6) Ys (.head _) (Yh hX6) (by show _*72<=_;omega) Zi (fun v' Hs' hO'=>⟨(⟨hle6,Zx⟩),?_⟩));obtain ⟨Av',cv',rfl,_,_⟩:=hO'.form;refine Ch.hard0 Zj (Wz T Zz Zz Zz Zz Zz Zz ?_);refine Ch.done ?_;refine zW ?_;refine WO ⟨k+1,_,Hs',b9,ys++ [y6],by omega,rfl,rfl,hle.trans hle6,rfl,hO',?_,fun h0=>?_⟩ Zi Zw Zb
  ·rw [hb6,hb];exact ⟨fun h0=>⟨h0.1.1,YL h0.1.2 hx h0.2⟩,fun h0=>⟨⟨h0.1,fun i hi=>h0.2 i Zi⟩,h0.2 k Zi x hx⟩⟩
  rw [hys (hb6.1 h0).1,hy6 h0,List.take_add_one,hx];simp
 have hk1:k=n:=by omega
 subst hk1;refine zW ?_;refine YdG T (i:=2) (H':=[(g,wrO b')]) rfl Zz Zz Zz Zz Zz (Zr _) (fun fz3 hle3 hf3=>?_);obtain ⟨A',c',he,hsl⟩:=hG.sl hle3 (fun p hp=>hf3 p (by simp [hp])) Zi;injection he with he1 he2 he3
 subst he1 he3;refine ⟨hle.trans hle3,b',_,rfl,Yad hsl,by rw [hb];exact ⟨fun h=>⟨h.1,Xy h.2 Zi⟩,fun h=>⟨h.1,fun i _ a ha=>h.2 a (Zm ha)⟩⟩,fun h0=>?_⟩;rw [effX,if_neg hl,hys h0,Zl Zi]
end Go.Proofs.YtfjopfinkdhmaaaGreatDoor
namespace Go.Lx
open Go.RowKit
theorem YhH {α:Type} {z:Nat} {d:α × List Value} (hd:d.2.length=z):∀ {xs:List (α × List Value)} {i:Nat},(∀ p∈xs,p.2.length=z)->i<xs.length->
 (xs.flatMap Prod.snd).take (i*z)++d.2++(xs.flatMap Prod.snd).drop (i*z+z)=(xs.set i d).flatMap Prod.snd
 | [],i,_,hi=>by simp at hi
 | x::r,0,h,_=>by
  have hx:=h x (by simp);simp only [List.flatMap_cons,Nat.zero_mul,List.take_zero,List.nil_append,Nat.zero_add,List.set_cons_zero];rw [<- hx,List.drop_left]
 | x::r,i+1,h,hi=>by
  have hx:=h x (by simp);have ih:=YhH hd (xs:=r) (i:=i) (fun p hp=>h p (by simp [hp])) (by simpa using hi);simp only [List.flatMap_cons,List.set_cons_succ];rw [<- ih,Nat.succ_mul];have e1:i*z+z=x.2.length+i*z:=by omega
  have e2:i*z+z+z=x.2.length+(i*z+z):=by omega
  rw [e2,List.drop_append,e1,List.take_append];simp only [Zl (show x.2.length<=x.2.length+i*z by omega),Nat.add_sub_cancel_left,List.append_assoc];have e3:List.drop (x.2.length+(x.2.length+i*z)) x.2=[]:=List.drop_eq_nil_of_le Zi;simp [e3]
structure GrowB {α:Type} (L:Lay α) (e:Nat) (fz:FZ) (g n cap:Nat) (cur:List Value) (l:List α):Prop where
 pairs:∃ xs:List (α × List Value),xs.map Prod.fst=l/\(∀ p∈xs,L.rep fz p.1 p.2)/\cur.take (n*L.size)=xs.flatMap Prod.snd
 len:l.length=n
 capn:n<=cap
 max:cap<=maxLen
 size:cur.length=cap*L.size
variable {Hs:HP} {fz:FZ} {n:Nat} {v:Value}
theorem Grow.b {α:Type} {L:Lay α} {e:Nat} {l:List α} (hg:Grow L e fz v n Hs l) (hn:0<n):∃ g cap cur,v=Zv g n cap/\Hs=[(g,.cells (List.toArray cur) e (0,0))]/\GrowB L e fz g n cap cur l:=by
 obtain ⟨xs,h1,h2,h3,h4⟩:=hg;rcases h4.2 with ⟨_,h0,_⟩ | ⟨g,cap,cur,h5,h6,h7,h8,h9,h10⟩
 ·omega
 exact ⟨g,cap,cur.toList,h5,by rw [h6],⟨xs,h1,h2,h10⟩,h3,h7,h8,by simpa using h9⟩
variable {g:Nat}
theorem GrowB.grow {α:Type} {L:Lay α} {e:Nat} {cap:Nat} {cur:List Value} {l:List α} (h:GrowB L e fz g n cap cur l):Grow L e fz (Zv g n cap) n [(g,.cells (List.toArray cur) e (0,0))] l:=by
 obtain ⟨xs,h1,h2,h3⟩:=h.pairs;have hl:xs.length=n:=by have:=h.len;rw [<- h1,List.length_map] at this;exact this
 exact ⟨xs,h1,h2,h.len,by rw [Ya4 (fun p hp=>L.len (h2 p hp)),hl],.inr ⟨g,cap,cur.toArray,rfl,rfl,h.capn,h.max,by simpa using h.size,by simpa using h3⟩⟩
variable {fz':FZ}
theorem GrowB.mono {α:Type} {L:Lay α} {e:Nat} (hle:Le fz fz') {cap:Nat} {cur:List Value} {l:List α} (h:GrowB L e fz g n cap cur l):GrowB L e fz' g n cap cur l:=by
 obtain ⟨xs,h1,h2,h3⟩:=h.pairs;exact ⟨⟨xs,h1,fun p hp=>L.mono hle (h2 p hp),h3⟩,h.len,h.capn,h.max,h.size⟩
section
variable {P:Program} {cx:Cx} {r:Operand->Option Value} {fz:FZ} {H:HP} {V:Value->Prop} {dst:Option Nat} {ty:TypeId} {pos:String} {af:Array Edge} {gd:Option (Nat × Bool)}
variable {X Y:Ty} {c:Nat} {t:TypeId} {x:Operand}
theorem YC (T:Tab P) {e:TypeId} {i:Operand} {z:Nat} {k:IntKind} {j:Int} (hT:T.inf t=some X) (hd:X.desc=.slice e) (hY:T.inf e=some Y)
 (hx:r x=some (Zv g n c)) (hi:r i=some (.int k j)) (hs:Y.size=z) (h0:0<=j) (hn:j<n) (h:V (.pointer (some ⟨g,j.toNat*z,none⟩))):DoesQ P cx ⟨dst,.indexAddr t x i,ty,pos,af,gd⟩ r fz H V:=by
 refine Ydj T hT hd hY hx hi h0 hn ?_;have hadd:(⟨g,0,none⟩:Addr).add (j.toNat*Y.size)=⟨g,j.toNat*z,none⟩:=by rw [hs];unfold Addr.add;split<;>simp_all
 rw [hadd];exact h
variable {cs:List Value} {j:Nat} {y:Operand}
theorem Yy (T:Tab P) {t':TypeId} {pre post:HP} {cap:Nat} {cur:List Value} {α:Type} {L:Lay α} {l:List α} {d:α} {K:Value->FZ->HP->Prop} (hT:T.inf t=some X)
 (hx:r x=some (.pointer (some ⟨g,j*L.size,none⟩))) (hy:r y=some v) (hH:H=pre++(g,.cells cur.toArray t' (0,0))::post) (hv:v.cells=cs.toArray) (hs:X.size=L.size) (h1:OneC L) (hr:L.rep fz d cs) (hb:GrowB L t' fz g n cap cur l) (hj:j<n)
 (h:∀ cur',GrowB L t' fz g n cap cur' (l.set j d)->K undef fz (pre++(g,.cells cur'.toArray t' (0,0))::post)):Does P cx ⟨dst,.store t x y,ty,pos,af,gd⟩ r fz H K:=by
 refine Does.of fun ρ w hrd hw=>?_
 subst hH;have hcs:=L.len hr;have hgb:=(hw.hp.own (g,.cells cur.toArray t' (0,0)) (by simp)).1;obtain ⟨xs,e1,e2,e3⟩:=hb.pairs;have hxl:xs.length=n:=by have:=hb.len;rw [<- e1,List.length_map] at this;exact this
 have hsz:=hb.size;have hcap:=hb.capn;have hjn:j*L.size+L.size<=n*L.size:=by rw [<- Nat.succ_mul];exact Nat.mul_le_mul_right _ hj
 have hnc:n*L.size<=cap*L.size:=Nat.mul_le_mul_right _ hcap;have hle:j*L.size+0+cs.length<=cur.toArray.size:=by simp;omega
 have hst:=run_storeCells_at (P:=P) g (j*L.size) t' cs 0 cur.toArray w hgb hle (fun u hu=>h1 _ _ _ hr u hu);simp only [Nat.add_zero] at hst;have hz:=run_sizeOf T hT w;rw [hs,<- hcs] at hz;have hvl:v.cells.toList=cs:=by rw [hv]
 have:(execOp ρ ⟨dst,.store t x y,ty,pos,af,gd⟩).run P w=.ok .skip (w.setRow g (cur.take (j*L.size)++cs++cur.drop (j*L.size+cs.length)).toArray):=by
  simp only [execOp,hrd _ _ hx,hrd _ _ hy,Instr.storeAt,Instr.sureAddr,Sem.run_bind,Sem.run_pure,Result.andThen_ok,storeVar,hz,hvl];simp [hst,hv]
 rw [this];have hflat:(xs.flatMap Prod.snd).length=n*L.size:=by rw [Ya4 (fun p hp=>L.len (e2 p hp)),hxl]
 have hcur:cur=xs.flatMap Prod.snd++cur.drop (n*L.size):=by rw [<- e3,List.take_append_drop]
 have hnew:(cur.take (j*L.size)++cs++cur.drop (j*L.size+cs.length)).take (n*L.size)=(xs.set j (d,cs)).flatMap Prod.snd:=by
  rw [<- YhH (z:=L.size) (d:=(d,cs)) hcs (fun p hp=>L.len (e2 p hp)) Zi,hcs];generalize hf:xs.flatMap Prod.snd=fl at*;generalize hT':cur.drop (n*L.size)=tl at*;subst hcur;have a1:(fl++tl).take (j*L.size)=fl.take (j*L.size):=List.take_append_of_le_length Zi;have a2:(fl++tl).drop (j*L.size+L.size)=fl.drop (j*L.size+L.size)++tl:=List.drop_append_of_le_length Zi;rw [a1,a2,<- List.append_assoc,List.take_append_of_le_length (by simp only [List.length_append,List.length_take,List.length_drop];omega),Zl (by simp only [List.length_append,List.length_take,List.length_drop];omega)]
 refine ⟨fz,_,hw.write (o':=.cells (cur.take (j*L.size)++cs++cur.drop (j*L.size+cs.length)).toArray t' (0,0)) rfl rfl rfl (by simp) ?_ (fun k hk=>?_),h _ ⟨⟨xs.set j (d,cs),?_,fun p hp=>?_,hnew⟩,by rw [List.length_set];exact hb.len,hcap,hb.max,?_⟩⟩
 ·simp [World.setRow,Array.getElem?_modify,hgb]
 ·simp only [World.setRow,Array.getElem?_modify];rw [if_neg Zi]
 ·rw [<- e1,List.map_set]
 ·rcases List.mem_or_eq_of_mem_set hp with hp | rfl
  ·exact e2 p hp
  exact hr
 simp only [List.length_append,List.length_take,List.length_drop];omega
end
end Go.Lx
