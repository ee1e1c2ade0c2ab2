/- The texts PCV, ShelfC, OpenA, PCQ, PCR, PVal, PGrd, PWalkK, PWalkL, PWalkM, PWalkN, laid together. Conditions: none. -/
import Derived.Test.YtacfpcbladaohaaGreatDoorSAM
import Derived.ChangeSame
import Derived.ProofKit
import Derived.Shelf.Strings.Search3
set_option linter.all false
set_option maxHeartbeats 4000000
noncomputable section
set_option maxRecDepth 20000
open Go.Lx Go.RowKit
attribute [local instance 10] Classical.propDecidable
open Go.Proofs.Tryz (prog)
namespace Go.Proofs.YtacfpcbladaohaaGreatDoor
variable {d:Domain} {fz:FZ} {u1 u2 u3 u4 u5 u6 u7 v1 v2 v3 v4 v5 v6 v vp:Value} {A:Option Addr} {c n:Nat} {all:List Param}
def objsM (d:Domain) (p:Problem):List Param:=d.constants++p.objects
theorem Ybu {p:Problem} (hD:DomainR fz d v1 v2 v3 v4 v5 v6) (hP:ProblemR fz p u1 u2 u3 u4 u5 u6 u7) (hc:d.constants.length<=1000000000) (ho:p.objects.length<=1000000000):
 GFn prog 40 [ZD d v1 v2 v3 v4 v5 v6,ZP p u1 u2 u3 u4 u5 u6 u7] fz [] (fun v fz' H'=>Grow paramL 132 fz' v (d.constants.length+p.objects.length) H' (objsM d p)):=by
 obtain ⟨⟨A1,n1,b1,rfl,i1⟩,⟨A2,n2,b2,rfl,i2⟩,⟨A3,n3,b3,rfl,i3⟩,⟨A4,n4,b4,rfl,i4⟩,⟨A5,n5,b5,rfl,i5⟩,⟨A6,n6,b6,rfl,i6⟩⟩:=hD.sls;obtain ⟨⟨B1,m1,d1,rfl,j1⟩,⟨B2,m2,d2,rfl,j2⟩,⟨B3,m3,d3,rfl,j3⟩⟩:=hP.sls;obtain ⟨⟨B4,m4,d4,rfl,_⟩,⟨B5,m5,d5,rfl,_⟩,⟨B6,m6,d6,rfl,_⟩,⟨B7,m7,d7,rfl,_⟩⟩:=hP.goal.sls;have l2:=i2.len;have l1:=j1.len;refine zF Tryz.func40 Tryz.ntmps40 (fun w0=>?_);refine pX (fun g2=>?_);refine pY (fun g3=>?_);refine zWO ?_;refine zWN ?_;refine YS [_,_] ?_;refine zW ?_;refine Yj ?_;refine zW ?_;refine pU ?_;refine Yf (Yh [] [_,_] Zz (Yab i2 Zi) (fun v6 fz6 H6 hle6 hR6=>⟨⟨hle6,Zx⟩,?_⟩));obtain ⟨Av,cv,rfl,_,_⟩:=hR6.form;refine Yf (XF T (Hr:=[_,_]) Zz Zz Zz Zz Zz Zz Zz Zz Zq hR6 WI (j1.mono hle6) (by show _*32<=_;omega) Zi (fun v7 H7 hO7=>⟨⟨hle6,Zx⟩,?_⟩));obtain ⟨Aw,cw,rfl,_,_⟩:=hO7.form;refine Ch.qk ⟨hle6,Zx⟩ (YE ?_);refine Ch.done ?_;refine zW ?_;exact Yd2 (H':=H7) (H2:=[_,_]) rfl rfl Zq (fun fz8 hle8 _=>(hO7.mono hle8).of rfl Zi)
def stepM (d:Domain) (all:List Param) (p:Problem):Nat->Bs × Int
 | 0=>match Ya1 d all with | some s=>(s,4) | none=>(⟨#[]⟩,0)
 | 1=>YX (fun l=>if TwP [] (parN l) then 4 else 0) (YbK d [])
 | 2=>YX (fun l=>if ExP d.types l then 0 else 3) (YbK d all)
 | 3=>YlN d
 | 4=>YX (fun n=>n) (numsL d)
 | 5=>YX idN (YaS d all)
 | 6=>W0 d all p
 | _=>Ykv d all p
theorem step1_q {l:List Param} (h:Sl paramL fz A n c l):QFn prog 180 [Zc A n c] fz (errV (if TwP [] (parN l) then 4 else 0)):=by
 refine qF Tryz.func180 Tryz.ntmps180 (fun w0=>?_);refine vc (Yk9 h (Sl.nil (A:=none) (c:=0))) ?_;exact vR (h:=rfl)
structure LenS (d:Domain) (all:List Param):Prop where
 p:d.predicates.length<=1000000
 f:d.functions.length<=1000000
 o:all.length<=1000000
 a:d.actions.length<=1000000
 u:d.duratives.length<=1000000
theorem stepA0_q {p:Problem} {vf vg vo:Value} (h:CkR fz v d p all vf vp vg vo) (hs:NmS d all) (hl:LenS d all):
 QFn prog 87 [v,Zk 0] fz (resV (stepM d all p 0)):=by
 have e0:(0:Int)=0:=rfl;have hr:repV (Ya1 d all)=resV (stepM d all p 0):=by unfold stepM;cases Ya1 d all<;>rfl
 refine qF Tryz.func87 Tryz.ntmps87 (fun w0=>?_);refine vG ?_;refine Yu (names_q h hs ⟨hl.p,hl.f,hl.o,hl.a,hl.u⟩) ?_;rw [hr];exact vS (h:=rfl)
theorem stepA1_q {p:Problem} {vf vg vo:Value} (h:CkR fz v d p all vf vp vg vo) (hs:NmS d all):
 QFn prog 87 [v,Zk 1] fz (resV (stepM d all p 1)):=by
 have e0:¬(1:Int)=0:=by decide
 have e1:(1:Int)=1:=rfl;refine qF Tryz.func87 Tryz.ntmps87 (fun w0=>?_);refine vG ?_;refine Yu (Ypg (ob:=false) (first:=[]) (capt:=[]) (E:=fun l=>if TwP [] (parN l) then 4 else 0) h hs (fun hle hs'=>step1_q hs')) ?_;rw [show resV (YX (fun l=>if TwP [] (parN l) then 4 else 0) (YbK d (if false=true then all else [])))=resV (stepM d all p 1) from rfl];exact vS (h:=rfl)
theorem stepA2_q {p:Problem} {vf vg vo:Value} (h:CkR fz v d p all vf vp vg vo) (hF:ForR fz vf d.types) (hs:NmS d all):
 QFn prog 87 [v,Zk 2] fz (resV (stepM d all p 2)):=by
 have e0:¬(2:Int)=0:=by decide
 have e1:¬(2:Int)=1:=by decide
 have e2:(2:Int)=2:=rfl;refine qF Tryz.func87 Tryz.ntmps87 (fun w0=>?_);refine vG ?_;refine YG ?_;refine vG ?_;refine Yu (Ypg (ob:=true) (first:=[v]) (capt:=[]) (E:=fun l=>if ExP d.types l then 0 else 3) h hs (fun hle hs'=>YlF (h.mono hle) (hF.mono hle) hs')) ?_;rw [show resV (YX (fun l=>if ExP d.types l then 0 else 3) (YbK d (if true=true then all else [])))=resV (stepM d all p 2) from rfl];exact vS (h:=rfl)
theorem stepA3_q {p:Problem} {vf vg vo:Value} (h:CkR fz v d p all vf vp vg vo) (hs:NmS d all):
 QFn prog 87 [v,Zk 3] fz (resV (stepM d all p 3)):=by
 have e0:¬(3:Int)=0:=by decide
 have e1:¬(3:Int)=1:=by decide
 have e2:¬(3:Int)=2:=by decide
 have e3:(3:Int)=3:=rfl;refine qF Tryz.func87 Tryz.ntmps87 (fun w0=>?_);refine vc (cknd_q h hs) ?_;rw [show resV (YlN d)=resV (stepM d all p 3) from rfl];exact vS (h:=rfl)
theorem stepA4_q {p:Problem} {vf vg vo:Value} (h:CkR fz v d p all vf vp vg vo) (hs:NmS d all) (hn:∀ f∈d.functions,Yex f.lo/\Yex f.hi):
 QFn prog 87 [v,Zk 4] fz (resV (stepM d all p 4)):=by
 have e0:¬(4:Int)=0:=by decide
 have e1:¬(4:Int)=1:=by decide
 have e2:¬(4:Int)=2:=by decide
 have e3:¬(4:Int)=3:=by decide
 have e4:(4:Int)=4:=rfl;refine qF Tryz.func87 Tryz.ntmps87 (fun w0=>?_);refine vc (Yo1 h hs hn) ?_;rw [show resV (YX (fun n=>n) (numsL d))=resV (stepM d all p 4) from rfl];exact vS (h:=rfl)
theorem stepA6_q {p:Problem} (h:CkG fz v d p all) (hs:NmS d all) (hpf:∀ f∈d.functions,f.params.length<=64) (hvs:∀ x∈p.values,x.fluent.name.size<=1000/\∀ a∈x.fluent.args,a.size<=1000) (hal:all.length<=1000000000):
 QFn prog 87 [v,Zk 6] fz (resV (stepM d all p 6)):=by
 have e0:¬(6:Int)=0:=by decide
 have e1:¬(6:Int)=1:=by decide
 have e2:¬(6:Int)=2:=by decide
 have e3:¬(6:Int)=3:=by decide
 have e4:¬(6:Int)=4:=by decide
 have e5:¬(6:Int)=5:=by decide
 have e6:(6:Int)=6:=rfl;refine qF Tryz.func87 Tryz.ntmps87 (fun w0=>?_);refine vc (YnK h hs hpf hvs hal) ?_;rw [show resV (W0 d all p)=resV (stepM d all p 6) from rfl];exact vS (h:=rfl)
theorem stepA7_q {p:Problem} (h:CkG fz v d p all) (hW:fW p.goal<=1000000000):
 QFn prog 87 [v,Zk 7] fz (resV (stepM d all p 7)):=by
 have e0:¬(7:Int)=0:=by decide
 have e1:¬(7:Int)=1:=by decide
 have e2:¬(7:Int)=2:=by decide
 have e3:¬(7:Int)=3:=by decide
 have e4:¬(7:Int)=4:=by decide
 have e5:¬(7:Int)=5:=by decide
 have e6:¬(7:Int)=6:=by decide
 refine qF Tryz.func87 Tryz.ntmps87 (fun w0=>?_);refine vc (cgoal_q h hW) ?_;rw [show resV (Ykv d all p)=resV (stepM d all p 7) from rfl];exact vS (h:=rfl)
def ckO (d:Domain) (p:Problem) (v1 v2 v3 v4 v5 v6 u1 u2 u3 u4 u5 u6 u7 vf vp vg vo va:Value):Obj:=Zu #[Zy d.name,v1,v2,v3,v4,v5,v6,Zy p.name,Zy p.domain,u1,u2,u3,Zy p.goal.op,Zy p.goal.name,u4,u5,u6,u7,vf,vp,vg,vo,va] 185
theorem stepA5_f {gc:Nat} {p:Problem} {vf:Value} {Aa:Option Addr} {na ca:Nat} (hD:DomainR fz d v1 v2 v3 v4 v5 v6) (hP:ProblemR fz p u1 u2 u3 u4 u5 u6 u7) (hall:Sl paramL fz Aa na ca all)
 (hF:ForR fz vf d.types) (hw:WFT d.types) (op:Once (·.name) d.predicates) (of:Once (·.name) d.functions) (oo:Once (·.name) all) (hs:NmS d all) (hWa:∀ a∈d.actions,actW a<=1000000000) (hWd:∀ a∈d.duratives,durW a<=1000000000):
 GFn prog 87 [Zp gc,Zk 5] fz [(gc,ckO d p v1 v2 v3 v4 v5 v6 u1 u2 u3 u4 u5 u6 u7 vf (.map none) (.map none) (.map none) (Zc Aa na ca))] (fun v fz' H'=>H'=[]/\v=resV (stepM d all p 5)/\CkG fz' (Zp gc) d p all):=by
 have e0:¬(5:Int)=0:=by decide
 have e1:¬(5:Int)=1:=by decide
 have e2:¬(5:Int)=2:=by decide
 have e3:¬(5:Int)=3:=by decide
 have e4:¬(5:Int)=4:=by decide
 have e5:(5:Int)=5:=rfl;unfold ckO;refine zF Tryz.func87 Tryz.ntmps87 (fun w0=>?_);refine zV ?_;refine Ya (Yh [_] [] Zz (Yqb hD hall op of oo) (fun v6' fz6 H6 hle6 hR6=>?_));obtain ⟨rfl,rfl,go,gg,gp,m1,m2,m3,rfl,h1,h2,h3⟩:=hR6;refine zVX ?_;refine Wp.freezeAll (H1:=[]) (Zr _) (fun fz8 hle8 hf8=>?_);have hG:CkG fz8 (Zp gc) d p all:=⟨⟨vf,.map (some gp),.map (some gg),.map (some go),⟨gc,v1,v2,v3,v4,v5,v6,u1,u2,u3,u4,u5,u6,u7,Aa,na,ca,rfl,hf8 (gc,_) (by simp),hD.mono hle8,hP.mono hle8,hall.mono hle8⟩,hF.mono hle8,
  prdR_of (hf8 (gp,mapS m1) (by simp)) (h1.mono fun y v hv=>by obtain ⟨A,n,c,e,h⟩:=hv;exact ⟨A,n,c,e,h.mono hle8⟩),
  funR_of (hf8 (gg,mapS m2) (by simp)) (h2.mono fun y v hv=>by obtain ⟨A,n,c,e,h⟩:=hv;exact ⟨A,n,c,e,h.mono hle8⟩),
  objR_of (hf8 (go,mapS m3) (by simp)) h3⟩,hw⟩
 refine vc (Yqz hG hs hWa hWd) ?_;rw [show resV (YX idN (YaS d all))=resV (stepM d all p 5) from rfl];exact vS (h:=by exact ⟨rfl,rfl,hG⟩)
end Go.Proofs.YtacfpcbladaohaaGreatDoor
namespace Go.Proofs
open Go.Shelf
def YfB:Go.Shelf.Ren:=⟨fun | 144=>293 | 143=>311 | 219=>323 | 217=>298 | 225=>329 | 224=>330 | 267=>331 | 266=>313 | 314=>332 | n=>n,fun | 9=>9 | 4=>4 | 3=>3 | 5=>5 | 46=>204 | 146=>382 | 51=>284 | n=>n,fun | 1=>0 | n=>n⟩
theorem YkX:Go.Proofs.Lays.n144 Tryz.prog YfB:={
 mixed:=by kernel_rfl
 f143:=Tryz.func311.trans (congrArg some (by kernel_rfl))
 f144:=Tryz.func293.trans (congrArg some (by kernel_rfl))
 f217:=Tryz.func298.trans (congrArg some (by kernel_rfl))
 f219:=Tryz.func323.trans (congrArg some (by kernel_rfl))
 f224:=Tryz.func330.trans (congrArg some (by kernel_rfl))
 f225:=Tryz.func329.trans (congrArg some (by kernel_rfl))
 f266:=Tryz.func313.trans (congrArg some (by kernel_rfl))
 f267:=Tryz.func331.trans (congrArg some (by kernel_rfl))
 f314:=Tryz.func332.trans (congrArg some (by kernel_rfl))
 t3:=Tryz.underlying3
 a3:=Tryz.isAgg3
 z3:=Tryz.sizeOf3
 v3:=Tryz.zeroValue3
 t4:=Tryz.underlying4
 a4:=Tryz.isAgg4
 z4:=Tryz.sizeOf4
 v4:=Tryz.zeroValue4
 t5:=Tryz.underlying5
 a5:=Tryz.isAgg5
 z5:=Tryz.sizeOf5
 v5:=Tryz.zeroValue5
 t9:=Tryz.underlying9
 a9:=Tryz.isAgg9
 z9:=Tryz.sizeOf9
 v9:=Tryz.zeroValue9
 t46:=Tryz.underlying204
 a46:=Tryz.isAgg204
 z46:=Tryz.sizeOf204
 v46:=Tryz.zeroValue204
 t51:=Tryz.underlying284
 a51:=Tryz.isAgg284
 z51:=Tryz.sizeOf284
 v51:=Tryz.zeroValue284
 t146:=Tryz.underlying382
 a146:=Tryz.isAgg382
 z146:=Tryz.sizeOf382
 v146:=Tryz.zeroValue382
 g1:=by kernel_rfl}
open Go.RowKit Go.Lib in
/-- strings.Contains: "Contains reports whether substr is within s.": IT RETURNS 'Lib.contains s substr'; the world is as1 it was. (LAID: no walk: one application.) -/
theorem Tryz.strings_Contains (s sub:ByteArray) (m:Int) (w:World) (hs:s.size<4294967281) (hm:w.cell? ⟨0,0,none⟩=some (.int .i64 m)):
 Calls Tryz.prog 293 #[.string s,.string sub] w fun e w'=>e=.returned (.bool (Lib.contains s.data.toList sub.data.toList))/\w'=w:=Any.strings_Contains YkX s sub m w hs hm
end Go.Proofs
namespace Go.Lx
open Go.RowKit
variable {v:Value} {w w':World} {fz:FZ}
def fzOf (w:World):FZ:=fun g=>w.heap[g]?
theorem YmT {p:Addr} (h:w.cell? p=some v):Ycd (fzOf w) p=some v:=by
 unfold World.cell? at h;unfold Ycd fzOf;exact h
theorem hp_of (w:World):Hp (fzOf w) [] w:=⟨fun _ _ h=>h,by simp,by simp⟩
theorem below_of (h:Fr [] w w'):Below w.heap.size w w':=⟨h.os,h.tape,h.output,h.size,fun k hk=>h.block k hk (by simp)⟩
theorem QFn.calls {P:Program} {f:FuncId} {args:List Value} (h:QFn P f args fz v) (hw:Hp fz [] w):Calls P f args.toArray w fun e w'=>e=.returned v/\Fr [] w w':=by
 unfold QFn at h;exact h.2 w hw
end Go.Lx
namespace Go.Lx
open Go
variable {j:Nat}
theorem Yov {s:List UInt8} (h:(32:UInt8) ∉ s) (r:List UInt8):(s++32::r).takeWhile (fun b=>!(b==(32:UInt8)))=s:=by
 induction s with
 | nil=>rfl
 | cons a s ih=>
  have h1:a≠32:=fun e=>h (by simp [e])
  rw [List.cons_append,List.takeWhile_cons,if_pos (by simpa using h1),ih (fun e=>h (by simp [e]))]
theorem occ_word {R s:List UInt8} (h:(32:UInt8) ∉ s) (ho:Go.Lib.occAt R ([32]++s++ [32]) j=true):s=((R.drop j).drop 1).takeWhile (fun b=>!(b==(32:UInt8))):=by
 unfold Go.Lib.occAt at ho;obtain ⟨r,hr⟩:=List.isPrefixOf_iff_prefix.1 ho;rw [<- hr];have:((([32]:List UInt8)++s++ [32])++r).drop 1=s++32::r:=by simp
 rw [this,Yov h]
theorem YlI {R sub:List UInt8} (h:∀ j,j<=R.length->Go.Lib.occAt R sub j=false):Go.Lib.contains R sub=false:=by
 unfold Go.Lib.contains;rw [Go.Lib.index_none h];rfl
def resT:List UInt8:=[32,97,110,100,32,111,114,32,110,111,116,32,105,109,112,108,121,32,102,111,114,97,108,108,32,101,120,105,115,116,115,32,119,104,101,110,32,97,115,115,105,103,110,32,105,110,99,114,101,97,115,101,32,100,101,99,114,101,97,115,101,32,111,98,106,101,99,116,32]
end Go.Lx
namespace Go.Proofs.YtacfpcbladaohaaGreatDoor
variable {s:Bs} {fz fz':FZ} {i k c n:Nat} {m:List (Bs × Value)} {A:Option Addr}
def resB:Bs:=⟨#[32,97,110,100,32,111,114,32,110,111,116,32,105,109,112,108,121,32,102,111,114,97,108,108,32,101,120,105,115,116,115,32,119,104,101,110,32,97,115,115,105,103,110,32,105,110,99,114,101,97,115,101,32,100,101,99,114,101,97,115,101,32,111,98,106,101,99,116,32]⟩
def Yme:List (List UInt8):=[]::Ybq.map (·.data.toList)
theorem res_all:(List.range 70).all (fun j=>!((resT.drop j).headD 0==32) || Yme.contains (((resT.drop j).drop 1).takeWhile (fun b=>!(b==(32:UInt8)))))=true:=by kernel_rfl
theorem YhX (h:YZ s):(32:UInt8) ∉ s.data.toList:=by
 intro h0;obtain ⟨i,hi⟩:=List.getElem?_of_mem h0;have hlt:=(Zg hi).1;have hlt2:i<s.size:=by rw [Array.length_toList] at hlt;exact hlt
 have h1:=h.1 i hlt2;have h2:Yac s i=32:=by
  unfold Yac;rw [getElem?_pos s i hlt2];have h3:s[i]=32:=by
   have:=(Zg hi).2;rw [Array.getElem_toList] at this;exact this
  rw [h3];rfl
 unfold Ybf LetP DigP at h1;rw [h2] at h1;omega
theorem res_no (h:YZ s):Lib.contains resT ([32]++s.data.toList++ [32])=false:=by
 refine YlI fun j hj=>?_
 cases ho:Lib.occAt resT ([32]++s.data.toList++ [32]) j with
 | false=>rfl
 | true=>
  exfalso;have h1:=occ_word (YhX h) ho;have h2:(resT.drop j).headD 0=32:=by
   unfold Lib.occAt at ho;obtain ⟨r,hr⟩:=List.isPrefixOf_iff_prefix.1 ho;rw [<- hr];rfl
  have h3:=List.all_eq_true.1 res_all j (by rw [List.mem_range];exact Nat.lt_of_le_of_lt hj Zh);rw [h2,<- h1] at h3;simp only [beq_self_eq_true,Bool.not_true,Bool.false_or] at h3;have h4:s.data.toList∈Yme:=by simpa using h3
  rcases List.mem_cons.1 h4 with h5 | h5
  ·refine h.2.1 (ByteArray.ext ?_);have:s.data=s.data.toList.toArray:=by simp
   rw [this,h5];rfl
  obtain ⟨y,hy,he⟩:=List.mem_map.1 h5;refine h.2.2.2 ?_;have:y=s:=ByteArray.ext (by
   have e1:y.data=y.data.toList.toArray:=by simp
   have e2:s.data=s.data.toList.toArray:=by simp
   rw [e1,e2,he])
  rw [<- this];exact hy
theorem YpG:∀ {l:List UInt8},(32:UInt8) ∉ l->Lib.indexByte l 32= -1
 | [],_=>rfl
 | a::l,h=>by
  have h1:(a==(32:UInt8))=false:=by simpa using fun e:a=32=>h (by simp [e])
  rw [Lib.indexByte,h1,YpG (fun e=>h (by simp [e]))];rfl
theorem blank_no (h:YZ s):Lib.contains s.data.toList [32]=false:=by
 unfold Lib.contains;rw [Lib.index_one,YpG (YhX h)];rfl
def MaxF (fz:FZ):Prop:=∃ m,Ycd fz ⟨0,0,none⟩=some (Zk m)
theorem MaxF.mono (hle:Le fz fz') (h:MaxF fz):MaxF fz':=by obtain ⟨m,hm⟩:=h;exact ⟨m,Yia hle hm⟩
theorem Yh8 {u:Bs} (hM:MaxF fz) (hs:s.size<=4000000000):QFn prog 293 [Zy s,Zy u] fz (Zo (Lib.contains s.data.toList u.data.toList)):=by
 obtain ⟨m,hm⟩:=hM;unfold QFn;refine ⟨⟨_,Tryz.func293,by decide,by decide⟩,fun w hw=>?_⟩;refine (Tryz.strings_Contains s u m w Zi (hw.cell hm)).mono fun e w' ⟨he,hb⟩=>⟨he,?_⟩
 subst hb;exact Fr.refl _ _
theorem tword_q (hM:MaxF fz) (h:YZ s):QFn prog 259 [Zy s] fz (Zo false):=by
 have hz:=h.2.2.1;have hne:¬s=⟨#[]⟩:=h.2.1;refine qF Tryz.func259 Tryz.ntmps259 (fun w0=>?_);refine wG ?_;refine Yu (Yh8 (s:=s) (u:=⟨#[32]⟩) hM Zi) ?_;rw [show (⟨#[32]⟩:Bs).data.toList=[32] from rfl,blank_no h];refine wG ?_;refine XM Zz Zz (by show 1+_<=_;omega) ?_;refine wG ?_;refine XM Zz Zz (by rw [ByteArray.size_append];show 1+_+1<=_;omega) ?_;refine wG ?_;refine Yu (Yh8 (s:=resB) (u:=(⟨#[32]⟩++s)++⟨#[32]⟩) hM Zh) ?_;rw [show resB.data.toList=resT from rfl,show ((⟨#[32]⟩++s)++⟨#[32]⟩:Bs).data.toList=[32]++s.data.toList++ [32] from by simp [ByteArray.data_append],res_no h];exact wR (h:=rfl)
theorem Yl5 {b:UInt8}:QFn prog 258 [.int .u8 b.toNat] fz (Zo (decide (LetP (b.toNat:Int)))):=by
 refine qF Tryz.func258 Tryz.ntmps258 (fun w0=>?_);refine wC ?_ ?_<;>intro x1
 ·refine wC ?_ ?_<;>intro x2
  ·exact wR (h:=by exact (Ym ⟨x1,x2⟩))
  exact wR (h:=by exact Yg (fun h=>x2 h.2))
 exact wR (h:=by exact Yg (fun h=>x1 h.1))
theorem Yop (hM:MaxF fz) (h:YZ s):QFn prog 189 [Zy s] fz (Zo true):=by
 have hz:=h.2.2.1;have hp:0<s.size:=Nat.pos_of_ne_zero (fun h0=>h.2.1 (ByteArray.ext (Array.eq_empty_of_size_eq_zero h0)));obtain ⟨b0,hb0,hb02⟩:=YbC (s:=s) (k:=0) hp;have hlet:LetP (b0.toNat:Int):=by
  have:=h.1 0 hp;unfold Ybf at this;rw [hb02] at this;rcases this with h1 | ⟨h1,_⟩
  ·exact h1
  exact absurd rfl h1
 refine qF Tryz.func189 Tryz.ntmps189 (fun w0=>?_);refine wC ?_ ?_<;>intro x1
 ·omega
 refine wC ?_ ?_<;>intro x2
 ·omega
 refine wG ?_;refine Wc ?_ (hb:=by exact hb0);refine wc Yl5 ?_;rw [decide_eq_true hlet];refine wc (tword_q hM h) ?_;refine zW ?_;refine XW (s.size) (fun k=>[(25,Zk k),(24,Zk s.size),(0,Zy s)]) [] (fun k=>True) trivial ?_;intro k hk hh;refine wC (fun hlt=>?_) (fun hge=>?_)
 ·refine zW ?_;obtain ⟨b,hb,hb2⟩:=YbC (s:=s) (k:=k) Zi;have hN:=h.1 k Zi;unfold Ybf at hN;rw [hb2] at hN
  ((refine zG ?_);refine Wc ?_ (hb:=by rw [Int.toNat_natCast];exact hb));refine wb Yl5 (fun f1=>?_) (fun f1=>?_)
  ·exact wM (h:=by exact trivial)
  have h9:DigP (b.toNat:Int)\/(b.toNat:Int)=45\/(b.toNat:Int)=95:=by
   rcases hN with h1 | h1
   ·exact absurd h1 (Zf f1)
   exact h1.2
  unfold DigP at h9;refine wC ?_ ?_<;>intro x3
  ·refine wC ?_ ?_<;>intro x4
   ·omega
   exact wM (h:=by exact trivial)
  refine wC ?_ ?_<;>intro x5
  ·refine wC ?_ ?_<;>intro x4
   ·refine wC ?_ ?_<;>intro x6
    ·omega
    exact wM (h:=by exact trivial)
   omega
  exact wM (h:=by exact trivial)
 exact wR (h:=rfl)
def newM (l:List Param):Int:=
 if TwP [] (parN l) then 4 else if ¬(∀ p∈l,HasT l p.typ) then 3 else if ∃ p∈l,cycM l p.name l.length p.name=true then 21 else 0
def itU (l:List Param):Nat->Bs->Bs
 | 0,t=>t
 | n+1,t=>itU l n (upT l t)
theorem YiU {l:List Param}:∀ (i k:Nat) (t:Bs),itU l (i+k) t=itU l k (itU l i t)
 | 0,k,t=>by rw [Nat.zero_add];rfl
 | i+1,k,t=>by rw [show i+1+k=(i+k)+1 from by omega,itU,itU,YiU i k]
theorem cyc_no {l:List Param} {t:Bs}:∀ (n:Nat) {a:Bs},cycM l t n a=false->∀ j,1<=j->j<=n->(∀ i,1<=i->i<j->itU l i a≠YaJ)->itU l j a≠t
 | 0,_,_,j,h1,h2,_=>absurd h1 Zi
 | n+1,a,hc,j,h1,h2,hh=>by
  rw [cycM] at hc;by_cases hu:upT l a=t
  ·rw [if_pos hu] at hc;cases hc
  rw [if_neg hu] at hc;obtain ⟨j,rfl⟩:∃ i,j=i+1:=⟨j - 1,by omega⟩;cases j with
  | zero=>exact hu
  | succ j=>
   have h3:upT l a≠YaJ:=hh 1 Zi Zi;rw [if_neg h3] at hc;exact cyc_no n hc (j+1) Zi Zi (fun i hi hj=>hh (i+1) Zi Zi)
theorem pigeon {α:Type} [DecidableEq α]:∀ (n:Nat) (L:List α) (f:Nat->α),L.length=n->(∀ i,i<=n->f i∈L)->∃ i j,i<j/\j<=n/\f i=f j
 | 0,L,f,hL,hf=>by
  have:=hf 0 Zi;rw [List.eq_nil_of_length_eq_zero hL] at this;cases this
 | n+1,L,f,hL,hf=>by
  by_cases he:∃ i,i<=n/\f i=f (n+1)
  ·obtain ⟨i,hi,he⟩:=he;exact ⟨i,n+1,by omega,by omega,he⟩
  obtain ⟨i,j,h1,h2,h3⟩:=pigeon n (L.erase (f (n+1))) f (by rw [List.length_erase_of_mem (hf (n+1) Zi),hL];rfl)
   (fun i hi=>(List.mem_erase_of_ne (fun e=>he ⟨i,hi,e⟩)).2 (hf i Zi))
  exact ⟨i,j,h1,by omega,h3⟩
theorem upN_of {l:List Param}:∀ {n:Nat} {t:Bs},itU l n t=YaJ->(∀ i,i<n->itU l i t≠YaJ)->upN l n t
 | 0,_,h,_=>h
 | n+1,t,h,hh=>⟨hh 0 Zi,upN_of (n:=n) h (fun i hi=>hh (i+1) Zi)⟩
theorem YfF {l:List Param} {t:Bs}:(tyF l t).isSome=true↔t∈parN l:=by
 induction l with
 | nil=>simp [tyF,parN]
 | cons p r ih=>
  rw [tyF];by_cases h:t=p.name
  ·rw [if_pos h];simp [parN,h]
  rw [if_neg h,ih];have:parN (p::r)=p.name::parN r:=rfl;rw [this,List.mem_cons];exact ⟨.inr,fun h1=>h1.elim (fun h2=>absurd h2 h) id⟩
theorem tyF_in:∀ {l:List Param} {t u:Bs},tyF l t=some u->∃ p∈l,p.typ=u
 | p::r,t,u,h=>by
  rw [tyF] at h;by_cases h1:t=p.name
  ·rw [if_pos h1] at h;injection h with h;exact ⟨p,by simp,h⟩
  rw [if_neg h1] at h;obtain ⟨q,hq,e⟩:=tyF_in h;exact ⟨q,by simp [hq],e⟩
theorem hasT_up {l:List Param} (h3:∀ p∈l,HasT l p.typ) {t:Bs} (h:HasT l t) (ho:t≠YaJ):HasT l (upT l t):=by
 rcases h with h | h
 ·exact absurd h ho
 obtain ⟨u,hu⟩:=Option.isSome_iff_exists.1 h;obtain ⟨p,hp,e⟩:=tyF_in hu;have:upT l t=p.typ:=by unfold upT;rw [hu,e];rfl
 rw [this];exact h3 p hp
theorem itU_succ {l:List Param} (n:Nat) (t:Bs):itU l (n+1) t=upT l (itU l n t):=by rw [YiU n 1 t];rfl
theorem wft_of {l:List Param} (hs:∀ p∈l,Short p.typ) (h3:∀ p∈l,HasT l p.typ) (h4:∀ p∈l,cycM l p.name l.length p.name=false) (hl:l.length<=64):WFT l:=by
 refine ⟨hs,fun t ht=>Classical.byContradiction fun hno=>?_⟩;have hob:∀ i,i<=l.length->itU l i t≠YaJ:=by
  intro i
  induction i using Nat.strongRecOn with
  | _ i ih=>
   intro hi he;exact hno ⟨i,by omega,upN_of he (fun k hk=>ih k hk Zi)⟩
 have hHas:∀ i,i<=l.length->HasT l (itU l i t):=by
  intro i
  induction i with
  | zero=>intro _;exact ht
  | succ i ih=>intro hi;rw [itU_succ];exact hasT_up h3 (ih Zi) (hob i Zi)
 have hmem:∀ i,i<=l.length->itU l i t∈parN l:=fun i hi=>by
  rcases hHas i hi with h | h
  ·exact absurd h (hob i hi)
  exact YfF.1 h
 obtain ⟨i,j,hij,hj,he⟩:=pigeon l.length (parN l) (fun i=>itU l i t) Ydc hmem;obtain ⟨p,hp,hpe⟩:=List.mem_map.1 (hmem i Zi);have hc:=h4 p hp;rw [hpe] at hc;refine cyc_no l.length hc (j - i) Zi Zi (fun k h1 h2=>?_) ?_
 ·rw [<- YiU];exact hob (i+k) Zi
 rw [<- YiU,show i+(j - i)=j from by omega];exact he.symm
theorem YiM {l:List Param} (h:newM l=0) (hs:∀ p∈l,Short p.typ) (hl:l.length<=64):WFT l:=by
 unfold newM at h;by_cases h1:TwP [] (parN l)
 ·rw [if_pos h1] at h;cases h
 rw [if_neg h1] at h;by_cases h2:∀ p∈l,HasT l p.typ
 ·rw [if_neg (by simpa using h2)] at h;by_cases h3:∃ p∈l,cycM l p.name l.length p.name=true
  ·rw [if_pos h3] at h;cases h
  exact wft_of hs h2 (fun p hp=>by
   cases hc:cycM l p.name l.length p.name with
   | false=>rfl
   | true=>exact absurd ⟨p,hp,hc⟩ h3) hl
 rw [if_pos h2] at h;cases h
theorem fndS_no {x:Bs} (h:(fndS m x i).isSome=false):fndS m x i=none:=by cases hf:fndS m x i with | none=>rfl | some p=>rw [hf] at h;cases h
theorem tyM_add {l:List Param} {x:Param} (hx:l[k]?=some x) (h:x.name ∉ parN (l.take k)):updS (tyM (l.take k)) x.name (Zy x.typ)=tyM (l.take (k+1)):=by
 have h1:fndS (tyM (l.take k)) x.name 0=none:=fndS_no (by
  rw [Yol];cases hc:(tyF (l.take k) x.name).isSome with
  | false=>rfl
  | true=>exact absurd (YfF.1 hc) h)
 have h2:l.take (k+1)=l.take k++ [x]:=by rw [List.take_add_one,hx];rfl
 rw [updS,h1,h2];unfold tyM;rw [List.map_append];rfl
theorem tnew_q {l:List Param} (hM:MaxF fz) (h1:Sl paramL fz A n c l) (hl:l.length<=64) (hok:∀ p∈l,YZ p.name/\YdB p.typ):
 GFn prog 88 [Zc A n c] fz [] (fun v fz' H'=>H'=[]/\∃ (vf:Value) (z:Int),v=.tuple #[vf,Zk z,errV (newM l)]/\(newM l=0->ForR fz' vf l)):=by
 have ln:=h1.len;refine zF Tryz.func88 Tryz.ntmps88 (fun w0=>?_);refine wC ?_ ?_<;>intro c0
 ·omega
 refine zW ?_;refine XW n (fun k=>[(22,Zk k),(21,Zk n),(20,Zc A n c),(0,Zc A n c)]) [] (fun k=>True) trivial ?_;intro k hk hh;refine wC ?_ ?_<;>intro c1
 ·obtain ⟨x,hx⟩:=Yc (l:=l) (k:=k) Zi;obtain ⟨hn,ht⟩:=hok x (Zm hx);refine wI h1 hx (fun p1 hp=>?_);refine zL hp ?_;intro cs hcs;obtain ⟨rfl,hR⟩:=Yz hcs;refine zW ?_;intros;refine zc (Yop hM hn) ?_;refine wC ?_ ?_<;>intro x1
  ·have hn2:YZ x.typ:=ht.elim id (fun h=>absurd h x1);refine wc (Yop hM hn2) ?_;exact wM (h:=by exact trivial)
  exact wM (h:=by exact trivial)
 refine zW ?_;refine Ya (Xf (fun gm=>?_));refine zW ?_;intros;rename_i gf;refine loopJ n (fun k=>[(50,Zk k),(49,Zk n),(48,Zc A n c),(7,Zp gf),(0,Zc A n c)]) (fun k=>[(gf,Zu #[.map (some gm)] 249),(gm,mapS (tyM (l.take k)))]) (fun k=>(∀ i,i<k->∀ x,(parN l)[i]?=some x->x ∉ []++(parN l).take i)) (fun i hi=>absurd hi Zi) ?_;intro k hk hh;refine wC ?_ ?_<;>intro c2
 ·obtain ⟨x,hx⟩:=Yc (l:=l) (k:=k) Zi;have hxn:=YfK hx;refine wI h1 hx (fun p1 hp=>?_);refine zL hp ?_;intro cs hcs;obtain ⟨rfl,hR⟩:=Yz hcs;refine zW ?_;intros;refine zG ?_;refine WZ 2 Yol ?_ (hv:=Yil);cases hb:(tyF (l.take k) x.name).isSome with
  | true=>
   have hin:=YfF.1 hb;have e1:newM l=4:=if_pos ⟨k,x.name,hxn,by rw [<- YaY];exact hin⟩;refine zW ?_;refine retN T (vs:=[_,_,_]) ⟨rfl,rfl,rfl,trivial⟩ Zb ⟨rfl,.pointer none,k,by rw [e1];rfl,fun h=>by rw [e1] at h;cases h⟩
  | false=>
   have hnin:x.name ∉ parN (l.take k):=fun h=>by rw [YfF.2 h] at hb;cases hb
   refine zWN ?_;refine YS [_,_,_] ?_;refine zW ?_;refine pU ?_;refine Ch.hard0 (Xs (pre:=[_,_]) (Zr _) ?_);refine Ch.done ?_;rw [tyM_add hx hnin];exact wM (h:=by exact YbD (p:=fun i x=>x ∉ []++(parN l).take i) hh hxn (by rw [<- YaY];exact hnin))
 have hno:¬TwP [] (parN l):=Yin hh (by rw [Ydc];omega);rw [Zl (show l.length<=k by omega)];refine zWX ?_;refine Wp.freezeAll (H1:=[]) (Zr _) (fun fz2 hl2 hf2=>?_);have hF:ForR fz2 (Zp gf) l:=⟨gf,gm,rfl,hf2 (gf,Zu #[.map (some gm)] 249) (by simp),hf2 (gm,mapS (tyM l)) (by simp)⟩;have h2:=h1.mono hl2;refine zW ?_;refine Yi (fun q σ fz' H'=>∃ k:Nat,k<=n/\q=n - k/\σ=[(79,Zk k),(78,Zk n),(77,Zc A n c),(7,Zp gf),(0,Zc A n c)]/\fz2=fz'/\H'=[]/\(∀ i,i<k->∀ x,l[i]?=some x->HasT l x.typ)) ⟨0,Z0 _,rfl,rfl,rfl,rfl,fun i hi=>absurd hi Zi⟩ Zw Zb ?_;rintro q σ fz' H' ⟨k,hk,rfl,rfl,rfl,rfl,hh3⟩;refine wC ?_ ?_<;>intro c3
 ·obtain ⟨x,hx⟩:=Yc (l:=l) (k:=k) Zi;refine wI h2 hx (fun p1 hp=>?_);refine zL hp ?_;intro cs hcs;obtain ⟨rfl,hR⟩:=Yz hcs;refine zW ?_;intros;refine zb (YnC hF) (fun f1=>?_) (fun f1=>?_)
  ·exact wM (h:=by exact Yx (p:=fun x:Param=>HasT l x.typ) hh3 hx (Zt f1))
  have e1:newM l=3:=by rw [newM,if_neg hno,if_pos (fun h=>Zf f1 (h x (Zm hx)))]
  refine zW ?_;refine retN T (vs:=[_,_,_]) ⟨rfl,rfl,rfl,trivial⟩ Zb ⟨rfl,.pointer none,k,by rw [e1];rfl,fun h=>by rw [e1] at h;cases h⟩
 have hall:=YQ (p:=fun x:Param=>HasT l x.typ) hh3 Zi;refine zW ?_;refine Yi (fun q σ fz' H'=>∃ k:Nat,k<=n/\q=n - k/\σ=[(94,Zk k),(93,Zk n),(92,Zc A n c),(7,Zp gf)]/\fz2=fz'/\H'=[]/\(∀ i,i<k->∀ x,l[i]?=some x->cycM l x.name l.length x.name=false)) ⟨0,Z0 _,rfl,rfl,rfl,rfl,fun i hi=>absurd hi Zi⟩ Zw Zb ?_;rintro q σ fz' H' ⟨k,hk,rfl,rfl,rfl,rfl,hh4⟩;refine wC ?_ ?_<;>intro c4
 ·obtain ⟨x,hx⟩:=Yc (l:=l) (k:=k) Zi;refine wI h2 hx (fun p1 hp=>?_);refine zL hp ?_;intro cs hcs;obtain ⟨rfl,hR⟩:=Yz hcs;refine zW ?_;intros
  ((refine zG ?_);refine Yu (cycle_q hF Zi) ?_);cases hcy:cycM l x.name l.length x.name with
  | true=>
   have e1:newM l=21:=by rw [newM,if_neg hno,if_neg (by simpa using hall),if_pos ⟨x,Zm hx,hcy⟩]
   refine zW ?_;refine retN T (vs:=[_,_,_]) ⟨rfl,rfl,rfl,trivial⟩ Zb ⟨rfl,.pointer none,k,by rw [e1];rfl,fun h=>by rw [e1] at h;cases h⟩
  | false=>
   exact wM (h:=by exact Yx (p:=fun x:Param=>cycM l x.name l.length x.name=false) hh4 hx hcy)
 have hcn:=YQ (p:=fun x:Param=>cycM l x.name l.length x.name=false) hh4 Zi;have e1:newM l=0:=by
  rw [newM,if_neg hno,if_neg (by simpa using hall),if_neg];rintro ⟨x,hx,h9⟩;rw [hcn x hx] at h9;cases h9
 refine zW ?_;refine retN T (vs:=[_,_,_]) ⟨rfl,rfl,rfl,trivial⟩ Zb ⟨rfl,_,0,by rw [e1];rfl,fun _=>hF⟩
end Go.Proofs.YtacfpcbladaohaaGreatDoor
namespace Go.Proofs.YtacfpcbladaohaaGreatDoor
theorem YlX {x k:Sexpr} (h:XVal x) (hk:k∈x.kids):XVal k:=by
 refine ⟨(Ybd.1 h.1).2 k hk,?_,?_⟩
 ·have h1:=h.2.1;rw [YfX] at h1;have:=YeC.1 (Zs _) k hk;omega
 have h1:=h.2.2;rw [YfY] at h1;have:=Yk3 hk;omega
theorem YfW {l:List Sexpr} {k:Sexpr} (h:XVal (YJ l)) (hk:k∈l):XVal k:=YlX h hk
theorem num_ok {n:Int} (h:XVal (numE n)):Yex n:=by
 have:=(Ybd.1 h.1).1;rcases this with ⟨h1,_⟩ | ⟨_,_,_,h1⟩ | ⟨h1,_⟩
 ·exact absurd (show (2:Int)=1 from h1) Zh
 ·exact h1
 exact absurd (show (2:Int)=3 from h1) Zh
def GrdA (a:Atom):Prop:=YZ a.name/\∀ s∈a.args,YZ s
end Go.Proofs.YtacfpcbladaohaaGreatDoor
namespace Go.Proofs.YtacfpcbladaohaaGreatDoor
variable {α:Type} {b:Bool} {fz:FZ} {g c n:Nat} {s:Bs} {A B:Option Addr} {va ve vk vp v1 v2 v3 v4 v5 v6 v7 v:Value} {Hs:HP} {l:List α}
def wrO (b:Bool):Obj:=Zu #[Zo b] 255
def MkR (g:Nat) (b:Bool) (P:Prop) (x:Sexpr) (fz:FZ) (v:Value) (fz':FZ) (H':HP):Prop:=Le fz fz'/\∃ (b':Bool) (y:Sexpr),H'=[(g,wrO b')]/\SxIs fz' v y/\(b'=false↔b=false/\P)/\(b'=false->y=x)
theorem Ycl (hs:Short s):GFn prog 158 [Zp g,Zy s] fz [(g,wrO b)] (fun v fz' H'=>Le fz fz'/\v=sxV 1 0 s Zn/\∃ b':Bool,H'=[(g,wrO b')]/\(b'=false↔b=false/\YZ s)):=by
 unfold wrO;refine zF Tryz.func158 Tryz.ntmps158 (fun w0=>?_);cases b
 ·refine zW ?_;intros;refine zb (Ya2 hs) (fun f1=>?_) (fun f1=>?_)
  ·refine wc (W8 (s:=s)) ?_;unfold sxV;refine zW ?_;refine Yak (i:=0) (H':=[(g,wrO false)]) rfl Zb ?_;exact ⟨Zd,rfl,false,rfl,iff_of_true rfl ⟨rfl,Zt f1⟩⟩
  refine wc (W8 (s:=s)) ?_;unfold sxV;refine zW ?_;refine Yak (i:=0) (H':=[(g,wrO true)]) rfl Zb ?_;exact ⟨Zd,rfl,true,rfl,iff_of_false (by simp) (fun h=>Zf f1 h.2)⟩
 refine zW ?_;intros;refine zc (W8 (s:=s)) ?_;unfold sxV;refine zW ?_;refine Yak (i:=0) (H':=[(g,wrO true)]) rfl Zb ?_;exact ⟨Zd,rfl,true,rfl,iff_of_false (by simp) (fun h=>by cases h.1)⟩
def WC (vars:Bool) (p:Param):Prop:=(if vars=true then VarP p.name else YZ p.name)/\YdB p.typ
theorem Yai {vars:Bool} {l:List Param} (h1:Sl paramL fz A n c l) (hn:n<=1000000000):
 GFn prog 160 [Zp g,Zc A n c,Zo vars] fz [(g,wrO b)] (fun v fz' H'=>Le fz fz'/\(∃ B cc,v=Zc B (3*n) cc/\Sl YM fz' B (3*n) cc ((l.flatMap YaA).map Yl))/\∃ b':Bool,H'=[(g,wrO b')]/\(b'=false↔b=false/\∀ p∈l,WC vars p)):=by
 have l1:=h1.len;refine zF Tryz.func160 Tryz.ntmps160 (fun w0=>?_);refine zW ?_;refine Yi (fun q σ fz' H'=>∃ (k:Nat) (b':Bool),k<=n/\q=n - k/\σ=[(12,Zk k),(11,Zk n),(10,Zc A n c),(2,Zo vars),(1,Zc A n c),(0,Zp g)]/\fz=fz'/\H'=[(g,wrO b')]/\(b'=false↔b=false/\∀ i,i<k->∀ p,l[i]?=some p->WC vars p)) ⟨0,b,Z0 _,rfl,rfl,rfl,rfl,⟨fun h=>⟨h,fun i hi=>absurd hi Zi⟩,fun h=>h.1⟩⟩ Zw Zb ?_;rintro q σ fz' H' ⟨k,b',hk,rfl,rfl,rfl,rfl,hb⟩;refine wC ?_ ?_<;>intro c1
 ·obtain ⟨x,hx⟩:=Yc (l:=l) (k:=k) Zi;have step:∀ b2:Bool,(b2=false↔b'=false/\WC vars x)->(b2=false↔b=false/\∀ i,i<k+1->∀ p,l[i]?=some p->WC vars p):=fun b2 h=>by
   rw [h,hb];exact ⟨fun h0=>⟨h0.1.1,Yx h0.1.2 hx h0.2⟩,fun h0=>⟨⟨h0.1,fun i hi=>h0.2 i Zi⟩,h0.2 k Zi x hx⟩⟩
  refine wI h1 hx (fun p hp=>?_);refine zL hp ?_;intro cs hcs;obtain ⟨rfl,hR⟩:=Yz hcs;cases vars
  ·refine zW ?_;intros;rename_i g5;refine zb (Ya2 hR.name) (fun f1=>?_) (fun f1=>?_)
   ·refine zW ?_;cases b'
    ·refine wC ?_ ?_<;>intro e1
     ·refine wb (Ya2 hR.typ) (fun f2=>?_) (fun f2=>?_)
      ·exact wP (h:=by exact ⟨k+1,false,by omega,rfl,rfl,rfl,rfl,step false (iff_of_true rfl ⟨rfl,Zt f1,.inl (Zt f2)⟩)⟩)
      exact wP (h:=by exact ⟨k+1,true,by omega,rfl,rfl,rfl,rfl,step true (iff_of_false (by simp) (fun h=>h.2.2.elim (Zf f2) e1))⟩)
     exact wP (h:=by exact ⟨k+1,false,by omega,rfl,rfl,rfl,rfl,step false (iff_of_true rfl ⟨rfl,Zt f1,.inr e1⟩)⟩)
    exact wP (h:=by exact ⟨k+1,true,by omega,rfl,rfl,rfl,rfl,step true (iff_of_false (by simp) (fun h=>by cases h.1))⟩)
   refine zW ?_;cases b'
   ·exact wP (h:=by exact ⟨k+1,true,by omega,rfl,rfl,rfl,rfl,step true (iff_of_false (by simp) (fun h=>Zf f1 h.2.1))⟩)
   exact wP (h:=by exact ⟨k+1,true,by omega,rfl,rfl,rfl,rfl,step true (iff_of_false (by simp) (fun h=>by cases h.1))⟩)
  refine zW ?_;intros;rename_i g5;refine zc (Ya2 hR.name) ?_;refine wb (Yc9 hR.name) (fun f1=>?_) (fun f1=>?_)
  ·refine zW ?_;cases b'
   ·refine wC ?_ ?_<;>intro e1
    ·refine wb (Ya2 hR.typ) (fun f2=>?_) (fun f2=>?_)
     ·exact wP (h:=by exact ⟨k+1,false,by omega,rfl,rfl,rfl,rfl,step false (iff_of_true rfl ⟨rfl,Zt f1,.inl (Zt f2)⟩)⟩)
     exact wP (h:=by exact ⟨k+1,true,by omega,rfl,rfl,rfl,rfl,step true (iff_of_false (by simp) (fun h=>h.2.2.elim (Zf f2) e1))⟩)
    exact wP (h:=by exact ⟨k+1,false,by omega,rfl,rfl,rfl,rfl,step false (iff_of_true rfl ⟨rfl,Zt f1,.inr e1⟩)⟩)
   exact wP (h:=by exact ⟨k+1,true,by omega,rfl,rfl,rfl,rfl,step true (iff_of_false (by simp) (fun h=>by cases h.1))⟩)
  refine zW ?_;cases b'
  ·exact wP (h:=by exact ⟨k+1,true,by omega,rfl,rfl,rfl,rfl,step true (iff_of_false (by simp) (fun h=>Zf f1 h.2.1))⟩)
  exact wP (h:=by exact ⟨k+1,true,by omega,rfl,rfl,rfl,rfl,step true (iff_of_false (by simp) (fun h=>by cases h.1))⟩)
 have hk1:k=n:=by omega
 subst hk1;refine wK (q:=YfJ h1 hn) (h:=fun v2 fz2 H2 hle2 hR2=>?_);obtain ⟨rfl,B2,cc2,rfl,hsl2⟩:=hR2;exact wR (h:=by exact ⟨hle2,⟨B2,cc2,rfl,hsl2⟩,b',rfl,by rw [hb];exact ⟨fun h=>⟨h.1,YQ h.2 Zi⟩,fun h=>⟨h.1,fun i _ p hp=>h.2 p (Zm hp)⟩⟩⟩)
theorem Yb0 {f:Formula} (h:FormulaR fz f va vp ve vk) (hs:FSm f):GFn prog 245 [Zp g,.agg #[Zy f.op,Zy f.name,va,vp,ve,vk]] fz [(g,wrO b)] (MkR g b (FVal f) (YY f) fz):=by
 obtain ⟨⟨A,n,ca,rfl,ha⟩,⟨B,m,cb,rfl,hp⟩,⟨C,r,cr,rfl,he⟩,⟨D,q,cq,rfl,hk⟩⟩:=h.sls;refine zF Tryz.func245 Tryz.ntmps245 (fun w0=>?_);refine pX (fun g0=>?_);refine zW ?_;intros;rename_i g1;refine wK (q:=YmJ h hs) (h:=fun v6 fz6 H6 hle6 hR6=>?_);obtain ⟨rfl,u,y,rfl,⟨cs,rfl,hr⟩,hyx⟩:=hR6;obtain ⟨vk6,rfl,hX⟩:=YB hr;obtain ⟨A6,n6,b6,rfl,_⟩:=hX.kids;by_cases hP:FVal f
 ·rw [if_pos hP];cases b
  ·refine zW ?_;intros;refine Yak (i:=1) (H':=[(g,wrO false)]) rfl Zb ?_;exact ⟨hle6,false,y,rfl,⟨_,rfl,Ys hX⟩,iff_of_true rfl ⟨rfl,hP⟩,fun _=>hyx hP⟩
  refine zW ?_;intros;refine Yak (i:=1) (H':=[(g,wrO true)]) rfl Zb ?_;exact ⟨hle6,true,y,rfl,⟨_,rfl,Ys hX⟩,iff_of_false (by simp) (fun h0=>by cases h0.1),fun h0=>by cases h0⟩
 rw [if_neg hP];cases b
 ·refine zW ?_;intros;refine Yak (i:=1) (H':=[(g,wrO true)]) rfl Zb ?_;exact ⟨hle6,true,y,rfl,⟨_,rfl,Ys hX⟩,iff_of_false (by simp) (fun h0=>hP h0.2),fun h0=>by cases h0⟩
 refine zW ?_;intros;refine Yak (i:=1) (H':=[(g,wrO true)]) rfl Zb ?_;exact ⟨hle6,true,y,rfl,⟨_,rfl,Ys hX⟩,iff_of_false (by simp) (fun h0=>by cases h0.1),fun h0=>by cases h0⟩
def Yif (name:Bs) (args:List Bs):Prop:=YZ name/\∀ a∈args,Yfb a
theorem watom_q {f0:Bs} {l:List Bs} (hf:Short f0) (h1:Sl strL fz A n c l) (hn:n<=1000000000):
 GFn prog 303 [Zp g,Zy f0,Zc A n c] fz [(g,wrO b)] (MkR g b (Yif f0 l) (Wg f0 l) fz):=by
 have l1:=h1.len;refine zF Tryz.func303 Tryz.ntmps303 (fun w0=>?_);refine zW ?_;intros;rename_i g4
 first | refine Wp.perm (List.Perm.swap _ _ _) ?_ | refine Seq.perm (List.Perm.swap _ _ _) ?_
 refine Ya (Yh [_] [_] Zz (Ycl hf) (fun v6 fz6 H6 hle6 hR6=>?_));obtain ⟨_,rfl,b1,rfl,hb1⟩:=hR6;unfold sxV;refine Ya (Yb (cs:=YF f0) (fun gb=>?_));refine zc WR ?_;unfold sxV;refine zW ?_;intros;rename_i g5;refine Wp.perm (List.Perm.cons _ (List.reverse_perm [_,_,_])) ?_;refine Yi (fun q σ fz' H'=>∃ (k:Nat) (v:Value) (Hs:HP) (b':Bool),k<=n/\q=n - k/\σ=[(17,Zk k),(16,Zk n),(15,Zc A n c),(7,Zp g5),(6,Zp g4),(0,Zp g)]/\fz6=fz'/\
  H'=(g5,Zu #[Zk 3,Zk 0,Zk 0,Zk 0,Ze,v] 146)::(g4,Zu #[Zk 0,Zk 0,Zk 0,Zk 0,Ze,Zn] 146)::(g,wrO b')::Hs/\Grow YM 146 fz' v (k+1) Hs (Yl f0::(l.take k).map Yl)/\(b'=false↔b=false/\YZ f0/\∀ i,i<k->∀ a,l[i]?=some a->Yfb a))
  ⟨0,_,[_],b1,Z0 _,rfl,rfl,rfl,rfl,Grow.block (ys:=[(Yl f0,YF f0)]) rfl rfl (by simpa using YH hf) rfl,by rw [hb1];exact ⟨fun h=>⟨h.1,h.2,fun i hi=>absurd hi Zi⟩,fun h=>⟨h.1,h.2.1⟩⟩⟩ Zw Zb ?_
 rintro q σ fz' H' ⟨k,v,Hs,b',hk,rfl,rfl,rfl,rfl,hG,hb⟩;obtain ⟨Av,cv,rfl,_,_⟩:=hG.form;have h2:=h1.mono hle6;refine wC ?_ ?_<;>intro c1
 ·obtain ⟨x,hx⟩:=Yc (l:=l) (k:=k) Zi;have step:∀ b2:Bool,(b2=false↔b'=false/\Yfb x)->(b2=false↔b=false/\YZ f0/\∀ i,i<k+1->∀ a,l[i]?=some a->Yfb a):=fun b2 h=>by
   rw [h,hb];exact ⟨fun h0=>⟨h0.1.1,h0.1.2.1,Yx h0.1.2.2 hx h0.2⟩,fun h0=>⟨⟨h0.1,h0.2.1,fun i hi=>h0.2.2 i Zi⟩,h0.2.2 k Zi x hx⟩⟩
  refine wI h2 hx (fun p hp=>?_);refine zH hp (fun ix=>?_);refine zWO ?_;refine Yy (YV (fun σ fz' H'=>∃ b2:Bool,σ=[(9,Zy x),(17,Zk k),(16,Zk n),(15,Zc A n c),(7,Zp g5),(6,Zp g4),(0,Zp g)]/\fz6=fz'/\
   H'=(g5,Zu #[Zk 3,Zk 0,Zk 0,Zk 0,Ze,Zc Av (k+1) cv] 146)::(g4,Zu #[Zk 0,Zk 0,Zk 0,Zk 0,Ze,Zn] 146)::(g,wrO b2)::Hs/\(b2=false↔b'=false/\Yfb x)) ?_ ?_)
  ·cases b'
   ·refine wb (dterm_q ix) (fun f1=>?_) (fun f1=>?_)
    ·exact wN (h:=by exact ⟨false,rfl,rfl,rfl,iff_of_true rfl ⟨rfl,Zt f1⟩⟩)
    exact wN (h:=by exact ⟨true,rfl,rfl,rfl,iff_of_false (by simp) (fun h=>Zf f1 h.2)⟩)
   exact wN (h:=by exact ⟨true,rfl,rfl,rfl,iff_of_false (by simp) (fun h=>by cases h.1)⟩)
  rintro σ fz' H' ⟨b2,rfl,rfl,rfl,hb2⟩;refine YS [_,_,_] ?_;refine zW ?_;refine Yj (Yj (Yj ?_));refine zW ?_;refine pU ?_;refine Ch.qk ⟨Zd,Zx⟩ (Yu (W8 (s:=x)) ?_);refine Yf (Yb (cs:=YF x) (fun gb=>⟨⟨Zd,Zx⟩,?_⟩));refine Yf (YD (Hr:=[_,_,_,_]) (Zr _) hG YI (.head _) (YH ix) (fun v' Hs' hO'=>⟨⟨Zd,Zx⟩,?_⟩));obtain ⟨Av',cv',rfl,_,_⟩:=hO'.form;refine Ch.hard0 (Y1 ?_);refine Ch.done ?_;exact wP (h:=by exact ⟨k+1,_,Hs',b2,by omega,rfl,rfl,rfl,rfl,hO'.of (by rw [List.take_add_one,hx];simp) rfl,step b2 hb2⟩)
 have hk1:k=n:=by omega
 subst hk1;rw [Zl Zi] at hG;refine zW ?_;refine Yd1 (i:=1) (H':=[(g,wrO b')]) rfl (@List.perm_middle _ _ [_,_] _).symm (fun fz3 hle3 hf3=>?_);obtain ⟨A',c',he,hsl⟩:=hG.sl hle3 (fun p hp=>hf3 p (by simp [hp])) Zi;injection he with he1 he2 he3
 subst he1 he3;exact ⟨hle6.trans hle3,b',_,rfl,W2 hsl,by rw [hb];exact ⟨fun h=>⟨h.1,h.2.1,YQ h.2.2 Zi⟩,fun h=>⟨h.1,h.2.1,fun i _ a ha=>h.2.2 a (Zm ha)⟩⟩,fun _=>rfl⟩
def YiT:Bs:=⟨#[97,115,115,105,103,110]⟩
def Yeb:Bs:=⟨#[105,110,99,114,101,97,115,101]⟩
def Yec:Bs:=⟨#[100,101,99,114,101,97,115,101]⟩
def Ypx:Bs:=⟨#[119,104,101,110]⟩
def nilE:Lx.Expr:=.mk ⟨#[]⟩ ⟨#[]⟩ 0 [] []
def Num5 (k:Int):Prop:=k=3\/k=4\/k=5
def Ykn (k:Int):Bs:=if k=3 then YiT else if k=4 then Yeb else Yec
def Yey (c:Change):Prop:=((c.kind=1\/c.kind=2)/\c.value=nilE)\/(Num5 c.kind/\EVal c.value)
def WhenOk (c:Change):Prop:=c.when_=Xd\/FVal c.when_
def ChOk (c:Change):Prop:=Yif c.name c.args/\Yey c/\WhenOk c/\∀ p∈c.params,WC true p
def ChSm (c:Change):Prop:=c.params.length<=1000000000/\c.args.length<=1000000000/\FSm c.when_/\ESm c.value
def chX1 (c:Change):Sexpr:=if c.kind=2 then YJ [Yl kNot,Wg c.name c.args] else if Num5 c.kind then YJ [Yl (Ykn c.kind),Wg c.name c.args,X8 c.value] else Wg c.name c.args
def chX2 (c:Change):Sexpr:=if c.when_=Xd then chX1 c else YJ [Yl Ypx,YY c.when_,chX1 c]
def chX (c:Change):Sexpr:=if c.params=[] then chX2 c else YJ [Yl kForall,YJ ((c.params.flatMap YaA).map Yl),chX2 c]
theorem Yp9 {fz3:FZ} {gb:Nat} {o:Bs} {X:Sexpr} {vk3:Value} (ho:Short o) (hg:fz3 gb=some (.cells (YF o++ [Zk X.kind,Zk X.value,Zk X.line,Zk X.column,Zy X.text,vk3]).toArray 146 (0,0))) (hX:Wu fz3 X vk3):
 Wu fz3 (YJ [Yl o,X]) (Zv gb 2 2):=
 ⟨Yku,Wh,Wh,Wh,Y3,(XI (ys:=[(Yl o,YF o),(X,[Zk X.kind,Zk X.value,Zk X.line,Zk X.column,Zy X.text,vk3])]) hg rfl rfl (by
  intro p hp;simp only [List.mem_cons,List.not_mem_nil,or_false] at hp;rcases hp with rfl | rfl
  ·exact YH ho
  exact Ys hX) rfl (by simp)).is⟩
theorem YeE {fz3:FZ} {gb:Nat} {o:Bs} {X Y:Sexpr} {vk3 vk5:Value} (ho:Short o) (hg:fz3 gb=some (.cells (YF o++ [Zk X.kind,Zk X.value,Zk X.line,Zk X.column,Zy X.text,vk3]++ [Zk Y.kind,Zk Y.value,Zk Y.line,Zk Y.column,Zy Y.text,vk5]).toArray 146 (0,0))) (hX:Wu fz3 X vk3) (hY:Wu fz3 Y vk5):
 Wu fz3 (YJ [Yl o,X,Y]) (Zv gb 3 3):=
 ⟨Yku,Wh,Wh,Wh,Y3,(XI (ys:=[(Yl o,YF o),(X,[Zk X.kind,Zk X.value,Zk X.line,Zk X.column,Zy X.text,vk3]),(Y,[Zk Y.kind,Zk Y.value,Zk Y.line,Zk Y.column,Zy Y.text,vk5])]) hg rfl rfl (by
  intro p hp;simp only [List.mem_cons,List.not_mem_nil,or_false] at hp;rcases hp with rfl | rfl | rfl
  ·exact YH ho
  ·exact Ys hX
  exact Ys hY) rfl (by simp)).is⟩
theorem Ycq {o:Bs} (h:o=kNot\/o=YiT\/o=Yeb\/o=Yec\/o=Ypx\/o=kForall):Short o:=by
 rcases h with rfl | rfl | rfl | rfl | rfl | rfl<;>(unfold Short;decide)
theorem Yn4 {c:Change} {v8:Value} (h:ChangeR fz c v1 v2 v3 v4 v5 v6 v7 v8) (hs:ChSm c):
 GFn prog 285 [Zp g,.agg #[Zk c.kind,v1,Zy c.when_.op,Zy c.when_.name,v2,v3,v4,v5,Zy c.name,v6,Zy c.value.op,Zy c.value.name,Zk c.value.n,v7,v8]] fz [(g,wrO b)] (MkR g b (ChOk c) (chX c) fz):=by
 obtain ⟨A1,n1,b1,rfl,ip⟩:=h.params;obtain ⟨⟨A2,n2,b2,rfl,iw1⟩,⟨A3,n3,b3,rfl,iw2⟩,⟨A4,n4,b4,rfl,iw3⟩,⟨A5,n5,b5,rfl,iw4⟩⟩:=h.when_.sls;obtain ⟨A6,n6,b6,rfl,ia⟩:=h.args;obtain ⟨⟨A7,n7,b7,rfl,iv1⟩,⟨A8,n8,b8,rfl,iv2⟩⟩:=h.value.sls;refine zF Tryz.func285 Tryz.ntmps285 (fun w0=>?_);refine pX (fun g3=>?_);refine zW ?_;intros;rename_i g4;refine Seq.perm (@List.perm_middle _ _ [_,_] []).symm ?_;refine Ya (Yh [_] _ Zz (watom_q h.name ia (by rw [<- ia.len];exact hs.2.1)) (fun v9 fz1 H1 hle1 hR1=>?_));obtain ⟨_,ba,y0,rfl,⟨cs0,rfl,hr0⟩,hba,hya⟩:=hR1;obtain ⟨vy0,rfl,hY0⟩:=YB hr0;obtain ⟨Ay0,ny0,by0,rfl,_⟩:=hY0.kids;refine zWO ?_;intros;rename_i g5;refine Wp.perm (List.Perm.swap _ _ _) ?_;refine Yy (YV (fun σ fz' H'=>∃ (bb:Bool) (y:Sexpr) (Ay:Option Addr) (ny by_:Nat),σ=[(5,Zp g5),(4,Zp g4),(3,Zp g3),(0,Zp g)]/\Le fz1 fz'/\H'=[(g,wrO bb),(g5,Zu #[Zk y.kind,Zk y.value,Zk y.line,Zk y.column,Zy y.text,Zc Ay ny by_] 146),(g4,Zu #[Zk 0,Zk 0,Zk 0,Zk 0,Ze,Zn] 146),(g3,Zu #[Zk c.kind,Zc A1 n1 b1,Zy c.when_.op,Zy c.when_.name,Zc A2 n2 b2,Zc A3 n3 b3,Zc A4 n4 b4,Zc A5 n5 b5,Zy c.name,Zc A6 n6 b6,Zy c.value.op,Zy c.value.name,Zk c.value.n,Zc A7 n7 b7,Zc A8 n8 b8] 104)]/\Wu fz' y (Zc Ay ny by_)/\(bb=false↔b=false/\Yif c.name c.args/\Yey c)/\(bb=false->y=chX1 c)) ?_ ?_)
 ·have hM:∀ {fz':FZ},Le fz1 fz'->ExprR fz' c.value (Zc A7 n7 b7) (Zc A8 n8 b8):=fun hle=>h.value.mono (hle1.trans hle)
  refine wC ?_ ?_<;>intro k1
  ·have k2:¬c.kind=2:=by omega
   have hx1:chX1 c=Wg c.name c.args:=by unfold chX1 Num5;rw [if_neg k2,if_neg Zi]
   have hk0:Yey c↔c.value=nilE:=⟨fun h0=>h0.elim (fun h0=>h0.2) (fun h0=>by have:=h0.1;unfold Num5 at this;omega),fun h0=>.inl ⟨.inl k1,h0⟩⟩;refine zW ?_;cases ba
   ·refine wG ?_;refine Ye (vs:=[Zy c.value.op,Zy c.value.name,Zk c.value.n,Zc A7 n7 b7,Zc A8 n8 b8]) 3 ?_;refine wG ?_;refine Xu (Yg1 (b:=nilE) (hM Zd) YkG) (fun f1=>?_) (fun f1=>?_)
    ·exact wN (h:=by exact ⟨false,y0,Ay0,ny0,by0,rfl,Zd,rfl,hY0,iff_of_true rfl ⟨(hba.1 rfl).1,(hba.1 rfl).2,hk0.2 (Zt f1)⟩,fun _=>by rw [hx1];exact hya rfl⟩)
    exact wN (h:=by exact ⟨true,y0,Ay0,ny0,by0,rfl,Zd,rfl,hY0,iff_of_false (by simp) (fun h0=>Zf f1 (hk0.1 h0.2.2)),fun h0=>by cases h0⟩)
   exact wN (h:=by exact ⟨true,y0,Ay0,ny0,by0,rfl,Zd,rfl,hY0,iff_of_false (by simp) (fun h0=>by simpa using hba.2 ⟨h0.1,h0.2.1⟩),fun h0=>by cases h0⟩)
  refine wC ?_ ?_<;>intro k2
  ·have hx1:chX1 c=YJ [Yl kNot,Wg c.name c.args]:=by unfold chX1;rw [if_pos k2]
   have hk0:Yey c↔c.value=nilE:=⟨fun h0=>h0.elim (fun h0=>h0.2) (fun h0=>by have:=h0.1;unfold Num5 at this;omega),fun h0=>.inl ⟨.inr k2,h0⟩⟩;refine zWO ?_;refine X9 ?_;refine Yy (YV (fun σ fz' H'=>∃ bb:Bool,σ=[(5,Zp g5),(4,Zp g4),(3,Zp g3),(0,Zp g)]/\fz1=fz'/\H'=[(g,wrO bb),(g5,Zu #[Zk y0.kind,Zk y0.value,Zk y0.line,Zk y0.column,Zy y0.text,Zc Ay0 ny0 by0] 146),(g4,Zu #[Zk 0,Zk 0,Zk 0,Zk 0,Ze,Zn] 146),(g3,Zu #[Zk c.kind,Zc A1 n1 b1,Zy c.when_.op,Zy c.when_.name,Zc A2 n2 b2,Zc A3 n3 b3,Zc A4 n4 b4,Zc A5 n5 b5,Zy c.name,Zc A6 n6 b6,Zy c.value.op,Zy c.value.name,Zk c.value.n,Zc A7 n7 b7,Zc A8 n8 b8] 104)]/\(bb=false↔b=false/\Yif c.name c.args/\Yey c)) ?_ ?_)
   ·cases ba
    ·refine wG ?_;refine Ye (vs:=[Zy c.value.op,Zy c.value.name,Zk c.value.n,Zc A7 n7 b7,Zc A8 n8 b8]) 3 ?_;refine wG ?_;refine Xu (Yg1 (b:=nilE) (hM Zd) YkG) (fun f1=>?_) (fun f1=>?_)
     ·exact wN (h:=by exact ⟨false,rfl,rfl,rfl,iff_of_true rfl ⟨(hba.1 rfl).1,(hba.1 rfl).2,hk0.2 (Zt f1)⟩⟩)
     exact wN (h:=by exact ⟨true,rfl,rfl,rfl,iff_of_false (by simp) (fun h0=>Zf f1 (hk0.1 h0.2.2))⟩)
    exact wN (h:=by exact ⟨true,rfl,rfl,rfl,iff_of_false (by simp) (fun h0=>by simpa using hba.2 ⟨h0.1,h0.2.1⟩)⟩)
   rintro σ fz' H' ⟨bb,rfl,rfl,rfl,hbb⟩;refine zW ?_;refine YS [_,_,_,_] ?_;refine zc (W8 (s:=kNot)) ?_;refine zW ?_;refine pU ?_;refine Yf (Yb (cs:=YF kNot++ [Zk y0.kind,Zk y0.value,Zk y0.line,Zk y0.column,Zy y0.text,Zc Ay0 ny0 by0]) (fun gb=>⟨⟨Zd,Zx⟩,?_⟩));refine Ch.qk ⟨Zd,Zx⟩ (Yu WR ?_);unfold sxV;refine Ch.hard0 (Wk ?_);refine Ch.done ?_;refine zW ?_;refine midF (H':=[(g,wrO bb),(g5,_),(g4,_),(g3,_)]) (H2:=[(gb,_)]) Zq (fun fz2 hl2 hf2=>⟨bb,YJ [Yl kNot,y0],_,_,_,rfl,hl2,rfl,Yp9 (Ycq (.inl rfl)) (hf2 _ (.head _)) (hY0.mono hl2),hbb,fun h0=>?_⟩) Zw;rw [hx1,hya (hba.2 ⟨(hbb.1 h0).1,(hbb.1 h0).2.1⟩)]
  refine zWO ?_;refine Wb ?_;refine Yy (YV (fun σ fz' H'=>∃ bq:Bool,σ=(43,Zo bq):: [(5,Zp g5),(4,Zp g4),(3,Zp g3),(0,Zp g)]/\fz1=fz'/\H'=[(g,wrO ba),(g5,Zu #[Zk y0.kind,Zk y0.value,Zk y0.line,Zk y0.column,Zy y0.text,Zc Ay0 ny0 by0] 146),(g4,Zu #[Zk 0,Zk 0,Zk 0,Zk 0,Ze,Zn] 146),(g3,Zu #[Zk c.kind,Zc A1 n1 b1,Zy c.when_.op,Zy c.when_.name,Zc A2 n2 b2,Zc A3 n3 b3,Zc A4 n4 b4,Zc A5 n5 b5,Zy c.name,Zc A6 n6 b6,Zy c.value.op,Zy c.value.name,Zk c.value.n,Zc A7 n7 b7,Zc A8 n8 b8] 104)]/\(bq=true↔Num5 c.kind)) ?_ ?_)
  ·refine wC ?_ ?_<;>intro k3
   ·exact wN (h:=by exact ⟨true,rfl,rfl,rfl,iff_of_true rfl (.inl k3)⟩)
   refine wC ?_ ?_<;>intro k4
   ·exact wN (h:=by exact ⟨true,rfl,rfl,rfl,iff_of_true rfl (.inr (.inl k4))⟩)
   refine wC ?_ ?_<;>intro k5
   ·exact wN (h:=by exact ⟨true,rfl,rfl,rfl,iff_of_true rfl (.inr (.inr k5))⟩)
   exact wN (h:=by exact ⟨false,rfl,rfl,rfl,iff_of_false (by simp) (fun h0=>h0.elim k3 (fun h0=>h0.elim k4 k5))⟩)
  rintro σ fz' H' ⟨bq,rfl,rfl,rfl,hb5⟩;cases bq
  ·have hk0:¬Yey c:=fun h0=>h0.elim (fun h0=>h0.1.elim k1 k2) (fun h0=>by simpa using hb5.2 h0.1)
   exact wN (h:=by exact ⟨true,y0,Ay0,ny0,by0,rfl,Zd,rfl,hY0,iff_of_false (by simp) (fun h0=>hk0 h0.2.2),fun h0=>by cases h0⟩)
  have hn5:=hb5.1 rfl;have hk0:Yey c↔EVal c.value:=⟨fun h0=>h0.elim (fun h0=>(h0.1.elim k1 k2).elim) (fun h0=>h0.2),fun h0=>.inr ⟨hn5,h0⟩⟩;have hx1:chX1 c=YJ [Yl (Ykn c.kind),Wg c.name c.args,X8 c.value]:=by unfold chX1;rw [if_neg k2,if_pos hn5]
  have hw:([Zy YiT,Zy Yeb,Zy Yec]:List Value)[(c.kind - 3).toNat]?=some (Zy (Ykn c.kind)):=by
   rcases hn5 with h0 | h0 | h0<;>rw [h0]<;>rfl
  have hsw:Short (Ykn c.kind):=by
   refine Ycq ?_;unfold Ykn;split
   ·exact .inr (.inl rfl)
   split
   ·exact .inr (.inr (.inl rfl))
   exact .inr (.inr (.inr (.inl rfl)))
  have hn6:3<=c.kind/\c.kind<=5:=by unfold Num5 at hn5;omega
  refine X9 ?_;refine wG ?_;refine Ye (vs:=[Zy c.value.op,Zy c.value.name,Zk c.value.n,Zc A7 n7 b7,Zc A8 n8 b8]) 3 ?_;refine wK (q:=eWrite_q (hM Zd) hs.2.2.2) (h:=fun v8 fz2 H2 hle2 hR2=>?_);obtain ⟨rfl,u,ye,rfl,⟨cse,rfl,hre⟩,hye⟩:=hR2;obtain ⟨vke,rfl,hE⟩:=YB hre;obtain ⟨Ae,ne,be,rfl,_⟩:=hE.kids;refine zWO ?_;intros;rename_i g6;refine Yy (YV (fun σ fz' H'=>∃ bb:Bool,σ=(6,Zp g6):: [(5,Zp g5),(4,Zp g4),(3,Zp g3),(0,Zp g)]/\fz2=fz'/\H'=[(g,wrO bb),(g6,Zu #[Zk ye.kind,Zk ye.value,Zk ye.line,Zk ye.column,Zy ye.text,Zc Ae ne be] 146),(g5,Zu #[Zk y0.kind,Zk y0.value,Zk y0.line,Zk y0.column,Zy y0.text,Zc Ay0 ny0 by0] 146),(g4,Zu #[Zk 0,Zk 0,Zk 0,Zk 0,Ze,Zn] 146),(g3,Zu #[Zk c.kind,Zc A1 n1 b1,Zy c.when_.op,Zy c.when_.name,Zc A2 n2 b2,Zc A3 n3 b3,Zc A4 n4 b4,Zc A5 n5 b5,Zy c.name,Zc A6 n6 b6,Zy c.value.op,Zy c.value.name,Zk c.value.n,Zc A7 n7 b7,Zc A8 n8 b8] 104)]/\(bb=false↔b=false/\Yif c.name c.args/\Yey c)) ?_ ?_)
  ·by_cases hP:EVal c.value
   ·rw [if_pos hP];cases ba
    ·refine zW ?_;exact midP (List.Perm.swap _ _ _) ⟨false,rfl,rfl,rfl,iff_of_true rfl ⟨(hba.1 rfl).1,(hba.1 rfl).2,hk0.2 hP⟩⟩ Zw Zb
    refine zW ?_;exact midP (List.Perm.swap _ _ _) ⟨true,rfl,rfl,rfl,iff_of_false (by simp) (fun h0=>by simpa using hba.2 ⟨h0.1,h0.2.1⟩)⟩ Zw Zb
   rw [if_neg hP];cases ba
   ·refine zW ?_;exact midP (List.Perm.swap _ _ _) ⟨true,rfl,rfl,rfl,iff_of_false (by simp) (fun h0=>hP (hk0.1 h0.2.2))⟩ Zw Zb
   refine zW ?_;exact midP (List.Perm.swap _ _ _) ⟨true,rfl,rfl,rfl,iff_of_false (by simp) (fun h0=>by simpa using hba.2 ⟨h0.1,h0.2.1⟩)⟩ Zw Zb
  rintro σ fz' H' ⟨bb,rfl,rfl,rfl,hbb⟩;refine YS [_,_,_,_,_] ?_;refine Yj ?_;refine zW ?_;refine Yj (Yj (Yj ?_));refine zW ?_;refine pU ?_;refine Yf (Yb (cs:=[Zy YiT,Zy Yeb,Zy Yec]) (fun gs=>⟨⟨Zd,Zx⟩,?_⟩));refine Ch.qk ⟨Zd,Zx⟩ (Xn T Zz Zz Zz Zz Zz Zz Zi Zi ?_);refine Ch.qk ⟨Zd,Zx⟩ (Yp 0 ?_ (hv:=hw));refine Ch.qk ⟨Zd,Zx⟩ (Yu (W8 (s:=Ykn c.kind)) ?_);refine Yf (Yb (cs:=YF (Ykn c.kind)++ [Zk y0.kind,Zk y0.value,Zk y0.line,Zk y0.column,Zy y0.text,Zc Ay0 ny0 by0]++ [Zk ye.kind,Zk ye.value,Zk ye.line,Zk ye.column,Zy ye.text,Zc Ae ne be]) (fun gb=>⟨⟨Zd,Zx⟩,?_⟩));refine Ch.qk ⟨Zd,Zx⟩ (Yu WR ?_);unfold sxV;refine Ch.hard0 (YbZ (pre:=[_,_,_,_]) rfl ?_);refine Ch.done ?_;refine zW ?_;refine midF (H':=[(g,wrO bb),(g5,_),(g4,_),(g3,_)]) (H2:=[(gb,_),(gs,_),(g6,_)]) (Ybt [2,4,5,6,0,1,3]) (fun fz3 hl3 hf3=>⟨bb,YJ [Yl (Ykn c.kind),y0,ye],_,_,_,rfl,hle2.trans hl3,rfl,YeE hsw (hf3 _ (.head _)) (hY0.mono (hle2.trans hl3)) (hE.mono hl3),hbb,fun h0=>?_⟩) Zw;rw [hx1,hya (hba.2 ⟨(hbb.1 h0).1,(hbb.1 h0).2.1⟩),hye (hk0.1 (hbb.1 h0).2.2)]
 rintro σ fz9 H' ⟨bb,y,Ay,ny,by_,rfl,hle2,rfl,hY,hbb,hyb⟩;refine Yy (YV (fun σ fz' H'=>∃ (bb:Bool) (y:Sexpr) (Ay:Option Addr) (ny by_:Nat),σ=[(5,Zp g5),(4,Zp g4),(3,Zp g3),(0,Zp g)]/\Le fz9 fz'/\H'=[(g,wrO bb),(g5,Zu #[Zk y.kind,Zk y.value,Zk y.line,Zk y.column,Zy y.text,Zc Ay ny by_] 146),(g4,Zu #[Zk 0,Zk 0,Zk 0,Zk 0,Ze,Zn] 146),(g3,Zu #[Zk c.kind,Zc A1 n1 b1,Zy c.when_.op,Zy c.when_.name,Zc A2 n2 b2,Zc A3 n3 b3,Zc A4 n4 b4,Zc A5 n5 b5,Zy c.name,Zc A6 n6 b6,Zy c.value.op,Zy c.value.name,Zk c.value.n,Zc A7 n7 b7,Zc A8 n8 b8] 104)]/\Wu fz' y (Zc Ay ny by_)/\(bb=false↔b=false/\Yif c.name c.args/\Yey c/\WhenOk c)/\(bb=false->y=chX2 c)) ?_ ?_)
 ·refine Yy ?_;refine YS [(g,_),(g5,_),(g4,_),(g3,_)] ?_;refine wG ?_;refine Ye (vs:=[Zy c.when_.op,Zy c.when_.name,Zc A2 n2 b2,Zc A3 n3 b3,Zc A4 n4 b4,Zc A5 n5 b5]) 3 ?_;refine zc Yes ?_;unfold YbQ;refine zb (Yf9 (b:=Xd) ((h.when_.mono hle1).mono hle2) Yco) (fun f1=>?_) (fun f1=>?_)
  ·have hw:=Zt f1;refine zW ?_;refine Yjt ⟨by kernel_rfl,Ch.done ?_⟩;exact wN (h:=by exact ⟨bb,y,Ay,ny,by_,rfl,Zd,rfl,hY,by rw [hbb];exact ⟨fun h0=>⟨h0.1,h0.2.1,h0.2.2,.inl hw⟩,fun h0=>⟨h0.1,h0.2.1,h0.2.2.1⟩⟩,fun h0=>by rw [chX2,if_pos hw];exact hyb h0⟩)
  have hw:=Zf f1;refine zW ?_;refine Yjt ⟨by kernel_rfl,Ch.done ?_⟩;refine zW ?_;refine YS [(g5,_),(g4,_),(g3,_)] ?_;refine zc (W8 (s:=Ypx)) ?_;refine wG ?_;refine Ye (vs:=[Zy c.when_.op,Zy c.when_.name,Zc A2 n2 b2,Zc A3 n3 b3,Zc A4 n4 b4,Zc A5 n5 b5]) 2 ?_;refine Yj ?_;refine zW ?_;refine pU ?_;refine Yf (Yh [_] _ Zz (Yb0 ((h.when_.mono hle1).mono hle2) hs.2.2.1) (fun v6 fz6 H6 hle6 hR6=>?_));obtain ⟨_,b9,y6,rfl,⟨cs6,rfl,hr6⟩,hb6,hy6⟩:=hR6;obtain ⟨vk6,rfl,hX6⟩:=YB hr6;obtain ⟨Ae,ne,be,rfl,_⟩:=hX6.kids;refine ⟨⟨hle6,Zx⟩,?_⟩;refine Yf (Yb (cs:=YF Ypx++ [Zk y6.kind,Zk y6.value,Zk y6.line,Zk y6.column,Zy y6.text,Zc Ae ne be]++ [Zk y.kind,Zk y.value,Zk y.line,Zk y.column,Zy y.text,Zc Ay ny by_]) (fun gb=>⟨⟨hle6,Zx⟩,?_⟩));refine Ch.qk ⟨hle6,Zx⟩ (Yu WR ?_);unfold sxV;refine Ch.hard0 (Wk ?_);refine Ch.done ?_;refine zW ?_;refine midF (H':=[(g,wrO b9),(g5,_),(g4,_),(g3,_)]) (H2:=[(gb,_)]) Zq (fun fz3 hl3 hf3=>⟨b9,YJ [Yl Ypx,y6,y],_,_,_,rfl,hle6.trans hl3,rfl,YeE (Ycq (.inr (.inr (.inr (.inr (.inl rfl)))))) (hf3 _ (.head _)) (hX6.mono hl3) ((hY.mono hle6).mono hl3),?_,fun h0=>?_⟩) Zw
  ·rw [hb6,hbb];exact ⟨fun h0=>⟨h0.1.1,h0.1.2.1,h0.1.2.2,.inr h0.2⟩,fun h0=>⟨⟨h0.1,h0.2.1,h0.2.2.1⟩,h0.2.2.2.resolve_left hw⟩⟩
  rw [chX2,if_neg hw,hy6 h0,hyb (hb6.1 h0).1]
 rintro σ fz7 H' ⟨bb,y,Ay,ny,by_,rfl,hle7,rfl,hY,hbb,hyb⟩;have hip:=((ip.mono hle1).mono hle2).mono hle7;refine Yy (YV (fun σ fz' H'=>∃ (bb:Bool) (y:Sexpr) (Ay:Option Addr) (ny by_:Nat),σ=[(5,Zp g5),(4,Zp g4),(3,Zp g3),(0,Zp g)]/\Le fz7 fz'/\H'=[(g,wrO bb),(g5,Zu #[Zk y.kind,Zk y.value,Zk y.line,Zk y.column,Zy y.text,Zc Ay ny by_] 146),(g4,Zu #[Zk 0,Zk 0,Zk 0,Zk 0,Ze,Zn] 146),(g3,Zu #[Zk c.kind,Zc A1 n1 b1,Zy c.when_.op,Zy c.when_.name,Zc A2 n2 b2,Zc A3 n3 b3,Zc A4 n4 b4,Zc A5 n5 b5,Zy c.name,Zc A6 n6 b6,Zy c.value.op,Zy c.value.name,Zk c.value.n,Zc A7 n7 b7,Zc A8 n8 b8] 104)]/\Wu fz' y (Zc Ay ny by_)/\(bb=false↔b=false/\ChOk c)/\(bb=false->y=chX c)) ?_ ?_)
 ·refine wC ?_ ?_<;>intro p1
  ·have hp0:=(YaG ip.len).1 p1;refine zW ?_;refine YS [(g5,_),(g4,_),(g3,_)] ?_;refine zc (W8 (s:=kForall)) ?_;refine zW ?_;refine Yj (Yj ?_);refine zW ?_;refine pU ?_;refine Yf (Yh [_] _ Zz (Yai (vars:=true) hip (by rw [<- ip.len];exact hs.1)) (fun v6 fz6 H6 hle6 hR6=>?_));obtain ⟨_,⟨Ae,ce,rfl,hsl6⟩,b9,rfl,hb6⟩:=hR6;refine ⟨⟨hle6,Zx⟩,?_⟩;refine Ch.qk ⟨hle6,Zx⟩ (Yu WR ?_);unfold sxV;refine Yf (Yb (cs:=YF kForall++ [Zk 3,Zk 0,Zk 0,Zk 0,Ze,Zc Ae (3*n1) ce]++ [Zk y.kind,Zk y.value,Zk y.line,Zk y.column,Zy y.text,Zc Ay ny by_]) (fun gb=>⟨⟨hle6,Zx⟩,?_⟩));refine Ch.qk ⟨hle6,Zx⟩ (Yu WR ?_);unfold sxV;refine Ch.hard0 (Wk ?_);refine Ch.done ?_;refine zW ?_;refine midF (H':=[(g,wrO b9),(g5,_),(g4,_),(g3,_)]) (H2:=[(gb,_)]) Zq (fun fz3 hl3 hf3=>⟨b9,YJ [Yl kForall,YJ ((c.params.flatMap YaA).map Yl),y],_,_,_,rfl,hle6.trans hl3,rfl,YeE (X:=YJ ((c.params.flatMap YaA).map Yl)) (Ycq (.inr (.inr (.inr (.inr (.inr rfl)))))) (hf3 _ (.head _)) ⟨Yku,Wh,Wh,Wh,Y3,(hsl6.mono hl3).is⟩ ((hY.mono hle6).mono hl3),?_,fun h0=>?_⟩) Zw
   ·rw [hb6,hbb];exact ⟨fun h0=>⟨h0.1.1,h0.1.2.1,h0.1.2.2.1,h0.1.2.2.2,h0.2⟩,fun h0=>⟨⟨h0.1,h0.2.1,h0.2.2.1,h0.2.2.2.1⟩,h0.2.2.2.2⟩⟩
   rw [chX,if_neg hp0,hyb (hb6.1 h0).1]
  have hp0:c.params=[]:=Classical.byContradiction fun h0=>p1 ((YaG ip.len).2 h0)
  exact wN (h:=by exact ⟨bb,y,Ay,ny,by_,rfl,Zd,rfl,hY,by rw [hbb];exact ⟨fun h0=>⟨h0.1,h0.2.1,h0.2.2.1,h0.2.2.2,by rw [hp0];simp⟩,fun h0=>⟨h0.1,h0.2.1,h0.2.2.1,h0.2.2.2.1⟩⟩,fun h0=>by rw [chX,if_pos hp0];exact hyb h0⟩)
 rintro σ fz8 H' ⟨bb,y,Ay,ny,by_,rfl,hle8,rfl,hY,hbb,hyb⟩;refine zW ?_;refine Yak (i:=2) (H':=[(g,wrO bb)]) rfl Zb ?_;exact ⟨hle1.trans (hle2.trans (hle7.trans hle8)),bb,y,rfl,⟨_,rfl,Ys hY⟩,hbb,hyb⟩
def effX (l:List Change):Sexpr:=if l=[] then YJ [] else YJ (Yl kAnd::l.map chX)
def YeA (l:List Change):Prop:=∀ c∈l,ChOk c
def YqI (l:List Change):Prop:=l.length<=1000000000/\∀ c∈l,ChSm c
theorem Yoz:Short kAnd:=by unfold Short;decide
theorem Yf1 {l:List Change} (h1:Sl changeL fz A n c l) (hs:YqI l):
 GFn prog 246 [Zp g,Zc A n c] fz [(g,wrO b)] (MkR g b (YeA l) (effX l) fz):=by
 have l1:=h1.len;have hn:=hs.1;refine zF Tryz.func246 Tryz.ntmps246 (fun w0=>?_);refine zW ?_;intros;rename_i g4;refine zC ?_ ?_<;>intro c0
 ·have hl:=(len0 l1).1 c0;refine wc (WR (A:=none) (n:=0) (c:=0)) ?_;unfold sxV;refine zW ?_;refine Yak (i:=0) (H':=[(g,wrO b)]) rfl Zb ?_;exact ⟨Zd,b,_,rfl,W2 (Sl.nil),by rw [hl];unfold YeA;simp,fun _=>by rw [effX,if_pos hl]⟩
 have hl:l≠ []:=fun h0=>c0 ((len0 l1).2 h0)
 refine wc (W8 (s:=kAnd)) ?_;unfold sxV;refine Ya (Yb (cs:=YF kAnd) (fun gb=>?_));refine zc WR ?_;unfold sxV;refine zW ?_;intros;rename_i g5;refine Wp.perm (Ybt [3,0,2,1]) ?_;refine Yi (fun q σ fz' H'=>∃ (k:Nat) (v:Value) (Hs:HP) (b':Bool) (ys:List Sexpr),k<=n/\q=n - k/\σ=[(17,Zk k),(16,Zk n),(15,Zc A n c),(5,Zp g5),(4,Zp g4),(0,Zp g)]/\Le fz fz'/\
  H'=(g,wrO b')::(g5,Zu #[Zk 3,Zk 0,Zk 0,Zk 0,Ze,v] 146)::(g4,Zu #[Zk 0,Zk 0,Zk 0,Zk 0,Ze,Zn] 146)::Hs/\Grow YM 146 fz' v (k+1) Hs (Yl kAnd::ys)/\(b'=false↔b=false/\∀ i,i<k->∀ a,l[i]?=some a->ChOk a)/\(b'=false->ys=(l.take k).map chX))
  ⟨0,_,[_],b,[],Z0 _,rfl,rfl,Zd,rfl,Grow.block (ys:=[(Yl kAnd,YF kAnd)]) rfl rfl (by simpa using YH Yoz) rfl,⟨fun h=>⟨h,fun i hi=>absurd hi Zi⟩,fun h=>h.1⟩,by simp⟩ Zw Zb ?_
 rintro q σ fz' H' ⟨k,v,Hs,b',ys,hk,rfl,rfl,hle,rfl,hG,hb,hys⟩;obtain ⟨Av,cv,rfl,_,_⟩:=hG.form;have h2:=h1.mono hle;refine wC ?_ ?_<;>intro c1
 ·obtain ⟨x,hx⟩:=Yc (l:=l) (k:=k) Zi;refine wI h2 hx (fun p hp=>?_);refine zL hp ?_;intro cs hcs;obtain ⟨v1,v2,v3,v4,v5,v6,v7,v8,rfl,hRx⟩:=Y6 hcs;obtain ⟨A1,n1,b1,rfl,_⟩:=hRx.params;obtain ⟨⟨A2,n2,b2,rfl,_⟩,⟨A3,n3,b3,rfl,_⟩,⟨A4,n4,b4,rfl,_⟩,⟨A5,n5,b5,rfl,_⟩⟩:=hRx.when_.sls;obtain ⟨A6,n6,b6,rfl,_⟩:=hRx.args;obtain ⟨⟨A7,n7,b7,rfl,_⟩,⟨A8,n8,b8,rfl,_⟩⟩:=hRx.value.sls;refine zW ?_;intros;rename_i g7;refine YS [(g7,_),(g5,_),(g4,_)] ?_;refine zW ?_;refine Yj (Yj (Yj ?_));refine zW ?_;refine pU ?_;refine Yf (Does.perm (List.Perm.swap _ _ _) (Yh [_] _ Zz (Yn4 hRx (hs.2 x (Zm hx))) (fun v9 fz6 H6 hle6 hR6=>?_)));obtain ⟨_,b9,y6,rfl,⟨cs6,rfl,hr6⟩,hb6,hy6⟩:=hR6;obtain ⟨vk6,rfl,hX6⟩:=YB hr6;refine ⟨⟨hle6,Zx⟩,?_⟩;refine Yf (Yb (cs:=[Zk y6.kind,Zk y6.value,Zk y6.line,Zk y6.column,Zy y6.text,vk6]) (fun gb=>⟨⟨hle6,Zx⟩,?_⟩));refine Yf (YD (Hr:=[_,_,_,_,_]) (Zr _) (hG.mono hle6) YI (.head _) (Ys hX6) (fun v' Hs' hO'=>⟨⟨hle6,Zx⟩,?_⟩));obtain ⟨Av',cv',rfl,_,_⟩:=hO'.form;refine Ch.hard0 (WE ?_);refine Ch.done ?_;refine zW ?_;refine Wr ⟨k+1,_,Hs',b9,ys++ [y6],by omega,rfl,rfl,hle.trans hle6,rfl,hO',?_,fun h0=>?_⟩ Zi Zw Zb
  ·rw [hb6,hb];exact ⟨fun h0=>⟨h0.1.1,Yx h0.1.2 hx h0.2⟩,fun h0=>⟨⟨h0.1,fun i hi=>h0.2 i Zi⟩,h0.2 k Zi x hx⟩⟩
  rw [hys (hb6.1 h0).1,hy6 h0,List.take_add_one,hx];simp
 have hk1:k=n:=by omega
 subst hk1;refine zW ?_;refine Yd1 (i:=2) (H':=[(g,wrO b')]) rfl (Zr _) (fun fz3 hle3 hf3=>?_);obtain ⟨A',c',he,hsl⟩:=hG.sl hle3 (fun p hp=>hf3 p (by simp [hp])) Zi;injection he with he1 he2 he3
 subst he1 he3;refine ⟨hle.trans hle3,b',_,rfl,W2 hsl,by rw [hb];exact ⟨fun h=>⟨h.1,YQ h.2 Zi⟩,fun h=>⟨h.1,fun i _ a ha=>h.2 a (Zm ha)⟩⟩,fun h0=>?_⟩;rw [effX,if_neg hl,hys h0,Zl Zi]
def lsO (v:Value):Obj:=Zu #[Zk 3,Zk 0,Zk 0,Zk 0,Ze,v] 146
def Ydt:List Value:=[Zk 0,Zk 0,Zk 0,Zk 0,Ze,Zn]
theorem Ybg:YM.rep fz Yjv Ydt:=Ys (x:=Yjv) ⟨Wh,Wh,Wh,Wh,Y3,IsSl.nil⟩
theorem set2 {z w y:α} (hn:l.length=n):((l++ [z,z]).set n w).set (n+1) y=l++ [w,y]:=by
 subst hn;rw [List.set_append_right _ _ (Zs _),Nat.sub_self,List.set_append_right _ _ Zi,Nat.add_sub_cancel_left];rfl
theorem set1 {z w:α} (hn:l.length=n):(l++ [z]).set n w=l++ [w]:=by
 subst hn;rw [List.set_append_right _ _ (Zs _),Nat.sub_self];rfl
def PartR (gx n:Nat) (l:List Sexpr) (fz:FZ) (v:Value) (fz':FZ) (H':HP):Prop:=v=.tuple #[]/\Le fz fz'/\∃ (v':Value) (n':Nat) (Hs':HP),H'=(gx,lsO v')::Hs'/\Grow YM 146 fz' v' n' Hs' l/\n'<=n+2
theorem YcT {gx:Nat} {vy:Value} {l:List Sexpr} {mi:Bool} {kw:Bs} {y:Sexpr} (hG:Grow YM 146 fz v n Hs l) (hY:Wu fz y vy) (hkw:Short kw) (hn:n<=100000000000:=by omega):
 GFn prog 242 [Zp gx,Zo mi,Zy kw,.agg #[Zk y.kind,Zk y.value,Zk y.line,Zk y.column,Zy y.text,vy]] fz ((gx,lsO v)::Hs) (PartR gx n (l++if mi=true then [] else [Yl kw,y]) fz):=by
 obtain ⟨Ay,ny,cy,rfl,_⟩:=hY.kids;have hlen:=hG.len;obtain ⟨Av,cv,rfl,_,_⟩:=hG.form;unfold lsO;refine zF Tryz.func242 Tryz.ntmps242 (fun w0=>?_);cases mi
 ·refine pX (fun g7=>?_);refine zW ?_;refine W9 [12,15,16] [(g7,_),(gx,_)] ?_;refine wc (W8 (s:=kw)) ?_;refine zW ?_;refine Yo (Yo (Yo (Yo ?_)));refine PK.p Zz (fun fz'=>by first | exact Yam rfl | exact WY Zz rfl | exact Xi rfl | exact YeQ Zz Zz (Xb Zi) rfl | exact Xh rfl) ?_;refine Yo (Yo ?_);refine PK.p Zz (fun fz'=>by first | exact Yam rfl | exact WY Zz rfl | exact Xi rfl | exact YeQ Zz Zz (Xb Zi) rfl | exact Xh rfl) ?_;refine PK.p Zz (fun fz'=>by first | exact Yam rfl | exact WY Zz rfl | exact Xi rfl | exact YeQ Zz Zz (Xb Zi) rfl | exact Xh rfl) ?_;refine pT ?_;refine Yr ?_;refine Yd (Yb (cs:=Ydt++Ydt) (fun gb=>⟨⟨Zd,Zx⟩,?_⟩));refine Yr ?_;refine Yd (Ypw (Hr:=[_,_,_]) (ys:=[(Yjv,Ydt),(Yjv,Ydt)]) (l2:=[Yjv,Yjv]) (m:=2) (Zr _) hG YI (.head _) rfl rfl rfl (fun v' Hs' hO'=>⟨⟨Zd,Zx⟩,?_⟩) (hys:=by intro p hp;simp at hp;subst hp;exact Ybg));obtain ⟨gk,cap,cur,rfl,rfl,hB⟩:=hO'.b Zi
  repeat' first
   | refine Po.done ?_
   | (refine Yr ?_)
   | (refine XL ?_ ?_)
   | refine PoS.hard (DoesQ.does (Yv rfl ?_))
   | refine PoS.hard0 (Xr (pre:=[_,_,_]) (L:=YM) (j:=n) rfl rfl YI (YH hkw) hB (fun cur1 hB1=>?_))
   | refine PoS.hard0 (Xr (pre:=[_,_,_]) (L:=YM) (j:=n+1) rfl rfl YI (Ys hY) hB1 (fun cur2 hB2=>?_))
   | refine PoS.hard0 (Wk ?_)
  all_goals
   refine zW ?_;exact YoG rfl (H':=[(gx,lsO _),(gk,Zu (List.toArray cur2) 146)]) Zb ⟨rfl,Zd,_,_,[_],rfl,hB2.grow.of (by rw [set2 hlen];rfl) rfl,by omega⟩
 refine pX (fun g7=>?_);refine zW ?_;exact YoG rfl (H':=(gx,lsO _)::Hs) Zb ⟨rfl,Zd,_,_,Hs,rfl,hG.of (by simp) rfl,by omega⟩
theorem YiX {gx m:Nat} {l ks:List Sexpr} {kw:Bs} (hG:Grow YM 146 fz v n Hs l) (hK:Sl YM fz B m c ks) (hkw:Short kw) (hn:n<=100000000000:=by omega) (hm:m<=100000000000:=by omega):
 GFn prog 159 [Zp gx,Zy kw,Zc B m c] fz ((gx,lsO v)::Hs) (PartR gx n (l++if ks=[] then [] else [YJ (Yl kw::ks)]) fz):=by
 have hlen:=hG.len;obtain ⟨Av,cv,rfl,_,_⟩:=hG.form;unfold lsO;refine zF Tryz.func159 Tryz.ntmps159 (fun w0=>?_);refine wC ?_ ?_<;>intro c0
 ·have hks:ks≠ []:=(YaG hK.len).1 c0;refine zW ?_;refine W9 [15,16] [(gx,_)] ?_;refine wc (W8 (s:=kw)) ?_;refine Yo ?_;refine zW ?_;refine Yo (Yo ?_);refine zW ?_;refine Yo (Yo (Yo (Yo ?_)));refine PK.p Zz (fun fz'=>by first | exact Yam rfl | exact WY Zz rfl | exact Xi rfl | exact YeQ Zz Zz (Xb Zi) rfl | exact Xh rfl) ?_;refine PK.p Zz (fun fz'=>by first | exact Yam rfl | exact WY Zz rfl | exact Xi rfl | exact YeQ Zz Zz (Xb Zi) rfl | exact Xh rfl) ?_;refine pT ?_
  repeat' first
   | refine Po.done ?_
   | (refine Yr ?_)
   | (refine XL ?_ ?_)
   | refine Yd (Yb (cs:=YF kw) (fun gb1=>⟨⟨Zd,Zx⟩,?_⟩))
   | (refine Yd (XF T (n:=1) (l:=[Yl kw]) (Hr:=(gx,_)::Hs) (Hs:=[(gb1,_)]) Zz Zz Zz Zz Zz Zz Zz Zz (List.perm_append_singleton _ _).symm (Grow.block (ys:=[(Yl kw,YF kw)]) rfl rfl (by simpa using YH hkw) rfl) YI hK (by show _*72<=_;omega) Zi (fun v1 Hs1 hO1=>⟨⟨Zd,Zx⟩,?_⟩));obtain ⟨A1,c1,rfl,_,_⟩:=hO1.form)
   | (refine PoS.qk ⟨Zd,Zx⟩ (Yu WR ?_);unfold sxV)
   | refine Yd (Yb (cs:=Ydt) (fun gz=>⟨⟨Zd,Zx⟩,?_⟩))
   | (refine PoS.hard (Does.freezeAll (H1:=(gz,_)::(gx,_)::Hs) (H2:=Hs1) (Zr _) (fun fz2 hl2 hf2=>YD (Hr:=[_,_]) (Zr _) (hG.mono hl2) YI (.head _) Ybg (fun v' Hs' hO'=>?_)));obtain ⟨gk,cap,cur,rfl,rfl,hB⟩:=hO'.b Zi;obtain ⟨A2,c2,he2,hsl⟩:=hO1.sl hl2 hf2 Zi;injection he2 with e1 e2 e3;subst e1 e3;have hX:Wu fz2 (YJ (Yl kw::ks)) (.slice A1 (1+m) c1):=⟨Yku,Wh,Wh,Wh,Y3,hsl.is⟩)
   | refine PoS.hard (DoesQ.does (Yv rfl ?_))
   | refine PoS.hard0 (Xr (pre:=[_,_]) (L:=YM) (j:=n) rfl rfl YI (Ys (x:=YJ (Yl kw::ks)) hX) hB (fun cur1 hB1=>?_))
   | refine PoS.hard0 (Y1 ?_)
   | (refine Yd (XF T (n:=1) (l:=[Yl kw]) (Hr:=(gz,_)::(gx,_)::Hs) (Hs:=[(gb1,_)]) Zz Zz Zz Zz Zz Zz Zz Zz (List.Perm.cons _ (List.perm_append_singleton _ _).symm) (Grow.block (ys:=[(Yl kw,YF kw)]) rfl rfl (by simpa using YH hkw) rfl) YI hK (by show _*72<=_;omega) Zi (fun v1 Hs1 hO1=>⟨⟨Zd,Zx⟩,?_⟩));obtain ⟨A1,c1,rfl,_,_⟩:=hO1.form)
   | (refine Yd (XF T (n:=1) (l:=[Yl kw]) (Hr:=(gz,_)::(gx,_)::Hs) (Hs:=[(gb1,_)]) Zz Zz Zz Zz Zz Zz Zz Zz (List.perm_append_singleton _ _).symm (Grow.block (ys:=[(Yl kw,YF kw)]) rfl rfl (by simpa using YH hkw) rfl) YI hK (by show _*72<=_;omega) Zi (fun v1 Hs1 hO1=>⟨⟨Zd,Zx⟩,?_⟩));obtain ⟨A1,c1,rfl,_,_⟩:=hO1.form)
  all_goals
   refine zW ?_;exact YoG rfl (H':=[(gx,lsO _),(gk,Zu (List.toArray cur1) 146)]) Zb ⟨rfl,hl2,_,_,[_],rfl,hB1.grow.of (by rw [set1 hlen,if_neg hks]) rfl,by omega⟩
 have hks:ks=[]:=Classical.byContradiction fun h0=>c0 ((YaG hK.len).2 h0)
 refine zW ?_;exact YoG rfl (H':=(gx,lsO _)::Hs) Zb ⟨rfl,Zd,_,_,Hs,rfl,hG.of (by rw [if_pos hks,List.append_nil]) rfl,by omega⟩
end Go.Proofs.YtacfpcbladaohaaGreatDoor
