/- The texts EvH, EvG, EvF, EvE, EvC, EvB, EvA, EvS, laid together. Conditions: none. -/
import Derived.Test.YtaaanbkahfeknaaGreatDoorCNP
import Derived.Deep.AppendSrc
set_option linter.all false
namespace Go.Ev
open Go.Lx Go.RowKit
section
variable {P:Program} {cx:Cx} {tT:TT} {T:Tab P} {fz:FZ}
def YkS (tT:TT) (ν:Nu) (nx:Nat) (Fm:HP) (c:KC) (fz:FZ) (v:Value) (fz':FZ) (H':HP):Prop:=
 fz'=fz/\∃ ν' av h' nx',ν.le ν'/\nx<=nx'/\c av h' nx'=true/\gv ν' av=some v/\HR tT ν' h' H' Fm/\Yac ν' nx'
def KS (P:Program) (cx:Cx) (tT:TT) (fz:FZ) (f:KF) (op:Op):Prop:=∀ (ν:Nu) (ar:RD) (r:Operand->Option Value) (h:Tr AO) (nx:Nat) (H Fm:HP) (c:KC) (dst:Option Nat) (ty:TypeId) (pos:String) (af:Array Edge) (gd:Option (Nat × Bool)),
 RR ν ar r->HR tT ν h H Fm->Yac ν nx->f tT ar h nx c=true->Does P cx ⟨dst,op,ty,pos,af,gd⟩ r fz H (YkS tT ν nx Fm c fz)
def Nu.ext (ν:Nu) (i b:Nat) (c:Option Nat) (s:Option (List Value)):Nu:=
 ⟨fun j=>if j=i then some b else ν.blk j,fun j=>if j=i then c else ν.cap j,fun j=>if j=i then s else ν.slk j⟩
variable {i:Nat}
theorem YdV {ν:Nu} {b:Nat} {c:Option Nat} {s:Option (List Value)} (h:Yac ν i):ν.le (ν.ext i b c s):=by
 obtain ⟨h1,h2,h3⟩:=h i (Zs _);refine ⟨fun j x hx=>?_,fun j x hx=>?_,fun j x hx=>?_⟩
 ·simp only [Nu.ext];rw [if_neg (fun he=>by rw [he,h1] at hx;cases hx)];exact hx
 ·simp only [Nu.ext];rw [if_neg (fun he=>by rw [he,h2] at hx;cases hx)];exact hx
 simp only [Nu.ext];rw [if_neg (fun he=>by rw [he,h3] at hx;cases hx)];exact hx
theorem Ya7 {ν:Nu} {b:Nat} {c:Option Nat} {s:Option (List Value)} (h:Yac ν i):Yac (ν.ext i b c s) (i+1):=fun j hj=>by
 obtain ⟨h1,h2,h3⟩:=h j Zi;have:j≠i:=by omega
 exact ⟨by simp only [Nu.ext];rw [if_neg this];exact h1,by simp only [Nu.ext];rw [if_neg this];exact h2,by simp only [Nu.ext];rw [if_neg this];exact h3⟩
theorem WY {ν:Nu} {b:Nat} {c:Option Nat} {s:Option (List Value)}:(ν.ext i b c s).blk i=some b:=by simp [Nu.ext]
theorem Yez {ν:Nu} {b:Nat} {c:Option Nat} {s:Option (List Value)}:(ν.ext i b c s).cap i=c:=by simp [Nu.ext]
theorem Yey {ν:Nu} {b:Nat} {c:Option Nat} {s:Option (List Value)}:(ν.ext i b c s).slk i=s:=by simp [Nu.ext]
variable {H:HP} {g:Nat}
theorem HR.new {ν ν':Nu} {h h':Tr AO} {Fm:HP} {o:AO} {x:Obj} (hh:HR tT ν h H Fm) (hle:ν.le ν') (hb:ν'.blk i=some g) (ho:go ν' o=some x) (hg:∀ p∈H,p.1≠g) (hu:h.upd i (some o) h') (hcap:∀ cs e j fr,o=.cells cs e (some j) fr->CapOk tT ν' cs.length e j):HR tT ν' h' ((g,x)::H) Fm:=by
 have old:∀ id a,id≠i->h'.get id=some a->∃ b y,ν.blk id=some b/\go ν a=some y/\(b,y)∈H:=fun id a hid ha=>by
  rw [hu id,if_neg hid] at ha;exact hh.own id a ha
 refine ⟨fun id a ha=>?_,fun id id' a a' b ha ha' hb1 hb2=>?_,fun p hp=>⟨List.mem_cons_of_mem _ (hh.fm p hp).1,fun id a ha hc=>?_⟩,fun id cs e j fr ha=>?_⟩
 ·by_cases hid:id=i
  ·subst hid;rw [hu id,if_pos rfl] at ha;injection ha with ha;subst ha
   exact ⟨g,x,hb,ho,by simp⟩
  obtain ⟨b,y,h1,h2,h3⟩:=old id a hid ha;exact ⟨b,y,hle.blk _ _ h1,YdC hle h2,by simp [h3]⟩
 ·by_cases h1:id=i
  ·by_cases h2:id'=i
   ·rw [h1,h2]
   exfalso;obtain ⟨b',y,g1,_,g3⟩:=old id' a' h2 ha';rw [hle.blk _ _ g1] at hb2;rw [h1,hb] at hb1;injection hb1 with hb1;injection hb2 with hb2
   exact hg _ g3 (by simp only;omega)
  by_cases h2:id'=i
  ·exfalso;obtain ⟨b',y,g1,_,g3⟩:=old id a h1 ha;rw [hle.blk _ _ g1] at hb1;rw [h2,hb] at hb2;injection hb1 with hb1;injection hb2 with hb2
   exact hg _ g3 (by simp only;omega)
  obtain ⟨b1,y1,g1,_,_⟩:=old id a h1 ha;obtain ⟨b2,y2,g2,_,_⟩:=old id' a' h2 ha';rw [hle.blk _ _ g1] at hb1;rw [hle.blk _ _ g2] at hb2;injection hb1 with hb1;injection hb2 with hb2
  rw [hu id,if_neg h1] at ha;rw [hu id',if_neg h2] at ha';exact hh.inj id id' a a' b ha ha' (by rw [g1,hb1]) (by rw [g2,hb2])
 ·by_cases hid:id=i
  ·subst hid;rw [hb] at hc;injection hc with hc
   exact hg p (hh.fm p hp).1 hc.symm
  obtain ⟨b,y,g1,_,_⟩:=old id a hid ha;rw [hle.blk _ _ g1] at hc;injection hc with hc
  rw [hu id,if_neg hid] at ha;exact (hh.fm p hp).2 id a ha (by rw [g1,hc])
 by_cases hid:id=i
 ·subst hid;rw [hu id,if_pos rfl] at ha;injection ha with ha
  exact hcap cs e j fr ha
 rw [hu id,if_neg hid] at ha;exact (hh.cap id cs e j fr ha).mono hle
variable {w:World}
theorem YdQ (hi:Inv cx fz H w):∀ p∈H,p.1≠w.heap.size:=fun p hp=>by
 have:=lt_of_heap (hi.hp.own p hp).1;omega
variable {o:Oper}
theorem YcW {ν:Nu} {r:Operand->Option Value} {h:Tr AO} {nx:Nat} {Fm:HP} {c:KC} {ao:AO} {mk:Mk} {x:Obj} (hh:HR tT ν h H Fm) (hfr:Yac ν nx) (ho:go ν ao=some x) (hnc:∀ cs e j fr,ao≠ .cells cs e (some j) fr)
 (hc:(fA ao fun q=>newO h nx q fun id h m=>c (mk.of id) h m)=true)
 (hrun:∀ ρ w,Reads r ρ->Inv cx fz H w->∃ v,(execOp ρ o).run P w=.ok (.value v) (w.alloc x)/\∀ ν',ν'.blk nx=some w.heap.size->gv ν' (mk.of nx)=some v):Does P cx o r fz H (YkS tT ν nx Fm c fz):=by
 have hfA:∀ q:AO,∀ k:AO->Bool,fA q k=k q:=fun q k=>by
  cases q with
  | cells cs e sl fr=>exact Wq cs fun cs=>k (.cells cs e sl fr)
  | map es n=>rfl
  | mit m a l b=>rfl
 rw [hfA] at hc;obtain ⟨h',hu,hc⟩:=YC _ _ _ _ _ hc;rw [YaL] at hc;refine Does.of fun ρ w hr hi=>?_
 obtain ⟨v,hv,hg⟩:=hrun ρ w hr hi;rw [hv];have hle:ν.le (ν.ext nx w.heap.size none none):=YdV hfr;exact ⟨fz,(w.heap.size,x)::H,hi.alloc x,rfl,ν.ext nx w.heap.size none none,mk.of nx,h',nx+1,hle,by omega,hc,hg _ WY,hh.new hle WY (YdC hle ho) (YdQ hi) hu (fun cs e j fr he=>absurd he (hnc cs e j fr)),Ya7 hfr⟩
end
section
variable {P:Program} {cx:Cx} {tT:TT} {T:Tab P} {fz:FZ}
def Mk.real:Mk->Nat->Value
 | .ptr,g=>.pointer (some ⟨g,0,none⟩)
 | .sl n q,g=>.slice (some ⟨g,0,none⟩) n q
 | .map,g=>.map (some g)
def Mk.ok:Mk->Prop
 | .sl n q=>n<=q
 | _=>True
variable {g i:Nat}
theorem YhV {mk:Mk} (h:mk.ok) {ν:Nu} (hb:ν.blk i=some g):gv ν (mk.of i)=some (mk.real g):=by
 cases mk with
 | ptr=>simp [Mk.of,Mk.real,gv,gA,hb]
 | sl n q=>
  have h':n<=q:=h;simp only [Mk.of,Mk.real,gv,gA,hb,gC,Option.map_some];rw [if_pos h']
 | map=>simp [Mk.of,Mk.real,gv,gM,hb]
def NoSl (ao:AO):Prop:=∀ cs e j fr,ao≠ .cells cs e (some j) fr
theorem noSl {cs:List AV} {e:Nat} {fr:Bool}:NoSl (.cells cs e none fr):=fun _ _ _ _ h=>by cases h
def LS (P:Program) (tT:TT) (f:LF) (op:Op):Prop:=∀ (ν:Nu) (ar:RD) (r:Operand->Option Value) (ao:AO) (mk:Mk),RR ν ar r->f tT ar=some (ao,mk)->
 mk.ok/\NoSl ao/\∃ x,go ν ao=some x/\∀ (dst:Option Nat) (ty:TypeId) (pos:String) (af:Array Edge) (gd:Option (Nat × Bool)) ρ w,Reads r ρ->(execOp ρ ⟨dst,op,ty,pos,af,gd⟩).run P w=.ok (.value (mk.real w.heap.size)) (w.alloc x)
theorem YcY {ν:Nu} {cs:List AV} {vs:List Value} {e:Nat} (h:gvs ν cs=some vs):go ν (.cells cs e none false)=some (.cells vs.toArray e (0,0)):=by
 simp [go,h,gS,frz]
theorem l_alloc (hT:TA tT T) (t:TypeId):LS P tT (floA t) (.alloc t):=fun ν ar r ao mk hr hf=>by
 obtain ⟨A,hA,hf⟩:=YB hf;obtain ⟨_,hf⟩:=YZ hf;injection hf with hf
 injection hf with h1 h2
 subst h1 h2;obtain ⟨X,hX,hR⟩:=hT t A hA;obtain ⟨zs,hz,hzc⟩:=hR.zero;refine ⟨trivial,noSl,_,YcY (hz ν),fun dst ty pos af gd ρ w hρ=>?_⟩;have:=XJ T hX w;simp [execOp,Instr.alloc,this,newVar,newRow,newObj,Sem.run,hzc,Mk.real]
theorem l_box (t:TypeId) (x:Operand):LS P tT (floB t x) (.box t x):=fun ν ar r ao mk hr hf=>by
 obtain ⟨a,ha,hf⟩:=YB hf;obtain ⟨_,hf⟩:=YZ hf;injection hf with hf
 injection hf with h1 h2
 subst h1 h2;obtain ⟨v,h1,h2⟩:=hr x a ha;refine ⟨trivial,noSl,_,YcY (YbO h1),fun dst ty pos af gd ρ w hρ=>?_⟩;simp [execOp,Instr.box,hρ _ _ h2,newVar,newRow,newObj,Sem.run,Mk.real]
theorem l_map (t:TypeId):LS P tT floE (.makeMap t none):=fun ν ar r ao mk hr hf=>by
 injection hf with hf
 injection hf with h1 h2
 subst h1 h2;refine ⟨trivial,(fun _ _ _ _ h=>by cases h),.map #[] 0,by simp [go,ges],fun dst ty pos af gd ρ w hρ=>?_⟩;simp [execOp,Instr.makeMap,newObj,Sem.run,Mk.real]
theorem rep_s {ν:Nu} {z:List AV} {zs:List Value} (h:gvs ν z=some zs):∀ n,gvs ν (rep z n)=some (repZ zs n)
 | 0=>by simp [rep,repZ,gvs]
 | n+1=>by
  simp only [rep,repZ];exact We h (rep_s h n)
variable {n:Nat}
theorem YeP {z:Array Value} {zs:List Value} {size:Nat} (hz:z=zs.toArray) (hs:zs.length=size):(Array.range (n*size)).map ((if n*size=0 then #[] else z)[· % (if n*size=0 then #[] else z).size]!)=(repZ zs n).toArray:=by
 by_cases h0:n*size=0
 ·have hl:(repZ zs n).length=0:=by rw [YeO,hs];exact h0
  have:repZ zs n=[]:=List.eq_nil_of_length_eq_zero hl;rw [this,h0];simp
 simp only [if_neg h0];have:=Yje z n size (by rw [hz];simpa using hs);rw [this,hz]
theorem l_slice (hT:TA tT T) (t:TypeId) (len:Nat) (ps:Array (Nat × Operand)):LS P tT (floS t len ps.toList) (.buildSlice t len ps):=fun ν ar r ao mk hr hf=>by
 obtain ⟨A,hA,hf⟩:=YB hf;obtain ⟨hk,hf⟩:=YZ hf;obtain ⟨Y,hY,hf⟩:=YB hf;obtain ⟨vs,hvs,hf⟩:=YB hf;obtain ⟨hb,hf⟩:=YZ hf;obtain ⟨cs,hcs,hf⟩:=YB hf;obtain ⟨_,hf⟩:=YZ hf;injection hf with hf
 injection hf with e1 e2
 subst e1 e2;simp only [Bool.and_eq_true,Nat.ble_eq] at hb;obtain ⟨X,hX,hR⟩:=hT t A hA;obtain ⟨Z,hZ,hRZ⟩:=hT A.e Y hY;obtain ⟨us,h1,h2⟩:=hr.all hvs;have hlen:vs.length=ps.toList.length:=by rw [YcU hvs];simp
 have hlen':us.length=(ps.toList.map (·.1)).length:=by rw [Y9 h1,hlen];simp
 obtain ⟨e1,e2⟩:=zip_fst ps.toList vs hlen;obtain ⟨e3,e4⟩:=YeA (ps.toList.map (·.1)) us hlen';obtain ⟨zs,hz,hzc⟩:=hRZ.zero;obtain ⟨ws,g1,g2⟩:=YhH (us:=(ps.toList.map (·.1)).zip us) (by rw [e1,e3]) (by rw [e2,e4];exact h1) (rep_s (hz ν) len) hcs;refine ⟨Zs _,noSl,_,YcY g1,fun dst ty pos af gd ρ w hρ=>?_⟩;have hu:=und_plain T hX (hR.d4 (Nat.eq_of_beq_eq_true hk)) rfl;have hsz:=Go.Lx.run_sizeOf T hZ w;rw [hRZ.size] at hsz;have hzr:=XJ T hZ w;have hl':¬len*Y.size>2 ^ 24:=by have:=hb.1;simp only [Nat.mul_eq] at this;omega
 have hzl:zs.length=Y.size:=by rw [Y9 (hz ν)];exact Nat.eq_of_beq_eq_true hb.2
 have hps':(ps.map fun x=>match x with | (i,x)=>(i,ρ x)).toList=(ps.toList.map (·.1)).zip us:=by
  rw [<- Wu hρ ps.toList us h2];simp
 have hc':Instr.fill (fun i=>some (i*Y.size,Y.size)) ((Array.range (len*Y.size)).map ((if len*Y.size=0 then #[] else Z.zero.cells)[· % (if len*Y.size=0 then #[] else Z.zero.cells).size]!)) ((ps.toList.map (·.1)).zip us)=some ws.toArray:=by
  rw [YeP hzc hzl];exact Ycb _ _ _ g2
 by_cases h0:len*Y.size=0
 ·rw [if_pos h0] at hc';simp only [execOp,Instr.buildSlice,Sem.run_bind,run_underlying hu w,Result.andThen_ok,hsz,if_neg hl',if_pos h0,Sem.run_pure,hps',hc',newRow,newObj,Sem.run];rfl
 rw [if_neg h0] at hc';simp only [execOp,Instr.buildSlice,Sem.run_bind,run_underlying hu w,Result.andThen_ok,hsz,if_neg hl',if_neg h0,Sem.run_pure,hzr,hps',hc',newRow,newObj,Sem.run];rfl
theorem l_make (hT:TA tT T) (t:TypeId) (l q:Operand):LS P tT (floM t l q) (.makeSlice t l q):=fun ν ar r ao mk hr hf=>by
 obtain ⟨A,hA,hf⟩:=YB hf;obtain ⟨hk,hf⟩:=YZ hf;obtain ⟨Y,hY,hf⟩:=YB hf;obtain ⟨al,hal,hf⟩:=YB hf;obtain ⟨nl,hnl,hf⟩:=YB hf;obtain ⟨aq,haq,hf⟩:=YB hf;obtain ⟨nq,hnq,hf⟩:=YB hf;obtain ⟨hb,hf⟩:=YZ hf;injection hf with hf
 injection hf with e1 e2
 subst e1 e2;simp only [Bool.and_eq_true,Nat.ble_eq,Nat.blt_eq] at hb;obtain ⟨hb1,hb2,hb3,_⟩:=hb;obtain ⟨X,hX,hR⟩:=hT t A hA;obtain ⟨Z,hZ,hRZ⟩:=hT A.e Y hY;obtain ⟨ul,g1,g2⟩:=hr l al hal;obtain ⟨uq,g3,g4⟩:=hr q aq haq;obtain ⟨k1,rfl⟩:=Ych hnl g1;obtain ⟨k2,rfl⟩:=Ych hnq g3;obtain ⟨zs,hz,hzc⟩:=hRZ.zero;have hzl:zs.length=Y.size:=by rw [Y9 (hz ν)];exact Nat.eq_of_beq_eq_true hb3
 refine ⟨hb1,noSl,_,YcY (rep_s (hz ν) nq),fun dst ty pos af gd ρ w hρ=>?_⟩;have hu:=und_plain T hX (hR.d4 (Nat.eq_of_beq_eq_true hk)) rfl;have hsz:=Go.Lx.run_sizeOf T hZ w;rw [hRZ.size] at hsz;have hzr:=XJ T hZ w;obtain ⟨inf,hi,i1,i2,i3⟩:=(T.ok_ hZ).info;have hbb:inf.bytes=Y.bytes:=by rw [i2,hRZ.bytes]
 have hmul:nq*(Y.bytes+1)<1099511627776:=hb2;have hq2:nq*Y.bytes<=nq*(Y.bytes+1):=Nat.mul_le_mul_left _ Zi;have hq3:nq<=nq*(Y.bytes+1):=by rw [Nat.mul_add];omega
 have hwq:IntKind.i64.wrap (nq:Int)=nq:=Yh (by simp [inK,kHi,Nat.blt_eq];omega);have hwl:IntKind.i64.wrap (nl:Int)=nl:=Yh (by simp [inK,kHi,Nat.blt_eq];omega);have hcomm:Y.bytes*nq=nq*Y.bytes:=Nat.mul_comm _ _;have hti:(typeInfo A.e).run P w=.ok inf w:=by simp [typeInfo,hi]
 have hrow:=YeP (n:=nq) hzc hzl;have hroom:∀ w,(askRoom (nq*Y.bytes)).run P w=.ok () w:=fun w=>by
  unfold askRoom roomBytes;rw [if_neg Zi];rfl
 have hcond:(((decide ((nq:Int)<0) || decide (((Y.bytes:Int))*(nq:Int)>2 ^ 48)) || decide ((nl:Int)<0)) || decide ((nl:Int)>(nq:Int)))=false:=by
  have h5:¬((Y.bytes:Int)*(nq:Int)>2 ^ 48):=by
   have:((Y.bytes*nq:Nat):Int)<=1099511627776:=by omega
   rw [Int.natCast_mul] at this;omega
  simp;omega
 simp only [execOp,hρ _ _ g2,hρ _ _ g4,Instr.makeSlice,Sem.run_bind,run_underlying hu w,Result.andThen_ok,asInt,asIntOf,Sem.run_pure,hti,hbb,hwq,hwl];rw [if_neg (by rw [hcond];simp)];simp only [Sem.run_bind,Int.toNat_natCast,hroom,Result.andThen_ok,hsz];by_cases h0:nq*Y.size=0
 ·simp only [if_pos h0] at hrow;simp only [if_pos h0,Sem.run_bind,Sem.run_pure,Result.andThen_ok,hrow,newRow,newObj,Sem.run];rfl
 simp only [if_neg h0] at hrow;simp only [if_neg h0,Sem.run_bind,Sem.run_pure,Result.andThen_ok,hzr,hrow,newRow,newObj,Sem.run];rfl
end
section
variable {P:Program} {cx:Cx} {tT:TT} {T:Tab P} {fz:FZ}
theorem ks_new {f:LF} {op:Op} (hl:LS P tT f op):KS P cx tT fz (kNew f) op:=fun ν ar r h nx H Fm c dst ty pos af gd hr hh hfr hf=>by
 obtain ⟨z,hz,hf⟩:=Yf hf;obtain ⟨hok,hns,x,hx,hrun⟩:=hl ν ar r z.1 z.2 hr hz;exact YcW hh hfr hx hns hf (fun ρ w hρ _=>⟨_,hrun dst ty pos af gd ρ w hρ,fun ν' hb=>YhV hok hb⟩)
variable {i:Nat}
theorem HR.set {ν:Nu} {h h':Tr AO} {pre post Fm:HP} {b:Nat} {a a':AO} {x x':Obj} (hh:HR tT ν h (pre++(b,x)::post) Fm) (_hnd:((pre++(b,x)::post).map Prod.fst).Nodup) (ha:h.get i=some a) (hb:ν.blk i=some b) (ho:go ν a'=some x') (hu:h.upd i (some a') h') (hcap:∀ cs e j fr,a'=.cells cs e (some j) fr->∃ cs0 fr0,a=.cells cs0 e (some j) fr0/\cs0.length=cs.length):
 HR tT ν h' (pre++(b,x')::post) Fm:=by
 have hne:∀ p∈pre++(b,x)::post,p.1≠b->p∈pre++(b,x')::post:=fun p hp hpb=>by
  simp only [List.mem_append,List.mem_cons] at hp ⊢;rcases hp with hp | rfl | hp
  ·exact .inl hp
  ·exact absurd rfl hpb
  exact .inr (.inr hp)
 refine ⟨fun id q hq=>?_,fun id id' q q' g hq hq' h1 h2=>?_,fun p hp=>?_,fun id cs e j fr hq=>?_⟩
 ·by_cases hid:id=i
  ·subst hid;rw [hu id,if_pos rfl] at hq;injection hq with hq;subst hq
   exact ⟨b,x',hb,ho,by simp⟩
  rw [hu id,if_neg hid] at hq;obtain ⟨g,y,h1,h2,h3⟩:=hh.own id q hq;exact ⟨g,y,h1,h2,hne _ h3 (fun he=>by simp only at he;exact hid (hh.inj id i q a g hq ha h1 (by rw [hb,he])))⟩
 ·have hget:∀ j q,h'.get j=some q->∃ q',h.get j=some q':=fun j q hq=>by
   rw [hu j] at hq;split at hq
   ·rename_i hj;subst hj;exact ⟨a,ha⟩
   exact ⟨q,hq⟩
  obtain ⟨q1,hq1⟩:=hget id q hq;obtain ⟨q2,hq2⟩:=hget id' q' hq';exact hh.inj id id' q1 q2 g hq1 hq2 h1 h2
 ·obtain ⟨h1,h2⟩:=hh.fm p hp;refine ⟨hne p h1 (fun he=>h2 i a ha (by rw [hb,he])),fun id q hq=>?_⟩;rw [hu id] at hq;split at hq
  ·rename_i hid;subst hid;exact h2 id a ha
  exact h2 id q hq
 rw [hu id] at hq;split at hq
 ·rename_i hid;subst hid;injection hq with hq
  obtain ⟨cs0,fr0,e1,e2⟩:=hcap cs e j fr hq;rw [e1] at ha;rw [<- e2];exact hh.cap id cs0 e j fr0 ha
 exact hh.cap id cs e j fr hq
variable {H:HP}
theorem HR.split {ν:Nu} {h:Tr AO} {Fm:HP} (hh:HR tT ν h H Fm) {id:Nat} {o:AO} (hg:h.get id=some o):∃ b x pre post,ν.blk id=some b/\go ν o=some x/\H=pre++(b,x)::post:=by
 obtain ⟨b,x,h1,h2,h3⟩:=hh.own id o hg;obtain ⟨pre,post,rfl⟩:=List.append_of_mem h3;exact ⟨b,x,pre,post,h1,h2,rfl⟩
variable {v:Value}
theorem one_s {ν:Nu} {a:AV} (h:a.one=true) (hv:gv ν a=some v):v.oneCell'=true:=by
 cases a with
 | agg _=>cases h
 | tup _=>cases h
 | b x=>simp only [gv] at hv;injection hv with hv;subst hv;rfl
 | i k n=>simp only [gv] at hv;injection hv with hv;subst hv;rfl
 | s x=>obtain ⟨rfl,_⟩:=Wa (a:=.s x) rfl hv;rfl
 | p a=>
  simp only [gv] at hv;cases ha:gA ν a with
  | none=>simp [ha] at hv
  | some A=>simp [ha] at hv;subst hv;rfl
 | sl a n c s=>obtain ⟨A,C,_,_,_,rfl⟩:=Yaa (a:=.sl a n c s) rfl hv;rfl
 | m r=>obtain ⟨m,_,rfl⟩:=Ybx (a:=.m r) rfl hv;rfl
 | f g x y=>obtain ⟨us,vs,_,_,rfl⟩:=Yfe (a:=.f g x y) rfl hv;rfl
 | nf=>simp only [gv] at hv;injection hv with hv;subst hv;rfl
 | ifc t w=>
  simp only [gv] at hv;cases ha:gv ν w with
  | none=>simp [ha] at hv
  | some A=>simp [ha] at hv;subst hv;rfl
 | ni=>simp only [gv] at hv;injection hv with hv;subst hv;rfl
theorem Yhq {ν:Nu}:∀ {l:List AV} {vs:List Value},l.all AV.one=true->gvs ν l=some vs->∀ v∈vs,v.oneCell'=true
 | [],vs,_,h,v,hv=>by simp [gvs] at h;subst h;cases hv
 | a::r,vs,h,hg,v,hv=>by
  obtain ⟨x,l,hx,hl,rfl⟩:=XA hg;simp only [List.all_cons,Bool.and_eq_true] at h;cases hv with
  | head=>exact one_s h.1 hx
  | tail _ hv=>exact Yhq h.2 hl v hv
theorem run_store {g off e:Nat}:∀ (us:List Value) (k:Nat) (arr:Array Value) (f:Nat × Nat) (w:World),w.heap[g]?=some (.cells arr e f)->off+k+us.length<=arr.size->(∀ u∈us,u.oneCell'=true)->(f.1=f.2\/arr.size<=f.1)->
 ∃ w',(storeCells ⟨g,off,none⟩ us k).run P w=.ok () w'/\w'.heap[g]?=some (.cells (arr.toList.take (off+k)++us++arr.toList.drop (off+k+us.length)).toArray e f)/\w'.os=w.os/\w'.tape=w.tape/\w'.output=w.output/\w'.heap.size=w.heap.size/\∀ j,j≠g->w'.heap[j]?=w.heap[j]?
 | [],k,arr,f,w,hw,hl,h1,hf=>⟨w,by simp [storeCells],by rw [hw];simp,rfl,rfl,rfl,rfl,fun _ _=>rfl⟩
 | u::us,k,arr,f,w,hw,hl,h1,hf=>by
  simp only [List.length_cons] at hl;have hcell:w.cell? ⟨g,off+k,none⟩=some (arr[off+k]'Zi):=by
   simp [World.cell?,hw]
  have hfroz:w.frozen? ⟨g,off+k,none⟩=false:=by
   simp only [World.frozen?,hw];rcases hf with hf | hf
   ·have:¬(f.1<=off+k/\off+k<f.2):=by omega
    simpa using this
   have:¬(f.1<=off+k/\off+k<f.2):=by omega
   simpa using this
  let w1:=w.setCell ⟨g,off+k,none⟩ u
  have hw1:w1.heap[g]?=some (.cells (arr.set (off+k) u Zi) e f):=by
   simp only [w1,World.setCell,Array.getElem?_modify,hw,if_true,Option.map_some];simp [Array.setIfInBounds,show off+k<arr.size by omega]
  obtain ⟨w',g1,g2,g3,g4,g5,g6,g7⟩:=run_store (off:=off) us (k+1) (arr.set (off+k) u Zi) f w1 hw1 (by simp;omega) (fun v hv=>h1 v (by simp [hv])) (by simpa using hf);refine ⟨w',?_,?_,g3,g4,g5,by rw [g6];simp [w1,World.setCell],fun j hj=>?_⟩
  ·have hone:=h1 u (by simp);simp only [storeCells,Sem.run_bind];rw [addr_add];have hst:(store (⟨g,off+k,none⟩:Addr) u).run P w=.ok () w1:=by
    cases u<;>first | (simp [Value.oneCell'] at hone;done) | simp [store,Sem.run,hcell,hfroz,w1]
   rw [hst];exact g1
  ·rw [g2]
   congr 2
   rw [Array.toList_set,show off+(k+1)=(off+k)+1 from by omega];have hlen:off+k<arr.toList.length:=by simp;omega
   rw [List.take_add_one,List.take_set,List.getElem?_set_self (by simpa using hlen),List.drop_set_of_lt Zi];simp only [Option.toList];rw [List.set_eq_of_length_le (by simp;omega)];rw [show off+k+1+us.length=off+k+(u::us).length from by simp;omega];simp
  rw [g7 j hj];simp only [w1,World.setCell,Array.getElem?_modify];rw [if_neg (by simpa using fun h=>hj h.symm)]
theorem HR.ce {ν:Nu} {o:AO} {q:Ce} {x:Obj} (hc:oCe o=some q) (hx:go ν o=some x):∃ vs l,gvs ν q.cs=some vs/\gS ν q.sl=some l/\x=.cells (vs++l).toArray q.e (frz q.fr (vs++l).length)/\o=.cells q.cs q.e q.sl q.fr:=by
 cases o with
 | cells cs e sl fr=>
  simp [oCe] at hc;subst hc;simp only [go] at hx;cases hv:gvs ν cs with
  | none=>simp [hv] at hx
  | some vs=>
   cases hs:gS ν sl with
   | none=>simp [hv,hs] at hx
   | some l=>simp only [hv,hs] at hx;injection hx with hx;exact ⟨vs,l,rfl,rfl,hx.symm,rfl⟩
 | map _ _=>simp [oCe] at hc
 | mit _ _ _ _=>simp [oCe] at hc
theorem Yjs {ν:Nu} {h:Tr AO} {Fm:HP} {id off:Nat} {vs:List AV} {us:List Value} {c:Tr AO->Bool} (hh:HR tT ν h H Fm) (hvs:gvs ν vs=some us) (hf:putC h id off vs c=true):
 ∃ b,ν.blk id=some b/\∀ w,Inv cx fz H w->∃ h' H' w',(storeCells ⟨b,off,none⟩ us).run P w=.ok () w'/\Inv cx fz H' w'/\c h'=true/\HR tT ν h' H' Fm:=by
 obtain ⟨hone,hf⟩:=YE hf;obtain ⟨o,ho,hf⟩:=Yf hf;obtain ⟨q,hq,hf⟩:=Yf hf;obtain ⟨cs,hcs,hf⟩:=Yf hf;rw [Wq] at hf;obtain ⟨h',hu,hc⟩:=YC _ _ _ _ _ hf;obtain ⟨b,x,pre,post,hb,hx,rfl⟩:=hh.split ho;obtain ⟨ws,l,g1,g2,rfl,rfl⟩:=HR.ce hq hx;obtain ⟨g3,g4⟩:=Yj7 g1 hvs hcs;refine ⟨b,hb,fun w hi=>?_⟩;have hw:=(hi.hp.own (b,.cells (ws++l).toArray q.e (frz q.fr (ws++l).length)) (by simp)).1;simp only at hw;obtain ⟨w',k1,k2,k3,k4,k5,k6,k7⟩:=run_store (P:=P) (off:=off) us 0 (ws++l).toArray (frz q.fr (ws++l).length) w hw (by simp;omega) (Yhq hone hvs) (by
  unfold frz;split
  ·right;simp
  left;rfl)
 have hnew:(((ws++l).toArray.toList.take (off+0)++us++(ws++l).toArray.toList.drop (off+0+us.length)))=(ws.take off++us++ws.drop (off+us.length))++l:=by
  simp only [Nat.add_zero];rw [List.take_append_of_le_length Zi,List.drop_append_of_le_length Zi];simp
 rw [hnew] at k2;have hlen:((ws.take off++us++ws.drop (off+us.length))++l).length=(ws++l).length:=by simp;omega
 have hgo:go ν (.cells cs q.e q.sl q.fr)=some (.cells ((ws.take off++us++ws.drop (off+us.length))++l).toArray q.e (frz q.fr (ws++l).length)):=by
  simp only [go,g4,g2,hlen]
 exact ⟨h',_,w',k1,hi.write k3 k4 k5 k6 k2 k7,hc,hh.set hi.hp.nd ho hb hgo hu (fun cs' e j fr he=>by injection he with e1 e2 e3 e4;exact ⟨q.cs,q.fr,by rw [e2,e3],by rw [<- e1,<- Y9 g1,<- Y9 g4];simp;omega⟩)⟩
theorem YjT (hT:TA tT T) (t:TypeId) (x y:Operand):KS P cx tT fz (kStore t x y) (.store t x y):=fun ν ar r h nx H Fm c dst ty pos af gd hr hh hfr hf=>by
 obtain ⟨a,ha,hf⟩:=Yf hf;obtain ⟨p,hp,hf⟩:=Yf hf;obtain ⟨A,hA,hf⟩:=Yf hf;obtain ⟨v,hv,hf⟩:=Yf hf;obtain ⟨hb,hf⟩:=YE hf;obtain ⟨X,hX,hR⟩:=hT t A hA;obtain ⟨u,h1,h2⟩:=hr x a ha;obtain ⟨uv,h3,h4⟩:=hr y v hv;obtain ⟨b,hbb,rfl⟩:=Yam hp h1;have hcells:=YbO h3;obtain ⟨b',hb',hrun⟩:=Yjs (P:=P) (cx:=cx) (fz:=fz) hh hcells hf;rw [hbb] at hb';injection hb' with hb';subst hb'
 refine Does.of fun ρ w hρ hi=>?_
 obtain ⟨h',H',w',g1,g2,g3,g4⟩:=hrun w hi;have hsz:=Go.Lx.run_sizeOf T hX w;have hs:uv.cells.size=X.size:=by
  have:=Y9 hcells;rw [hR.size,<- Nat.eq_of_beq_eq_true hb];simpa using this
 have:(execOp ρ ⟨dst,.store t x y,ty,pos,af,gd⟩).run P w=.ok .skip w':=by
  simp only [execOp,hρ _ _ h2,hρ _ _ h4,Instr.storeAt,Instr.sureAddr,Sem.run_bind,Sem.run_pure,Result.andThen_ok,storeVar,hsz];simp [hs,g1]
 rw [this];exact ⟨fz,H',g2,rfl,ν,.tup [],h',nx,Nu.le.refl _,Zs _,g3,by simp [gv,gvs,undef],g4,hfr⟩
end
section
variable {P:Program} {cx:Cx} {tT:TT} {T:Tab P} {fz:FZ}
theorem k_mkmap (hT:TA tT T) (t:TypeId) (y:Operand):KS P cx tT fz (kMap t y) (.makeMap t (some y)):=fun ν ar r h nx H Fm c dst ty pos af gd hr hh hfr hf=>by
 obtain ⟨A,X,hA,hX,hR,hk,hf⟩:=WE hT hf;obtain ⟨a,ha,hf⟩:=Yf hf;obtain ⟨z,hz,hf⟩:=Yf hf;obtain ⟨u,h1,h2⟩:=hr y a ha;have e:=WJ hz h1;subst e;refine YcW (ao:=.map [] 0) (mk:=.map) (x:=.map #[] 0) hh hfr (by simp [go,ges]) (fun _ _ _ _ h=>by cases h) hf fun ρ w hρ _=>⟨.map (some w.heap.size),?_,fun ν' hb=>by simp [Mk.of,gv,gM,hb]⟩
 have hu:=run_underlying (und_plain T hX (hR.d6 hk) rfl) w;simp [execOp,hρ _ _ h2,Instr.makeMap,hu,asInt,asIntOf,newObj,Sem.run]
theorem YjV (hT:TA tT T) (t:TypeId) (y:Operand):KS P cx tT fz (kRange t y) (.range t y):=fun ν ar r h nx H Fm c dst ty pos af gd hr hh hfr hf=>by
 obtain ⟨A,X,hA,hX,hR,hk,hf⟩:=WE hT hf;obtain ⟨a,ha,hf⟩:=Yf hf;obtain ⟨q,hq,hf⟩:=Yf hf;obtain ⟨u,h1,h2⟩:=hr y a ha;obtain ⟨m,hm,rfl⟩:=Ybx hq h1;have hu:=fun w=>run_underlying (P:=P) (und_plain T hX (hR.d6 hk) rfl) w
 cases q with
 | none=>
  simp [gM] at hm;subst hm;refine YcW (ao:=.mit none 0 [] 0) (mk:=.ptr) (x:=.mapIter none 0 #[] 0) hh hfr (by simp [go,gM]) (fun _ _ _ _ h=>by cases h) hf fun ρ w hρ _=>⟨.pointer (some ⟨w.heap.size,0,none⟩),?_,fun ν' hb=>by simp [Mk.of,gv,gA,hb]⟩
  simp [execOp,hρ _ _ h2,Instr.range,hu,newObj,Sem.run]
 | some g=>
  rw [XQ] at hf;obtain ⟨o,ho,hf⟩:=Yf hf;obtain ⟨es,hes,hf⟩:=Yf hf;obtain ⟨b,l,hb,hl,hmem⟩:=hh.map ho hes;simp [gM,hb] at hm;subst hm;refine YcW (ao:=.mit (some g) es.2 [] es.2) (mk:=.ptr) (x:=.mapIter (some b) es.2 #[] es.2) hh hfr (by simp [go,gM,hb]) (fun _ _ _ _ h=>by cases h) hf fun ρ w hρ hi=>⟨.pointer (some ⟨w.heap.size,0,none⟩),?_,fun ν' hb=>by simp [Mk.of,gv,gA,hb]⟩
  have hg:=XN (P:=P) hi hmem (by simp);simp [execOp,hρ _ _ h2,Instr.range,hu,hg,newObj,Sem.run]
theorem Yeu {ν:Nu}:∀ {l r:List (AV × AV × Nat)} {a b:List MapEntry},ges ν l=some a->ges ν r=some b->ges ν (l++r)=some (a++b)
 | [],r,a,b,h,k=>by simp [ges] at h;subst h;simpa using k
 | e::l,r,a,b,h,k=>by
  obtain ⟨x,y,q,h1,h2,h3,rfl⟩:=Wn h;have:=Yeu h3 k;simp only [List.cons_append,ges,h1,h2,this]
theorem Ykb {ν:Nu} {v:AV} {w:Value} (hv:gv ν v=some w):∀ {l:List (AV × AV × Nat)} {a:List MapEntry} {i:Nat},ges ν l=some a->ges ν (updE l i v)=some (a.modify i fun e=>{e with val:=w})
 | [],a,i,h=>by simp [ges] at h;subst h;simp [updE,ges]
 | e::l,a,0,h=>by
  obtain ⟨x,y,q,h1,h2,h3,rfl⟩:=Wn h;simp [updE,ges,h1,hv,h3]
 | e::l,a,i+1,h=>by
  obtain ⟨x,y,q,h1,h2,h3,rfl⟩:=Wn h;have:=Ykb hv (i:=i) h3;simp [updE,ges,h1,h2,this]
theorem YgM {ν:Nu}:∀ {l:List (AV × AV × Nat)} {a:List MapEntry} {i:Nat} {e:AV × AV × Nat},ges ν l=some a->l[i]?=some e->∃ k v,gv ν e.1=some k/\gv ν e.2.1=some v/\a[i]?=some ⟨k,v,e.2.2⟩
 | [],_,_,_,_,h=>by simp at h
 | x::l,a,0,e,h,hi=>by
  obtain ⟨k,v,q,h1,h2,h3,rfl⟩:=Wn h;simp at hi;subst hi;exact ⟨k,v,h1,h2,by simp⟩
 | x::l,a,i+1,e,h,hi=>by
  obtain ⟨k,v,q,h1,h2,h3,rfl⟩:=Wn h;obtain ⟨k',v',g1,g2,g3⟩:=YgM (i:=i) h3 (by simpa using hi);exact ⟨k',v',g1,g2,by simpa using g3⟩
variable {k:Nat} {u:Value}
theorem YhA {ν:Nu} {a b:AV} {w:Value} (h:keq k a b=some true) (ha:gv ν a=some u) (hb:gv ν b=some w):w=u:=by
 unfold keq at h;rw [YgX] at h;split at h
 ·obtain ⟨x,hx,h⟩:=YB h;obtain ⟨y,hy,h⟩:=YB h;injection h with h
  rw [sEq_iff] at h;subst h;rw [(Wa hx ha).1,(Wa hy hb).1]
 rw [YgX] at h;split at h
 ·obtain ⟨x,hx,h⟩:=YB h;obtain ⟨y,hy,h⟩:=YB h;obtain ⟨hk,h⟩:=YZ h;injection h with h
  rw [iEq_eq,decide_eq_true_iff] at h;rw [WJ hx ha,WJ hy hb,kEq_iff hk,h]
 obtain ⟨_,h⟩:=YZ h;obtain ⟨x,hx,h⟩:=YB h;obtain ⟨y,hy,h⟩:=YB h;injection h with h
 simp only [beq_iff_eq] at h;rw [YaO hx ha,YaO hy hb,h]
theorem keq_bits {ν:Nu} {a b:AV} {w:Value} (h:keq k a b=some true) (ha:gv ν a=some u) (hb:gv ν b=some w) (n:Nat):Instr.sameBits n w u=true:=by
 have e:=YhA h ha hb;subst e;unfold keq at h;rw [YgX] at h;split at h
 ·obtain ⟨x,hx,h⟩:=YB h;obtain ⟨rfl,_⟩:=Wa hx ha;cases n<;>simp [Instr.sameBits,ba_beq]
 rw [YgX] at h;split at h
 ·obtain ⟨x,hx,h⟩:=YB h;have:=WJ hx ha;subst this;cases n<;>simp [Instr.sameBits]
 obtain ⟨_,h⟩:=YZ h;obtain ⟨x,hx,h⟩:=YB h;have:=YaO hx ha;subst this;cases n<;>simp [Instr.sameBits]
variable {g:Nat} {w:World}
theorem Ybz {pre post:HP} {o o':Obj} (h:Inv cx fz (pre++(g,o)::post) w):Inv cx fz (pre++(g,o')::post) {w with heap:=w.heap.setIfInBounds g o'}:=by
 have hg:=(h.hp.own (g,o) (by simp)).1;have hlt:=lt_of_heap hg;exact h.write rfl rfl rfl (by simp) (by simp [hlt]) (fun k hk=>by simp only;rw [Array.getElem?_setIfInBounds_ne Zi])
theorem Yic {pre post:HP} {o o':Obj} (h:Inv cx fz (pre++(g,o)::post) w) (hn:∀ c e f,o≠ .cells c e f):(Go.setObj g o').run P w=.ok () {w with heap:=w.heap.setIfInBounds g o'}:=by
 have hg:=(h.hp.own (g,o) (by simp)).1;simp only at hg;cases o with
 | cells c e f=>exact absurd rfl (hn c e f)
 | _=>simp [Go.setObj,Sem.run,hg]
variable {H:HP} {t:TypeId}
theorem mset_s (hT:TA tT T) {ν:Nu} {h:Tr AO} {Fm:HP} {m k v:AV} {um uk uv:Value} {c:Tr AO->Bool} (hh:HR tT ν h H Fm) (hm:gv ν m=some um) (hk:gv ν k=some uk) (hv:gv ν v=some uv) (hf:mset tT h t m k v c=true):
 ∀ w,Inv cx fz H w->∃ h' H' w',(Instr.mapUpdate t um uk uv).run P w=.ok () w'/\Inv cx fz H' w'/\c h'=true/\HR tT ν h' H' Fm:=by
 obtain ⟨A,X,hA,hX,hR,hk6,hf⟩:=WE hT hf;obtain ⟨q,hq,hf⟩:=Yf hf;obtain ⟨id,hid,hf⟩:=Yf hf;obtain ⟨K,hK,hf⟩:=Yf hf;obtain ⟨hkp,hf⟩:=YE hf;obtain ⟨o,ho,hf⟩:=Yf hf;obtain ⟨es,hes,hf⟩:=Yf hf;obtain ⟨z,hz,hf⟩:=Yf hf;subst hid;obtain ⟨mm,hmm,rfl⟩:=Ybx hq hm;obtain ⟨XK,hXK,hRK⟩:=hT A.n K hK;obtain ⟨b,x,pre,post,hb,hx,rfl⟩:=hh.split ho;simp [gM,hb] at hmm;subst hmm;have hoe:o=.map es.1 es.2:=by
  cases o with
  | map a n=>simp [oMap] at hes;subst hes;rfl
  | cells _ _ _ _=>simp [oMap] at hes
  | mit _ _ _ _=>simp [oMap] at hes
 subst hoe;simp only [go] at hx;cases hl:ges ν es.1 with
 | none=>simp [hl] at hx
 | some l=>
  simp [hl] at hx;subst hx;obtain ⟨hu,hd⟩:=YfR hXK hRK hkp;have hum:=fun w=>run_underlying (P:=P) (und_plain T hX (hR.d6 hk6) rfl) w
  intro w hi;have hget:=XN (P:=P) hi (b:=b) (o:=.map l.toArray es.2) (by simp) (by simp);have hset:=fun o'=>Yic (P:=P) (o':=o') hi (by simp)
  rcases fnd_s hRK hkp hk hl hz with ⟨rfl,hfn⟩ | ⟨j,v0,w0,rfl,hg0,hfn,e,he1,he2,he3⟩
  ·rw [Wl,Wq,YaL] at hf;obtain ⟨h',hup,hc⟩:=YC _ _ _ _ _ hf;have hgo:go ν (.map (es.1++ [(k,v,es.2)]) (Nat.succ es.2))=some (.map (l++ [(⟨uk,uv,es.2⟩:MapEntry)]).toArray (es.2+1)):=by
    have:=Yeu (ν:=ν) (r:=[(k,v,es.2)]) (b:=[(⟨uk,uv,es.2⟩:MapEntry)]) hl (by simp [ges,hk,hv]);simp [go,this]
   refine ⟨h',_,_,?_,Ybz hi,hc,hh.set hi.hp.nd ho hb hgo hup (fun _ _ _ _ he=>by cases he)⟩;simp only [Instr.mapUpdate,Sem.run_bind,hum,Result.andThen_ok,hget,run_checkKey hu hd,run_findKey hu hfn,hset]
   congr 2
   simp
  rw [XQ,Wq] at hf;obtain ⟨h',hup,hc⟩:=YC _ _ _ _ _ hf;simp only [Nat.zero_add] at hup hfn;have hgo:go ν (.map (updE es.1 j v) es.2)=some (.map (l.modify j fun e=>{e with val:=uv}).toArray es.2):=by
   simp [go,Ykb hv hl]
  refine ⟨h',_,_,?_,Ybz hi,hc,hh.set hi.hp.nd ho hb hgo hup (fun _ _ _ _ he=>by cases he)⟩;obtain ⟨k1,v1,q1,q2,q3⟩:=YgM hl he1;have hk1:=YhA he3 hk q1;have hbits:=keq_bits he3 hk q1 10000;have hkey:((l.toArray[j]?).map (·.key)).getD uk=k1:=by simp [q3]
  have hst:(Instr.keyThatStays k1 uk).run P w=.ok uk w:=by
   unfold Instr.keyThatStays;rw [if_pos hbits];rfl
  simp only [Instr.mapUpdate,Sem.run_bind,hum,Result.andThen_ok,hget,run_checkKey hu hd,run_findKey hu hfn,hkey,hst,hset];have hmod:l.toArray.modify j (fun e=>{e with key:=uk,val:=uv})=(l.modify j fun e=>{e with val:=uv}).toArray:=by
   rw [List.modify_toArray]
   congr 1
   apply List.ext_getElem?;intro i;rw [List.getElem?_modify,List.getElem?_modify];by_cases hij:j=i
   ·subst hij;rw [q3];simp [hk1]
   simp [hij]
  rw [hmod]
theorem YjU (hT:TA tT T) (t:TypeId) (x k v:Operand):KS P cx tT fz (kSet t x k v) (.mapUpdate t x k v):=fun ν ar r h nx H Fm c dst ty pos af gd hr hh hfr hf=>by
 obtain ⟨ax,hax,hf⟩:=Yf hf;obtain ⟨ak,hak,hf⟩:=Yf hf;obtain ⟨av,hav,hf⟩:=Yf hf;obtain ⟨ux,h1,h2⟩:=hr x ax hax;obtain ⟨uk,h3,h4⟩:=hr k ak hak;obtain ⟨uv,h5,h6⟩:=hr v av hav;refine Does.of fun ρ w hρ hi=>?_
 obtain ⟨h',H',w',g1,g2,g3,g4⟩:=mset_s (P:=P) (cx:=cx) (fz:=fz) hT hh h1 h3 h5 hf w hi;have:(execOp ρ ⟨dst,.mapUpdate t x k v,ty,pos,af,gd⟩).run P w=.ok .skip w':=by
  simp only [execOp,hρ _ _ h2,hρ _ _ h4,hρ _ _ h6,Sem.run_bind,g1,Result.andThen_ok,Sem.run_pure]
 rw [this];exact ⟨fz,H',g2,rfl,ν,.tup [],h',nx,Nu.le.refl _,Zs _,g3,by simp [gv,gvs,undef],g4,hfr⟩
end
section
variable {P:Program} {cx:Cx} {tT:TT} {T:Tab P} {fz:FZ}
variable {H:HP}
theorem HR.perm {ν:Nu} {h:Tr AO} {H' Fm:HP} (hh:HR tT ν h H Fm) (hp:H.Perm H'):HR tT ν h H' Fm:=
 ⟨fun id o ho=>by obtain ⟨b,x,h1,h2,h3⟩:=hh.own id o ho;exact ⟨b,x,h1,h2,hp.subset h3⟩,hh.inj,fun p hp'=>⟨hp.subset (hh.fm p hp').1,(hh.fm p hp').2⟩,hh.cap⟩
variable {i:Nat}
theorem HR.drop {ν:Nu} {h h':Tr AO} {Fm:HP} (hh:HR tT ν h H Fm) (hu:h.upd i none h'):HR tT ν h' H Fm:=by
 have hget:∀ j q,h'.get j=some q->h.get j=some q:=fun j q hq=>by
  rw [hu j] at hq;split at hq
  ·cases hq
  exact hq
 exact ⟨fun id o ho=>hh.own id o (hget _ _ ho),fun id id' o o' b h1 h2=>hh.inj id id' o o' b (hget _ _ h1) (hget _ _ h2),fun p hp=>⟨(hh.fm p hp).1,fun id o ho=>(hh.fm p hp).2 id o (hget _ _ ho)⟩,fun id cs e j fr hq=>hh.cap id cs e j fr (hget _ _ hq)⟩
theorem HR.rm {ν:Nu} {h h':Tr AO} {pre post Fm:HP} {b:Nat} {a:AO} {x:Obj} (hh:HR tT ν h (pre++(b,x)::post) Fm) (ha:h.get i=some a) (hb:ν.blk i=some b) (hu:h.upd i none h'):HR tT ν h' (pre++post) Fm:=by
 have hget:∀ j q,h'.get j=some q->j≠i/\h.get j=some q:=fun j q hq=>by
  rw [hu j] at hq;split at hq
  ·cases hq
  rename_i hj;exact ⟨hj,hq⟩
 have hmem:∀ p∈pre++(b,x)::post,p.1≠b->p∈pre++post:=fun p hp hne=>by
  simp only [List.mem_append,List.mem_cons] at hp ⊢;rcases hp with hp | hp | hp
  ·exact .inl hp
  ·subst hp;exact absurd rfl hne
  exact .inr hp
 refine ⟨fun id o ho=>?_,fun id id' o o' b h1 h2=>hh.inj id id' o o' b (hget _ _ h1).2 (hget _ _ h2).2,fun p hp=>⟨hmem p (hh.fm p hp).1 fun hc=>(hh.fm p hp).2 i a ha (by rw [hb,hc]),fun id o ho=>(hh.fm p hp).2 id o (hget _ _ ho).2⟩,fun id cs e j fr hq=>hh.cap id cs e j fr (hget _ _ hq).2⟩;obtain ⟨hne,ho⟩:=hget _ _ ho;obtain ⟨b',y,h1,h2,h3⟩:=hh.own id o ho;refine ⟨b',y,h1,h2,hmem _ h3 fun hc=>hne ?_⟩;simp only at hc;exact hh.inj id i o a b ho ha (by rw [h1,hc]) hb
variable {g:Nat}
theorem Ygy {ν:Nu} {h:Tr AO} {nx:Nat} {Fm:HP} {cs:List AV} {us l:List Value} {e need C:Nat} {fr:Bool} {Y:TyA} {c:KC} (hh:HR tT ν h H Fm) (hfr:Yac ν nx) (hcs:gvs ν cs=some us) (hY:tT e=some Y) (hg:∀ p∈H,p.1≠g)
 (hC:need<=C) (hl:us.length+l.length=C*Y.size) (hf:Ygz h nx cs e need fr c=true):
 ∃ ν' av h' nx',ν.le ν'/\nx<=nx'/\c av h' nx'=true/\gv ν' av=some (Zv g need C)/\HR tT ν' h' ((g,.cells (us++l).toArray e (frz fr (us++l).length))::H) Fm/\Yac ν' nx':=by
 unfold Ygz at hf;rw [Wq] at hf;obtain ⟨h',hu,hc⟩:=YC _ _ _ _ _ hf;rw [YaL] at hc;have hle:ν.le (ν.ext nx g (some C) (some l)):=YdV hfr;refine ⟨ν.ext nx g (some C) (some l),_,h',nx+1,hle,by omega,hc,?_,?_,Ya7 hfr⟩
 ·simp only [gv,gA,gC,WY,Yez,Option.map_some];simp [hC]
 refine hh.new hle WY ?_ hg hu fun cs' e' j fr' he=>?_
 ·simp only [go,gvs_mono hle _ _ hcs,gS,Yey]
 injection he with e1 e2 e3 e4
 injection e3 with e3
 subst e1 e2 e3;exact ⟨C,l,Y,Yez,Yey,hY,by rw [<- hl,Y9 hcs]⟩
variable {n:Nat}
theorem Ydg {ν:Nu} {h:Tr AO} {Fm:HP} {a:Nat × Nat} {c:List AV->Bool} (hh:HR tT ν h H Fm) (hf:YdO h a n c=true):
 ∃ b l us,ν.blk a.1=some b/\c l=true/\gvs ν l=some us/\us.length=n/\∀ w,Inv cx fz H w->∀ j v,us[j]?=some v->w.cell? ((⟨b,a.2,none⟩:Addr).add j)=some v:=by
 obtain ⟨o,ho,hf⟩:=Yf hf;obtain ⟨cs,hcs,hf⟩:=Yf hf;obtain ⟨l,hl,hf⟩:=Yf hf;obtain ⟨b,vs,sl,e,f,hb,hvs,hm⟩:=hh.cells ho hcs;obtain ⟨h3,h4⟩:=YbN hvs hl;refine ⟨b,l,_,hb,hf,h4,by simp;omega,fun w hi j v hj=>?_⟩;rw [addr_add,YaM hi hm];rw [List.getElem?_take] at hj;split at hj
 ·rw [List.getElem?_drop] at hj;have hlt':a.2+j<vs.length:=(Zg hj).1;simp only [List.getElem?_toArray];rw [List.getElem?_append_left hlt'];exact hj
 cases hj
theorem YiN (l:List Nat) (h:l.all (fun n=>Nat.blt n 256)=true):(bs l).data.toList.map (fun b=>Value.int .u8 b.toNat)=l.map fun (n:Nat)=>Value.int .u8 (n:Int):=by
 simp only [bs,List.map_map];refine List.map_congr_left fun n hn=>?_
 have:=(List.all_eq_true.1 h) n hn;rw [Nat.blt_eq] at this;simp;omega
theorem u8gvs (ν:Nu):∀ l:List Nat,gvs ν (l.map fun n=>.i .u8 (.ofNat n))=some (l.map fun (n:Nat)=>Value.int .u8 (n:Int))
 | []=>by simp [gvs]
 | n::r=>YdB (gv_i _ _ _) (u8gvs ν r)
variable {u:Value}
theorem src_s {ν:Nu} {h:Tr AO} {Fm:HP} {v:AV} {size:Nat} {c:Nat->List AV->Bool} (hh:HR tT ν h H Fm) (hv:gv ν v=some u) (hf:src v h size c=true):
 ∃ n l us,c n l=true/\gvs ν l=some us/\us.length=n*size/\(∀ w,(Builtin.lenOf u).run P w=.ok n w)/\∀ w,Inv cx fz H w->∀ m,m<=n->(Builtin.firstCells size m u).run P w=.ok (us.take (m*size)).toArray w:=by
 cases v with
 | sl a n lo sy=>
  obtain ⟨A,C,hA,hC,hle,rfl⟩:=Yaa (a:=.sl a n lo sy) rfl hv;cases a with
  | none=>
   simp [gA] at hA;subst hA;obtain ⟨hn,hf⟩:=YE hf;have:=Nat.eq_of_beq_eq_true hn;subst this;refine ⟨0,[],[],hf,by simp [gvs],by simp,fun w=>rfl,fun w _ m hm=>?_⟩;simp [Builtin.firstCells]
  | some a=>
   simp only [gA] at hA;obtain ⟨b,l,us,hb,hc,hus,hlen,hcell⟩:=Ydg (cx:=cx) (fz:=fz) hh (show YdO h a (Nat.mul n size) (fun l=>c n l)=true from hf);simp [hb] at hA;subst hA;refine ⟨n,l,us,hc,hus,hlen,fun w=>rfl,fun w hi m hm=>?_⟩;have hlt:(us.take (m*size)).length=m*size:=by
    rw [List.length_take,hlen];exact Nat.min_eq_left (Nat.mul_le_mul_right _ hm)
   have:=run_loadCells (P:=P) (a:=⟨b,a.2,none⟩) (us.take (m*size)) 0 #[] w (fun j v hj=>by
    rw [Nat.zero_add];refine hcell w hi j v ?_;rw [List.getElem?_take] at hj;split at hj
    ·exact hj
    cases hj)
   rw [hlt] at this;simp only [Builtin.firstCells,loadCells,this];simp
 | s l=>
  obtain ⟨rfl,hall⟩:=Wa (a:=.s l) rfl hv;obtain ⟨hs,hf⟩:=YE hf;have:=Nat.eq_of_beq_eq_true hs;subst this;refine ⟨l.length,_,_,hf,u8gvs ν l,by simp,fun w=>by simp [Builtin.lenOf,Ybw],fun w _ m hm=>?_⟩;simp only [Builtin.firstCells,Sem.run_pure,Nat.mul_one]
  congr 1
  apply Array.ext';rw [<- YiN l hall,<- List.map_take];simp
 | _=>cases hf
def YdW (P:Program) (u:TypeId):Prop:=(∃ e',P.underlying u=some (.slice e'))\/P.underlying u=some .string
variable {e t:TypeId} {w w':World}
theorem Yct {tx ty:TypeId} {i:TypeInfo} {A:Addr} {sLen sCap:Nat} {x:Value} {news:List Value} (ht:P.underlying t=some (.slice e)) (hk:YdW P tx) (hi:P.info? e=some i)
 (hl:∀ w,(Builtin.lenOf x).run P w=.ok n w) (hc:(Builtin.firstCells i.size n x).run P w=.ok news.toArray w) (hroom:sLen+n<=sCap) (hst:(storeCells (A.add (sLen*i.size)) news).run P w=.ok () w'):
 (Builtin.append_ #[t,tx] ty #[.slice (some A) sLen sCap,x]).run P w=.ok (.slice (some A) (sLen+n) sCap) w':=by
 rcases hk with ⟨e',hk⟩ | hk<;>simp [Builtin.append_,run_underlying ht,run_underlying hk,sizeOf,typeInfo,hi,hl,hroom,hc,hst]
variable {A:Option Addr}
theorem Ydh {tx ty:TypeId} {i:TypeInfo} {sLen sCap:Nat} {x:Value} (ht:P.underlying t=some (.slice e)) (hk:YdW P tx) (hi:P.info? e=some i)
 (hl:∀ w,(Builtin.lenOf x).run P w=.ok 0 w) (hc:(Builtin.firstCells i.size 0 x).run P w=.ok #[] w) (hroom:sLen<=sCap):
 (Builtin.append_ #[t,tx] ty #[.slice A sLen sCap,x]).run P w=.ok (.slice A sLen sCap) w:=by
 cases A<;>rcases hk with ⟨e',hk⟩ | hk<;>simp [Builtin.append_,run_underlying ht,run_underlying hk,sizeOf,typeInfo,hi,hl,hroom,hc,storeCells]
theorem YfA {tx ty:TypeId} {i:TypeInfo} {z:Value} {sLen sCap:Nat} {x:Value} {olds news:List Value} (ht:P.underlying t=some (.slice e)) (hk:YdW P tx) (hi:P.info? e=some i) (hz:i.zero=some z)
 (hl:∀ w,(Builtin.lenOf x).run P w=.ok n w) (hc:(Builtin.firstCells i.size n x).run P w.drew=.ok news.toArray w.drew) (ho:(Builtin.firstCells i.size sLen (.slice A sLen sCap)).run P w.drew=.ok olds.toArray w.drew)
 (hg:sCap<sLen+n) (hb:(sLen+n)*(i.bytes+1)<1099511627776):
 (Builtin.append_ #[t,tx] ty #[.slice A sLen sCap,x]).run P w=.ok (.slice (some ⟨w.heap.size,0,none⟩) (sLen+n) (grownCap w (sLen+n) sCap e))
  (w.drew.alloc (.cells ((olds++news).toArray++Builtin.zeroCells z.cells (grownCap w (sLen+n) sCap e - (sLen+n))) e)):=by
 have hb2:(sLen+n)*i.bytes<=(sLen+n)*(i.bytes+1):=Nat.mul_le_mul_left _ Zi;have hb3:sLen+n<=(sLen+n)*(i.bytes+1):=by rw [Nat.mul_add];omega
 have hn:¬(sLen+n<=sCap):=by omega
 have h63':¬(9223372036854775807<((sLen:Int)+(n:Int))):=by omega
 have hfit:=growslice_fits (bytes:=i.bytes) hg Zi;have h48':¬(281474976710656<Builtin.nextslicecap (sLen+n) sCap*i.bytes):=by omega
 rcases hk with ⟨e',hk⟩ | hk<;>
  (simp [Builtin.append_,run_underlying ht,run_underlying hk,sizeOf,typeInfo,zeroValue,hi,hz,hl,hn,h63',h48',Question.forced,hc,ho,newRow,grownCap]
   congr 2
   apply Array.ext';simp [List.append_assoc])
def YkU (_P:Program) (cx:Cx) (tT:TT) (fz:FZ) (ν:Nu) (nx:Nat) (Fm:HP) (c:KC) (r:Result Value):Prop:=
 ∃ v w' H',r=.ok v w'/\Inv cx fz H' w'/\∃ ν' av h' nx',ν.le ν'/\nx<=nx'/\c av h' nx'=true/\gv ν' av=some v/\HR tT ν' h' H' Fm/\Yac ν' nx'
variable {X:Ty}
theorem Yff {ν:Nu} {h:Tr AO} {nx:Nat} {Fm:HP} {c:KC} {tx ty:TypeId} {Y:TyA} {sLen sCap:Nat} {x:Value} {olds news:List AV} {uo un:List Value} (T:Tab P) (hh:HR tT ν h H Fm) (hfr:Yac ν nx) (hi:Inv cx fz H w)
 (ht:P.underlying t=some (.slice e)) (hk:YdW P tx) (hX:T.inf e=some X) (hR:TR X Y) (hY:tT e=some Y) (hz:Y.zero.length=Y.size) (hl:∀ w,(Builtin.lenOf x).run P w=.ok n w) (hc:(Builtin.firstCells Y.size n x).run P w.drew=.ok un.toArray w.drew)
 (ho:(Builtin.firstCells Y.size sLen (.slice A sLen sCap)).run P w.drew=.ok uo.toArray w.drew) (hlo:uo.length=sLen*Y.size) (hln:un.length=n*Y.size) (hg:sCap<sLen+n) (hb:(sLen+n)*(Y.bytes+1)<1099511627776)
 (hgo:gvs ν olds=some uo) (hgn:gvs ν news=some un) (hf:Ygz h nx (olds++news) e (sLen+n) false c=true):
 YkU P cx tT fz ν nx Fm c ((Builtin.append_ #[t,tx] ty #[.slice A sLen sCap,x]).run P w):=by
 obtain ⟨inf,hinf,i1,i2,i3⟩:=(T.ok_ hX).info;have h1:inf.size=Y.size:=by rw [i1,hR.size]
 have h2:inf.bytes=Y.bytes:=by rw [i2,hR.bytes]
 obtain ⟨zs,hzs,hzc⟩:=hR.zero;have hzl:X.zero.cells.size=Y.size:=by rw [hzc];simp [Y9 (hzs ν),hz]
 have hrun:=YfA (P:=P) (ty:=ty) (w:=w) (x:=x) (A:=A) (olds:=uo) (news:=un) ht hk hinf i3 hl (by rw [h1];exact hc) (by rw [h1];exact ho) hg (by rw [h2];exact hb);have hge:=grownCap_ge w (sLen+n) sCap e;have hi2:Inv cx fz H w.drew:=hi.drew;obtain ⟨ν',av,h',nx',g1,g2,g3,g4,g5,g6⟩:=Ygy (C:=grownCap w (sLen+n) sCap e) (g:=w.heap.size) (us:=uo++un) (l:=(Builtin.zeroCells X.zero.cells (grownCap w (sLen+n) sCap e - (sLen+n))).toList) hh hfr (We hgo hgn) hY (YdQ hi) hge (by
  rw [List.length_append,hlo,hln,Array.length_toList,size_zeroCells,hzl,<- Nat.add_mul,<- Nat.add_mul]
  congr 1
  omega) hf
 refine ⟨_,_,_,hrun,hi2.alloc _,ν',av,h',nx',g1,g2,g3,g4,?_,g6⟩;have e1:(uo++un).toArray++Builtin.zeroCells X.zero.cells (grownCap w (sLen+n) sCap e - (sLen+n))=(uo++un++(Builtin.zeroCells X.zero.cells (grownCap w (sLen+n) sCap e - (sLen+n))).toList).toArray:=by
  apply Array.ext';simp
 rw [e1];exact g5
theorem app_s (hT:TA tT T) {ν:Nu} {h:Tr AO} {nx:Nat} {Fm:HP} {c:KC} {tx ty:TypeId} {s x:AV} {us ux:Value} (hh:HR tT ν h H Fm) (hfr:Yac ν nx) (hs:gv ν s=some us) (hx:gv ν x=some ux) (hk:YdW P tx) (hf:app tT h nx t s x c=true):
 ∀ w,Inv cx fz H w->YkU P cx tT fz ν nx Fm c ((Builtin.append_ #[t,tx] ty #[us,ux]).run P w):=by
 obtain ⟨A,X,hA,hX,hR,hk4,hf⟩:=WE hT hf;obtain ⟨z,hz,hf⟩:=Yf hf;obtain ⟨Y,hY,hf⟩:=Yf hf;obtain ⟨hsz,hf⟩:=YE hf;simp only [Bool.and_eq_true,Nat.blt_eq] at hsz;obtain ⟨hpos,hzl⟩:=hsz;replace hzl:=Nat.eq_of_beq_eq_true hzl;obtain ⟨XE,hXE,hRE⟩:=hT A.e Y hY;have ht:=und_plain T hX (hR.d4 hk4) rfl;obtain ⟨inf,hinf,i1,i2,i3⟩:=(T.ok_ hXE).info;have hs1:inf.size=Y.size:=by rw [i1,hRE.size]
 obtain ⟨Ad,C,hAd,hC,hle,rfl⟩:=Yaa hz hs;have hlC:=gC_le hC;obtain ⟨n,l,un,hf,hun,hlen,hlo,hfc⟩:=src_s (P:=P) (cx:=cx) (fz:=fz) hh hx hf;intro w hi;cases hn:Nat.beq n 0 with
 | true=>
  rw [hn,Y4] at hf;obtain ⟨_,hc⟩:=YE hf;have hn0:=Nat.eq_of_beq_eq_true hn;subst hn0;have h0:=hfc w hi 0 (Zs _);have hrun:=Ydh (P:=P) (ty:=ty) (A:=Ad) (sLen:=z.len) (sCap:=C) (w:=w) ht hk hinf hlo (by simpa [hs1] using h0) Zi;exact ⟨_,_,_,hrun,hi,ν,s,h,nx,Nu.le.refl _,Zs _,hc,hs,hh,hfr⟩
 | false=>
  rw [hn,YF,YaL] at hf;obtain ⟨hbb,hf⟩:=YE hf;simp only [Bool.and_eq_true,Nat.blt_eq] at hbb;obtain ⟨hb,hone⟩:=hbb;have hb':(z.len+n)*(Y.bytes+1)<1099511627776:=hb;have hn0:n≠0:=fun he=>by subst he;cases hn
  have hnew:(Builtin.firstCells Y.size n ux).run P w=.ok un.toArray w:=by
   have:=hfc w hi n (Zs _)
   rwa [Zl Zi] at this
  have hnewD:(Builtin.firstCells Y.size n ux).run P w.drew=.ok un.toArray w.drew:=by
   have:=hfc w.drew hi.drew n (Zs _)
   rwa [Zl Zi] at this
  unfold appN at hf;cases hza:z.a with
  | none=>
   rw [hza,Wl] at hf;obtain ⟨hz0,hf⟩:=YE hf;simp only [Bool.and_eq_true] at hz0;obtain ⟨z1,z2,z3⟩:=hz0;replace z1:=Nat.eq_of_beq_eq_true z1;replace z2:=Nat.eq_of_beq_eq_true z2;rw [hza] at hAd;simp [gA] at hAd;subst hAd;have hC0:C=0:=by
    cases hsy:z.sym with
    | none=>rw [hsy] at hC;simp [gC] at hC;omega
    | some q=>rw [hsy] at z3;cases z3
   refine Yff (olds:=[]) (uo:=[]) T hh hfr hi ht hk hXE hRE hY hzl hlo hnewD ?_ (by simp [z2]) hlen Zi hb' (by simp [gvs]) hun (by simpa using hf);rw [z2];simp [Builtin.firstCells]
  | some a=>
   rw [hza,XQ] at hf;rw [hza] at hAd;simp only [gA] at hAd;cases hblk:ν.blk a.1 with
   | none=>simp [hblk] at hAd
   | some b=>
    simp [hblk] at hAd;subst hAd;cases hnl:Nat.ble (Nat.add z.len n) z.lo with
    | true=>
     rw [hnl,Y4] at hf;rw [Nat.ble_eq] at hnl;have hnl':z.len+n<=z.lo:=hnl;obtain ⟨b',hb2,hrun⟩:=Yjs (P:=P) (cx:=cx) (fz:=fz) hh hun hf;rw [hblk] at hb2;injection hb2 with hb2;subst hb2
     obtain ⟨h',H',w',g1,g2,g3,g4⟩:=hrun w hi;have hadd:(⟨b,a.2,none⟩:Addr).add (z.len*inf.size)=⟨b,Nat.add a.2 (Nat.mul z.len Y.size),none⟩:=by rw [addr_add,hs1];rfl
     have hr:=Yct (P:=P) (ty:=ty) (A:=⟨b,a.2,none⟩) (sLen:=z.len) (sCap:=C) (news:=un) (w:=w) (w':=w') ht hk hinf hlo (by rw [hs1];exact hnew) Zi (by rw [hadd];exact g1);refine ⟨_,_,_,hr,g2,ν,_,h',nx,Nu.le.refl _,Zs _,g3,?_,g4,hfr⟩;simp only [gv,gA,hblk,Option.map_some,hC];rw [if_pos hnl];rfl
    | false=>
     rw [hnl,YF] at hf;have hnl':z.lo<z.len+n:=by
      rcases Nat.lt_or_ge z.lo (z.len+n) with h1 | h1
      ·exact h1
      have:Nat.ble (Nat.add z.len n) z.lo=true:=by rw [Nat.ble_eq];exact h1
      rw [this] at hnl;cases hnl
     cases hsy:z.sym with
     | none=>
      rw [hsy,Wl] at hf;rw [hsy] at hC;simp [gC] at hC;subst hC;obtain ⟨b',old,uo,hb2,hc2,hgo,hlo2,hcell⟩:=Ydg (cx:=cx) (fz:=fz) hh hf;rw [hblk] at hb2;injection hb2 with hb2;subst hb2
      have hlo3:uo.length=z.len*Y.size:=hlo2;refine Yff T hh hfr hi ht hk hXE hRE hY hzl hlo hnewD ?_ hlo3 hlen Zi hb' hgo hun hc2;have:=run_loadCells (P:=P) (a:=⟨b,a.2,none⟩) uo 0 #[] w.drew (fun j v hj=>by rw [Nat.zero_add];exact hcell w.drew hi.drew j v hj);rw [hlo3] at this;simp only [Builtin.firstCells,loadCells,this];simp
     | some q=>
      rw [hsy,XQ] at hf;unfold appS at hf;obtain ⟨o,ho,hf⟩:=Yf hf;obtain ⟨zz,hzz,hf⟩:=Yf hf;obtain ⟨hcond,hf⟩:=YE hf;simp only [Bool.and_eq_true] at hcond;obtain ⟨c1,c2,c3,c4,c5,c6,c7⟩:=hcond;replace c1:=Nat.eq_of_beq_eq_true c1;replace c2:=Nat.eq_of_beq_eq_true c2;replace c3:=Nat.eq_of_beq_eq_true c3;replace c4:=Nat.eq_of_beq_eq_true c4;replace c5:=Nat.eq_of_beq_eq_true c5;obtain ⟨h1,hu1,hfin⟩:=YC _ _ _ _ _ hf;obtain ⟨b',xo,pre,post,hb2,hgo,rfl⟩:=hh.split ho;rw [hblk] at hb2;injection hb2 with hb2;subst hb2
      obtain ⟨ws,sl,g1,g2,rfl,rfl⟩:=HR.ce hzz hgo;have hfrz:frz zz.fr (ws++sl).length=(0,0):=by
       unfold frz;cases hq:zz.fr with
       | true=>rw [hq] at c7;cases c7
       | false=>rfl
      rw [hfrz] at hh hi;cases hzs:zz.sl with
      | none=>rw [hzs] at c6;cases c6
      | some j=>
       rw [hzs,XQ] at c6;replace c6:=Nat.eq_of_beq_eq_true c6;subst c6;rw [hzs] at ho;obtain ⟨C',l',Y',k1,k2,k3,k4⟩:=hh.cap _ _ _ _ _ ho;rw [<- c3,hY] at k3;injection k3 with k3;subst k3
       rw [hzs] at g2;simp only [gS] at g2;rw [k2] at g2;injection g2 with g2;subst g2
       rw [hsy] at hC;simp only [gC,c5,k1,c2,Nat.zero_add,Nat.sub_zero] at hC;have hC2:C'=C:=by
        split at hC
        ·injection hC
        cases hC
       subst hC2;have hwl:ws.length=z.len*Y.size:=by rw [Y9 g1,c4];rfl
       have hcsl:ws.length+l'.length=C'*Y.size:=by rw [Y9 g1];exact k4
       by_cases hroom:z.len+n<=C'
       ·-- room
        have hfit:un.length<=l'.length:=by
         have:(z.len+n)*Y.size<=C'*Y.size:=Nat.mul_le_mul_right _ hroom;rw [Nat.add_mul] at this;omega
        have hw:=(hi.hp.own (b,.cells (ws++l').toArray zz.e (0,0)) (by simp)).1;simp only at hw;obtain ⟨w',r1,r2,r3,r4,r5,r6,r7⟩:=run_store (P:=P) (off:=z.len*Y.size) un 0 (ws++l').toArray (0,0) w hw (by simp;omega) (Yhq hone hun) (.inl rfl);have hadd:(⟨b,a.2,none⟩:Addr).add (z.len*inf.size)=⟨b,z.len*Y.size,none⟩:=by rw [addr_add,hs1,c1,Nat.zero_add]
        have hr:=Yct (P:=P) (ty:=ty) (A:=⟨b,a.2,none⟩) (sLen:=z.len) (sCap:=C') (news:=un) (w:=w) (w':=w') ht hk hinf hlo (by rw [hs1];exact hnew) hroom (by rw [hadd];exact r1);have hnewarr:((ws++l').toArray.toList.take (z.len*Y.size+0)++un++(ws++l').toArray.toList.drop (z.len*Y.size+0+un.length))=(ws++un)++l'.drop un.length:=by
         simp only [Nat.add_zero];rw [<- hwl,List.take_append_of_le_length (Zs _),Zl (Zs _),List.drop_append,List.drop_of_length_le (by omega:ws.length<=ws.length+un.length)];simp
        rw [hnewarr] at r2;have hi':=(hi.write r3 r4 r5 r6 r2 r7).perm List.perm_middle.symm;have hh1:=hh.rm ho hblk hu1;have hndb:∀ p∈pre++post,p.1≠b:=fun p hp hc=>by
         have:=(List.perm_middle (a:=(b,Obj.cells (ws++l').toArray zz.e (0,0))) (l₁:=pre) (l₂:=post)).map Prod.fst;have hnd:=this.nodup hi.hp.nd;simp only [List.map_cons,List.nodup_cons] at hnd;exact hnd.1 (List.mem_map.2 ⟨p,hp,hc⟩)
        obtain ⟨ν',av,h',nx',q1,q2,q3,q4,q5,q6⟩:=Ygy (C:=C') (g:=b) (us:=ws++un) (l:=l'.drop un.length) hh1 hfr (We g1 hun) hY hndb hroom (by simp;omega) hfin;refine ⟨_,_,_,hr,hi',ν',av,h',nx',q1,q2,q3,?_,?_,q6⟩
        ·rw [q4,c1]
        rw [c3] at q5;exact q5
       -- none
       have hmem:(b,Obj.cells (ws++l').toArray zz.e (0,0))∈pre++(b,Obj.cells (ws++l').toArray zz.e (0,0))::post:=by simp
       refine Yff T (hh.drop hu1) hfr hi ht hk hXE hRE hY hzl hlo hnewD ?_ hwl hlen Zi hb' g1 hun hfin;have hid:Inv cx fz (pre++(b,Obj.cells (ws++l').toArray zz.e (0,0))::post) w.drew:=hi.drew;have hL:=run_loadCells (P:=P) (a:=⟨b,a.2,none⟩) ws 0 #[] w.drew (fun j v hj=>by
        rw [Nat.zero_add,addr_add,c1,Nat.zero_add,YaM (cx:=cx) (fz:=fz) hid hmem];have:=(Zg hj).1;simp only [List.getElem?_toArray];rw [List.getElem?_append_left this];exact hj)
       rw [hwl] at hL;simp only [Builtin.firstCells,loadCells,hL];simp
end
section
variable {P:Program} {cx:Cx} {tT:TT} {T:Tab P} {fz:FZ}
theorem kind_of (hT:TA tT T) {u:TypeId} {U:TyA} (hU:tT u=some U) (h:(Nat.beq U.k 4 || Nat.beq U.k 2)=true):YdW P u:=by
 obtain ⟨X,hX,hR⟩:=hT u U hU;simp only [Bool.or_eq_true] at h;rcases h with h | h
 ·exact .inl ⟨_,und_plain T hX (hR.d4 (Nat.eq_of_beq_eq_true h)) rfl⟩
 exact .inr (und_plain T hX (hR.d2 (Nat.eq_of_beq_eq_true h)) rfl)
theorem k_app_s (hT:TA tT T) (xs:Array Operand) (ats:Array TypeId):KS P cx tT fz (kApp xs.toList ats.toList) (.call {callee:=.builtin .append,args:=xs,argTypes:=ats}):=fun ν ar r h nx H Fm c dst ty pos af gd hr hh hfr hf=>by
 obtain ⟨x,y,hxs,hf⟩:=Yc6 hf;obtain ⟨t,u,hts,hf⟩:=Yc6 hf;obtain ⟨a,ha,hf⟩:=Yf hf;obtain ⟨b,hb,hf⟩:=Yf hf;obtain ⟨U,hU,hf⟩:=Yf hf;obtain ⟨hk,happ⟩:=YE hf;obtain ⟨ux,h1,h2⟩:=hr x a ha;obtain ⟨uy,h3,h4⟩:=hr y b hb;have e1:xs=#[x,y]:=Array.ext' hxs;have e2:ats=#[t,u]:=Array.ext' hts;subst e1 e2;refine Does.of fun ρ w hρ hi=>?_
 obtain ⟨v,w',H',hrun,hi',ν',av,h',nx',g1,g2,g3,g4,g5,g6⟩:=app_s (P:=P) (cx:=cx) (fz:=fz) (ty:=ty) hT hh hfr h1 h3 (kind_of hT hU hk) happ w hi;have:(execOp ρ ⟨dst,.call {callee:=.builtin .append,args:=#[x,y],argTypes:=#[t,u]},ty,pos,af,gd⟩).run P w=.ok (.value v) w':=by
  simp only [execOp,resolve,invoke,builtin,Sem.run_bind,Sem.run_pure,Result.andThen_ok,List.map_toArray,List.map_cons,List.map_nil,hρ _ _ h2,hρ _ _ h4,hrun]
 rw [this];exact ⟨fz,H',hi',rfl,ν',av,h',nx',g1,g2,g3,g4,g5,g6⟩
theorem k_copy_s (hT:TA tT T) (xs:Array Operand) (ats:Array TypeId):KS P cx tT fz (kCopy xs.toList ats.toList) (.call {callee:=.builtin .copy,args:=xs,argTypes:=ats}):=fun ν ar r h nx H Fm c dst ty pos af gd hr hh hfr hf=>by
 obtain ⟨x,y,hxs,hf⟩:=Yc6 hf;obtain ⟨t,q,hts,hf⟩:∃ t q,ats.toList=t::q/\_:=by
  cases hts:ats.toList with
  | nil=>rw [hts] at hf;cases hf
  | cons t q=>rw [hts] at hf;exact ⟨t,q,rfl,hf⟩
 rw [Yb9] at hf;obtain ⟨A,X,hA,hX,hR,hk4,hf⟩:=WE hT hf;obtain ⟨Y,hY,hf⟩:=Yf hf;obtain ⟨a,ha,hf⟩:=Yf hf;obtain ⟨z,hz,hf⟩:=Yf hf;obtain ⟨b,hb,hf⟩:=Yf hf;obtain ⟨ux,h1,h2⟩:=hr x a ha;obtain ⟨uy,h3,h4⟩:=hr y b hb;obtain ⟨XE,hXE,hRE⟩:=hT A.e Y hY;have ht:=und_plain T hX (hR.d4 hk4) rfl;obtain ⟨n,l,un,hf,hun,hlen,hlo,hfc⟩:=src_s (P:=P) (cx:=cx) (fz:=fz) hh h3 hf;rw [YaL] at hf;obtain ⟨l2,hl2,hfin⟩:=Yf hf;obtain ⟨htk,rfl⟩:=YiP hl2;obtain ⟨Ad,C,hAd,hC,hle,rfl⟩:=Yaa hz h1;have e1:xs=#[x,y]:=Array.ext' hxs;subst e1;have hat0:ats[0]?=some t:=by
  rw [<- Array.getElem?_toList,hts];rfl
 have hsz:=fun w=>Go.Lx.run_sizeOf T hXE w
 rw [hRE.size] at hsz;refine Does.of fun ρ w hρ hi=>?_
 have hcells:=hfc w hi (Nat.min n z.len) (Nat.min_le_left _ _);have hexec:∀ w',(∀ ad,Ad=some ad->(storeCells ad (un.take (Nat.min n z.len*Y.size))).run P w=.ok () w')->(Ad=none->w'=w)->
  (execOp ρ ⟨dst,.call {callee:=.builtin .copy,args:=#[x,y],argTypes:=ats},ty,pos,af,gd⟩).run P w=.ok (.value (Zk (Nat.min n z.len))) w':=fun w' hst hno=>by
  cases Ad with
  | none=>
   have:=hno rfl;subst this;simp [execOp,resolve,invoke,builtin,hρ _ _ h2,hρ _ _ h4,Builtin.copy_,hat0,run_underlying ht,hlo,hsz,hcells,goInt]
  | some ad=>
   have:=hst ad rfl;simp [execOp,resolve,invoke,builtin,hρ _ _ h2,hρ _ _ h4,Builtin.copy_,hat0,run_underlying ht,hlo,hsz,hcells,goInt,this]
 cases hza:z.a with
 | none=>
  rw [hza,Wl] at hfin;rw [hza] at hAd;simp [gA] at hAd;subst hAd;rw [hexec w (fun ad h=>by cases h) (fun _=>rfl)];exact ⟨fz,H,hi,rfl,ν,_,h,nx,Nu.le.refl _,Zs _,hfin,gv_i _ _ _,hh,hfr⟩
 | some a=>
  rw [hza,XQ] at hfin;rw [hza] at hAd;simp only [gA] at hAd;cases hblk:ν.blk a.1 with
  | none=>simp [hblk] at hAd
  | some b=>
   simp [hblk] at hAd;subst hAd;obtain ⟨b',hb2,hrun⟩:=Yjs (P:=P) (cx:=cx) (fz:=fz) hh (YcX _ hun) hfin;rw [hblk] at hb2;injection hb2 with hb2;subst hb2
   obtain ⟨h',H',w',g1,g2,g3,g4⟩:=hrun w hi;rw [hexec w' (fun ad h=>by injection h with h;subst h;exact g1) (fun h=>by cases h)];exact ⟨fz,H',g2,rfl,ν,_,h',nx,Nu.le.refl _,Zs _,g3,gv_i _ _ _,g4,hfr⟩
theorem YjW (hT:TA tT T) (s t:TypeId) (x:Operand):KS P cx tT fz (kBytes s t x) (.convert s t x):=fun ν ar r h nx H Fm c dst ty pos af gd hr hh hfr hf=>by
 obtain ⟨S,hS,hf⟩:=Yf hf;obtain ⟨A,X,hA,hX,hR,hk4,hf⟩:=WE hT hf;obtain ⟨Y,XE,hY,hXE,hRE,hk1,hf⟩:=WE hT hf;obtain ⟨a,ha,hf⟩:=Yf hf;obtain ⟨l,hl,hf⟩:=Yf hf;obtain ⟨hc,hf⟩:=YE hf;simp only [Bool.and_eq_true,Nat.blt_eq] at hc;obtain ⟨c1,c2,c3⟩:=hc;replace c3:=Nat.eq_of_beq_eq_true c3;rw [YaL] at hf;obtain ⟨u,h1,h2⟩:=hr x a ha;obtain ⟨rfl,hall⟩:=Wa hl h1;obtain ⟨XS,hXS,hRS⟩:=hT s S hS;obtain ⟨d,hus,_⟩:=Yc5 T hXS;have hu:=und_plain T hX (hR.d4 hk4) rfl;have hue:=und_plain T hXE (hRE.d1 hk1) rfl;rw [kEq_iff c1] at hue;refine Does.of fun ρ w hρ hi=>?_
 have hge:=grownCap_ge w l.length 0 A.e;have hi2:Inv cx fz H w.drew:=hi.drew;obtain ⟨ν',av,h',nx',g1,g2,g3,g4,g5,g6⟩:=Ygy (C:=grownCap w l.length 0 A.e) (g:=w.heap.size) (l:=List.replicate (grownCap w l.length 0 A.e - l.length) (.int .u8 0)) hh hfr (u8gvs ν l) hY (YdQ hi) hge (by simp [c3];omega) hf;have hlen:(bs l).size=l.length:=Ybw l;have hcells:Lib.bytesCells w A.e (bs l)=(l.map (fun (n:Nat)=>Value.int .u8 (n:Int))++List.replicate (grownCap w l.length 0 A.e - l.length) (Value.int .u8 0)).toArray:=by
  apply Array.ext';rw [<- YiN l hall];simp [Lib.bytesCells,hlen]
 have hrun:=Lib.run_convert_string_bytes w s t A.e (bs l) hus hu hue;rw [hlen] at hrun;have hexec:(execOp ρ ⟨dst,.convert s t x,ty,pos,af,gd⟩).run P w=.ok (.value (.slice (some ⟨w.heap.size,0,none⟩) l.length (grownCap w l.length 0 A.e))) (Lib.bytesWorld w A.e (bs l)):=by
  simp only [execOp,hρ _ _ h2,Sem.run_bind,hrun,Result.andThen_ok,Sem.run_pure]
 rw [hexec];have hheap:(Lib.bytesWorld w A.e (bs l)).heap=(w.drew.alloc (.cells (Lib.bytesCells w A.e (bs l)) A.e ((Lib.bytesCells w A.e (bs l)).size,(Lib.bytesCells w A.e (bs l)).size+1))).heap:=by
  apply Array.ext_getElem?;intro j;rcases Nat.lt_trichotomy j w.heap.size with hj | hj | hj
  ·rw [Lib.bytesWorld_at_old _ _ _ _ hj,heap_alloc_old w.drew _ (by simpa using hj)];rfl
  ·subst hj;rw [Lib.bytesWorld_at_new];exact (heap_alloc_new w.drew _).symm
  rw [Array.getElem?_eq_none (by rw [Lib.bytesWorld_size];omega),Array.getElem?_eq_none (by simp;omega)]
 have hi3:=(hi2.alloc (.cells (Lib.bytesCells w A.e (bs l)) A.e ((Lib.bytesCells w A.e (bs l)).size,(Lib.bytesCells w A.e (bs l)).size+1))).world (w':=Lib.bytesWorld w A.e (bs l)) rfl rfl rfl hheap;refine ⟨fz,_,hi3,rfl,ν',av,h',nx',g1,g2,g3,g4,?_,g6⟩;rw [hcells];exact g5
end
section
variable {P:Program} {cx:Cx} {tT:TT} {T:Tab P} {fz:FZ}
theorem YjC {l:List (AV × AV × Nat)} {c:AV × AV × Nat->Bool} (h:every l c=true):∀ e∈l,c e=true:=by
 induction l with
 | nil=>intro e he;cases he
 | cons x r ih=>
  have h':br false (every r c) (c x)=true:=h;rw [YgX] at h';split at h'
  ·rename_i hx;intro e he;cases he with
   | head=>exact hx
   | tail _ he=>exact ih h' e he
  cases h'
theorem YgJ:∀ (l:List Nat) (n:Nat),hasN l n=l.contains n
 | [],_=>rfl
 | x::r,n=>by
  simp only [hasN,List.contains_cons];rw [YgJ r n];cases hb:Nat.beq x n with
  | true=>simp [Nat.eq_of_beq_eq_true hb]
  | false=>
   have:(n==x)=false:=by
    rw [Bool.eq_false_iff];intro h;rw [beq_iff_eq] at h;subst h;rw [Nat.beq_refl] at hb;cases hb
   rw [this,Bool.false_or]
theorem Yet {ν:Nu} {p:Nat->Bool}:∀ {l:List (AV × AV × Nat)} {a:List MapEntry},ges ν l=some a->ges ν (l.filter fun e=>p e.2.2)=some (a.filter fun e=>p e.born)
 | [],a,h=>by simp [ges] at h;subst h;simp [ges]
 | e::l,a,h=>by
  obtain ⟨k,v,q,h1,h2,h3,rfl⟩:=Wn h;have ih:=Yet (p:=p) h3;cases hp:p e.2.2 with
  | true=>simp [hp,ges,h1,h2,ih]
  | false=>simp [hp,ih]
theorem YgL {ν:Nu}:∀ {l:List (AV × AV × Nat)} {a:List MapEntry} {x:MapEntry},ges ν l=some a->x∈a->∃ e∈l,gv ν e.1=some x.key/\gv ν e.2.1=some x.val/\e.2.2=x.born
 | [],a,x,h,hx=>by simp [ges] at h;subst h;cases hx
 | e::l,a,x,h,hx=>by
  obtain ⟨k,v,q,h1,h2,h3,rfl⟩:=Wn h;cases hx with
  | head=>exact ⟨e,by simp,h1,h2,rfl⟩
  | tail _ hx=>
   obtain ⟨e',he,h4⟩:=YgL h3 hx;exact ⟨e',by simp [he],h4⟩
theorem it_eq {o:AO} {it:It} (h:oIt o=some it):o=.mit it.m it.since it.seen it.stepped:=by
 cases o with
 | mit m a l b=>simp [oIt] at h;subst h;rfl
 | cells _ _ _ _=>simp [oIt] at h
 | map _ _=>simp [oIt] at h
theorem YdM (n:Nat) (hn:0<n) (w:World):∃ k w1,(choose (.mapNext n)).run P w=.ok k w1/\k<n/\w1.os=w.os/\w1.tape=w.tape/\w1.output=w.output/\w1.heap=w.heap:=by
 by_cases h:n<=1
 ·exact ⟨0,w,by simp [choose,Sem.run,Question.forced,h],hn,rfl,rfl,rfl,rfl⟩
 exact ⟨w.tape w.drawn (.mapNext n) % n,{w with drawn:=w.drawn+1},by simp [choose,Sem.run,Question.forced,Question.cut,h],Nat.mod_lt _ hn,rfl,rfl,rfl,rfl⟩
variable {w:World}
theorem run_next {b bm since stepped clock:Nat} {seen:List Nat} {l:List MapEntry} {ty:TypeId} {pre post:HP} (hi:Inv cx fz (pre++(b,.mapIter (some bm) since seen.toArray stepped)::post) w) (hm:(bm,Obj.map l.toArray clock)∈pre++(b,.mapIter (some bm) since seen.toArray stepped)::post)
 (hcond:seen=[]\/l=[]\/∃ e∈l,e.born<stepped) (hold:∀ e∈l.filter (fun e=>!seen.contains e.born),e.born<since):
 ∃ w1,w1.os=w.os/\w1.tape=w.tape/\w1.output=w.output/\w1.heap=w.heap/\
  ((l.filter (fun e=>!seen.contains e.born)=[]/\(Instr.next (Zp b) false ty).run P w=.ok (.tuple #[.bool false]) w1)\/
   ∃ e∈l.filter (fun e=>!seen.contains e.born),(Instr.next (Zp b) false ty).run P w=.ok (.tuple #[.bool true,e.key,e.val]) {w1 with heap:=w1.heap.setIfInBounds b (.mapIter (some bm) since (seen++ [e.born]).toArray clock)}):=by
 have hit:=(hi.hp.own (b,.mapIter (some bm) since seen.toArray stepped) (by simp)).1;simp only at hit;have hget:=XN (P:=P) hi (b:=b) (o:=.mapIter (some bm) since seen.toArray stepped) (by simp) (by simp);have hgm:=XN (P:=P) hi hm (by simp);have hcond':(!seen.toArray.isEmpty && !l.toArray.isEmpty && l.toArray.all (fun e=>decide (e.born>=stepped)))=false:=by
  rcases hcond with h | h | ⟨e,he,hlt⟩
  ·subst h;rfl
  ·subst h;simp
  have:(l.toArray.all fun e=>decide (e.born>=stepped))=false:=by
   rw [List.all_toArray,List.all_eq_false];exact ⟨e,he,by simpa using hlt⟩
  rw [this,Bool.and_false]
 generalize hleft:l.filter (fun e=>!seen.contains e.born)=left at hold ⊢;have hleftA:l.toArray.filter (fun e=>!seen.toArray.contains e.born)=left.toArray:=by
  rw [<- hleft,List.filter_toArray];simp
 have holdA:left.toArray.filter (fun e=>decide (e.born<since))=left.toArray:=by
  rw [List.filter_toArray,List.filter_eq_self.2 (fun e he=>by simpa using hold e he)]
 have hnewA:left.toArray.filter (fun e=>decide (e.born>=since))=#[]:=by
  rw [List.filter_toArray,List.filter_eq_nil_iff.2 (fun e he=>by have:=hold e he;simpa using this)]
 have hset:∀ (w1:World) (o':Obj),w1.heap=w.heap->(Go.setObj b o').run P w1=.ok () {w1 with heap:=w1.heap.setIfInBounds b o'}:=fun w1 o' hw=>by
  simp [Go.setObj,Sem.run,hw,hit]
 by_cases hl:left=[]
 ·obtain ⟨k,w1,hc,hk,e1,e2,e3,e4⟩:=YdM (P:=P) 1 Zi w;have hk0:k=0:=by omega
  subst hk0;refine ⟨w1,e1,e2,e3,e4,.inl ⟨hl,?_⟩⟩;simp only [Instr.next,Sem.run_bind,hget,hgm,Result.andThen_ok,hcond',Bool.false_eq_true,if_false,hleftA,holdA,hnewA];have hcand:(((if left.toArray.isEmpty=true then #[none] else #[])++Array.map some (left.toArray++#[])):Array (Option MapEntry))=#[none]:=by simp [hl]
  have hsz:(#[none]:Array (Option MapEntry)).size=1:=rfl;have hget':(#[none]:Array (Option MapEntry))[0]?=some none:=rfl;simp only [hcand,hsz,hc,Result.andThen_ok,hget',Sem.run_pure]
 have hpos:0<left.length:=List.length_pos_iff.2 hl;obtain ⟨k,w1,hc,hk,e1,e2,e3,e4⟩:=YdM (P:=P) left.length hpos w;refine ⟨w1,e1,e2,e3,e4,.inr ⟨left[k],List.getElem_mem hk,?_⟩⟩;have hemp:left.toArray.isEmpty=false:=by simp [hl]
 have hcand:(((if left.toArray.isEmpty=true then #[none] else #[])++Array.map some (left.toArray++#[])):Array (Option MapEntry))=(left.map some).toArray:=by simp [hemp]
 simp only [Instr.next,Sem.run_bind,hget,hgm,Result.andThen_ok,hcond',Bool.false_eq_true,if_false,hleftA,holdA,hnewA,hcand];have hsz:(left.map some).toArray.size=left.length:=by simp
 have hget':(left.map some).toArray[k]?=some (some left[k]):=by simp [hk]
 simp only [hsz,hc,Result.andThen_ok,hget',Sem.run_bind,hset w1 _ e4,Sem.run_pure,List.push_toArray]
theorem k_next_s (x:Operand) (str:Bool):KS P cx tT fz (kNext x str) (.next x str):=fun ν ar r h nx H Fm c dst ty pos af gd hr hh hfr hf=>by
 unfold kNext at hf;cases str with
 | true=>cases hf
 | false=>
 rw [YF] at hf;obtain ⟨a,ha,hf⟩:=Yf hf;obtain ⟨p,hp,hf⟩:=Yf hf;obtain ⟨h0,hf⟩:=YE hf;replace h0:=Nat.eq_of_beq_eq_true h0;unfold nxt at hf;obtain ⟨o,ho,hf⟩:=Yf hf;obtain ⟨it,hit,hf⟩:=Yf hf;obtain ⟨u,h1,h2⟩:=hr x a ha;obtain ⟨b,hb,rfl⟩:=Yam hp h1;rw [h0] at h2;obtain ⟨b',xo,pre,post,hb2,hgo,rfl⟩:=hh.split ho;rw [hb] at hb2;injection hb2 with hb2;subst hb2
 have hoe:=it_eq hit;rw [hoe] at ho hgo;simp only [go] at hgo;cases him:it.m with
 | none=>
  rw [him] at hgo hf;simp [gM] at hgo;subst hgo;rw [Wl] at hf;refine Does.of fun ρ w hρ hi=>?_
  have hget:=XN (P:=P) hi (b:=b) (o:=.mapIter none it.since it.seen.toArray it.stepped) (by simp) (by simp);have:(execOp ρ ⟨dst,.next x false,ty,pos,af,gd⟩).run P w=.ok (.value (.tuple #[.bool false])) w:=by
   simp only [execOp,hρ _ _ h2,Sem.run_bind,Instr.next,hget,Result.andThen_ok,Sem.run_pure]
  rw [this];exact ⟨fz,_,hi,rfl,ν,_,h,nx,Nu.le.refl _,Zs _,hf,by simp [gv,gvs],hh,hfr⟩
 | some g=>
  rw [him] at hgo hf;rw [XQ] at hf;obtain ⟨q,hq,hf⟩:=Yf hf;obtain ⟨es,hes,hf⟩:=Yf hf;obtain ⟨hcl,hf⟩:=YE hf;simp only [Bool.and_eq_true] at hcl;obtain ⟨hcl1,hcl2⟩:=hcl;replace hcl1:=Nat.eq_of_beq_eq_true hcl1;replace hcl2:=Nat.eq_of_beq_eq_true hcl2;obtain ⟨bm,l,hbm,hl,hmem⟩:=hh.map hq hes;simp [gM,hbm] at hgo;subst hgo;unfold nxM at hf;obtain ⟨hguard,hf⟩:=YE hf;have hfil:=Yet (p:=fun b=>!hasN it.seen b) hl;have hsame:(fun e:MapEntry=>!hasN it.seen e.born)=fun e=>!it.seen.contains e.born:=by funext e;rw [YgJ]
  rw [hsame] at hfil;have hguard':it.seen=[]\/l=[]\/∃ e∈l,e.born<it.stepped:=by
   simp only [Bool.or_eq_true,List.isEmpty_iff] at hguard;rcases hguard with hg | hg | hg
   ·exact .inl hg
   ·rw [hg] at hl;simp [ges] at hl;exact .inr (.inl hl)
   obtain ⟨e,he,hlt⟩:=List.any_eq_true.1 hg;rw [Nat.blt_eq] at hlt;obtain ⟨i,hi⟩:=List.mem_iff_getElem?.1 he;obtain ⟨k,v,_,_,g3⟩:=YgM hl hi;exact .inr (.inr ⟨_,Zm g3,hlt⟩)
  generalize hcand:es.1.filter (fun e=>!hasN it.seen e.2.2)=cand at hf hfil;generalize hleft:l.filter (fun e=>!it.seen.contains e.born)=left at hfil;have hold:∀ e∈l.filter (fun e=>!it.seen.contains e.born),e.born<it.since:=by
   rw [hleft];intro e he;obtain ⟨a',ha',_,_,hb'⟩:=YgL hfil he;cases cand with
   | nil=>cases ha'
   | cons y r=>
    rw [Yb9] at hf;obtain ⟨hall,_⟩:=YE hf;have:=List.all_eq_true.1 hall a' ha';rw [Nat.blt_eq] at this;omega
  refine Does.of fun ρ w hρ hi=>?_
  obtain ⟨w1,e1,e2,e3,e4,hrun⟩:=run_next (P:=P) (ty:=ty) hi hmem hguard' hold;have hi1:=hi.world e1 e2 e3 e4;rw [hleft] at hrun;have hexec:∀ v w',(Instr.next (Zp b) false ty).run P w=.ok v w'->(execOp ρ ⟨dst,.next x false,ty,pos,af,gd⟩).run P w=.ok (.value v) w':=fun v w' hv=>by
   simp only [execOp,hρ _ _ h2,Sem.run_bind,hv,Result.andThen_ok,Sem.run_pure]
  rcases hrun with ⟨hl0,hr0⟩ | ⟨e,he,hr0⟩
  ·rw [hexec _ _ hr0];have hc0:cand=[]:=by
    cases cand with
    | nil=>rfl
    | cons y r=>rw [hl0] at hfil;obtain ⟨_,_,_,_,_,_,hx⟩:=Wn hfil;cases hx
   rw [hc0,Yhy] at hf;exact ⟨fz,_,hi1,rfl,ν,_,h,nx,Nu.le.refl _,Zs _,hf,by simp [gv,gvs],hh,hfr⟩
  rw [hexec _ _ hr0];obtain ⟨a',ha',q1,q2,q3⟩:=YgL hfil he;cases cand with
  | nil=>cases ha'
  | cons y r=>
   rw [Yb9] at hf;obtain ⟨_,hf⟩:=YE hf;have hf':=YjC hf a' ha';rw [Wq] at hf';obtain ⟨h',hu,hc⟩:=YC _ _ _ _ _ hf';have hgo':go ν (.mit (some g) it.since (it.seen++ [a'.2.2]) es.2)=some (.mapIter (some bm) it.since (it.seen++ [e.born]).toArray es.2):=by
    simp [go,gM,hbm,q3]
   refine ⟨fz,_,Ybz hi1,rfl,ν,_,h',nx,Nu.le.refl _,Zs _,hc,?_,hh.set hi.hp.nd ho hb hgo' hu (fun _ _ _ _ he=>by cases he),hfr⟩;simp [gv,gvs,q1,q2]
end
section
variable {P:Program} {tT:TT} {T:Tab P}
variable {fz:FZ}
theorem k_ins_s {cx:Cx} (hT:TA tT T) (t:TypeId) (x k v:Operand):KS P cx tT fz (kSet t x k v) (.insert t x k v):=fun ν ar r h nx H Fm c dst ty pos af gd hr hh hfr hf=>by
 refine Does.of fun ρ w hρ hi=>?_
 have:=(YjU (P:=P) (cx:=cx) (fz:=fz) hT t x k v ν ar r h nx H Fm c dst ty pos af gd hr hh hfr hf).run ρ w hρ hi;exact this
def XS (P:Program) (tT:TT) (op:Op):OX->Prop
 | .q f=>∀ cx fz,QS P cx tT fz f op
 | .l f=>LS P tT f op
 | .k f=>∀ cx fz,KS P cx tT fz f op
 | .call f xs=>∃ ats,op=.call {callee:=.value f,args:=xs.toArray,argTypes:=ats}
 | .cv s t x=>op=.convert s t x
 | .bad=>True
theorem ox_s (hT:TA tT T) (op:Op):XS P tT op (ox op):=by
 cases op with
 | move x=>exact fun cx fz=>s_move x
 | assign x=>exact fun cx fz=>s_assign x
 | pick d x y=>exact fun cx fz=>s_pick d x y
 | alloc t=>exact l_alloc hT t
 | box t x=>exact l_box t x
 | build t ps=>exact fun cx fz=>s_bld hT t ps
 | buildSlice t n ps=>exact l_slice hT t n ps
 | insert t x k v=>exact fun cx fz=>k_ins_s hT t x k v
 | load t x=>exact fun cx fz=>s_load hT t x
 | store t x y=>exact fun cx fz=>YjT hT t x y
 | ready=>exact trivial
 | waits=>exact trivial
 | nilCheck x=>exact fun cx fz=>s_nil x
 | binOp op t x y t'=>exact fun cx fz=>s_bin hT op t t' x y
 | unOp op t x=>exact fun cx fz=>s_un op t x
 | convert s t x=>exact rfl
 | sliceToArrayPointer=>exact trivial
 | makeInterface t x=>exact fun cx fz=>s_mkI hT t x
 | makeFunc fn xs ys=>exact fun cx fz=>s_mkF fn xs ys
 | makeMap t r=>
  cases r with
  | none=>exact l_map t
  | some y=>exact fun cx fz=>k_mkmap hT t y
 | makeChan=>exact trivial
 | makeSlice t l q=>exact l_make hT t l q
 | slice t x lo hi mx=>exact fun cx fz=>s_slc hT t x lo hi mx
 | fieldAddr t x i=>exact fun cx fz=>s_fa hT t x i
 | field t x i=>exact fun cx fz=>s_fld hT t x i
 | indexAddr t x i=>exact fun cx fz=>s_ixa hT t x i
 | index t x i=>exact fun cx fz=>s_idx hT t x i
 | lookup t x k ok=>exact fun cx fz=>s_look hT t x k ok
 | mapUpdate t x k v=>exact fun cx fz=>YjU hT t x k v
 | mapEntry=>exact trivial
 | entryStore=>exact trivial
 | range t x=>exact fun cx fz=>YjV hT t x
 | next x s=>exact fun cx fz=>k_next_s x s
 | entry x=>exact fun cx fz=>s_ent x
 | typeAssert x t' t ok=>exact fun cx fz=>s_ta hT x t' t ok
 | extract x i=>exact fun cx fz=>s_ext x i
 | call k=>
  obtain ⟨cal,xs,ats⟩:=k;cases cal with
  | value f=>exact ⟨ats,by simp⟩
  | invoke=>exact trivial
  | builtin b=>
   by_cases h1:b=.append
   ·subst h1;exact fun cx fz=>k_app_s hT xs ats
   by_cases h2:b=.copy
   ·subst h2;exact fun cx fz=>k_copy_s hT xs ats
   have:ox (.call ⟨.builtin b,xs,ats⟩)=.q (qBi b xs.toList ats.toList):=by
    cases b<;>first | rfl | exact absurd rfl h1 | exact absurd rfl h2
   rw [this];exact fun cx fz=>s_bi hT b xs ats
 | go=>exact trivial
 | defer=>exact trivial
 | panic=>exact trivial
 | send=>exact trivial
 | recv=>exact trivial
 | select=>exact trivial
theorem oxT_s (hT:TA tT T) {op:Op} {c:OX->Bool} (h:oxT tT op c=true):∃ x,c x=true/\XS P tT op x/\∀ s t y,x≠ .cv s t y:=by
 have hx:=ox_s (P:=P) hT op;unfold oxT at h;cases ho:ox op with
 | cv s t x=>
  rw [ho] at h hx;obtain ⟨X,hX,h⟩:=Yf h;have e:op=.convert s t x:=hx;subst e;cases hk:Nat.beq X.k 4 with
  | true=>rw [hk] at h;exact ⟨_,h,fun cx fz=>YjW hT s t x,fun _ _ _ h=>by cases h⟩
  | false=>rw [hk] at h;exact ⟨_,h,fun cx fz=>s_conv hT s t x,fun _ _ _ h=>by cases h⟩
 | q f=>rw [ho] at h hx;exact ⟨_,h,hx,fun _ _ _ h=>by cases h⟩
 | l f=>rw [ho] at h hx;exact ⟨_,h,hx,fun _ _ _ h=>by cases h⟩
 | k f=>rw [ho] at h hx;exact ⟨_,h,hx,fun _ _ _ h=>by cases h⟩
 | call f xs=>rw [ho] at h hx;exact ⟨_,h,hx,fun _ _ _ h=>by cases h⟩
 | bad=>rw [ho] at h hx;exact ⟨_,h,hx,fun _ _ _ h=>by cases h⟩
end
end Go.Ev
