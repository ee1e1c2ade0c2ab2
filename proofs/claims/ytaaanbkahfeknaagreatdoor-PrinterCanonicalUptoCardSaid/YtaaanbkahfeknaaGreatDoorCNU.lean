/- The texts EwF, Shelf, PWalkU, PWalkV, PDom, NS, GOpenA, POpenW, NRowB, laid together. Conditions: none. -/
import Derived.Test.YtaaanbkahfeknaaGreatDoorCNEwI
import Derived.Lay
import Derived.LaidOnce
import Derived.Carry
import Derived.MakeChecks
import Derived.LaidSub
import Derived.Deep.DeepHandedRow
import Derived.Lib.LaidTab
import Derived.Deep.Slices
import Derived.SizedLaws
import Derived.Shelf.Strings.Repeat
import Derived.Shelf.Strconv.Itoa3
set_option linter.all false
set_option maxHeartbeats 4000000
open Go.Lx Go.RowKit
attribute [local instance 10] Classical.propDecidable
open Go.Proofs.Tryz (prog)
namespace Go.Proofs.YtaaanbkahfeknaaGreatDoor
open Go.Lx Go.Ev
noncomputable def F0:FF:=withM tF.get 296 .ibs
theorem F0_ok:FA prog tT.get F0:=FA_with tF_ok ibs_ok
theorem mixed:prog.follows .mixedOrders=true:=T.mixed
end Go.Proofs.YtaaanbkahfeknaaGreatDoor
namespace Go.Proofs
open Go.Shelf
def Ycj:Go.Shelf.Ren:=⟨fun | 171=>88 | 243=>131 | 246=>205 | 283=>262 | 284=>263 | 285=>264 | 286=>265 | 129=>185 | 317=>299 | 318=>300 | 319=>301 | 320=>302 | 337=>327 | 338=>328 | n=>n,fun | 3=>3 | 9=>9 | 2=>2 | 4=>4 | 171=>316 | 0=>0 | 53=>247 | 37=>250 | 5=>5 | 173=>318 | 212=>354 | 51=>245 | 20=>20 | 213=>355 | 46=>181 | 232=>373 | 233=>374 | n=>n,fun | 17=>1 | 18=>2 | 19=>3 | n=>n⟩
theorem Yfj:Go.Proofs.LaysM.n171 Tryz.prog Ycj:={
 mixed:=by kernel_rfl
 f129:=Tryz.func185.trans (congrArg some (by kernel_rfl))
 f171:=Tryz.func88.trans (congrArg some (by kernel_rfl))
 f243:=Tryz.func131.trans (congrArg some (by kernel_rfl))
 f246:=Tryz.func205.trans (congrArg some (by kernel_rfl))
 f283:=Tryz.func262.trans (congrArg some (by kernel_rfl))
 f284:=Tryz.func263.trans (congrArg some (by kernel_rfl))
 f285:=Tryz.func264.trans (congrArg some (by kernel_rfl))
 f286:=Tryz.func265.trans (congrArg some (by kernel_rfl))
 f317:=Tryz.func299.trans (congrArg some (by kernel_rfl))
 f318:=Tryz.func300.trans (congrArg some (by kernel_rfl))
 f319:=Tryz.func301.trans (congrArg some (by kernel_rfl))
 f320:=Tryz.func302.trans (congrArg some (by kernel_rfl))
 f337:=Tryz.func327.trans (congrArg some (by kernel_rfl))
 f338:=Tryz.func328.trans (congrArg some (by kernel_rfl))
 t0:=Tryz.underlying0
 a0:=Tryz.isAgg0
 z0:=Tryz.sizeOf0
 v0:=Tryz.zeroValue0
 t2:=Tryz.underlying2
 a2:=Tryz.isAgg2
 z2:=Tryz.sizeOf2
 v2:=Tryz.zeroValue2
 t3:=Tryz.underlying3
 a3:=Tryz.isAgg3
 z3:=Tryz.sizeOf3
 v3:=Tryz.zeroValue3
 t4:=Tryz.underlying4
 a4:=Tryz.isAgg4
 z4:=Tryz.sizeOf4
 v4:=Tryz.zeroValue4
 t5:=Tryz.underlying5
 a5:=Tryz.isAgg5
 z5:=Tryz.sizeOf5
 v5:=Tryz.zeroValue5
 t9:=Tryz.underlying9
 a9:=Tryz.isAgg9
 z9:=Tryz.sizeOf9
 v9:=Tryz.zeroValue9
 t20:=Tryz.underlying20
 a20:=Tryz.isAgg20
 z20:=Tryz.sizeOf20
 v20:=Tryz.zeroValue20
 t37:=Tryz.underlying250
 a37:=Tryz.isAgg250
 z37:=Tryz.sizeOf250
 v37:=Tryz.zeroValue250
 t46:=Tryz.underlying181
 a46:=Tryz.isAgg181
 z46:=Tryz.sizeOf181
 v46:=Tryz.zeroValue181
 t51:=Tryz.underlying245
 a51:=Tryz.isAgg245
 z51:=Tryz.sizeOf245
 v51:=Tryz.zeroValue245
 t53:=Tryz.underlying247
 a53:=Tryz.isAgg247
 z53:=Tryz.sizeOf247
 v53:=Tryz.zeroValue247
 t171:=Tryz.underlying316
 a171:=Tryz.isAgg316
 z171:=Tryz.sizeOf316
 v171:=Tryz.zeroValue316
 t173:=Tryz.underlying318
 a173:=Tryz.isAgg318
 z173:=Tryz.sizeOf318
 v173:=Tryz.zeroValue318
 t212:=Tryz.underlying354
 a212:=Tryz.isAgg354
 z212:=Tryz.sizeOf354
 v212:=Tryz.zeroValue354
 t213:=Tryz.underlying355
 a213:=Tryz.isAgg355
 z213:=Tryz.sizeOf355
 t232:=Tryz.underlying373
 a232:=Tryz.isAgg373
 z232:=Tryz.sizeOf373
 v232:=Tryz.zeroValue373
 t233:=Tryz.underlying374
 a233:=Tryz.isAgg374
 z233:=Tryz.sizeOf374
 v233:=Tryz.zeroValue374
 g17:=by kernel_rfl
 g18:=by kernel_rfl
 g19:=by kernel_rfl
 i0:=by kernel_rfl
 i2:=by kernel_rfl
 i3:=by kernel_rfl
 i4:=by kernel_rfl
 i5:=by kernel_rfl
 i9:=by kernel_rfl
 i20:=by kernel_rfl
 i37:=by kernel_rfl
 i46:=by kernel_rfl
 i51:=by kernel_rfl
 i53:=by kernel_rfl
 i171:=by kernel_rfl
 i173:=by kernel_rfl
 i212:=by kernel_rfl
 i232:=by kernel_rfl
 i233:=by kernel_rfl
 m17:=by kernel_rfl
 m18:=by kernel_rfl
 m19:=by kernel_rfl}
open Go.RowKit Go.Sort Go.Lib in
/-- strconv.Itoa: "Itoa is equivalent to FormatInt(int64(i), 10).": i's DECIMAL NUMERAL ('Lib.itoa': a '-' where i is negative, then the digits), FOR EVERY int. The world behind the call: the world before it, new blocks behind the heap (the library's 'var a [24]byte'), draws. (LAID: no walk: one application.) -/
theorem Tryz.strconv_Itoa (n:Int) (h0: -9223372036854775808≤n) (h1:n≤9223372036854775807) (w:World) (htab:Lib.TabIs Tryz.prog w "internal/strconv.uint64pow10" .u64 Lib.pow10Tab):
 Calls Tryz.prog 88 #[.int .i64 n] w fun e w'=>e=.returned (.string ⟨(Lib.itoa n).toArray⟩)/\∃ k os,w'=grow (w.drewN k) os:=Any.strconv_Itoa Yfj n h0 h1 w htab
def YaR:Go.Shelf.Ren:=⟨fun | 105=>190 | 212=>251 | 99=>252 | 165=>253 | 166=>189 | 170=>254 | 169=>191 | 263=>290 | 264=>291 | 206=>292 | 240=>250 | 241=>293 | 276=>289 | 277=>324 | n=>n,fun | 9=>9 | 3=>3 | 4=>4 | 20=>20 | 0=>0 | 46=>181 | 109=>305 | 5=>5 | 72=>252 | 76=>253 | 51=>245 | 146=>346 | 53=>247 | 148=>348 | 70=>249 | 37=>250 | 75=>52 | 127=>310 | 164=>344 | 80=>256 | n=>n,fun | n=>n⟩
theorem Ygb:Go.Proofs.Lays.n105 Tryz.prog YaR:={
 mixed:=by kernel_rfl
 f99:=Tryz.func252.trans (congrArg some (by kernel_rfl))
 f105:=Tryz.func190.trans (congrArg some (by kernel_rfl))
 f165:=Tryz.func253.trans (congrArg some (by kernel_rfl))
 f166:=Tryz.func189.trans (congrArg some (by kernel_rfl))
 f169:=Tryz.func191.trans (congrArg some (by kernel_rfl))
 f170:=Tryz.func254.trans (congrArg some (by kernel_rfl))
 f206:=Tryz.func292.trans (congrArg some (by kernel_rfl))
 f212:=Tryz.func251.trans (congrArg some (by kernel_rfl))
 f240:=Tryz.func250.trans (congrArg some (by kernel_rfl))
 f241:=Tryz.func293.trans (congrArg some (by kernel_rfl))
 f263:=Tryz.func290.trans (congrArg some (by kernel_rfl))
 f264:=Tryz.func291.trans (congrArg some (by kernel_rfl))
 f276:=Tryz.func289.trans (congrArg some (by kernel_rfl))
 f277:=Tryz.func324.trans (congrArg some (by kernel_rfl))
 t0:=Tryz.underlying0
 a0:=Tryz.isAgg0
 z0:=Tryz.sizeOf0
 v0:=Tryz.zeroValue0
 t3:=Tryz.underlying3
 a3:=Tryz.isAgg3
 z3:=Tryz.sizeOf3
 v3:=Tryz.zeroValue3
 t4:=Tryz.underlying4
 a4:=Tryz.isAgg4
 z4:=Tryz.sizeOf4
 v4:=Tryz.zeroValue4
 t5:=Tryz.underlying5
 a5:=Tryz.isAgg5
 z5:=Tryz.sizeOf5
 v5:=Tryz.zeroValue5
 t9:=Tryz.underlying9
 a9:=Tryz.isAgg9
 z9:=Tryz.sizeOf9
 v9:=Tryz.zeroValue9
 t20:=Tryz.underlying20
 a20:=Tryz.isAgg20
 z20:=Tryz.sizeOf20
 v20:=Tryz.zeroValue20
 t37:=Tryz.underlying250
 a37:=Tryz.isAgg250
 z37:=Tryz.sizeOf250
 v37:=Tryz.zeroValue250
 t46:=Tryz.underlying181
 a46:=Tryz.isAgg181
 z46:=Tryz.sizeOf181
 v46:=Tryz.zeroValue181
 t51:=Tryz.underlying245
 a51:=Tryz.isAgg245
 z51:=Tryz.sizeOf245
 v51:=Tryz.zeroValue245
 t53:=Tryz.underlying247
 a53:=Tryz.isAgg247
 z53:=Tryz.sizeOf247
 v53:=Tryz.zeroValue247
 t70:=Tryz.underlying249
 a70:=Tryz.isAgg249
 z70:=Tryz.sizeOf249
 v70:=Tryz.zeroValue249
 t72:=Tryz.underlying252
 a72:=Tryz.isAgg252
 z72:=Tryz.sizeOf252
 v72:=Tryz.zeroValue252
 t75:=Tryz.underlying52
 a75:=Tryz.isAgg52
 z75:=Tryz.sizeOf52
 v75:=Tryz.zeroValue52
 t76:=Tryz.underlying253
 a76:=Tryz.isAgg253
 z76:=Tryz.sizeOf253
 v76:=Tryz.zeroValue253
 t109:=Tryz.underlying305
 a109:=Tryz.isAgg305
 z109:=Tryz.sizeOf305
 v109:=Tryz.zeroValue305
 t127:=Tryz.underlying310
 a127:=Tryz.isAgg310
 z127:=Tryz.sizeOf310
 v127:=Tryz.zeroValue310
 t146:=Tryz.underlying346
 a146:=Tryz.isAgg346
 z146:=Tryz.sizeOf346
 v146:=Tryz.zeroValue346
 t148:=Tryz.underlying348
 a148:=Tryz.isAgg348
 z148:=Tryz.sizeOf348
 v148:=Tryz.zeroValue348
 t164:=Tryz.underlying344
 a164:=Tryz.isAgg344
 z164:=Tryz.sizeOf344
 v164:=Tryz.zeroValue344}
theorem YaS:Builder.Extra Tryz.prog YaR:={
 sizeBuilder:=by kernel_rfl
 liesBuilder:=by kernel_rfl
 t5:=Tryz.underlying5
 a5:=Tryz.isAgg5
 z5:=Tryz.sizeOf5
 v5:=Tryz.zeroValue5
 infoByte:=by kernel_rfl
 cellsByte:=by kernel_rfl
 sizeByte:=by kernel_rfl
 neB5:=by decide}
open Go.RowKit Go.Lib in
/-- **strings.Repeat: count ≥ 0, the result within one allocation: count copies of s.** (LAID: no walk: one application.) -/
theorem Tryz.strings_Repeat (s:ByteArray) (c:Nat) (w:World) (hc:c<=9223372036854775807) (hlen:s.size*c<=140737488355328):
 Calls Tryz.prog 190 #[.string s,.int .i64 c] w fun e w'=>e=.returned (.string ⟨(Lib.repeatL s.data.toList c).toArray⟩)/\Below w.heap.size w w':=Any.strings_Repeat Ygb YaS s c w hc hlen
end Go.Proofs
set_option maxRecDepth 20000
namespace Go.Proofs.YtaaanbkahfeknaaGreatDoor
variable {fz fz':FZ} {n i:Nat} {Hs H:HP} {v vk:Value} {s:Bs}
def TabF (fz:FZ):Prop:=∀ w,Hp fz [] w→Lib.TabIs prog w "internal/strconv.uint64pow10" .u64 Lib.pow10Tab
theorem TabF.mono (hle:Le fz fz') (h:TabF fz):TabF fz':=fun w hw=>h w ⟨fun b o hb=>hw.keep b o (hle b o hb),by simp,by simp⟩
theorem itoa_q {n:Int} (hT:TabF fz) (h:Yfn n):QFn prog 88 [Zk n] fz (Zy (strOf (Lib.itoa n))):=by
 unfold QFn;refine ⟨⟨_,Tryz.func88,by decide,by decide⟩,fun w hw=>?_⟩;unfold Yfn at h;refine (Tryz.strconv_Itoa n Zi Zi w (hT w hw)).mono fun e w' ⟨he,k,os,hw'⟩=>⟨he,?_⟩
 subst hw';exact ⟨rfl,rfl,rfl,by show w.heap.size<=(w.heap++os).size;rw [Array.size_append];omega,fun b hb _=>Sort.heap_grow_old (w.drewN k) os hb,fun h=>h.elim⟩
theorem repeat_q (h:n<=1000000000):QFn prog 190 [Zy ⟨#[32]⟩,Zk n] fz (Zy (strOf (List.replicate n 32))):=by
 unfold QFn;refine ⟨⟨_,Tryz.func190,by decide,by decide⟩,fun w hw=>?_⟩;refine (Tryz.strings_Repeat ⟨#[32]⟩ n w Zi (by show 1*n<=_;omega)).mono fun e w' ⟨he,hb⟩=>⟨?_,YhE hb⟩
 rw [he,<- YfB];rfl
theorem join_q {l:List (List UInt8)} (hg:Grow strL 9 fz v n Hs (l.map strOf)) (hf:∀ p∈Hs,fz' p.1=some p.2) (hn:n<=1000000000) (hlen:(Lib.join l [32]).length<=1000000000):
 QFn prog 249 [v,Zy ⟨#[32]⟩] fz' (Zy (strOf (Lib.join l [32]))):=by
 unfold QFn;refine ⟨⟨_,Tryz.func249,by decide,by decide⟩,fun w hw=>?_⟩;have hd:(l.map strOf).map (fun x=>x.data.toList)=l:=by
  rw [List.map_map]
  calc l.map _=l.map id:=List.map_congr_left fun t _=>Yb1 t
   _=l:=List.map_id l
 obtain ⟨xs,h1,h2,h3,h4⟩:=hg;rcases h4.2 with ⟨rfl,h0,_⟩ | ⟨g,cap,cur,rfl,hH,h6,h7,h8,h9⟩
 ·have hl:l=[]:=List.eq_nil_of_length_eq_zero (by have:=h3;rw [List.length_map] at this;omega);subst hl;refine (Tryz.strings_Join_none none 0 ⟨#[32]⟩ w).mono fun e w' ⟨he,hb⟩=>⟨?_,by subst hb;exact Fr.refl _ _⟩
  rw [he];rfl
 have hb:=hw.keep _ _ (hf (g,Zu cur 9) (by rw [hH];simp));have hsh:∀ p∈xs,p.2=[Value.string p.1]:=fun p hp=>(h2 p hp).1
 have hfl:xs.flatMap Prod.snd=(l.map strOf).map Value.string:=by
  rw [<- h1,List.map_map];clear h1 h3 h4 h9 h2
  induction xs with
  | nil=>rfl
  | cons a r ih=>rw [List.flatMap_cons,hsh a (by simp),ih (fun p hp=>hsh p (by simp [hp]))];rfl
 have hcells:∀ (j:Nat) x,(l.map strOf)[j]?=some x->w.cell? ⟨g,0+j,none⟩=some (Zy x):=by
  intro j x hx;have hj:j<n:=by have:=(Zg hx).1;omega
  have h10:(cur.toList.take (n*1))[j]?=some (Zy x):=by
   have h9':cur.toList.take (n*1)=xs.flatMap Prod.snd:=h9;rw [h9',hfl,List.getElem?_map,hx];rfl
  rw [List.getElem?_take,if_pos Zi] at h10;rw [Nat.zero_add];simp only [World.cell?,hb];simpa using h10
 have hll:(l.map strOf).length=n:=h3;have:=Tryz.strings_Join g 0 cap (l.map strOf) ⟨#[32]⟩ w hcells (lt_of_heap hb) Zi Zi (by rw [hd];exact Nat.le_trans hlen Zh);rw [hd,hll] at this;exact this.mono fun e w' ⟨he,hb⟩=>⟨he,YhE hb⟩
def bldO (p v:Value):Obj:=Zu #[p,v] 252
def Bld (b:Nat) (l:List UInt8) (H:HP):Prop:=∃ (p v:Value) (Hs:HP),H=(b,bldO p v)::Hs/\(p=.pointer none\/p=Zp b)/\OwnS 5 1 v l.length (l.map YaN) Hs
theorem Bld.new (b:Nat):Bld b [] [(b,bldO (.pointer none) Zn)]:=⟨_,_,_,rfl,.inl rfl,OwnS.nil _ _⟩
theorem YgR {b:Nat} {p:Value} (hp:p=.pointer none\/p=Zp b):
 GFn prog 250 [Zp b] fz [(b,bldO p v)] (fun r fz' H'=>r=.tuple #[]/\fz=fz'/\H'=[(b,bldO (Zp b) v)]):=by
 refine GFn.of ⟨_,Tryz.func250,by decide,by decide⟩ fun w hw=>?_
 obtain ⟨hb,hz⟩:=hw.own (b,bldO p v) (by simp);simp only at hb hz;have c0:w.cell? ⟨b,0,none⟩=some p:=by simp [World.cell?,hb,bldO]
 rcases hp with rfl | rfl
 ·refine (Any.Builder_copyCheck_fresh (ρ:=XX) {Yai with} Tryz.Builder_Extra_156.toX72 b w c0 (by simp [World.shape?,hb,bldO];rfl) (by simp [World.frozen?,hb,bldO])).mono fun e w' ⟨he,hw'⟩=>?_
  subst hw';refine ⟨_,fz,_,he,⟨rfl,rfl,rfl⟩,⟨fun k o hk=>?_,fun q hq=>?_,by simp⟩,⟨rfl,rfl,rfl,by simp [World.setCell],fun k _ hn=>?_,fun h=>h.elim⟩,⟨fun _ _ h=>h,fun _ _ _=>rfl,fun q hq=>.inl (by simp at hq;subst hq;simp)⟩⟩
  ·rw [Below.heap_setCell _ _ _ _ (fun h=>by subst h;rw [hz] at hk;cases hk)];exact hw.keep k o hk
  ·simp only [List.mem_singleton] at hq;subst hq;refine ⟨?_,hz⟩;simp [World.setCell,Array.getElem?_modify,hb,bldO]
  exact Below.heap_setCell _ _ _ _ (fun h=>hn (by simp [h]))
 refine (Any.Builder_copyCheck_used (ρ:=XX) {Yai with} Tryz.Builder_Extra_156.toX72 b w c0).mono fun e w' ⟨he,hw'⟩=>?_
 subst hw';exact ⟨_,fz,_,he,⟨rfl,rfl,rfl⟩,hw,Fr.refl _ _,⟨fun _ _ h=>h,fun _ _ _=>rfl,fun q hq=>.inl (by simp at hq;subst hq;simp)⟩⟩
theorem Yec {b:Nat} {l:List UInt8} (hb:Bld b l H) (hs:l.length+s.size<=1000000000):
 GFn prog 189 [Zp b,Zy s] fz H (fun r fz' H'=>fz=fz'/\r=.tuple #[Zk s.size,.nilIface]/\Bld b (l++s.data.toList) H'):=by
 obtain ⟨p,v,Hs,rfl,hp,hO⟩:=hb;refine zF Tryz.func189 Tryz.ntmps189 (fun w0=>?_);refine zW ?_;refine Yc (Ym [_] _ Zz (YgR hp) (fun r1 fz1 H1 hle1 hR1=>?_));obtain ⟨rfl,rfl,rfl⟩:=hR1;unfold bldO;refine zW ?_;refine Yc (YgE T (Hr:=[_]) Zz Zz Zz Zz Zz Zz Zz Zz Zz Zz (Zr _) hO Zi (fun v' Hs' hO'=>?_));obtain ⟨A',c',rfl,_,_⟩:=hO'.form;refine zW ?_;refine ret2 rfl rfl rfl (List.Sublist.refl _) ⟨rfl,rfl,_,_,Hs',rfl,.inr rfl,?_⟩;have e:(l++s.data.toList).length=l.length+s.size:=by rw [List.length_append,Array.length_toList];rfl
 rw [e,List.map_append];exact hO'
theorem YkF {b:Nat} {l:List UInt8} (hb:Bld b l H) (h0:l≠ []) (hn:l.length<=1000000000):
 GFn prog 191 [Zp b] fz H (fun r fz' H'=>fz=fz'/\r=Zy (strOf l)/\H'=[]):=by
 obtain ⟨p,v,Hs,rfl,hp,hO⟩:=hb;have hl0:l.length≠0:=by simpa using h0
 rcases hO.2 with ⟨_,h1,_⟩ | ⟨g,cap,cur,rfl,rfl,h3,h4,h5,h6⟩
 ·exact absurd h1 hl0
 obtain ⟨curl,rfl⟩:∃ cl:List Value,cur=cl.toArray:=⟨cur.toList,by simp⟩;unfold bldO;refine zF Tryz.func191 Tryz.ntmps191 (fun w0=>?_);refine zWO ?_;refine Yy (Xg ?_);refine zWO ?_;refine Yy ?_;refine Yab [_] ?_;refine wG ?_;refine YfD Zz Zi ?_;refine zW ?_;refine pU ?_;refine Yt (Yd5 T (pre:=[_]) (post:=[]) Zz Zz Zz Zz Zz Zz h0 (by simp at h5;omega) Zi (by simpa using h6) ⟨⟨Zd,Zx⟩,?_⟩);refine Ch.qk ⟨Zd,Zx⟩ (XM ?_);refine Ch.done ?_;refine zW ?_;exact ret1 rfl rfl (List.nil_sublist _) ⟨rfl,rfl,rfl⟩
theorem Yg7 {p q:Sexpr->Prop} (h:∀ x,p x->q x):∀ (s:Nat) {x:Sexpr},SizeOf.sizeOf x<=s->XAll p x->XAll q x
 | 0,x,hs,_=>by cases x;simp at hs
 | s+1,x,hs,hx=>by
  have h1:=Wo.1 hx;exact Wo.2 ⟨h _ h1.1,fun k hk=>Yg7 h s (by have:=Sexpr.kids_lt hk;omega) (h1.2 k hk)⟩
theorem xnode_sm {x:Sexpr} (h:Yd9 x):Lx.XSm x:=by
 rcases h with ⟨h1,h2,_⟩ | ⟨h1,_,_,h2⟩ | ⟨h1,_⟩
 ·exact ⟨fun _=>h2.2.1,fun h0=>by omega⟩
 ·exact ⟨fun h0=>by omega,fun _=>h2⟩
 exact ⟨fun h0=>by omega,fun h0=>by omega⟩
theorem Yg6 {x:Sexpr} (h:XOk x):XAll Lx.XSm x:=Yg7 (fun _=>xnode_sm) _ (Zs _) h
theorem YiF {x:Sexpr} (h:XOk x):(txt x).length<=36*xcount x:=by have:=txt_len (Yg6 h);omega
theorem strO_one:OneC strL:=by
 intro fz d cs h u hu;obtain ⟨rfl,_⟩:=h;simp at hu;subst hu;rfl
theorem YiU {l:List UInt8} (h:l.length<=1000000000):strL.rep fz (strOf l) [Zy (strOf l)]:=⟨rfl,by rw [WV];omega⟩
theorem YjX {x:Sexpr} (h:XOk x):(Lib.join (x.kids.map txt) [32]).length<=36*xcount x:=by
 cases x with
 | mk k v l c t ks=>
  have h1:=(Wo.1 (Yg6 h)).2;have h2:=txtL_len (YdS.2 h1);have h3:=join_len (l:=ks.map txt);rw [<- Yhb] at h3 ⊢;simp only [Sexpr.kids] at h2 ⊢;rw [xcount];omega
theorem Yg5:∀ (s:Nat) {fz:FZ} {x:Sexpr} {vk:Value},SizeOf.sizeOf x<=s->Yay fz x vk->XOk x->xcount x<=4096->TabF fz->
 QFn prog 188 [.agg #[Zk x.kind,Zk x.value,Zk x.line,Zk x.column,Zy x.text,vk]] fz (Zy (strOf (txt x)))
 | 0,_,x,_,hs,_,_,_,_=>by cases x;simp at hs
 | s+1,fz,x,vk,hs,h,hX,hc,hT=>by
  refine GFn.quiet ?_;obtain ⟨A,n,ca,rfl,hk⟩:=h.kids;have l1:=hk.len;have l2:=hk.short;have hN:=Wo.1 hX;have e:=txt_eq x;have ec:=YaT x;refine zF Tryz.func188 Tryz.ntmps188 (fun w0=>?_);refine pX (fun g0=>?_);refine wC (fun x1=>?_) (fun y1=>?_)
  ·exact wR (h:=by rw [e,if_pos (show x.kind=1 from x1),strOf_of])
  refine wC (fun x2=>?_) (fun y2=>?_)
  ·have hNum:Yfn x.value:=by
    rcases hN.1 with ⟨h1,_⟩ | ⟨_,_,_,h1⟩ | ⟨h1,_⟩
    ·omega
    ·exact h1
    omega
   refine wc (itoa_q hT hNum) ?_;exact wR (h:=by rw [e,if_neg (show ¬x.kind=1 from y1),if_pos (show x.kind=2 from x2)])
  have hlen:=YjX hX;have hln:=Ygf (l:=x.kids);refine zW ?_;refine Yd (fun q σ fz' H'=>∃ (k:Nat) (v:Value) (Hs:HP),k<=n/\q=n - k/\σ=[(20,Zk k),(19,Zk n),(18,Zc A n ca),(3,v)]/\fz=fz'/\H'=Hs/\Grow strL 9 fz' v k Hs (((x.kids.map txt).take k).map strOf))
   ⟨0,_,[],Z0 _,rfl,rfl,rfl,rfl,Grow.nil _ _ _⟩ Zw Zb ?_
  rintro q σ fz' H' ⟨k,v,Hs,hk',rfl,rfl,rfl,rfl,hG⟩;obtain ⟨Av,cv,rfl,_,_⟩:=hG.form;refine wC ?_ ?_<;>intro c1
  ·obtain ⟨y,hy⟩:=Yq (l:=x.kids) (k:=k) Zi;have hym:=Zm hy;have hlt:=Sexpr.kids_lt hym;have hcy:=Ybo hym;have hyo:=hN.2 y hym;have hyl:=YiF hyo;refine wI hk hy (fun p hp=>?_);refine zL hp ?_;intro cs hcs;obtain ⟨vk2,rfl,hR⟩:=YaB hcs;obtain ⟨A2,n2,c2,rfl,_⟩:=hR.kids;refine zW ?_;intros
   ((refine zG ?_);refine Xn (Yg5 s Zi hR hyo Zi hT) ?_);refine Yc (Yv (cs:=[Zy (strOf (txt y))]) (fun gb=>?_));refine Yc (Y3 (Hr:=[_,_]) (Zr _) hG strO_one (.head _) (YiU Zi) (fun v' Hs' hO'=>?_));obtain ⟨Av',cv',rfl,_,_⟩:=hO'.form;exact wP (h:=by exact ⟨k+1,_,Hs',by omega,rfl,rfl,rfl,rfl,hO'.of (by rw [List.take_add_one,List.getElem?_map,hy];simp) rfl⟩)
  have hk1:n=k:=by omega
  subst hk1;rw [Zl (by rw [List.length_map];omega)] at hG;refine zW ?_;refine Seq.freezeAll (H1:=[]) (Zr _) (fun fz3 hle3 hf3=>?_)
  ((refine zG ?_);refine Xn (join_q hG hf3 Zi Zi) ?_);refine zG ?_;refine Ydn (a:=[40]) Zz Zz (by simp;omega) ?_;refine zG ?_;refine Ydn (b:=[41]) Zz Zz (by simp;omega) ?_;exact wR (h:=by rw [e,if_neg (show ¬x.kind=1 from y1),if_neg (show ¬x.kind=2 from y2)];rfl)
theorem xwrite_q {x:Sexpr} (h:Yay fz x vk) (hX:XOk x) (hc:xcount x<=4096) (hT:TabF fz):
 QFn prog 188 [.agg #[Zk x.kind,Zk x.value,Zk x.line,Zk x.column,Zy x.text,vk]] fz (Zy (strOf (txt x))):=Yg5 _ (Zs _) h hX hc hT
theorem Yge {x:Sexpr} {w:Nat} (h:XOk x) (hi:i+2*xdepth x<=66):(lay w x i).length<=102*xcount x:=by
 have:=lay_len (w:=w) (M:=66) (Yg6 h) hi;omega
theorem YiG:∀ (s:Nat) {fz:FZ} {x:Sexpr} {vk:Value} {w i:Nat},SizeOf.sizeOf x<=s->Yay fz x vk->XOk x->xcount x<=4096->i+2*xdepth x<=66->w<=200->TabF fz->
 QFn prog 119 [.agg #[Zk x.kind,Zk x.value,Zk x.line,Zk x.column,Zy x.text,vk],Zk w,Zk i] fz (Zy (strOf (lay w x i)))
 | 0,_,x,_,_,_,hs,_,_,_,_,_,_=>by cases x;simp at hs
 | s+1,fz,x,vk,w,i,hs,h,hX,hc,hi,hw,hT=>by
  refine GFn.quiet ?_;obtain ⟨A,n,ca,rfl,hk⟩:=h.kids;have l1:=hk.len;have l2:=hk.short;have hN:=Wo.1 hX;have ec:=YaT x;have ed:=Yc2 x;have htl:=YiF hX;have hsz:=WV (txt x);refine zF Tryz.func119 Tryz.ntmps119 (fun w0=>?_);refine pX (fun g0=>?_);refine wc (xwrite_q h hX hc hT) ?_;refine wC (fun x3=>?_) (fun y3=>?_)
  ·exact wR (h:=by rw [YcV (.inl x3)])
  refine wC ?_ ?_<;>intro e1
  ·exact wR (h:=by rw [YcV (.inr (.inl Zi))])
  refine wC ?_ ?_<;>intro e2
  ·exact wR (h:=by rw [YcV (.inr (.inr Zi))])
  have hl:=lay_long (w:=w) (i:=i) (x:=x) (fun h0=>by omega);obtain ⟨y,hy⟩:=Yq (l:=x.kids) (k:=0) Zi;have hym:=Zm hy;have hlt:=Sexpr.kids_lt hym;have hcy:=Ybo hym;have hdy:=WU.1 (Zs _) y hym;have hd0:i+2+2*xdepthL x.kids<=66:=by rw [if_pos Zi] at ed;omega
  have hyo:=hN.2 y hym;have hyl:=Yge (w:=w) (i:=i+1) hyo Zi;refine zW ?_;intros;rename_i gb;refine zI hk hy (fun p hp=>?_);refine zL hp ?_;intro cs hcs;obtain ⟨vk2,rfl,hR⟩:=YaB hcs;obtain ⟨A2,n2,c2,rfl,_⟩:=hR.kids;refine wG ?_;refine Xn (YiG s (i:=i+1) Zi hR hyo Zi Zi hw hT) ?_;refine zG ?_;refine Ydn (a:=[40]) Zz Zz (by simp;omega) ?_;refine Yc (Ym [_] [_] Zz (Yec (s:=strOf ([40]++lay w y (i+1))) (Bld.new gb) (by rw [WV];simp;omega)) (fun r1 fz1 H1 hle1 hR1=>?_));obtain ⟨rfl,rfl,hB⟩:=hR1;refine Seq.perm (Zq (l₁:=[_])) ?_;have hkk:x.kids=y::x.kids.drop 1:=by
   cases hq:x.kids with
   | nil=>simp [hq] at hy
   | cons a b=>simp [hq] at hy;subst hy;rfl
  have hcr:xcountL (x.kids.drop 1)<=xcountL x.kids:=by
   have h0:xcountL x.kids=xcountL (y::x.kids.drop 1):=congrArg xcountL hkk;rw [xcountL] at h0;omega
  have hB2:Bld gb (40::(lay w y (i+1)++layT w ((x.kids.drop 1).take 0) (i+2))) H1:=by simpa [Yb1,layT] using hB
  have hlT:∀ k,(layT w ((x.kids.drop 1).take k) (i+2)).length<=102*4096:=fun k=>by
   have h0:=layT_len (w:=w) (M:=66) (l:=(x.kids.drop 1).take k) (i:=i+2) (YdS.2 (fun z hz=>Yg6 (hN.2 z (List.mem_of_mem_drop (List.mem_of_mem_take hz))))) (by
    have:xdepthL ((x.kids.drop 1).take k)<=xdepthL x.kids:=WU.2 (fun z hz=>WU.1 (Zs _) z (List.mem_of_mem_drop (List.mem_of_mem_take hz)));omega)
   have h1:=Ycq (l:=x.kids.drop 1) (k:=k);omega
  refine wG ?_;refine WB (j:=1) hk (fun B hS=>?_);refine zW ?_;refine Yd (fun q σ fz' H'=>∃ k:Nat,k<=n - 1/\q=n - 1 - k/\σ=[(45,Zk k),(44,Zk ((n - 1:Nat):Int)),(43,Zc B (n - 1) (ca - 1)),(8,Zp gb),(2,Zk i),(1,Zk w)]/\fz=fz'/\Bld gb (40::(lay w y (i+1)++layT w ((x.kids.drop 1).take k) (i+2))) H')
   ⟨0,Z0 _,rfl,rfl,rfl,hB2⟩ Zw Zb ?_
  rintro q σ fz' H' ⟨k,hk',rfl,rfl,rfl,hBk⟩;have hdl:(x.kids.drop 1).length=n - 1:=by rw [List.length_drop,l1]
  refine wC ?_ ?_<;>intro c1
  ·obtain ⟨z,hz⟩:=Yq (l:=x.kids.drop 1) (k:=k) Zi;have hzm:z∈x.kids:=List.mem_of_mem_drop (Zm hz);have hltz:=Sexpr.kids_lt hzm;have hcz:=Ybo hzm;have hdz:=WU.1 (Zs _) z hzm;have hzo:=hN.2 z hzm;have hzl:=Yge (w:=w) (i:=i+2) hzo Zi;have hlk:=hlT k;refine wI hS hz (fun p2 hp2=>?_);refine zL hp2 ?_;intro cs2 hcs2;obtain ⟨vk3,rfl,hR3⟩:=YaB hcs2;obtain ⟨A3,n3,c3,rfl,_⟩:=hR3.kids;refine zWO ?_;intros;rename_i gk;refine Yab [_] ?_;refine wG ?_;refine Xn (repeat_q (n:=i+2) Zi) ?_;refine zG ?_;refine Ydn (a:=[10]) Zz Zz (by simp;omega) ?_;refine wG ?_;refine Xn (YiG s (i:=i+2) Zi hR3 hzo Zi Zi hw hT) ?_;refine zG ?_;refine Ydn Zz Zz (by simp;omega) ?_;refine pU ?_;refine Yt (Does.perm (Zq (l₂:=[_])) (Ym _ [_] Zz (Yec (s:=strOf ([10]++List.replicate (i+2) 32++lay w z (i+2))) hBk (by rw [WV];simp only [List.length_cons,List.length_append,List.length_replicate,List.length_nil];omega)) (fun r2 fz2 H2 hle2 hR2=>?_)));obtain ⟨rfl,rfl,hB3⟩:=hR2;refine ⟨⟨Zd,by intro p hp;simp only [List.mem_singleton] at hp;subst hp;simp⟩,?_⟩;refine Ch.done ?_;have hB4:Bld gb (40::(lay w y (i+1)++layT w ((x.kids.drop 1).take (k+1)) (i+2))) H2:=by
    rw [YjP hz];rw [Yb1] at hB3;simpa only [List.cons_append,List.append_assoc,List.nil_append] using hB3
   refine zW ?_;exact YJ ⟨k+1,by omega,rfl,rfl,rfl,hB4⟩ Zi Zw (List.sublist_append_left _ _)
  have hk1:k=n - 1:=by omega
  subst hk1;rw [Zl Zi] at hBk;have hll:=hlT (n - 1);rw [Zl Zi] at hll;refine zW ?_;refine Yc (Ym _ [] ((List.append_nil _).symm) (YkF hBk (by simp) (by simp only [List.length_cons,List.length_append];omega)) (fun r2 fz2 H2 hle2 hR2=>?_));obtain ⟨rfl,rfl,rfl⟩:=hR2;refine zG ?_;refine Ydn (b:=[41]) Zz Zz (by simp only [List.length_cons,List.length_append,List.length_nil];omega) ?_;exact wR (h:=by rw [hl,hkk];rfl)
theorem YiH {x:Sexpr} (h:Yay fz x vk) (hT:TabF fz):
 QFn prog 77 [.agg #[Zk x.kind,Zk x.value,Zk x.line,Zk x.column,Zy x.text,vk],Zk 80] fz (if XVal x then .tuple #[Zy (strOf (lay 80 x 0)),.nilIface] else .tuple #[Ze,errV 2]):=by
 refine GFn.quiet ?_;obtain ⟨A,n,ca,rfl,hk⟩:=h.kids;refine zF Tryz.func77 Tryz.ntmps77 (fun w0=>?_);refine pX (fun g0=>?_);refine wb (xvalid_q h) (fun f1=>?_) (fun f1=>?_)
 ·have hv:=Zt f1;refine wG ?_;refine q_min ?_;refine wG ?_;refine Xn (YiG (w:=80) (i:=0) _ (Zs _) h hv.1 hv.2.2 (by have:=hv.2.1;omega) Zi hT) ?_;exact wS (h:=by exact (if_pos hv).symm)
 have hv:=Zf f1;exact wS (h:=by exact (if_neg hv).symm)
theorem Yip {x:Sexpr} (h:Yay fz x vk) (hv:XVal x) (hT:TabF fz):
 QFn prog 45 [.agg #[Zk x.kind,Zk x.value,Zk x.line,Zk x.column,Zy x.text,vk],.nilIface] fz (.tuple #[Zy (strOf (lay 80 x 0++ [10])),.nilIface]):=by
 obtain ⟨A,n,c,rfl,_⟩:=h.kids;have hL:=YiH h hT;rw [if_pos hv] at hL;have hl:=Yge (w:=80) (i:=0) hv.1 (by have:=hv.2.1;omega);have hc:=hv.2.2;refine qF Tryz.func45 Tryz.ntmps45 (fun w0=>?_);refine pX (fun g0=>?_);refine wc hL ?_;refine wG ?_;refine Ydn (b:=[10]) Zz Zz (by simp;omega) ?_;exact wS (h:=rfl)
end Go.Proofs.YtaaanbkahfeknaaGreatDoor
namespace Go.Proofs.YtaaanbkahfeknaaGreatDoor
open Go.Lx Go.Ev Go.RowKit
set_option maxRecDepth 100000
variable {α:Type} {v:Value} {s:Bs} {fz:FZ}
def YgF:AV->Bool
 | .tup [.agg [.s [100],.sl none 0 0 none,.sl none 0 0 none,.sl none 0 0 none,.sl none 0 0 none,.sl none 0 0 none,.sl none 0 0 none],.agg [.s [112],.s [100],.sl none 0 0 none,.sl none 0 0 none,.sl none 0 0 none,.s [97,110,100],.s [],.sl none 0 0 none,.sl none 0 0 none,.sl none 0 0 none,.sl none 0 0 none],.s [],.ni]=>true
 | _=>false
def YjL:Value:=.tuple #[.agg #[Zy ⟨#[100]⟩,Zn,Zn,Zn,Zn,Zn,Zn],.agg #[Zy ⟨#[112]⟩,Zy ⟨#[100]⟩,Zn,Zn,Zn,Zy ⟨#[97,110,100]⟩,Ze,Zn,Zn,Zn,Zn],Ze,.nilIface]
theorem YjZ {ν:Nu} {a:AV} (h:YgF a=true) (hv:gv ν a=some v):v=YjL:=by
 unfold YgF at h;split at h
 ·simp [gv,gvs,gA,gC] at hv;rw [<- hv];rfl
 cases h
def argAZ:List AV:=[.s [40,100,101,102,105,110,101,32,40,100,111,109,97,105,110,32,100,41,41],.s [40,100,101,102,105,110,101,32,40,112,114,111,98,108,101,109,32,112,41,32,40,58,100,111,109,97,105,110,32,100,41,41]]
theorem load_evZ:evCall tT.get F0 1000000 15 argAZ YgF=true:=by kernel_rfl
theorem load_qZ (fz:FZ):QFn prog 15 [Zy ⟨#[40,100,101,102,105,110,101,32,40,100,111,109,97,105,110,32,100,41,41]⟩,Zy ⟨#[40,100,101,102,105,110,101,32,40,112,114,111,98,108,101,109,32,112,41,32,40,58,100,111,109,97,105,110,32,100,41,41]⟩] fz YjL:=
 GFn.quiet ((evCall_s (fz:=fz) tT_ok F0_ok mixed (fun ν=>by simp [argAZ,gvs,gv];exact ⟨rfl,rfl⟩) load_evZ).mono fun _ _ _ ⟨_,_,_,hv,hk⟩=>YjZ hk hv)
def bDZ:Bs:=⟨#[100]⟩
theorem nilPZ {p:α->Prop}:∀ x∈([]:List α),p x:=fun _ h=>by cases h
def WrdPZ (s:Bs):Prop:=0<s.size/\s.size<=32/\(∀ b∈s.data.toList,(97<=(b.toNat:Int)/\(b.toNat:Int)<=122)\/(48<=(b.toNat:Int)/\(b.toNat:Int)<=57)\/b∈SymL)/\¬PreP s YbL/\¬DigP (Ybm s 0)
instance {s:Bs}:Decidable (WrdPZ s):=inferInstanceAs (Decidable (_/\_))
theorem wd_okZ (h:WrdPZ s):WordT s:=by
 obtain ⟨h1,h2,h3,h4,h5⟩:=h;refine ⟨fun h=>by rw [h] at h1;exact absurd h1 Zh,h2,h3,fun hn=>?_⟩;have h6:=hn.1 0 (by rw [YaV,if_neg h4];exact h1);rw [YaV,if_neg h4] at h6;exact h5 h6
theorem xlZ {k:Int} {l c:Int} {ks:List Sexpr} (hk:k=3) (h:∀ k∈ks,XOk k):XOk (.mk k 0 l c ⟨#[]⟩ ks):=Wo.2 ⟨.inr (.inr ⟨hk,rfl,rfl⟩),h⟩
theorem xwZ {l c:Int} (h:WordT s):XOk (.mk 1 0 l c s []):=Wo.2 ⟨.inl ⟨rfl,h,rfl,rfl⟩,by intro k hk;cases hk⟩
theorem xcZ {k:Sexpr} {r:List Sexpr} (h:XOk k) (h2:∀ j∈r,XOk j):∀ j∈k::r,XOk j:=List.forall_mem_cons.2 ⟨h,h2⟩
theorem xkZ {l c:Int} {r:List Sexpr} (h:WrdPZ s) (h2:∀ j∈r,XOk j):∀ j∈Sexpr.mk 1 0 l c s []::r,XOk j:=xcZ (xwZ (wd_okZ h)) h2
def kDfZ:Bs:=⟨#[100,101,102,105,110,101]⟩
def kDmZ:Bs:=⟨#[100,111,109,97,105,110]⟩
def sXZ:Sexpr:=Yd4 [WZ kDfZ,Yd4 [WZ kDmZ,WZ bDZ]]
theorem sX_valZ:XVal sXZ:=⟨xlZ rfl (xkZ (by decide+kernel) (xcZ (xlZ rfl (xkZ (by decide+kernel) (xkZ (by decide+kernel) nilPZ))) nilPZ)),by decide,by decide⟩
theorem lay_0Z:lay 80 sXZ 0++ [10]=[40,100,101,102,105,110,101,32,40,100,111,109,97,105,110,32,100,41,41,10]:=by
 rw [YcV (.inr (.inr Zh))];rfl
def mem0Z:Mem:=⟨[.agg [.s [100],.sl none 0 0 none,.sl none 0 0 none,.sl none 0 0 none,.sl none 0 0 none,.sl none 0 0 none,.sl none 0 0 none]],[],20000,.tup [.agg [.i .i64 3,.i .i64 0,.i .i64 0,.i .i64 0,.s [],.sl (some (20010,0)) 2 2 none],.ni],[(20008,.cells [.i .i64 1,.i .i64 0,.i .i64 0,.i .i64 0,.s [100,111,109,97,105,110],.sl none 0 0 none,.i .i64 1,.i .i64 0,.i .i64 0,.i .i64 0,.s [100],.sl none 0 0 none] 99 none false),(20010,.cells [.i .i64 1,.i .i64 0,.i .i64 0,.i .i64 0,.s [100,101,102,105,110,101],.sl none 0 0 none,.i .i64 3,.i .i64 0,.i .i64 0,.i .i64 0,.s [],.sl (some (20008,0)) 2 2 none] 99 none false)],40000⟩
theorem mem0_evZ:evMem tT.get F0 1000000 46 mem0Z=true:=by kernel_rfl
def YeY (a:Nat):List Value:=[Zk 3,Zk 0,Zk 0,Zk 0,Ze,Zv a 2 2]
theorem dW0Z:GFn prog 46 [.agg #[Zy bDZ,Zn,Zn,Zn,Zn,Zn,Zn]] fz [] (fun v fz' H'=>fz'=fz/\∃ a b,v=.tuple #[.agg (YeY b).toArray,.nilIface]/\(a,.cells (Ybi kDmZ++Ybi bDZ).toArray 99 (0,0))∈H'/\(b,.cells (Ybi kDfZ++YeY a).toArray 99 (0,0))∈H'):=by
 obtain ⟨h0,hs,hm⟩:=evMem_s tT_ok F0_ok mixed mem0_evZ;have hn:∀ id o,h0.get id=some o->False:=fun id o h=>by have:=hs id o h;cases this
 refine (hm fz ⟨fun _=>none,fun _=>none,fun _=>none⟩ _ [] [] (by rfl) ⟨fun id o h=>(hn id o h).elim,fun id id' o o' b h=>(hn id o h).elim,by simp,fun id cs e j fr h=>(hn _ _ h).elim⟩ (fun _ _=>⟨rfl,rfl,rfl⟩)).mono fun v fz' H' ⟨h1,ν',h',_,hv,hh,hz,_⟩=>?_
 obtain ⟨a,x,ha,hx,hma⟩:=hh.own _ _ (hz _ (.head _));obtain ⟨b,y,hb,hy,hmb⟩:=hh.own _ _ (hz _ (.tail _ (.head _)));have ex:x=.cells (Ybi kDmZ++Ybi bDZ).toArray 99 (0,0):=by
  simp [go,gvs,gv,gA,gC,gS,frz] at hx;exact hx.symm
 have ey:y=.cells (Ybi kDfZ++YeY a).toArray 99 (0,0):=by
  have ha':ν'.blk 20008=some a:=ha;simp [go,gvs,gv,gA,gC,gS,frz,ha'] at hy;exact hy.symm
 subst ex ey;refine ⟨h1,a,b,?_,hma,hmb⟩;have hb':ν'.blk 20010=some b:=hb;simp [mem0Z,gvs,gv,gA,gC,hb'] at hv;exact hv.symm
theorem pdom0Z (hT:TabF fz):QFn prog 14 [.agg #[Zy bDZ,Zn,Zn,Zn,Zn,Zn,Zn]] fz (.tuple #[Zy (strOf [40,100,101,102,105,110,101,32,40,100,111,109,97,105,110,32,100,41,41,10]),.nilIface]):=by
 refine qF Tryz.func14 Tryz.ntmps14 (fun w0=>?_);refine pX (fun g0=>?_);refine zW ?_;intros;refine wK (q:=dW0Z) (h:=fun v6 fz6 H6 hle6 hR6=>?_);obtain ⟨rfl,a,b,rfl,ha,hb⟩:=hR6;refine Seq.freezeAll (H1:=[_]) (H2:=H6) Zq (fun fz7 hle7 hf7=>?_);have h1:Sl YbE fz7 (some ⟨a,0,none⟩) 2 2 [WZ kDmZ,WZ bDZ]:=Yhg (hf7 _ ha) (ys:=[(WZ kDmZ,Ybi kDmZ),(WZ bDZ,Ybi bDZ)]) rfl rfl (by
  intro p hp;simp at hp;rcases hp with rfl | rfl
  ·exact Yc3 (by unfold Short;decide)
  exact Yc3 (by unfold Short;decide)) rfl Zh
 have h2:Sl YbE fz7 (some ⟨b,0,none⟩) 2 2 [WZ kDfZ,Yd4 [WZ kDmZ,WZ bDZ]]:=Yhg (hf7 _ hb) (ys:=[(WZ kDfZ,Ybi kDfZ),(Yd4 [WZ kDmZ,WZ bDZ],YeY a)]) rfl rfl (by
  intro p hp;simp at hp;rcases hp with rfl | rfl
  ·exact Yc3 (by unfold Short;decide)
  exact Ydf (x:=Yd4 [WZ kDmZ,WZ bDZ]) ⟨by show I64 3;unfold I64;omega,by show I64 0;unfold I64;omega,by show I64 0;unfold I64;omega,by show I64 0;unfold I64;omega,(by show Short ⟨#[]⟩;unfold Short;decide),h1.is⟩) rfl Zh
 have hX:Yay fz7 sXZ (Zv b 2 2):=⟨by show I64 3;unfold I64;omega,by show I64 0;unfold I64;omega,by show I64 0;unfold I64;omega,by show I64 0;unfold I64;omega,(by show Short ⟨#[]⟩;unfold Short;decide),h2.is⟩;refine zW ?_;intros;refine zc (Yip hX sX_valZ (hT.mono (hle6.trans hle7))) ?_;refine zW ?_;intros;exact wS (h:=by rw [lay_0Z];rfl)
theorem awake_c (hT:TabF fz):QFn prog 5 [] fz (Zo true):=by
 have hpd:=pdom0Z (fz:=fz) hT;have hld:=load_qZ fz;unfold YjL at hld;refine qF Tryz.func5 Tryz.ntmps5 (fun w0=>?_);refine zW ?_;intros;refine zc hpd ?_;refine zW ?_;intros;refine zc hld ?_;refine zW ?_;intros;refine zC ?_ ?_<;>intro e1
 ·refine zW ?_;intros;refine zC ?_ ?_<;>intro e2
  ·refine zW ?_;intros;refine zC ?_ ?_<;>intro e3
   ·refine zW ?_;intros;refine zC ?_ ?_<;>intro e4
    ·refine zW ?_;intros;exact zR (h:=rfl)
    exact absurd rfl e4
   exact absurd rfl e3
  exact absurd rfl e2
 exact absurd rfl e1
end Go.Proofs.YtaaanbkahfeknaaGreatDoor
namespace Go.Lx
open Go.RowKit Go.ChangeShapes Go.WideShapes Go.Deep
theorem YjM {α:Type} {p:Nat->α->Prop}:∀ {n:Nat},(∀ i,i<n->∃ d,p i d)->∃ ds:List α,ds.length=n/\∀ i d,ds[i]?=some d->p i d
 | 0,_=>⟨[],rfl,by simp⟩
 | n+1,h=>by
  obtain ⟨ds,h1,h2⟩:=YjM (n:=n) (fun i hi=>h i Zi);obtain ⟨d,hd⟩:=h n Zi;refine ⟨ds++ [d],by simp [h1],fun i e he=>?_⟩;by_cases hi:i<ds.length
  ·rw [List.getElem?_append_left hi] at he;exact h2 i e he
  have hl:=(Zg he).1;simp at hl;have:i=n:=by omega
  subst this;rw [List.getElem?_append_right Zi,h1] at he;simp at he;subst he;exact hd
section
variable {H:Type} {enc:TypeId × Value->H} {P:Program} {w:World} {base:Nat} {spare:Nat->Bool} {held:Bool}
variable {α:Type} {fz:FZ} {v:Value} {L:Lay α}
theorem Y0 {xs:List α} (h:(slL L).rep fz xs [v]):IsSl L fz v xs:=by
 obtain ⟨A,n,c,e,hs⟩:=h;injection e with e
 exact ⟨A,n,c,e,hs⟩
variable {s:Bs}
theorem W0 (h:strL.rep fz s [v]):v=.string s/\Short s:=by
 obtain ⟨e,hs⟩:=h;injection e with e
 exact ⟨e,hs⟩
theorem Ydy {n:Int} (h:intL.rep fz n [v]):v=Zk n/\I64 n:=by
 obtain ⟨e,hs⟩:=h;injection e with e
 exact ⟨e,hs⟩
end
end Go.Lx
set_option maxRecDepth 100000
namespace Go.Proofs.YtaaanbkahfeknaaGreatDoor
open Go.Lx Go.RowKit Go.ChangeShapes Go.WideShapes Go.Deep
theorem Yfc {H:Type} (d:DataW H):1<=Rows.uptoBulk d:=by
 cases d with
 | lit l=>cases l<;>simp [Rows.uptoBulk]
 | nil=>simp [Rows.uptoBulk]
 | ptr d=>simp [Rows.uptoBulk]
 | slice elems spare=>simp [Rows.uptoBulk]
 | agg parts=>simp [Rows.uptoBulk]
 | iface t d=>simp [Rows.uptoBulk]
 | map entries=>simp [Rows.uptoBulk]
 | held h=>simp [Rows.uptoBulk]
theorem YdP {H:Type} {d:DataW H}:∀ {l:List (DataW H)},d∈l->Rows.uptoBulk d<=Rows.uptoBulkAll l
 | [],h=>by cases h
 | x::r,h=>by
  simp only [Rows.uptoBulkAll];rcases List.mem_cons.1 h with rfl | h
  ·omega
  have:=YdP h;omega
theorem YhS {H:Type}:∀ (l:List (DataW H)),l.length<=Rows.uptoBulkAll l
 | []=>by simp [Rows.uptoBulkAll]
 | x::r=>by have:=Yfc x;have:=YhS r;simp only [Rows.uptoBulkAll,List.length_cons];omega
theorem YhR {H α:Type} {wt:α->Nat}:∀ {l:List (DataW H)} {ds:List α},ds.length=l.length->(∀ (i:Nat) (d:α) (x:DataW H),ds[i]?=some d->l[i]?=some x->wt d<=Rows.uptoBulk x)->(ds.map wt).sum<=Rows.uptoBulkAll l
 | [],ds,h,_=>by
  have:ds=[]:=List.eq_nil_of_length_eq_zero (by simpa using h);subst this;simp
 | x::r,ds,h,hh=>by
  cases ds with
  | nil=>simp at h
  | cons d ds=>
   have h1:=hh 0 d x rfl rfl;have h2:=YhR (l:=r) (ds:=ds) (wt:=wt) (by simpa using h) (fun i e y he hy=>hh (i+1) e y (by simpa using he) (by simpa using hy));simp only [List.map_cons,List.sum_cons,Rows.uptoBulkAll];omega
section
variable {H:Type} {enc:TypeId × Value->H} {P:Program} {w:World} {base:Nat} {spare:Nat->Bool} {held:Bool}
def Xj (enc:TypeId × Value->H) (P:Program) (w:World) (base:Nat) (spare:Nat->Bool) (held:Bool) {α:Type} (L:Lay α) (wt:α->Nat) (t:TypeId) (fuel:Nat):Prop:=
 ∀ cs x,DataW.trod enc P w base spare held fuel t cs=some x->Rows.uptoBulk x.1<=1048576->∃ d,L.rep (fzOf w) d cs/\wt d<=Rows.uptoBulk x.1
variable {α:Type} {e t:TypeId} {fuel:Nat} {L:Lay α}
theorem YU {wt:α->Nat} (ht:P.underlying t=some (.slice e)) (hc:P.cellsOf e=L.size) (he:∀ n,n<fuel->Xj enc P w base spare held L wt e n):Xj enc P w base spare held (slL L) (fun l=>(l.map wt).sum) t fuel:=fun cs x h hq=>by
 rcases DataW.trod_slice ht h with ⟨rfl,_⟩ | ⟨a,len,cap,elems,rest,n,hfu,rfl,rfl,_,hl,hm,hlen,hel,_,_⟩
 ·exact ⟨[],⟨none,0,0,rfl,Sl.nil⟩,by simp⟩
 have hbd:Rows.uptoBulkAll (elems.map (·.1))+1<=Rows.uptoBulk (.slice (elems.map (·.1)) (rest.map (·.1)):DataW H):=by simp only [Rows.uptoBulk];omega
 have hbl:=YhS (elems.map (·.1));rw [List.length_map] at hbl;obtain ⟨ds,h1,h2⟩:=YjM (p:=fun i d=>At L (fzOf w) (a.add (i*L.size)) d/\∀ y,elems[i]?=some y->wt d<=Rows.uptoBulk y.1) (n:=len) (fun i hil=>by
  have hx:elems[i]?=some (elems[i]'Zi):=List.getElem?_eq_getElem _;have h3:=hel i hil;rw [hx] at h3;cases hcs:w.cells? base (a.add (i*P.cellsOf e)) (P.cellsOf e) with
  | none=>rw [hcs] at h3;cases h3
  | some cs'=>
   rw [hcs] at h3;have hpt:=YdP (d:=(elems[i]'Zi).1) (l:=elems.map (·.1)) (List.mem_map.2 ⟨_,Zm hx,rfl⟩);have hq':Rows.uptoBulk (.slice (elems.map (·.1)) (rest.map (·.1)):DataW H)<=1048576:=hq;obtain ⟨d,hd,hw⟩:=he n Zi _ _ h3 Zi;obtain ⟨_,hlen,hat⟩:=World.cells?_some hcs;refine ⟨d,⟨cs',hd,fun j u hu=>?_⟩,fun y hy=>by rw [hx] at hy;injection hy with hy;subst hy;exact hw⟩;have hj:j<cs'.length:=(Zg hu).1;rw [<- hc];exact cellF_of ((hat j Zi).trans hu))
 have hq':Rows.uptoBulk (.slice (elems.map (·.1)) (rest.map (·.1)):DataW H)<=1048576:=hq;refine ⟨ds,⟨some a,len,cap,rfl,h1,hl,by simpa [maxLen] using hm,by omega,.inr ⟨a,rfl,fun i d hd=>(h2 i d hd).1⟩⟩,?_⟩;have:=YhR (wt:=wt) (ds:=ds) (l:=elems.map (·.1)) (by rw [List.length_map];omega) (fun i d x hd hx=>by
  rw [List.getElem?_map] at hx;cases hy:elems[i]? with
  | none=>rw [hy] at hx;cases hx
  | some y=>rw [hy] at hx;injection hx with hx;subst hx;exact (h2 i d hd).2 y hy)
 exact Nat.le_trans (Nat.le_trans this (Nat.le_succ _)) hbd
variable {cs:List Value} {i k n:Nat}
theorem Yi {wt:α->Nat} {fs:Array Field} {xs:List (DataW H × List MemPlace)} (hf:∀ (i:Nat) (f:Field),fs[i]?=some f->DataW.trod enc P w base spare held n f.type ((cs.drop f.offset).take (P.cellsOf f.type))=xs[i]?)
 (hq:Rows.uptoBulkAll (xs.map (·.1))<=1048576) {f:Field} {y:DataW H × List MemPlace} (hi:fs[i]?=some f) (hy:xs[i]?=some y) (he:Xj enc P w base spare held L wt f.type n) {cs':List Value} (hv:(cs.drop f.offset).take k=cs') (hc:P.cellsOf f.type=k:=by kernel_rfl):
 ∃ d,L.rep (fzOf w) d cs'/\wt d<=Rows.uptoBulk y.1:=by
 have h1:=hf i f hi;rw [hc,hy,hv] at h1;have:=YdP (d:=y.1) (l:=xs.map (·.1)) (List.mem_map.2 ⟨_,Zm hy,rfl⟩);exact he _ _ h1 Zi
end
section
variable {H:Type} {enc:TypeId × Value->H} {w:World} {base:Nat} {spare:Nat->Bool} {held:Bool}
variable {fuel:Nat}
theorem YaE:Xj enc prog w base spare held intL (fun _=>1) 3 fuel:=fun cs x h _=>by
 obtain ⟨n,h1,_,h2⟩:=DataW.trod_int Tryz.underlying3 h;exact ⟨n,⟨h1,by simp [Lit.wf,IntKind.min,IntKind.max,IntKind.signed,IntKind.bits] at h2;unfold I64;omega⟩,Yfc _⟩
theorem Xl:Xj enc prog w base spare held strL strW 9 fuel:=fun cs x h _=>by
 obtain ⟨s,h1,_,h2⟩:=DataW.trod_string Tryz.underlying9 h;exact ⟨s,⟨h1,by simpa [maxLen] using h2⟩,Yfc _⟩
theorem YbI:Xj enc prog w base spare held (slL strL) (fun l=>(l.map strW).sum) 31 fuel:=YU Tryz.underlying31 Zj (fun _ _=>Xl)
theorem YfL:Xj enc prog w base spare held paramL parW 110 fuel:=fun cs x h hq0=>by
 obtain ⟨xs,n,hfu,rfl,hcl,hxl,hf⟩:=DataW.trod_struct Tryz.underlying110 h;have hc:prog.cellsOf 110=2:=by kernel_rfl
 rw [hc] at hcl;have hq:Rows.uptoBulkAll (xs.map (·.1))<=1048576:=by simp only [Rows.uptoBulk] at hq0;omega
 match cs,hcl,xs,hxl,hf,hq with
 | [v0,v1],_,[x0,x1],_,hf,hq=>
  obtain ⟨d0,r0,b0⟩:=(Yi hf hq (i:=0) (k:=1) (y:=x0) (cs':=[v0]) rfl rfl Xl rfl);obtain ⟨rfl,k0⟩:=W0 r0;obtain ⟨d1,r1,b1⟩:=(Yi hf hq (i:=1) (k:=1) (y:=x1) (cs':=[v1]) rfl rfl Xl rfl);obtain ⟨rfl,k1⟩:=W0 r1;refine ⟨⟨d0,d1⟩,⟨rfl,⟨k0,k1⟩⟩,?_⟩;simp only [List.map_cons,List.map_nil,Rows.uptoBulk,Rows.uptoBulkAll,parW];simp only [XV,XW] at*;omega
theorem Y2:Xj enc prog w base spare held (slL paramL) (fun l=>(l.map parW).sum) 22 fuel:=YU Tryz.underlying22 Zj (fun _ _=>YfL)
theorem Ydt:Xj enc prog w base spare held atomL Yfd 83 fuel:=fun cs x h hq0=>by
 obtain ⟨xs,n,hfu,rfl,hcl,hxl,hf⟩:=DataW.trod_struct Tryz.underlying83 h;have hc:prog.cellsOf 83=2:=by kernel_rfl
 rw [hc] at hcl;have hq:Rows.uptoBulkAll (xs.map (·.1))<=1048576:=by simp only [Rows.uptoBulk] at hq0;omega
 match cs,hcl,xs,hxl,hf,hq with
 | [v0,v1],_,[x0,x1],_,hf,hq=>
  obtain ⟨d0,r0,b0⟩:=(Yi hf hq (i:=0) (k:=1) (y:=x0) (cs':=[v0]) rfl rfl Xl rfl);obtain ⟨rfl,k0⟩:=W0 r0;obtain ⟨d1,r1,b1⟩:=(Yi hf hq (i:=1) (k:=1) (y:=x1) (cs':=[v1]) rfl rfl YbI rfl);have k1:=Y0 r1;refine ⟨⟨d0,d1⟩,⟨_,rfl,⟨k0,k1⟩⟩,?_⟩;simp only [List.map_cons,List.map_nil,Rows.uptoBulk,Rows.uptoBulkAll,Yfd];simp only [XV,XW] at*;omega
theorem YfN:Xj enc prog w base spare held (slL atomL) (fun l=>(l.map Yfd).sum) 29 fuel:=YU Tryz.underlying29 Zj (fun _ _=>Ydt)
theorem YfK:Xj enc prog w base spare held valueL Ycr 86 fuel:=fun cs x h hq0=>by
 obtain ⟨xs,n,hfu,rfl,hcl,hxl,hf⟩:=DataW.trod_struct Tryz.underlying86 h;have hc:prog.cellsOf 86=3:=by kernel_rfl
 rw [hc] at hcl;have hq:Rows.uptoBulkAll (xs.map (·.1))<=1048576:=by simp only [Rows.uptoBulk] at hq0;omega
 match cs,hcl,xs,hxl,hf,hq with
 | [v0,v1,v2],_,[x0,x1],_,hf,hq=>
  obtain ⟨d0,r0,b0⟩:=(Yi hf hq (i:=0) (k:=2) (y:=x0) (cs':=[v0,v1]) rfl rfl Ydt rfl);obtain ⟨y0_0,e0,k0⟩:=YN r0;simp only [List.cons.injEq,and_true] at e0;obtain ⟨rfl,rfl⟩:=e0;obtain ⟨d1,r1,b1⟩:=(Yi hf hq (i:=1) (k:=1) (y:=x1) (cs':=[v2]) rfl rfl YaE rfl);obtain ⟨rfl,k1⟩:=Ydy r1;refine ⟨⟨d0,d1⟩,⟨_,rfl,⟨k0,k1⟩⟩,?_⟩;simp only [List.map_cons,List.map_nil,Rows.uptoBulk,Rows.uptoBulkAll,Ycr];simp only [XV,XW] at*;omega
theorem YeR:Xj enc prog w base spare held (slL valueL) (fun l=>(l.map Ycr).sum) 30 fuel:=YU Tryz.underlying30 Zj (fun _ _=>YfK)
theorem Ydr:∀ fuel:Nat,Xj enc prog w base spare held exprL eW 93 fuel:=fun fuel=>by
 induction fuel using Nat.strongRecOn with
 | _ fuel ih=>
  intro cs x h hq0;obtain ⟨xs,n,hfu,rfl,hcl,hxl,hf⟩:=DataW.trod_struct Tryz.underlying93 h;have hc:prog.cellsOf 93=5:=by kernel_rfl
  rw [hc] at hcl;have hq:Rows.uptoBulkAll (xs.map (·.1))<=1048576:=by simp only [Rows.uptoBulk] at hq0;omega
  match cs,hcl,xs,hxl,hf,hq with
  | [v0,v1,v2,v3,v4],_,[x0,x1,x2,x3,x4],_,hf,hq=>
   obtain ⟨d0,r0,b0⟩:=(Yi hf hq (i:=0) (k:=1) (y:=x0) (cs':=[v0]) rfl rfl Xl rfl);obtain ⟨rfl,k0⟩:=W0 r0;obtain ⟨d1,r1,b1⟩:=(Yi hf hq (i:=1) (k:=1) (y:=x1) (cs':=[v1]) rfl rfl Xl rfl);obtain ⟨rfl,k1⟩:=W0 r1;obtain ⟨d2,r2,b2⟩:=(Yi hf hq (i:=2) (k:=1) (y:=x2) (cs':=[v2]) rfl rfl YaE rfl);obtain ⟨rfl,k2⟩:=Ydy r2;obtain ⟨d3,r3,b3⟩:=(Yi hf hq (i:=3) (k:=1) (y:=x3) (cs':=[v3]) rfl rfl YbI rfl);have k3:=Y0 r3;obtain ⟨d4,r4,b4⟩:=(Yi hf hq (i:=4) (k:=1) (y:=x4) (cs':=[v4]) rfl rfl (YU (L:=exprL) Tryz.underlying32 Zj (fun m hm=>ih m Zi)) rfl);have k4:=Y0 r4;refine ⟨.mk d0 d1 d2 d3 d4,Ybe (x:=.mk d0 d1 d2 d3 d4) ⟨k0,k1,k2,k3,k4⟩,?_⟩;simp only [List.map_cons,List.map_nil,Rows.uptoBulk,Rows.uptoBulkAll,eW_eq,Expr.args,Expr.kids];simp only [XV,XW] at*;omega
theorem YfM:Xj enc prog w base spare held (slL exprL) (fun l=>(l.map eW).sum) 32 fuel:=YU Tryz.underlying32 Zj (fun _ _=>Ydr _)
theorem Xv:∀ fuel:Nat,Xj enc prog w base spare held formulaL fW 35 fuel:=fun fuel=>by
 induction fuel using Nat.strongRecOn with
 | _ fuel ih=>
  intro cs x h hq0;obtain ⟨xs,n,hfu,rfl,hcl,hxl,hf⟩:=DataW.trod_struct Tryz.underlying35 h;have hc:prog.cellsOf 35=6:=by kernel_rfl
  rw [hc] at hcl;have hq:Rows.uptoBulkAll (xs.map (·.1))<=1048576:=by simp only [Rows.uptoBulk] at hq0;omega
  match cs,hcl,xs,hxl,hf,hq with
  | [v0,v1,v2,v3,v4,v5],_,[x0,x1,x2,x3,x4,x5],_,hf,hq=>
   obtain ⟨d0,r0,b0⟩:=(Yi hf hq (i:=0) (k:=1) (y:=x0) (cs':=[v0]) rfl rfl Xl rfl);obtain ⟨rfl,k0⟩:=W0 r0;obtain ⟨d1,r1,b1⟩:=(Yi hf hq (i:=1) (k:=1) (y:=x1) (cs':=[v1]) rfl rfl Xl rfl);obtain ⟨rfl,k1⟩:=W0 r1;obtain ⟨d2,r2,b2⟩:=(Yi hf hq (i:=2) (k:=1) (y:=x2) (cs':=[v2]) rfl rfl YbI rfl);have k2:=Y0 r2;obtain ⟨d3,r3,b3⟩:=(Yi hf hq (i:=3) (k:=1) (y:=x3) (cs':=[v3]) rfl rfl Y2 rfl);have k3:=Y0 r3;obtain ⟨d4,r4,b4⟩:=(Yi hf hq (i:=4) (k:=1) (y:=x4) (cs':=[v4]) rfl rfl YfM rfl);have k4:=Y0 r4;obtain ⟨d5,r5,b5⟩:=(Yi hf hq (i:=5) (k:=1) (y:=x5) (cs':=[v5]) rfl rfl (YU (L:=formulaL) Tryz.underlying33 Zj (fun m hm=>ih m Zi)) rfl);have k5:=Y0 r5;refine ⟨.mk d0 d1 d2 d3 d4 d5,WQ (x:=.mk d0 d1 d2 d3 d4 d5) ⟨k0,k1,k2,k3,k4,k5⟩,?_⟩;simp only [List.map_cons,List.map_nil,Rows.uptoBulk,Rows.uptoBulkAll,fW_eq,Formula.args,Formula.params,Formula.exprs,Formula.kids];simp only [XV,XW] at*;omega
theorem YeT:Xj enc prog w base spare held changeL XZ 95 fuel:=fun cs x h hq0=>by
 obtain ⟨xs,n,hfu,rfl,hcl,hxl,hf⟩:=DataW.trod_struct Tryz.underlying95 h;have hc:prog.cellsOf 95=15:=by kernel_rfl
 rw [hc] at hcl;have hq:Rows.uptoBulkAll (xs.map (·.1))<=1048576:=by simp only [Rows.uptoBulk] at hq0;omega
 match cs,hcl,xs,hxl,hf,hq with
 | [v0,v1,v2,v3,v4,v5,v6,v7,v8,v9,v10,v11,v12,v13,v14],_,[x0,x1,x2,x3,x4,x5],_,hf,hq=>
  obtain ⟨d0,r0,b0⟩:=(Yi hf hq (i:=0) (k:=1) (y:=x0) (cs':=[v0]) rfl rfl YaE rfl);obtain ⟨rfl,k0⟩:=Ydy r0;obtain ⟨d1,r1,b1⟩:=(Yi hf hq (i:=1) (k:=1) (y:=x1) (cs':=[v1]) rfl rfl Y2 rfl);have k1:=Y0 r1;obtain ⟨d2,r2,b2⟩:=(Yi hf hq (i:=2) (k:=6) (y:=x2) (cs':=[v2,v3,v4,v5,v6,v7]) rfl rfl (Xv _) rfl);obtain ⟨y2_0,y2_1,y2_2,y2_3,e2,k2⟩:=YI r2;simp only [List.cons.injEq,and_true] at e2;obtain ⟨rfl,rfl,rfl,rfl,rfl,rfl⟩:=e2;obtain ⟨d3,r3,b3⟩:=(Yi hf hq (i:=3) (k:=1) (y:=x3) (cs':=[v8]) rfl rfl Xl rfl);obtain ⟨rfl,k3⟩:=W0 r3;obtain ⟨d4,r4,b4⟩:=(Yi hf hq (i:=4) (k:=1) (y:=x4) (cs':=[v9]) rfl rfl YbI rfl);have k4:=Y0 r4;obtain ⟨d5,r5,b5⟩:=(Yi hf hq (i:=5) (k:=5) (y:=x5) (cs':=[v10,v11,v12,v13,v14]) rfl rfl (Ydr _) rfl);obtain ⟨y5_0,y5_1,e5,k5⟩:=Xe r5;simp only [List.cons.injEq,and_true] at e5;obtain ⟨rfl,rfl,rfl,rfl,rfl⟩:=e5;refine ⟨⟨d0,d1,d2,d3,d4,d5⟩,⟨_,_,_,_,_,_,_,_,rfl,⟨k0,k1,k2,k3,k4,k5⟩⟩,?_⟩;simp only [List.map_cons,List.map_nil,Rows.uptoBulk,Rows.uptoBulkAll,XZ];simp only [XV,XW] at*;omega
theorem Yal:Xj enc prog w base spare held (slL changeL) (fun l=>(l.map XZ).sum) 45 fuel:=YU Tryz.underlying45 Zj (fun _ _=>YeT)
theorem YcJ:Xj enc prog w base spare held predicateL YfH 59 fuel:=fun cs x h hq0=>by
 obtain ⟨xs,n,hfu,rfl,hcl,hxl,hf⟩:=DataW.trod_struct Tryz.underlying59 h;have hc:prog.cellsOf 59=2:=by kernel_rfl
 rw [hc] at hcl;have hq:Rows.uptoBulkAll (xs.map (·.1))<=1048576:=by simp only [Rows.uptoBulk] at hq0;omega
 match cs,hcl,xs,hxl,hf,hq with
 | [v0,v1],_,[x0,x1],_,hf,hq=>
  obtain ⟨d0,r0,b0⟩:=(Yi hf hq (i:=0) (k:=1) (y:=x0) (cs':=[v0]) rfl rfl Xl rfl);obtain ⟨rfl,k0⟩:=W0 r0;obtain ⟨d1,r1,b1⟩:=(Yi hf hq (i:=1) (k:=1) (y:=x1) (cs':=[v1]) rfl rfl Y2 rfl);have k1:=Y0 r1;refine ⟨⟨d0,d1⟩,⟨_,rfl,⟨k0,k1⟩⟩,?_⟩;simp only [List.map_cons,List.map_nil,Rows.uptoBulk,Rows.uptoBulkAll,YfH];simp only [XV,XW] at*;omega
theorem Yb6:Xj enc prog w base spare held (slL predicateL) (fun l=>(l.map YfH).sum) 23 fuel:=YU Tryz.underlying23 Zj (fun _ _=>YcJ)
theorem Ydq:Xj enc prog w base spare held functionL funW 61 fuel:=fun cs x h hq0=>by
 obtain ⟨xs,n,hfu,rfl,hcl,hxl,hf⟩:=DataW.trod_struct Tryz.underlying61 h;have hc:prog.cellsOf 61=4:=by kernel_rfl
 rw [hc] at hcl;have hq:Rows.uptoBulkAll (xs.map (·.1))<=1048576:=by simp only [Rows.uptoBulk] at hq0;omega
 match cs,hcl,xs,hxl,hf,hq with
 | [v0,v1,v2,v3],_,[x0,x1,x2,x3],_,hf,hq=>
  obtain ⟨d0,r0,b0⟩:=(Yi hf hq (i:=0) (k:=1) (y:=x0) (cs':=[v0]) rfl rfl Xl rfl);obtain ⟨rfl,k0⟩:=W0 r0;obtain ⟨d1,r1,b1⟩:=(Yi hf hq (i:=1) (k:=1) (y:=x1) (cs':=[v1]) rfl rfl Y2 rfl);have k1:=Y0 r1;obtain ⟨d2,r2,b2⟩:=(Yi hf hq (i:=2) (k:=1) (y:=x2) (cs':=[v2]) rfl rfl YaE rfl);obtain ⟨rfl,k2⟩:=Ydy r2;obtain ⟨d3,r3,b3⟩:=(Yi hf hq (i:=3) (k:=1) (y:=x3) (cs':=[v3]) rfl rfl YaE rfl);obtain ⟨rfl,k3⟩:=Ydy r3;refine ⟨⟨d0,d1,d2,d3⟩,⟨_,rfl,⟨k0,k1,k2,k3⟩⟩,?_⟩;simp only [List.map_cons,List.map_nil,Rows.uptoBulk,Rows.uptoBulkAll,funW];simp only [XV,XW] at*;omega
theorem YcK:Xj enc prog w base spare held (slL functionL) (fun l=>(l.map funW).sum) 24 fuel:=YU Tryz.underlying24 Zj (fun _ _=>Ydq)
theorem YeU:Xj enc prog w base spare held actionL actW 47 fuel:=fun cs x h hq0=>by
 obtain ⟨xs,n,hfu,rfl,hcl,hxl,hf⟩:=DataW.trod_struct Tryz.underlying47 h;have hc:prog.cellsOf 47=10:=by kernel_rfl
 rw [hc] at hcl;have hq:Rows.uptoBulkAll (xs.map (·.1))<=1048576:=by simp only [Rows.uptoBulk] at hq0;omega
 match cs,hcl,xs,hxl,hf,hq with
 | [v0,v1,v2,v3,v4,v5,v6,v7,v8,v9],_,[x0,x1,x2,x3,x4],_,hf,hq=>
  obtain ⟨d0,r0,b0⟩:=(Yi hf hq (i:=0) (k:=1) (y:=x0) (cs':=[v0]) rfl rfl Xl rfl);obtain ⟨rfl,k0⟩:=W0 r0;obtain ⟨d1,r1,b1⟩:=(Yi hf hq (i:=1) (k:=1) (y:=x1) (cs':=[v1]) rfl rfl Y2 rfl);have k1:=Y0 r1;obtain ⟨d2,r2,b2⟩:=(Yi hf hq (i:=2) (k:=1) (y:=x2) (cs':=[v2]) rfl rfl YaE rfl);obtain ⟨rfl,k2⟩:=Ydy r2;obtain ⟨d3,r3,b3⟩:=(Yi hf hq (i:=3) (k:=6) (y:=x3) (cs':=[v3,v4,v5,v6,v7,v8]) rfl rfl (Xv _) rfl);obtain ⟨y3_0,y3_1,y3_2,y3_3,e3,k3⟩:=YI r3;simp only [List.cons.injEq,and_true] at e3;obtain ⟨rfl,rfl,rfl,rfl,rfl,rfl⟩:=e3;obtain ⟨d4,r4,b4⟩:=(Yi hf hq (i:=4) (k:=1) (y:=x4) (cs':=[v9]) rfl rfl Yal rfl);have k4:=Y0 r4;refine ⟨⟨d0,d1,d2,d3,d4⟩,⟨_,_,_,_,_,_,rfl,⟨k0,k1,k2,k3,k4⟩⟩,?_⟩;simp only [List.map_cons,List.map_nil,Rows.uptoBulk,Rows.uptoBulkAll,actW];simp only [XV,XW] at*;omega
theorem Yd3:Xj enc prog w base spare held (slL actionL) (fun l=>(l.map actW).sum) 25 fuel:=YU Tryz.underlying25 Zj (fun _ _=>YeU)
theorem Yds:Xj enc prog w base spare held durativeL durW 50 fuel:=fun cs x h hq0=>by
 obtain ⟨xs,n,hfu,rfl,hcl,hxl,hf⟩:=DataW.trod_struct Tryz.underlying50 h;have hc:prog.cellsOf 50=23:=by kernel_rfl
 rw [hc] at hcl;have hq:Rows.uptoBulkAll (xs.map (·.1))<=1048576:=by simp only [Rows.uptoBulk] at hq0;omega
 match cs,hcl,xs,hxl,hf,hq with
 | [v0,v1,v2,v3,v4,v5,v6,v7,v8,v9,v10,v11,v12,v13,v14,v15,v16,v17,v18,v19,v20,v21,v22],_,[x0,x1,x2,x3,x4,x5,x6,x7],_,hf,hq=>
  obtain ⟨d0,r0,b0⟩:=(Yi hf hq (i:=0) (k:=1) (y:=x0) (cs':=[v0]) rfl rfl Xl rfl);obtain ⟨rfl,k0⟩:=W0 r0;obtain ⟨d1,r1,b1⟩:=(Yi hf hq (i:=1) (k:=1) (y:=x1) (cs':=[v1]) rfl rfl Y2 rfl);have k1:=Y0 r1;obtain ⟨d2,r2,b2⟩:=(Yi hf hq (i:=2) (k:=1) (y:=x2) (cs':=[v2]) rfl rfl YaE rfl);obtain ⟨rfl,k2⟩:=Ydy r2;obtain ⟨d3,r3,b3⟩:=(Yi hf hq (i:=3) (k:=6) (y:=x3) (cs':=[v3,v4,v5,v6,v7,v8]) rfl rfl (Xv _) rfl);obtain ⟨y3_0,y3_1,y3_2,y3_3,e3,k3⟩:=YI r3;simp only [List.cons.injEq,and_true] at e3;obtain ⟨rfl,rfl,rfl,rfl,rfl,rfl⟩:=e3;obtain ⟨d4,r4,b4⟩:=(Yi hf hq (i:=4) (k:=6) (y:=x4) (cs':=[v9,v10,v11,v12,v13,v14]) rfl rfl (Xv _) rfl);obtain ⟨y4_0,y4_1,y4_2,y4_3,e4,k4⟩:=YI r4;simp only [List.cons.injEq,and_true] at e4;obtain ⟨rfl,rfl,rfl,rfl,rfl,rfl⟩:=e4;obtain ⟨d5,r5,b5⟩:=(Yi hf hq (i:=5) (k:=6) (y:=x5) (cs':=[v15,v16,v17,v18,v19,v20]) rfl rfl (Xv _) rfl);obtain ⟨y5_0,y5_1,y5_2,y5_3,e5,k5⟩:=YI r5;simp only [List.cons.injEq,and_true] at e5;obtain ⟨rfl,rfl,rfl,rfl,rfl,rfl⟩:=e5;obtain ⟨d6,r6,b6⟩:=(Yi hf hq (i:=6) (k:=1) (y:=x6) (cs':=[v21]) rfl rfl Yal rfl);have k6:=Y0 r6;obtain ⟨d7,r7,b7⟩:=(Yi hf hq (i:=7) (k:=1) (y:=x7) (cs':=[v22]) rfl rfl Yal rfl);have k7:=Y0 r7;refine ⟨⟨d0,d1,d2,d3,d4,d5,d6,d7⟩,⟨_,_,_,_,_,_,_,_,_,_,_,_,_,_,_,rfl,⟨k0,k1,k2,k3,k4,k5,k6,k7⟩⟩,?_⟩;simp only [List.map_cons,List.map_nil,Rows.uptoBulk,Rows.uptoBulkAll,durW];simp only [XV,XW] at*;omega
theorem YcL:Xj enc prog w base spare held (slL durativeL) (fun l=>(l.map durW).sum) 26 fuel:=YU Tryz.underlying26 Zj (fun _ _=>Yds)
theorem YeS:Xj enc prog w base spare held domainL domW 28 fuel:=fun cs x h hq0=>by
 obtain ⟨xs,n,hfu,rfl,hcl,hxl,hf⟩:=DataW.trod_struct Tryz.underlying28 h;have hc:prog.cellsOf 28=7:=by kernel_rfl
 rw [hc] at hcl;have hq:Rows.uptoBulkAll (xs.map (·.1))<=1048576:=by simp only [Rows.uptoBulk] at hq0;omega
 match cs,hcl,xs,hxl,hf,hq with
 | [v0,v1,v2,v3,v4,v5,v6],_,[x0,x1,x2,x3,x4,x5,x6],_,hf,hq=>
  obtain ⟨d0,r0,b0⟩:=(Yi hf hq (i:=0) (k:=1) (y:=x0) (cs':=[v0]) rfl rfl Xl rfl);obtain ⟨rfl,k0⟩:=W0 r0;obtain ⟨d1,r1,b1⟩:=(Yi hf hq (i:=1) (k:=1) (y:=x1) (cs':=[v1]) rfl rfl Y2 rfl);have k1:=Y0 r1;obtain ⟨d2,r2,b2⟩:=(Yi hf hq (i:=2) (k:=1) (y:=x2) (cs':=[v2]) rfl rfl Y2 rfl);have k2:=Y0 r2;obtain ⟨d3,r3,b3⟩:=(Yi hf hq (i:=3) (k:=1) (y:=x3) (cs':=[v3]) rfl rfl Yb6 rfl);have k3:=Y0 r3;obtain ⟨d4,r4,b4⟩:=(Yi hf hq (i:=4) (k:=1) (y:=x4) (cs':=[v4]) rfl rfl YcK rfl);have k4:=Y0 r4;obtain ⟨d5,r5,b5⟩:=(Yi hf hq (i:=5) (k:=1) (y:=x5) (cs':=[v5]) rfl rfl Yd3 rfl);have k5:=Y0 r5;obtain ⟨d6,r6,b6⟩:=(Yi hf hq (i:=6) (k:=1) (y:=x6) (cs':=[v6]) rfl rfl YcL rfl);have k6:=Y0 r6;refine ⟨⟨d0,d1,d2,d3,d4,d5,d6⟩,⟨_,_,_,_,_,_,rfl,⟨k0,k1,k2,k3,k4,k5,k6⟩⟩,?_⟩;simp only [List.map_cons,List.map_nil,Rows.uptoBulk,Rows.uptoBulkAll,domW];simp only [XV,XW] at*;omega
theorem Yd2:Xj enc prog w base spare held problemL prbW 37 fuel:=fun cs x h hq0=>by
 obtain ⟨xs,n,hfu,rfl,hcl,hxl,hf⟩:=DataW.trod_struct Tryz.underlying37 h;have hc:prog.cellsOf 37=11:=by kernel_rfl
 rw [hc] at hcl;have hq:Rows.uptoBulkAll (xs.map (·.1))<=1048576:=by simp only [Rows.uptoBulk] at hq0;omega
 match cs,hcl,xs,hxl,hf,hq with
 | [v0,v1,v2,v3,v4,v5,v6,v7,v8,v9,v10],_,[x0,x1,x2,x3,x4,x5],_,hf,hq=>
  obtain ⟨d0,r0,b0⟩:=(Yi hf hq (i:=0) (k:=1) (y:=x0) (cs':=[v0]) rfl rfl Xl rfl);obtain ⟨rfl,k0⟩:=W0 r0;obtain ⟨d1,r1,b1⟩:=(Yi hf hq (i:=1) (k:=1) (y:=x1) (cs':=[v1]) rfl rfl Xl rfl);obtain ⟨rfl,k1⟩:=W0 r1;obtain ⟨d2,r2,b2⟩:=(Yi hf hq (i:=2) (k:=1) (y:=x2) (cs':=[v2]) rfl rfl Y2 rfl);have k2:=Y0 r2;obtain ⟨d3,r3,b3⟩:=(Yi hf hq (i:=3) (k:=1) (y:=x3) (cs':=[v3]) rfl rfl YfN rfl);have k3:=Y0 r3;obtain ⟨d4,r4,b4⟩:=(Yi hf hq (i:=4) (k:=1) (y:=x4) (cs':=[v4]) rfl rfl YeR rfl);have k4:=Y0 r4;obtain ⟨d5,r5,b5⟩:=(Yi hf hq (i:=5) (k:=6) (y:=x5) (cs':=[v5,v6,v7,v8,v9,v10]) rfl rfl (Xv _) rfl);obtain ⟨y5_0,y5_1,y5_2,y5_3,e5,k5⟩:=YI r5;simp only [List.cons.injEq,and_true] at e5;obtain ⟨rfl,rfl,rfl,rfl,rfl,rfl⟩:=e5;refine ⟨⟨d0,d1,d2,d3,d4,d5⟩,⟨_,_,_,_,_,_,_,rfl,⟨k0,k1,k2,k3,k4,k5⟩⟩,?_⟩;simp only [List.map_cons,List.map_nil,Rows.uptoBulk,Rows.uptoBulkAll,prbW];simp only [XV,XW] at*;omega
variable {α:Type} {t:TypeId} {v:Value} {L:Lay α}
theorem Ycy {wt:α->Nat} {fs:Array Field} {r:Reach} {b0:Nat} {d:DataW H} {p:List MemPlace} (hu:prog.underlying t=some (.struct fs)) (ho:∀ fuel,Xj enc prog w base spare held L wt t fuel) (hv:Value.okWide prog w r b0 t v) (h:DataW.Trod enc prog w base spare held t v d p) (hq:Rows.uptoBulk d<=1048576):
 ∃ x cs,v=.agg (List.toArray cs)/\L.rep (fzOf w) x cs/\wt x<=1048576:=by
 obtain ⟨cs,rfl,hsz⟩:=okWide_struct hu hv;obtain ⟨l⟩:=cs;obtain ⟨fuel,hf⟩:=h;obtain ⟨x,hx,hw⟩:=ho fuel _ _ hf hq;exact ⟨x,l,rfl,hx,Nat.le_trans hw hq⟩
end
end Go.Proofs.YtaaanbkahfeknaaGreatDoor
namespace Go.Proofs.YtaaanbkahfeknaaGreatDoor
open Go.ChangeShapes Go.WideShapes Go.ChangeAt Go.RowKit Go.Lx
variable {d:Domain} {fz:FZ} {p:Problem} {u1 u2 u3 u4 u5 u6 u7 v1 v2 v3 v4 v5 v6:Value}
theorem Ybs:ownKnob Tryz.prog.godebug=none:=by kernel_rfl
theorem W7:laidOutB Tryz.prog=true:=by kernel_rfl
theorem YeE {W:World} (h:laidMetH Tryz.prog Rows.printerCanonicalUptoRow.laid W):TabF (fzOf W):=by
 have h1:=h.filter (fun x=>x.1== "internal/strconv.uint64pow10");have h2:laidMetH Tryz.prog [("internal/strconv.uint64pow10",Rows.laid_internal_strconv_uint64pow10)] W:=h1;rw [MakeChecks.laidMetH_plain _ _ _ Zj] at h2;have h3:Lib.TabIs Tryz.prog W "internal/strconv.uint64pow10" .u64 Lib.pow10Tab:=Lib.tabIs_of_head (rest:=[]) (g:=1) (t:=354) (e:=247) (n:=20) Zj Zj Tryz.underlying354 Tryz.underlying247 Zj Zj h2;intro w hw;have hg:Tryz.prog.globalNamed "internal/strconv.uint64pow10"=some 1:=by kernel_rfl
 unfold Lib.TabIs World.var? at h3 ⊢;rw [hg] at h3 ⊢;simp only [Option.bind_some] at h3 ⊢;cases hb:W.heap[1]? with
 | none=>rw [hb] at h3;cases h3
 | some o=>
  rw [hb] at h3;rw [hw.keep 1 o hb];exact h3
theorem lcanon_q (hT:TabF fz) (hD:DomainR fz d v1 v2 v3 v4 v5 v6) (hP:ProblemR fz p u1 u2 u3 u4 u5 u6 u7) (w1:domW d<=100000000) (w2:prbW p<=100000000):
 QFn Tryz.prog 3 [.agg #[.string d.name,v1,v2,v3,v4,v5,v6],.agg #[.string p.name,.string p.domain,u1,u2,u3,.string p.goal.op,.string p.goal.name,u4,u5,u6,u7]] fz (.bool true):=
 GFn.quiet ((lcanon_f hD hP w1 w2 (awake_c hT)).mono fun _ _ _ h=>h.2)
theorem YcI (os:Os) {H:Type} (enc:TypeId × Value->H):∃ places,DataW.whole enc Tryz.prog ((World.laidAll Tryz.prog os Rows.printerCanonicalUptoRow.laid).forCall (fun _ _=>0) ⟨#[],#[.agg #[.string ⟨#[]⟩,.slice none 0 0,.slice none 0 0,.slice none 0 0,.slice none 0 0,.slice none 0 0,.slice none 0 0],.agg #[.string ⟨#[]⟩,.string ⟨#[]⟩,.slice none 0 0,.slice none 0 0,.slice none 0 0,.string ⟨#[]⟩,.string ⟨#[]⟩,.slice none 0 0,.slice none 0 0,.slice none 0 0,.slice none 0 0]],[]⟩).memory Tryz.f3.params.toList (Rows.OpenSpec.upto Rows.printerCanonicalSpec).vars false (#[.agg #[.string ⟨#[]⟩,.slice none 0 0,.slice none 0 0,.slice none 0 0,.slice none 0 0,.slice none 0 0,.slice none 0 0],.agg #[.string ⟨#[]⟩,.string ⟨#[]⟩,.slice none 0 0,.slice none 0 0,.slice none 0 0,.string ⟨#[]⟩,.string ⟨#[]⟩,.slice none 0 0,.slice none 0 0,.slice none 0 0,.slice none 0 0]]:Array Value).toList 8=some ([.agg [.lit (.string []),.nil,.nil,.nil,.nil,.nil,.nil],.agg [.lit (.string []),.lit (.string []),.nil,.nil,.nil,.agg [.lit (.string []),.lit (.string []),.nil,.nil,.nil,.nil]]],[],places):=⟨[],by kernel_rfl⟩
set_option maxRecDepth 100000 in
theorem Yb2 (os:Os) (started:os.Started) (H:Type) (enc:TypeId × Value->H) (F:Stop.Interp):
 ReturnsInHanded {} Tryz.checked os 3 .any ((Rows.OpenSpec.upto Rows.printerCanonicalSpec).preRow enc Tryz.prog Tryz.f3 Rows.printerCanonicalUptoRow.domain false Rows.printerCanonicalUptoRow.laid) (((Rows.OpenSpec.upto Rows.printerCanonicalSpec).at F).post enc Tryz.prog Tryz.f3 false true false false):=by
 obtain ⟨places,hx⟩:=YcI os enc;refine returnsInHanded_of_row (C:=Tryz.checked) (s:=Rows.OpenSpec.upto Rows.printerCanonicalSpec) Ybs started Zj Tryz.func3
  ⟨World.laidAll Tryz.prog os Rows.printerCanonicalUptoRow.laid,fun _ _=>0,⟨#[],#[.agg #[.string ⟨#[]⟩,.slice none 0 0,.slice none 0 0,.slice none 0 0,.slice none 0 0,.slice none 0 0,.slice none 0 0],.agg #[.string ⟨#[]⟩,.string ⟨#[]⟩,.slice none 0 0,.slice none 0 0,.slice none 0 0,.string ⟨#[]⟩,.string ⟨#[]⟩,.slice none 0 0,.slice none 0 0,.slice none 0 0,.slice none 0 0]],[]⟩,World.laidAll_os _ _ _,World.shaped_of_ZipB Zj Zj,rfl,(Input.okWide_of_okWideB Zj).2,
   OpenSpec.preRow_of_cond 8 hx Zj (fun k hk=>by cases hk;kernel_rfl) Zj (by rw [MakeChecks.laidMetH_plain _ _ _ Zj];exact laidMet_laidAll _ Zj Zj),
   by simp only [Assume.holds];exact ⟨by simp,by simp,fun _=>Modest.zero,by simp,by simp⟩⟩ ?_
 intro W base args ds gs before hval0 hW _ hcond _ hL _ _;have hval:∀ (j:Nat) t v,Tryz.f3.params[j]?=some t->args[j]?=some v->Value.okWide Tryz.prog W .any base t v:=hval0;have hbk:Rows.uptoSmall H (ds++gs)=true:=hcond _ rfl;have hW':DataW.Whole enc Tryz.prog Tryz.f3.params.toList Rows.printerCanonicalSpec.vars false W args.toList ds gs before:=hW;obtain ⟨p,q,hA0,hV,rfl,_,_⟩:=hW;have hA:DataW.TrodAll enc Tryz.prog W 0 (fun _=>true) true Tryz.f3.params.toList args.toList ds p:=hA0;rw [Tryz.params3] at hA hval;obtain ⟨v0,v1,d0,d1,p0,p1,rfl,rfl,rfl,h0,h1⟩:=trodAll_two hA;obtain ⟨rfl,rfl⟩:=trodVars_none hV;clear hA0 hval0;simp only [List.append_nil] at hW';have hlt:∀ x∈p0++p1,x.block<W.heap.size:=fun x hx=>hW'.lt x hx
 have hq:Rows.uptoBulk d0<=1048576/\Rows.uptoBulk d1<=1048576:=by
  have h9:=of_decide_eq_true hbk;simp only [List.append_nil,Rows.uptoBulkAll] at h9;omega
 obtain ⟨x,cs,rfl,⟨u1,u2,u3,u4,u5,u6,rfl,hg⟩,hw⟩:=Ycy Tryz.underlying28 (fun _=>YeS) (hval 0 28 v0 rfl rfl) h0 hq.1;obtain ⟨y,cs,rfl,⟨z1,z2,z3,z4,z5,z6,z7,rfl,hp⟩,hw2⟩:=Ycy Tryz.underlying37 (fun _=>Yd2) (hval 1 37 v1 rfl rfl) h1 hq.2;refine ((lcanon_q (YeE hL) hg hp Zi Zi).calls (hp_of W)).mono fun e W' ⟨he1,hfr⟩=>?_
 have hb:=below_of hfr;have k0:=Below.trod W7 Zj (of_decide_eq_true Zj) h0 hb (fun x hx=>hlt x (by simp [hx]));have k1:=Below.trod W7 Zj (of_decide_eq_true Zj) h1 hb (fun x hx=>hlt x (by simp [hx]));show ∃ v,e=.returned v/\Rows.printerCanonicalSpec.post enc Tryz.prog Tryz.f3 false true false false W _ v W';exact ⟨_,he1,[d0,d1],[],_,[],_,[],hW',trodAll_mk1 (shut_bool Tryz.underlying4 true),trodAll_mk2 k0 k1,rfl,hb.frame _,fun h=>by cases h⟩
end Go.Proofs.YtaaanbkahfeknaaGreatDoor
