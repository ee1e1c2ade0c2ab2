/- The texts Shelf, PWalkU, PWalkV, PRefN, PRefP, PWt, PBnd, PSame, PSize, PLines, PLawD, laid together. Conditions: none. -/
import Derived.Test.YtbhlgkibgajajaaGreatDoorQLJ
import Derived.Test.YtbhlgkibgajajaaGreatDoorQLH
import Derived.Test.YtbhlgkibgajajaaGreatDoorQLB
import Derived.Test.YtbhlgkibgajajaaGreatDoorQLC
import Derived.Test.YtbhlgkibgajajaaGreatDoorQLD
import Derived.Shelf.Strings.Builder1
import Derived.Shelf.Strings.Builder2
import Derived.Shelf.Strings.OnBuilder
import Derived.Shelf.Small.Strs
import Derived.Shelf.Strings.BuilderF
import Derived.Shelf.Strconv.Itoa0
import Derived.Shelf.Strconv.Itoa1
import Derived.Shelf.LaysM
import Derived.Shelf.Strconv.Itoa2
import Derived.Shelf.Strconv.Itoa3
import Derived.Shelf.Strings.Search1
import Derived.Shelf.Strings.Search2
import Derived.Shelf.Strings.Search3
import Derived.Shelf.Strings.Shaped
import Derived.Shelf.Strings.Prefix
import Derived.Shelf.Bits.Mul64
import Derived.Shelf.Strings.Repeat
import Derived.Test.YtbhlgkibgajajaaGreatDoorChecked
import Derived.Test.YtbhlgkibgajajaaGreatDoorQLE
import Derived.Test.YtbhlgkibgajajaaGreatDoorQLK
import Derived.Test.YtbhlgkibgajajaaGreatDoorQLG
import Derived.Test.YtbhlgkibgajajaaGreatDoorQLI
import Derived.Test.YtbhlgkibgajajaaGreatDoorQLF
namespace Go.Proofs
open Go.Shelf
def Tryz.lays156_ren:Go.Shelf.Ren:=⟨fun | 156=>197 | 165=>201 | 166=>139 | 169=>141 | 240=>198 | 241=>241 | 276=>237 | 277=>269 | n=>n,fun | 31=>32 | 9=>9 | 3=>3 | 4=>4 | 0=>0 | 20=>20 | 72=>194 | 76=>195 | 70=>191 | 37=>192 | 75=>41 | 127=>254 | 164=>283 | 5=>5 | 80=>198 | n=>n,fun | n=>n⟩
theorem Tryz.lays156:Go.Proofs.Lays.n156 Tryz.prog Tryz.lays156_ren:={
 mixed:=by kernel_rfl
 f156:=Tryz.func197.trans (congrArg some (by kernel_rfl))
 f165:=Tryz.func201.trans (congrArg some (by kernel_rfl))
 f166:=Tryz.func139.trans (congrArg some (by kernel_rfl))
 f169:=Tryz.func141.trans (congrArg some (by kernel_rfl))
 f240:=Tryz.func198.trans (congrArg some (by kernel_rfl))
 f241:=Tryz.func241.trans (congrArg some (by kernel_rfl))
 f276:=Tryz.func237.trans (congrArg some (by kernel_rfl))
 f277:=Tryz.func269.trans (congrArg some (by kernel_rfl))
 t0:=Tryz.underlying0
 a0:=Tryz.isAgg0
 z0:=Tryz.sizeOf0
 v0:=Tryz.zeroValue0
 t3:=Tryz.underlying3
 a3:=Tryz.isAgg3
 z3:=Tryz.sizeOf3
 v3:=Tryz.zeroValue3
 t4:=Tryz.underlying4
 a4:=Tryz.isAgg4
 z4:=Tryz.sizeOf4
 v4:=Tryz.zeroValue4
 t9:=Tryz.underlying9
 a9:=Tryz.isAgg9
 z9:=Tryz.sizeOf9
 v9:=Tryz.zeroValue9
 t20:=Tryz.underlying20
 a20:=Tryz.isAgg20
 z20:=Tryz.sizeOf20
 v20:=Tryz.zeroValue20
 t31:=Tryz.underlying32
 a31:=Tryz.isAgg32
 z31:=Tryz.sizeOf32
 v31:=Tryz.zeroValue32
 t37:=Tryz.underlying192
 a37:=Tryz.isAgg192
 z37:=Tryz.sizeOf192
 v37:=Tryz.zeroValue192
 t70:=Tryz.underlying191
 a70:=Tryz.isAgg191
 z70:=Tryz.sizeOf191
 v70:=Tryz.zeroValue191
 t72:=Tryz.underlying194
 a72:=Tryz.isAgg194
 z72:=Tryz.sizeOf194
 v72:=Tryz.zeroValue194
 t75:=Tryz.underlying41
 a75:=Tryz.isAgg41
 z75:=Tryz.sizeOf41
 v75:=Tryz.zeroValue41
 t76:=Tryz.underlying195
 a76:=Tryz.isAgg195
 z76:=Tryz.sizeOf195
 v76:=Tryz.zeroValue195
 t127:=Tryz.underlying254
 a127:=Tryz.isAgg254
 z127:=Tryz.sizeOf254
 v127:=Tryz.zeroValue254
 t164:=Tryz.underlying283
 a164:=Tryz.isAgg283
 z164:=Tryz.sizeOf283
 v164:=Tryz.zeroValue283}
theorem Tryz.Builder_Extra_156:Builder.Extra Tryz.prog Tryz.lays156_ren:={
 sizeBuilder:=by kernel_rfl
 liesBuilder:=by kernel_rfl
 t5:=Tryz.underlying5
 a5:=Tryz.isAgg5
 z5:=Tryz.sizeOf5
 v5:=Tryz.zeroValue5
 infoByte:=by kernel_rfl
 cellsByte:=by kernel_rfl
 sizeByte:=by kernel_rfl
 neB5:=by decide}
open Go.RowKit in
/-- No element: the empty string; the world is as1 it was. (Whatever the slice's address and capacity: a nil slice too.) (LAID: no walk: one application.) -/
theorem Tryz.strings_Join_none (a:Option Addr) (c:Nat) (sep:ByteArray) (w:World):
 Calls Tryz.prog 197 #[.slice a 0 c,.string sep] w fun e w'=>e=.returned (.string ⟨#[]⟩)∧w'=w:=Any.strings_Join_none Tryz.lays156 Tryz.Builder_Extra_156 a c sep w
open Go.RowKit in
/-- strings.Join: "Join concatenates the elements of its first argument to create a single string. The separator string sep is placed between elements in the resulting string.": HOWEVER MANY ELEMENTS. Below the heap's end the world is as1 it was. (LAID: no walk: one application.) -/
theorem Tryz.strings_Join (bk o c:Nat) (xs:List ByteArray) (sep:ByteArray) (w:World) (hcells:∀ (j:Nat) x,xs[j]?=some x→w.cell? ⟨bk,o+j,none⟩=some (.string x)) (hbk:bk<w.heap.size) (hN:xs.length≤140737488355328) (hcap:xs.length≤c) (hlen:(Lib.join (xs.map (·.data.toList)) sep.data.toList).length≤140737488355328):
 Calls Tryz.prog 197 #[.slice (some ⟨bk,o,none⟩) xs.length c,.string sep] w fun e w'=>e=.returned (.string ⟨(Lib.join (xs.map (·.data.toList)) sep.data.toList).toArray⟩)∧Below w.heap.size w w':=Any.strings_Join Tryz.lays156 Tryz.Builder_Extra_156 bk o c xs sep w hcells hbk hN hcap hlen
def Tryz.laysM171_ren:Go.Shelf.Ren:=⟨fun | 171=>54 | 243=>103 | 246=>170 | 283=>218 | 284=>219 | 285=>220 | 286=>221 | 129=>250 | 317=>249 | 318=>251 | 319=>252 | 320=>253 | 337=>272 | 338=>273 | n=>n,fun | 3=>3 | 9=>9 | 2=>2 | 4=>4 | 171=>262 | 0=>0 | 53=>263 | 37=>192 | 5=>5 | 173=>266 | 212=>293 | 51=>285 | 20=>20 | 213=>294 | 46=>248 | 232=>313 | 233=>314 | n=>n,fun | 17=>0 | 18=>2 | 19=>3 | n=>n⟩
theorem Tryz.laysM171:Go.Proofs.LaysM.n171 Tryz.prog Tryz.laysM171_ren:={
 mixed:=by kernel_rfl
 f129:=Tryz.func250.trans (congrArg some (by kernel_rfl))
 f171:=Tryz.func54.trans (congrArg some (by kernel_rfl))
 f243:=Tryz.func103.trans (congrArg some (by kernel_rfl))
 f246:=Tryz.func170.trans (congrArg some (by kernel_rfl))
 f283:=Tryz.func218.trans (congrArg some (by kernel_rfl))
 f284:=Tryz.func219.trans (congrArg some (by kernel_rfl))
 f285:=Tryz.func220.trans (congrArg some (by kernel_rfl))
 f286:=Tryz.func221.trans (congrArg some (by kernel_rfl))
 f317:=Tryz.func249.trans (congrArg some (by kernel_rfl))
 f318:=Tryz.func251.trans (congrArg some (by kernel_rfl))
 f319:=Tryz.func252.trans (congrArg some (by kernel_rfl))
 f320:=Tryz.func253.trans (congrArg some (by kernel_rfl))
 f337:=Tryz.func272.trans (congrArg some (by kernel_rfl))
 f338:=Tryz.func273.trans (congrArg some (by kernel_rfl))
 t0:=Tryz.underlying0
 a0:=Tryz.isAgg0
 z0:=Tryz.sizeOf0
 v0:=Tryz.zeroValue0
 t2:=Tryz.underlying2
 a2:=Tryz.isAgg2
 z2:=Tryz.sizeOf2
 v2:=Tryz.zeroValue2
 t3:=Tryz.underlying3
 a3:=Tryz.isAgg3
 z3:=Tryz.sizeOf3
 v3:=Tryz.zeroValue3
 t4:=Tryz.underlying4
 a4:=Tryz.isAgg4
 z4:=Tryz.sizeOf4
 v4:=Tryz.zeroValue4
 t5:=Tryz.underlying5
 a5:=Tryz.isAgg5
 z5:=Tryz.sizeOf5
 v5:=Tryz.zeroValue5
 t9:=Tryz.underlying9
 a9:=Tryz.isAgg9
 z9:=Tryz.sizeOf9
 v9:=Tryz.zeroValue9
 t20:=Tryz.underlying20
 a20:=Tryz.isAgg20
 z20:=Tryz.sizeOf20
 v20:=Tryz.zeroValue20
 t37:=Tryz.underlying192
 a37:=Tryz.isAgg192
 z37:=Tryz.sizeOf192
 v37:=Tryz.zeroValue192
 t46:=Tryz.underlying248
 a46:=Tryz.isAgg248
 z46:=Tryz.sizeOf248
 v46:=Tryz.zeroValue248
 t51:=Tryz.underlying285
 a51:=Tryz.isAgg285
 z51:=Tryz.sizeOf285
 v51:=Tryz.zeroValue285
 t53:=Tryz.underlying263
 a53:=Tryz.isAgg263
 z53:=Tryz.sizeOf263
 v53:=Tryz.zeroValue263
 t171:=Tryz.underlying262
 a171:=Tryz.isAgg262
 z171:=Tryz.sizeOf262
 v171:=Tryz.zeroValue262
 t173:=Tryz.underlying266
 a173:=Tryz.isAgg266
 z173:=Tryz.sizeOf266
 v173:=Tryz.zeroValue266
 t212:=Tryz.underlying293
 a212:=Tryz.isAgg293
 z212:=Tryz.sizeOf293
 v212:=Tryz.zeroValue293
 t213:=Tryz.underlying294
 a213:=Tryz.isAgg294
 z213:=Tryz.sizeOf294
 t232:=Tryz.underlying313
 a232:=Tryz.isAgg313
 z232:=Tryz.sizeOf313
 v232:=Tryz.zeroValue313
 t233:=Tryz.underlying314
 a233:=Tryz.isAgg314
 z233:=Tryz.sizeOf314
 v233:=Tryz.zeroValue314
 g17:=by kernel_rfl
 g18:=by kernel_rfl
 g19:=by kernel_rfl
 i0:=by kernel_rfl
 i2:=by kernel_rfl
 i3:=by kernel_rfl
 i4:=by kernel_rfl
 i5:=by kernel_rfl
 i9:=by kernel_rfl
 i20:=by kernel_rfl
 i37:=by kernel_rfl
 i46:=by kernel_rfl
 i51:=by kernel_rfl
 i53:=by kernel_rfl
 i171:=by kernel_rfl
 i173:=by kernel_rfl
 i212:=by kernel_rfl
 i232:=by kernel_rfl
 i233:=by kernel_rfl
 m17:=by kernel_rfl
 m18:=by kernel_rfl
 m19:=by kernel_rfl}
open Go.RowKit Go.Sort Go.Lib in
/-- strconv.Itoa: "Itoa is equivalent to FormatInt(int64(i), 10).": i's DECIMAL NUMERAL ('Lib.itoa': a '-' where i is negative, then the digits), FOR EVERY int. The world behind the call: the world before it, new blocks behind the heap (the library's 'var a [24]byte'), draws. (LAID: no walk: one application.) -/
theorem Tryz.strconv_Itoa (n:Int) (h0: -9223372036854775808≤n) (h1:n≤9223372036854775807) (w:World) (htab:Lib.TabIs Tryz.prog w "internal/strconv.uint64pow10" .u64 Lib.pow10Tab):
 Calls Tryz.prog 54 #[.int .i64 n] w fun e w'=>e=.returned (.string ⟨(Lib.itoa n).toArray⟩)∧∃ k os,w'=grow (w.drewN k) os:=Any.strconv_Itoa Tryz.laysM171 n h0 h1 w htab
def Tryz.lays105_ren:Go.Shelf.Ren:=⟨fun | 105=>140 | 212=>199 | 99=>200 | 165=>201 | 166=>139 | 170=>202 | 169=>141 | 263=>238 | 264=>239 | 206=>240 | 240=>198 | 241=>241 | 276=>237 | 277=>269 | n=>n,fun | 9=>9 | 3=>3 | 4=>4 | 20=>20 | 0=>0 | 46=>248 | 109=>249 | 5=>5 | 72=>194 | 76=>195 | 51=>285 | 146=>286 | 53=>263 | 148=>288 | 70=>191 | 37=>192 | 75=>41 | 127=>254 | 164=>283 | 80=>198 | n=>n,fun | n=>n⟩
theorem Tryz.lays105:Go.Proofs.Lays.n105 Tryz.prog Tryz.lays105_ren:={
 mixed:=by kernel_rfl
 f99:=Tryz.func200.trans (congrArg some (by kernel_rfl))
 f105:=Tryz.func140.trans (congrArg some (by kernel_rfl))
 f165:=Tryz.func201.trans (congrArg some (by kernel_rfl))
 f166:=Tryz.func139.trans (congrArg some (by kernel_rfl))
 f169:=Tryz.func141.trans (congrArg some (by kernel_rfl))
 f170:=Tryz.func202.trans (congrArg some (by kernel_rfl))
 f206:=Tryz.func240.trans (congrArg some (by kernel_rfl))
 f212:=Tryz.func199.trans (congrArg some (by kernel_rfl))
 f240:=Tryz.func198.trans (congrArg some (by kernel_rfl))
 f241:=Tryz.func241.trans (congrArg some (by kernel_rfl))
 f263:=Tryz.func238.trans (congrArg some (by kernel_rfl))
 f264:=Tryz.func239.trans (congrArg some (by kernel_rfl))
 f276:=Tryz.func237.trans (congrArg some (by kernel_rfl))
 f277:=Tryz.func269.trans (congrArg some (by kernel_rfl))
 t0:=Tryz.underlying0
 a0:=Tryz.isAgg0
 z0:=Tryz.sizeOf0
 v0:=Tryz.zeroValue0
 t3:=Tryz.underlying3
 a3:=Tryz.isAgg3
 z3:=Tryz.sizeOf3
 v3:=Tryz.zeroValue3
 t4:=Tryz.underlying4
 a4:=Tryz.isAgg4
 z4:=Tryz.sizeOf4
 v4:=Tryz.zeroValue4
 t5:=Tryz.underlying5
 a5:=Tryz.isAgg5
 z5:=Tryz.sizeOf5
 v5:=Tryz.zeroValue5
 t9:=Tryz.underlying9
 a9:=Tryz.isAgg9
 z9:=Tryz.sizeOf9
 v9:=Tryz.zeroValue9
 t20:=Tryz.underlying20
 a20:=Tryz.isAgg20
 z20:=Tryz.sizeOf20
 v20:=Tryz.zeroValue20
 t37:=Tryz.underlying192
 a37:=Tryz.isAgg192
 z37:=Tryz.sizeOf192
 v37:=Tryz.zeroValue192
 t46:=Tryz.underlying248
 a46:=Tryz.isAgg248
 z46:=Tryz.sizeOf248
 v46:=Tryz.zeroValue248
 t51:=Tryz.underlying285
 a51:=Tryz.isAgg285
 z51:=Tryz.sizeOf285
 v51:=Tryz.zeroValue285
 t53:=Tryz.underlying263
 a53:=Tryz.isAgg263
 z53:=Tryz.sizeOf263
 v53:=Tryz.zeroValue263
 t70:=Tryz.underlying191
 a70:=Tryz.isAgg191
 z70:=Tryz.sizeOf191
 v70:=Tryz.zeroValue191
 t72:=Tryz.underlying194
 a72:=Tryz.isAgg194
 z72:=Tryz.sizeOf194
 v72:=Tryz.zeroValue194
 t75:=Tryz.underlying41
 a75:=Tryz.isAgg41
 z75:=Tryz.sizeOf41
 v75:=Tryz.zeroValue41
 t76:=Tryz.underlying195
 a76:=Tryz.isAgg195
 z76:=Tryz.sizeOf195
 v76:=Tryz.zeroValue195
 t109:=Tryz.underlying249
 a109:=Tryz.isAgg249
 z109:=Tryz.sizeOf249
 v109:=Tryz.zeroValue249
 t127:=Tryz.underlying254
 a127:=Tryz.isAgg254
 z127:=Tryz.sizeOf254
 v127:=Tryz.zeroValue254
 t146:=Tryz.underlying286
 a146:=Tryz.isAgg286
 z146:=Tryz.sizeOf286
 v146:=Tryz.zeroValue286
 t148:=Tryz.underlying288
 a148:=Tryz.isAgg288
 z148:=Tryz.sizeOf288
 v148:=Tryz.zeroValue288
 t164:=Tryz.underlying283
 a164:=Tryz.isAgg283
 z164:=Tryz.sizeOf283
 v164:=Tryz.zeroValue283}
theorem Tryz.Builder_Extra_105:Builder.Extra Tryz.prog Tryz.lays105_ren:={
 sizeBuilder:=by kernel_rfl
 liesBuilder:=by kernel_rfl
 t5:=Tryz.underlying5
 a5:=Tryz.isAgg5
 z5:=Tryz.sizeOf5
 v5:=Tryz.zeroValue5
 infoByte:=by kernel_rfl
 cellsByte:=by kernel_rfl
 sizeByte:=by kernel_rfl
 neB5:=by decide}
open Go.RowKit Go.Lib in
/-- **strings.Repeat: count ≥ 0, the result within one allocation: count copies of s.** (LAID: no walk: one application.) -/
theorem Tryz.strings_Repeat (s:ByteArray) (c:Nat) (w:World) (hc:c≤9223372036854775807) (hlen:s.size*c≤140737488355328):
 Calls Tryz.prog 140 #[.string s,.int .i64 c] w fun e w'=>e=.returned (.string ⟨(Lib.repeatL s.data.toList c).toArray⟩)∧Below w.heap.size w w':=Any.strings_Repeat Tryz.lays105 Tryz.Builder_Extra_105 s c w hc hlen
end Go.Proofs
set_option maxRecDepth 20000
namespace Go.Proofs.YtbhlgkibgajajaaGreatDoor
open Go.Lx Go.RowKit
attribute [local instance 10] Classical.propDecidable
theorem YgJ {w w':World} (h:Below w.heap.size w w'):Fr [] w w':=⟨h.os,h.tape,h.output,h.size,fun b hb _=>h.block b hb⟩
def TabF (fz:FZ):Prop:=∀ w,Hp fz [] w→Lib.TabIs Tryz.prog w "internal/strconv.uint64pow10" .u64 Lib.pow10Tab
theorem TabF.mono {fz fz':FZ} (hle:Le fz fz') (h:TabF fz):TabF fz':=fun w hw=>h w ⟨fun b o hb=>hw.keep b o (hle b o hb),by simp,by simp⟩
theorem itoa_q {fz:FZ} {n:Int} (hT:TabF fz) (h:YdF n):QFn Tryz.prog 54 [.int .i64 n] fz (.string (strOf (Lib.itoa n))):=by
 unfold QFn
 refine ⟨⟨_,Tryz.func54,by decide,by decide⟩,fun w hw=>?_⟩
 unfold YdF at h
 refine (Tryz.strconv_Itoa n Zi Zi w (hT w hw)).mono fun e w' ⟨he,k,os,hw'⟩=>⟨he,?_⟩
 subst hw'
 exact ⟨rfl,rfl,rfl,by show w.heap.size≤(w.heap++os).size;rw [Array.size_append];omega,fun b hb _=>Sort.heap_grow_old (w.drewN k) os hb⟩
theorem repeat_q {fz:FZ} {n:Nat} (h:n≤1000000000):QFn Tryz.prog 140 [.string ⟨#[32]⟩,.int .i64 n] fz (.string (strOf (List.replicate n 32))):=by
 unfold QFn
 refine ⟨⟨_,Tryz.func140,by decide,by decide⟩,fun w hw=>?_⟩
 refine (Tryz.strings_Repeat ⟨#[32]⟩ n w Zi (by show 1*n≤_;omega)).mono fun e w' ⟨he,hb⟩=>⟨?_,YgJ hb⟩
 rw [he,← Ye4]
 rfl
theorem join_q {fz fz':FZ} {v:Value} {n:Nat} {Hs:HP} {l:List (List UInt8)} (hg:Grow strL 9 fz v n Hs (l.map strOf)) (hf:∀ p∈Hs,fz' p.1=some p.2) (hn:n≤1000000000) (hlen:(Lib.join l [32]).length≤1000000000):
 QFn Tryz.prog 197 [v,.string ⟨#[32]⟩] fz' (.string (strOf (Lib.join l [32]))):=by
 unfold QFn
 refine ⟨⟨_,Tryz.func197,by decide,by decide⟩,fun w hw=>?_⟩
 have hd:(l.map strOf).map (fun x=>x.data.toList)=l:=by
  rw [List.map_map]
  calc l.map _=l.map id:=List.map_congr_left fun t _=>YbX t
   _=l:=List.map_id l
 obtain ⟨xs,h1,h2,h3,h4⟩:=hg
 rcases h4.2 with ⟨rfl,h0,_⟩ | ⟨g,cap,cur,rfl,hH,h6,h7,h8,h9⟩
 ·have hl:l=[]:=List.eq_nil_of_length_eq_zero (by have:=h3;rw [List.length_map] at this;omega)
  subst hl
  refine (Tryz.strings_Join_none none 0 ⟨#[32]⟩ w).mono fun e w' ⟨he,hb⟩=>⟨?_,by subst hb;exact Fr.refl _ _⟩
  rw [he];rfl
 ·have hb:=hw.keep _ _ (hf (g,.cells cur 9 (0,0)) (by rw [hH];simp))
  have hsh:∀ p∈xs,p.2=[Value.string p.1]:=fun p hp=>(h2 p hp).1
  have hfl:xs.flatMap Prod.snd=(l.map strOf).map Value.string:=by
   rw [← h1,List.map_map]
   clear h1 h3 h4 h9 h2
   induction xs with
   | nil=>rfl
   | cons a r ih=>rw [List.flatMap_cons,hsh a (by simp),ih (fun p hp=>hsh p (by simp [hp]))];rfl
  have hcells:∀ (j:Nat) x,(l.map strOf)[j]?=some x→w.cell? ⟨g,0+j,none⟩=some (.string x):=by
   intro j x hx
   have hj:j<n:=by have:=(List.getElem?_eq_some_iff.1 hx).1;omega
   have h10:(cur.toList.take (n*1))[j]?=some (.string x):=by
    have h9':cur.toList.take (n*1)=xs.flatMap Prod.snd:=h9
    rw [h9',hfl,List.getElem?_map,hx];rfl
   rw [List.getElem?_take,if_pos Zi] at h10
   rw [Nat.zero_add]
   simp only [World.cell?,hb]
   simpa using h10
  have hll:(l.map strOf).length=n:=h3
  have:=Tryz.strings_Join g 0 cap (l.map strOf) ⟨#[32]⟩ w hcells (lt_of_heap hb) Zi Zi (by rw [hd];exact Nat.le_trans hlen Zh)
  rw [hd,hll] at this
  exact this.mono fun e w' ⟨he,hb⟩=>⟨he,YgJ hb⟩
def bldO (p v:Value):Obj:=.cells #[p,v] 194 (0,0)
def Bld (b:Nat) (l:List UInt8) (H:HP):Prop:=∃ (p v:Value) (Hs:HP),H=(b,bldO p v)::Hs∧(p=.pointer none∨p=.pointer (some ⟨b,0,none⟩))∧OwnS 5 1 v l.length (l.map YaJ) Hs
theorem Bld.new (b:Nat):Bld b [] [(b,bldO (.pointer none) (.slice none 0 0))]:=⟨_,_,_,rfl,.inl rfl,OwnS.nil _ _⟩
theorem Ygb {fz:FZ} {b:Nat} {p v:Value} (hp:p=.pointer none∨p=.pointer (some ⟨b,0,none⟩)):
 GFn Tryz.prog 198 [.pointer (some ⟨b,0,none⟩)] fz [(b,bldO p v)] (fun r fz' H'=>r=.tuple #[]∧fz=fz'∧H'=[(b,bldO (.pointer (some ⟨b,0,none⟩)) v)]):=by
 refine GFn.of ⟨_,Tryz.func198,by decide,by decide⟩ fun w hw=>?_
 obtain ⟨hb,hz⟩:=hw.own (b,bldO p v) (by simp)
 simp only at hb hz
 have c0:w.cell? ⟨b,0,none⟩=some p:=by simp [World.cell?,hb,bldO]
 rcases hp with rfl | rfl
 ·refine (Any.Builder_copyCheck_fresh (ρ:=Tryz.lays156_ren) {Tryz.lays156 with} Tryz.Builder_Extra_156.toX72 b w c0 (by simp [World.shape?,hb,bldO];rfl) (by simp [World.frozen?,hb,bldO])).mono fun e w' ⟨he,hw'⟩=>?_
  subst hw'
  refine ⟨_,fz,_,he,⟨rfl,rfl,rfl⟩,⟨fun k o hk=>?_,fun q hq=>?_,by simp⟩,⟨rfl,rfl,rfl,by simp [World.setCell],fun k _ hn=>?_⟩,⟨fun _ _ h=>h,fun _ _ _=>rfl,fun q hq=>.inl (by simp at hq;subst hq;simp)⟩⟩
  ·rw [Below.heap_setCell _ _ _ _ (fun h=>by subst h;rw [hz] at hk;cases hk)]
   exact hw.keep k o hk
  ·simp only [List.mem_singleton] at hq
   subst hq
   refine ⟨?_,hz⟩
   simp [World.setCell,Array.getElem?_modify,hb,bldO]
  ·exact Below.heap_setCell _ _ _ _ (fun h=>hn (by simp [h]))
 ·refine (Any.Builder_copyCheck_used (ρ:=Tryz.lays156_ren) {Tryz.lays156 with} Tryz.Builder_Extra_156.toX72 b w c0).mono fun e w' ⟨he,hw'⟩=>?_
  subst hw'
  exact ⟨_,fz,_,he,⟨rfl,rfl,rfl⟩,hw,Fr.refl _ _,⟨fun _ _ h=>h,fun _ _ _=>rfl,fun q hq=>.inl (by simp at hq;subst hq;simp)⟩⟩
set_option maxHeartbeats 1000000 in
theorem YdH {fz:FZ} {b:Nat} {l:List UInt8} {H:HP} {s:ByteArray} (hb:Bld b l H) (hs:l.length+s.size≤1000000000):
 GFn Tryz.prog 139 [.pointer (some ⟨b,0,none⟩),.string s] fz H (fun r fz' H'=>fz=fz'∧r=.tuple #[.int .i64 s.size,.nilIface]∧Bld b (l++s.data.toList) H'):=by
 obtain ⟨p,v,Hs,rfl,hp,hO⟩:=hb
 (refine GFn.of_wp Tryz.func139 rfl Tryz.ntmps139 rfl rfl (fun w0=>?_))
 ((repeat (first | refine zS ?_ | refine zA fun _=>?_)))
 (refine Yd Zz (Yz [_] _ Zz Zz Zz (Ygb hp) (fun r1 fz1 H1 hle1 hR1=>?_)))
 obtain ⟨rfl,rfl,rfl⟩:=hR1
 unfold bldO
 ((repeat (first | refine zS ?_ | refine zA fun _=>?_)))
 refine Yd Zz (Yf2 T (Hr:=[_]) Zz Zz Zz Zz Zz Zz Zz Zz Zz Zz (List.Perm.refl _) hO Zi (fun v' Hs' hO'=>?_))
 obtain ⟨A',c',rfl,_,_⟩:=hO'.form
 ((repeat (first | refine zS ?_ | refine zA fun _=>?_)))
 refine ret2 rfl rfl rfl (List.Sublist.refl _) ⟨rfl,rfl,_,_,Hs',rfl,.inr rfl,?_⟩
 have e:(l++s.data.toList).length=l.length+s.size:=by rw [List.length_append,Array.length_toList];rfl
 rw [e,List.map_append]
 exact hO'
set_option maxHeartbeats 1000000 in
theorem YiI {fz:FZ} {b:Nat} {l:List UInt8} {H:HP} (hb:Bld b l H) (h0:l≠ []) (hn:l.length≤1000000000):
 GFn Tryz.prog 141 [.pointer (some ⟨b,0,none⟩)] fz H (fun r fz' H'=>fz=fz'∧r=.string (strOf l)∧H'=[]):=by
 obtain ⟨p,v,Hs,rfl,hp,hO⟩:=hb
 have hl0:l.length≠0:=by simpa using h0
 rcases hO.2 with ⟨_,h1,_⟩ | ⟨g,cap,cur,rfl,rfl,h3,h4,h5,h6⟩
 ·exact absurd h1 hl0
 ·obtain ⟨curl,rfl⟩:∃ cl:List Value,cur=cl.toArray:=⟨cur.toList,by simp⟩
  unfold bldO
  (refine GFn.of_wp Tryz.func141 rfl Tryz.ntmps141 rfl rfl (fun w0=>?_))
  ((repeat (first | refine zSO ?_ | refine zA fun _=>?_)))
  refine Yu (Yy ?_)
  ((repeat (first | refine zSO ?_ | refine zA fun _=>?_)))
  refine Yu ?_
  (refine Wp.drawK (Hq:=[_]) T.mixed Zj Zj (Zb) ?_)
  ((repeat (first | refine zS ?_ | refine zA fun _=>?_)))
  ((refine zG ?_));refine Ye5 Zz Zi ?_
  ((repeat (first | refine zS ?_ | refine zA fun _=>?_)))
  (refine Ya ?_)
  (refine Ya ?_)
  (refine YN ⟨by kernel_rfl,?_⟩)
  refine Yq (YdA T (pre:=[_]) (post:=[]) Zz Zz Zz Zz Zz Zz h0 (by simp at h5;omega) Zi (by simpa using h6) ⟨(⟨Le.refl _,Zx⟩),?_⟩)
  refine Ch.qk (⟨Le.refl _,Zx⟩) (Xo Zz ?_)
  refine Ch.done ?_
  ((repeat (first | refine zS ?_ | refine zA fun _=>?_)))
  exact ret1 rfl rfl (List.nil_sublist _) ⟨rfl,rfl,rfl⟩
end Go.Proofs.YtbhlgkibgajajaaGreatDoor
set_option maxRecDepth 20000
namespace Go.Proofs.YtbhlgkibgajajaaGreatDoor
open Go.Lx Go.RowKit
attribute [local instance 10] Classical.propDecidable
theorem Yd7 {p q:Sexpr→Prop} (h:∀ x,p x→q x):∀ (s:Nat) {x:Sexpr},SizeOf.sizeOf x≤s→XAll p x→XAll q x
 | 0,x,hs,_=>by cases x;simp at hs
 | s+1,x,hs,hx=>by
  have h1:=Wf.1 hx
  exact Wf.2 ⟨h _ h1.1,fun k hk=>Yd7 h s (by have:=Sexpr.kids_lt hk;omega) (h1.2 k hk)⟩
theorem xnode_sm {x:Sexpr} (h:Ybx x):XSm x:=by
 rcases h with ⟨h1,h2,_⟩ | ⟨h1,_,_,h2⟩ | ⟨h1,_⟩
 ·exact ⟨fun _=>h2.2.1,fun h0=>by omega⟩
 ·exact ⟨fun h0=>by omega,fun _=>h2⟩
 ·exact ⟨fun h0=>by omega,fun h0=>by omega⟩
theorem Ygh {x:Sexpr} (h:XOk x):XAll XSm x:=Yd7 (fun _=>xnode_sm) _ (Nat.le_refl _) h
theorem Yho {x:Sexpr} (h:XOk x):(txt x).length≤36*xcount x:=by have:=txt_len (Ygh h);omega
theorem str_one:OneC strL:=by
 intro fz d cs h u hu
 obtain ⟨rfl,_⟩:=h
 simp at hu;subst hu;rfl
theorem YhA {fz:FZ} {l:List UInt8} (h:l.length≤1000000000):strL.rep fz (strOf l) [.string (strOf l)]:=⟨rfl,by rw [Xp];omega⟩
theorem Yij {x:Sexpr} (h:XOk x):(Lib.join (x.kids.map txt) [32]).length≤36*xcount x:=by
 cases x with
 | mk k v l c t ks=>
  have h1:=(Wf.1 (Ygh h)).2
  have h2:=txtL_len (Ydp.2 h1)
  have h3:=join_len (l:=ks.map txt)
  rw [← Ygm] at h3 ⊢
  simp only [Sexpr.kids] at h2 ⊢
  rw [xcount]
  omega
set_option maxHeartbeats 1000000 in
theorem Ygg:∀ (s:Nat) {fz:FZ} {x:Sexpr} {vk:Value},SizeOf.sizeOf x≤s→Y4 fz x vk→XOk x→xcount x≤4096→TabF fz→
 QFn Tryz.prog 138 [.agg #[.int .i64 x.kind,.int .i64 x.value,.int .i64 x.line,.int .i64 x.column,.string x.text,vk]] fz (.string (strOf (txt x)))
 | 0,_,x,_,hs,_,_,_,_=>by cases x;simp at hs
 | s+1,fz,x,vk,hs,h,hX,hc,hT=>by
  refine GFn.quiet ?_
  obtain ⟨A,n,ca,rfl,hk⟩:=h.kids
  have l1:=hk.len
  have l2:=hk.short
  have hN:=Wf.1 hX
  have e:=Ygl x
  have ec:=YaO x
  (refine GFn.of_wp Tryz.func138 rfl Tryz.ntmps138 rfl rfl (fun w0=>?_))
  (refine Yu (Yy (Yd Zz (XB _ Zz Zz (fun g0=>?_)))))
  ((repeat (first | refine zS ?_ | refine zA fun _=>?_)))
  ((refine zG ?_;refine zC (fun x1=>?_) (fun y1=>?_)))
  ·((repeat (first | refine zS ?_ | refine zA fun _=>?_)))
   (exact ret1 rfl rfl (Zb) (by rw [e,if_pos (show x.kind=1 from x1),strOf_of]))
  ·((repeat (first | refine zS ?_ | refine zA fun _=>?_)))
   ((refine zG ?_;refine zC (fun x2=>?_) (fun y2=>?_)))
   ·have hNum:YdF x.value:=by
     rcases hN.1 with ⟨h1,_⟩ | ⟨_,_,_,h1⟩ | ⟨h1,_⟩
     ·omega
     ·exact h1
     ·omega
    ((repeat (first | refine zS ?_ | refine zA fun _=>?_)))
    (((refine zG ?_));refine Yl Zz Zz (itoa_q hT hNum) ?_)
    ((repeat (first | refine zS ?_ | refine zA fun _=>?_)))
    (exact ret1 rfl rfl (Zb) (by rw [e,if_neg (show ¬x.kind=1 from y1),if_pos (show x.kind=2 from x2)]))
   ·have hlen:=Yij hX
    have hln:=YfG (l:=x.kids)
    ((repeat (first | refine zS ?_ | refine zA fun _=>?_)))
    refine YI (fun q σ fz' H'=>∃ (k:Nat) (v:Value) (Hs:HP),k≤n∧q=n - k∧σ=[(20,.int .i64 k),(19,.int .i64 n),(18,.slice A n ca),(3,v)]∧fz=fz'∧H'=Hs∧Grow strL 9 fz' v k Hs (((x.kids.map txt).take k).map strOf))
     ⟨0,_,[],Nat.zero_le _,rfl,rfl,rfl,rfl,Grow.nil _ _ _⟩ (Zw) (Zb) ?_
    rintro q σ fz' H' ⟨k,v,Hs,hk',rfl,rfl,rfl,rfl,hG⟩
    obtain ⟨Av,cv,rfl,_,_⟩:=hG.form
    ((repeat (first | refine zS ?_ | refine zA fun _=>?_)))
    ((refine zG ?_;refine zC (fun c1=>?_) (fun c1=>?_)))
    ·obtain ⟨y,hy⟩:=YH (l:=x.kids) (k:=k) Zi
     have hym:=List.mem_of_getElem? hy
     have hlt:=Sexpr.kids_lt hym
     have hcy:=Ybk hym
     have hyo:=hN.2 y hym
     have hyl:=Yho hyo
     ((repeat (first | refine zS ?_ | refine zA fun _=>?_)))
     (((refine zG ?_));refine YG T k Zz Zz Zz Zz Zz Zz hk (by first | rfl | omega) hy (fun p hp=>?_))
     (((refine zG ?_));refine YA T Zz Zz Zz hp Zz ?_)
     intro cs hcs
     obtain ⟨vk2,rfl,hR⟩:=Yx hcs
     obtain ⟨A2,n2,c2,rfl,_⟩:=hR.kids
     ((repeat (first | refine zS ?_ | refine zA fun _=>?_)))
     (((refine zG ?_));refine Yl Zz Zz (Ygg s Zi hR hyo Zi hT) ?_)
     refine Yd Zz (Ye T (cs:=[.string (strOf (txt y))]) Zz Zz Zz Zz Zz Zz Zz Zz (fun gb=>?_))
     refine Yd Zz (Xs T (Hr:=[_,_]) Zz Zz Zz Zz Zz Zz Zz Zz (List.Perm.refl _) hG str_one (.head _) (YhA Zi) (by show _*16≤_;omega) Zi (fun v' Hs' hO'=>?_))
     obtain ⟨Av',cv',rfl,_,_⟩:=hO'.form
     ((repeat (first | refine zS ?_ | refine zA fun _=>?_)))
     exact YY ⟨k+1,_,Hs',by omega,rfl,rfl,rfl,rfl,hO'.of (by rw [List.take_add_one,List.getElem?_map,hy];simp) rfl⟩ Zi (Zw) (Zb)
    ·have hk1:n=k:=by omega
     subst hk1
     rw [List.take_of_length_le (by rw [List.length_map];omega)] at hG
     ((repeat (first | refine zS ?_ | refine zA fun _=>?_)))
     refine Seq.freezeAll (H1:=[]) (List.Perm.refl _) (fun fz3 hle3 hf3=>?_)
     (((refine zG ?_));refine Yl Zz Zz (join_q hG hf3 Zi Zi) ?_)
     ((refine zG ?_));refine YcY (a:=[40]) Zz Zz (by simp;omega) ?_
     ((refine zG ?_));refine YcY (b:=[41]) Zz Zz (by simp;omega) ?_
     ((repeat (first | refine zS ?_ | refine zA fun _=>?_)))
     (exact ret1 rfl rfl (Zb) (by rw [e,if_neg (show ¬x.kind=1 from y1),if_neg (show ¬x.kind=2 from y2)];rfl))
theorem xwrite_q {fz:FZ} {x:Sexpr} {vk:Value} (h:Y4 fz x vk) (hX:XOk x) (hc:xcount x≤4096) (hT:TabF fz):
 QFn Tryz.prog 138 [.agg #[.int .i64 x.kind,.int .i64 x.value,.int .i64 x.line,.int .i64 x.column,.string x.text,vk]] fz (.string (strOf (txt x))):=Ygg _ (Nat.le_refl _) h hX hc hT
theorem Yd3 {x:Sexpr} {w i:Nat} (h:XOk x) (hi:i+2*xdepth x≤66):(lay w x i).length≤102*xcount x:=by
 have:=lay_len (w:=w) (M:=66) (Ygh h) hi
 omega
set_option maxHeartbeats 2000000 in
theorem Yhp:∀ (s:Nat) {fz:FZ} {x:Sexpr} {vk:Value} {w i:Nat},SizeOf.sizeOf x≤s→Y4 fz x vk→XOk x→xcount x≤4096→i+2*xdepth x≤66→w≤200→TabF fz→
 QFn Tryz.prog 64 [.agg #[.int .i64 x.kind,.int .i64 x.value,.int .i64 x.line,.int .i64 x.column,.string x.text,vk],.int .i64 w,.int .i64 i] fz (.string (strOf (lay w x i)))
 | 0,_,x,_,_,_,hs,_,_,_,_,_,_=>by cases x;simp at hs
 | s+1,fz,x,vk,w,i,hs,h,hX,hc,hi,hw,hT=>by
  refine GFn.quiet ?_
  obtain ⟨A,n,ca,rfl,hk⟩:=h.kids
  have l1:=hk.len
  have l2:=hk.short
  have hN:=Wf.1 hX
  have ec:=YaO x
  have ed:=YcN x
  have htl:=Yho hX
  have hsz:=Xp (txt x)
  (refine GFn.of_wp Tryz.func64 rfl Tryz.ntmps64 rfl rfl (fun w0=>?_))
  (refine Yu (Yy (Yd Zz (XB _ Zz Zz (fun g0=>?_)))))
  ((repeat (first | refine zS ?_ | refine zA fun _=>?_)))
  (((refine zG ?_));refine Yl Zz Zz (xwrite_q h hX hc hT) ?_)
  ((repeat (first | refine zS ?_ | refine zA fun _=>?_)))
  ((refine zG ?_;refine zC (fun x3=>?_) (fun y3=>?_)))
  ·((repeat (first | refine zS ?_ | refine zA fun _=>?_)))
   (exact ret1 rfl rfl (Zb) (by rw [YcF (.inl x3)]))
  ·((repeat (first | refine zS ?_ | refine zA fun _=>?_)))
   ((refine zG ?_;refine zC (fun e1=>?_) (fun e1=>?_)))
   ·((repeat (first | refine zS ?_ | refine zA fun _=>?_)))
    (exact ret1 rfl rfl (Zb) (by rw [YcF (.inr (.inl Zi))]))
   ·((repeat (first | refine zS ?_ | refine zA fun _=>?_)))
    ((refine zG ?_;refine zC (fun e2=>?_) (fun e2=>?_)))
    ·((repeat (first | refine zS ?_ | refine zA fun _=>?_)))
     (exact ret1 rfl rfl (Zb) (by rw [YcF (.inr (.inr Zi))]))
    ·have hl:=lay_long (w:=w) (i:=i) (x:=x) (fun h0=>by omega)
     obtain ⟨y,hy⟩:=YH (l:=x.kids) (k:=0) Zi
     have hym:=List.mem_of_getElem? hy
     have hlt:=Sexpr.kids_lt hym
     have hcy:=Ybk hym
     have hdy:=WE.1 (Nat.le_refl _) y hym
     have hd0:i+2+2*xdepthL x.kids≤66:=by rw [if_pos Zi] at ed;omega
     have hyo:=hN.2 y hym
     have hyl:=Yd3 (w:=w) (i:=i+1) hyo Zi
     ((repeat (first | refine zS ?_ | refine zA fun _=>?_)))
     rename_i gb
     (((refine zG ?_));refine YG T 0 Zz Zz Zz Zz Zz Zz hk (by first | rfl | omega) hy (fun p hp=>?_))
     (((refine zG ?_));refine YA T Zz Zz Zz hp Zz ?_)
     intro cs hcs
     obtain ⟨vk2,rfl,hR⟩:=Yx hcs
     obtain ⟨A2,n2,c2,rfl,_⟩:=hR.kids
     ((repeat (first | refine zS ?_ | refine zA fun _=>?_)))
     (((refine zG ?_));refine Yl Zz Zz (Yhp s (i:=i+1) Zi hR hyo Zi Zi hw hT) ?_)
     ((refine zG ?_));refine YcY (a:=[40]) Zz Zz (by simp;omega) ?_
     (refine Yd Zz (Yz [_] [_] Zz Zz Zz (YdH (Bld.new gb) (by rw [Xp];simp;omega)) (fun r1 fz1 H1 hle1 hR1=>?_)))
     obtain ⟨rfl,rfl,hB⟩:=hR1
     refine Seq.perm (List.perm_append_comm (l₁:=[_])) ?_
     have hkk:x.kids=y::x.kids.drop 1:=by
      cases hq:x.kids with
      | nil=>simp [hq] at hy
      | cons a b=>simp [hq] at hy;subst hy;rfl
     have hcr:xcountL (x.kids.drop 1)≤xcountL x.kids:=by
      have h0:xcountL x.kids=xcountL (y::x.kids.drop 1):=congrArg xcountL hkk
      rw [xcountL] at h0;omega
     have hB2:Bld gb (40::(lay w y (i+1)++layT w ((x.kids.drop 1).take 0) (i+2))) H1:=by simpa [YbX,layT] using hB
     have hlT:∀ k,(layT w ((x.kids.drop 1).take k) (i+2)).length≤102*4096:=fun k=>by
      have h0:=layT_len (w:=w) (M:=66) (l:=(x.kids.drop 1).take k) (i:=i+2) (Ydp.2 (fun z hz=>Ygh (hN.2 z (List.mem_of_mem_drop (List.mem_of_mem_take hz))))) (by
       have:xdepthL ((x.kids.drop 1).take k)≤xdepthL x.kids:=WE.2 (fun z hz=>WE.1 (Nat.le_refl _) z (List.mem_of_mem_drop (List.mem_of_mem_take hz)))
       omega)
      have h1:=Ycm (l:=x.kids.drop 1) (k:=k)
      omega
     ((repeat (first | refine zS ?_ | refine zA fun _=>?_)))
     ((refine zG ?_));refine Ye7 T (j:=1) Zz Zz Zz Zz Zz Zz hk Zi (fun B hS=>?_)
     ((repeat (first | refine zS ?_ | refine zA fun _=>?_)))
     refine YI (fun q σ fz' H'=>∃ k:Nat,k≤n - 1∧q=n - 1 - k∧σ=[(45,.int .i64 k),(44,.int .i64 ((n - 1:Nat):Int)),(43,.slice B (n - 1) (ca - 1)),(8,.pointer (some ⟨gb,0,none⟩)),(2,.int .i64 i),(1,.int .i64 w)]∧fz=fz'∧Bld gb (40::(lay w y (i+1)++layT w ((x.kids.drop 1).take k) (i+2))) H')
      ⟨0,Nat.zero_le _,rfl,rfl,rfl,hB2⟩ (Zw) (Zb) ?_
     rintro q σ fz' H' ⟨k,hk',rfl,rfl,rfl,hBk⟩
     have hdl:(x.kids.drop 1).length=n - 1:=by rw [List.length_drop,l1]
     ((repeat (first | refine zS ?_ | refine zA fun _=>?_)))
     ((refine zG ?_;refine zC (fun c1=>?_) (fun c1=>?_)))
     ·obtain ⟨z,hz⟩:=YH (l:=x.kids.drop 1) (k:=k) Zi
      have hzm:z∈x.kids:=List.mem_of_mem_drop (List.mem_of_getElem? hz)
      have hltz:=Sexpr.kids_lt hzm
      have hcz:=Ybk hzm
      have hdz:=WE.1 (Nat.le_refl _) z hzm
      have hzo:=hN.2 z hzm
      have hzl:=Yd3 (w:=w) (i:=i+2) hzo Zi
      have hlk:=hlT k
      ((repeat (first | refine zS ?_ | refine zA fun _=>?_)))
      (((refine zG ?_));refine YG T k Zz Zz Zz Zz Zz Zz hS (by first | rfl | omega) hz (fun p2 hp2=>?_))
      (((refine zG ?_));refine YA T Zz Zz Zz hp2 Zz ?_)
      intro cs2 hcs2
      obtain ⟨vk3,rfl,hR3⟩:=Yx hcs2
      obtain ⟨A3,n3,c3,rfl,_⟩:=hR3.kids
      ((repeat (first | refine zSO ?_ | refine zA fun _=>?_)))
      rename_i gk
      (refine Wp.drawK (Hq:=[_]) T.mixed Zj Zj (Zb) ?_)
      ((repeat (first | refine zS ?_ | refine zA fun _=>?_)))
      (((refine zG ?_));refine Yl Zz Zz (repeat_q (n:=i+2) Zi) ?_)
      ((refine zG ?_));refine YcY (a:=[10]) Zz Zz (by simp;omega) ?_
      ((repeat (first | refine zS ?_ | refine zA fun _=>?_)))
      (((refine zG ?_));refine Yl Zz Zz (Yhp s (i:=i+2) Zi hR3 hzo Zi Zi hw hT) ?_)
      ((refine zG ?_));refine YcY Zz Zz (by simp;omega) ?_
      (refine Ya ?_)
      (refine YN ⟨by kernel_rfl,?_⟩)
      refine Yq (Does.perm (List.perm_append_comm (l₂:=[_])) (Yz _ [_] Zz Zz Zz (YdH hBk (by rw [Xp];simp only [List.length_cons,List.length_append,List.length_replicate,List.length_nil];omega)) (fun r2 fz2 H2 hle2 hR2=>?_)))
      obtain ⟨rfl,rfl,hB3⟩:=hR2
      refine ⟨⟨Le.refl _,by intro p hp;simp only [List.mem_singleton] at hp;subst hp;simp⟩,?_⟩
      refine Ch.done ?_
      have hB4:Bld gb (40::(lay w y (i+1)++layT w ((x.kids.drop 1).take (k+1)) (i+2))) H2:=by
       rw [Yia hz]
       rw [YbX] at hB3
       simpa only [List.cons_append,List.append_assoc,List.nil_append] using hB3
      ((repeat (first | refine zS ?_ | refine zA fun _=>?_)))
      exact YY ⟨k+1,by omega,rfl,rfl,rfl,hB4⟩ Zi (Zw) (List.sublist_append_left _ _)
     ·have hk1:k=n - 1:=by omega
      subst hk1
      rw [List.take_of_length_le Zi] at hBk
      have hll:=hlT (n - 1)
      rw [List.take_of_length_le Zi] at hll
      ((repeat (first | refine zS ?_ | refine zA fun _=>?_)))
      refine Yd Zz (Yz _ [] (List.append_nil _).symm Zz Zz (YiI hBk (by simp) (by simp only [List.length_cons,List.length_append];omega)) (fun r2 fz2 H2 hle2 hR2=>?_))
      obtain ⟨rfl,rfl,rfl⟩:=hR2
      ((refine zG ?_));refine YcY (b:=[41]) Zz Zz (by simp only [List.length_cons,List.length_append,List.length_nil];omega) ?_
      ((repeat (first | refine zS ?_ | refine zA fun _=>?_)))
      (exact ret1 rfl rfl (Zb) (by rw [hl,hkk];rfl))
set_option maxHeartbeats 1000000 in
theorem Yhq {fz:FZ} {x:Sexpr} {vk:Value} (h:Y4 fz x vk) (hT:TabF fz):
 QFn Tryz.prog 28 [.agg #[.int .i64 x.kind,.int .i64 x.value,.int .i64 x.line,.int .i64 x.column,.string x.text,vk],.int .i64 80] fz (if XVal x then .tuple #[.string (strOf (lay 80 x 0)),.nilIface] else .tuple #[.string ⟨#[]⟩,errV 2]):=by
 refine GFn.quiet ?_
 obtain ⟨A,n,ca,rfl,hk⟩:=h.kids
 (refine GFn.of_wp Tryz.func28 rfl Tryz.ntmps28 rfl rfl (fun w0=>?_))
 (refine Yu (Yy (Yd Zz (XB _ Zz Zz (fun g0=>?_)))))
 ((repeat (first | refine zS ?_ | refine zA fun _=>?_)))
 (((refine zG ?_));refine YO Zz Zz (YcC h) (fun f1=>?_) (fun f1=>?_))
 ·have hv:=of_decide_eq_true f1
  ((repeat (first | refine zS ?_ | refine zA fun _=>?_)))
  ((refine zG ?_));refine q_min Zz Zz ?_
  ((repeat (first | refine zS ?_ | refine zA fun _=>?_)))
  (((refine zG ?_));refine Yl Zz Zz (Yhp (w:=80) (i:=0) _ (Nat.le_refl _) h hv.1 hv.2.2 (by have:=hv.2.1;omega) Zi hT) ?_)
  ((repeat (first | refine zS ?_ | refine zA fun _=>?_)))
  exact ret2 rfl rfl rfl (Zb) (if_pos hv).symm
 ·have hv:=of_decide_eq_false f1
  ((repeat (first | refine zS ?_ | refine zA fun _=>?_)))
  exact ret2 rfl rfl rfl (Zb) (if_neg hv).symm
end Go.Proofs.YtbhlgkibgajajaaGreatDoor
set_option maxRecDepth 20000
namespace Go.Proofs.YtbhlgkibgajajaaGreatDoor
open Go.Lx Go.RowKit
attribute [local instance 10] Classical.propDecidable
end Go.Proofs.YtbhlgkibgajajaaGreatDoor
set_option maxRecDepth 20000
namespace Go.Proofs.YtbhlgkibgajajaaGreatDoor
open Go.Lx Go.RowKit
attribute [local instance 10] Classical.propDecidable
structure DomTn (d:Domain):Prop where
 sm:DomSm d
 types:d.types.length≤100000000
 constants:d.constants.length≤100000000
 predicates:d.predicates.length≤100000000
 predp:∀ p∈d.predicates,p.params.length≤100000000
 functions:d.functions.length≤100000000
 funp:∀ f∈d.functions,f.params.length≤100000000
 actions:d.actions.length≤100000000
 actp:∀ x∈d.actions,x.params.length≤100000000
 duratives:d.duratives.length≤100000000
 durp:∀ x∈d.duratives,x.params.length≤100000000
def IsX (v:Value) (x:Sexpr) (fz:FZ):Prop:=∃ A n c,v=.agg #[.int .i64 x.kind,.int .i64 x.value,.int .i64 x.line,.int .i64 x.column,.string x.text,.slice A n c]∧Y4 fz x (.slice A n c)
theorem SxIs.x {fz:FZ} {v:Value} {x:Sexpr} (h:SxIs fz v x):IsX v x fz:=by
 obtain ⟨cs,rfl,hr⟩:=h
 obtain ⟨vk,rfl,hX⟩:=Yx hr
 obtain ⟨A,n,c,rfl,_⟩:=hX.kids
 exact ⟨A,n,c,rfl,hX⟩
end Go.Proofs.YtbhlgkibgajajaaGreatDoor
namespace Go.Lx
mutual
def eW:Expr→Nat
 | .mk _ _ _ args kids=>1+args.length+eWL kids
def eWL:List Expr→Nat
 | []=>0
 | k::r=>eW k+eWL r
end
mutual
def fW:Formula→Nat
 | .mk _ _ args params exprs kids=>1+args.length+params.length+eWL exprs+fWL kids
def fWL:List Formula→Nat
 | []=>0
 | k::r=>fW k+fWL r
end
theorem YiE (l:List Expr):eWL l=(l.map eW).sum:=by
 induction l with
 | nil=>rfl
 | cons a r ih=>simp [eWL,ih]
theorem fWL_sum (l:List Formula):fWL l=(l.map fW).sum:=by
 induction l with
 | nil=>rfl
 | cons a r ih=>simp [fWL,ih]
def parW (_:Param):Nat:=1
def strW (_:ByteArray):Nat:=1
def atomW (a:Atom):Nat:=1+a.args.length
def Yhu (v:Value_):Nat:=1+atomW v.fluent
def XZ (c:Change):Nat:=1+c.params.length+fW c.when_+c.args.length+eW c.value
def Yfc (p:Predicate):Nat:=1+p.params.length
def funW (p:Function):Nat:=1+p.params.length
def actW (a:Action):Nat:=1+a.params.length+fW a.pre+(a.changes.map XZ).sum
def durW (a:Durative):Nat:=1+a.params.length+fW a.start+fW a.over+fW a.fin+(a.atStart.map XZ).sum+(a.atEnd.map XZ).sum
def domW (d:Domain):Nat:=1+d.types.length+d.constants.length+(d.predicates.map Yfc).sum+(d.functions.map funW).sum+(d.actions.map actW).sum+(d.duratives.map durW).sum
def prbW (p:Problem):Nat:=1+p.objects.length+(p.init.map atomW).sum+(p.values.map Yhu).sum+fW p.goal
theorem eW_eq (e:Expr):eW e=1+e.args.length+(e.kids.map eW).sum:=by cases e;rw [eW,YiE];rfl
theorem fW_eq (f:Formula):fW f=1+f.args.length+f.params.length+(f.exprs.map eW).sum+(f.kids.map fW).sum:=by cases f;rw [fW,YiE,fWL_sum];rfl
theorem WB (l:List Param):(l.map parW).sum=l.length:=by
 induction l with
 | nil=>rfl
 | cons a r ih=>simp [parW] at ih ⊢;omega
theorem WA (l:List ByteArray):(l.map strW).sum=l.length:=by
 induction l with
 | nil=>rfl
 | cons a r ih=>simp [strW] at ih ⊢;omega
theorem Yar {α:Type} {w:α→Nat}:∀ {l:List α} {x:α},x∈l→w x≤(l.map w).sum
 | [],_,h=>by cases h
 | a::r,x,h=>by
  simp only [List.map_cons,List.sum_cons]
  rcases List.mem_cons.1 h with rfl | h
  ·omega
  ·have:=Yar (w:=w) h;omega
theorem WO {α:Type} {w:α→Nat} (h:∀ x,1≤w x):∀ (l:List α),l.length≤(l.map w).sum
 | []=>by simp
 | a::r=>by
  have h1:=h a
  have h2:=WO h r
  simp only [List.length_cons,List.map_cons,List.sum_cons];omega
theorem Yec {α:Type} {w:α→Nat} {n:α→Nat} {k:Nat} (h:∀ x,n x≤k*w x):∀ (l:List α),(l.map n).sum≤k*(l.map w).sum
 | []=>by simp
 | a::r=>by
  have h1:=h a
  have h2:=Yec h r
  simp only [List.map_cons,List.sum_cons,Nat.mul_add];omega
theorem fW_pos (f:Formula):1≤fW f:=by rw [fW_eq];omega
theorem Yge (c:Change):1≤XZ c:=by unfold XZ;omega
theorem Yfb (c:Predicate):1≤Yfc c:=by unfold Yfc;omega
theorem YgI (c:Function):1≤funW c:=by unfold funW;omega
theorem actW_pos (c:Action):1≤actW c:=by unfold actW;omega
theorem durW_pos (c:Durative):1≤durW c:=by unfold durW;omega
theorem YiL (c:Atom):1≤atomW c:=by unfold atomW;omega
theorem Yg4 (c:Value_):1≤Yhu c:=by unfold Yhu;omega
end Go.Lx
namespace Go.Proofs.YtbhlgkibgajajaaGreatDoor
open Go.Lx Go.RowKit
attribute [local instance 10] Classical.propDecidable
mutual
theorem depth_count:∀ x:Sexpr,xdepth x≤xcount x
 | .mk k v l c t ks=>by
  have:=depth_countL ks
  rw [xdepth,xcount]
  split<;>omega
theorem depth_countL:∀ l:List Sexpr,xdepthL l≤xcountL l
 | []=>by simp [xdepthL]
 | x::r=>by
  have h1:=depth_count x
  have h2:=depth_countL r
  rw [xdepthL,xcountL]
  omega
end
theorem YiC:∀ (s:Nat) {e:Lx.Expr},SizeOf.sizeOf e≤s→eW e≤1000000000→ESm e
 | 0,e,h,_=>by cases e;simp at h
 | s+1,e,h,hw=>by
  rw [eW_eq] at hw
  refine YaL.2 ⟨by unfold ESmN;omega,fun k hk=>YiC s (by have:=Lx.Expr.kids_lt hk;omega) (by have:=Yar (w:=eW) hk;omega)⟩
theorem YdW:∀ (s:Nat) {f:Formula},SizeOf.sizeOf f≤s→fW f≤1000000000→FSm f
 | 0,e,h,_=>by cases e;simp at h
 | s+1,f,h,hw=>by
  rw [fW_eq] at hw
  have hl:=WO fW_pos f.kids
  refine W6.2 ⟨by unfold FSmN;omega,fun e he=>YiC _ (Nat.le_refl _) (by have:=Yar (w:=eW) he;omega),fun k hk=>YdW s (by have:=Formula.kids_lt hk;omega) (by have:=Yar (w:=fW) hk;omega)⟩
theorem chsm_of {c:Change} (h:XZ c≤100000000):ChSm c:=by
 unfold XZ at h
 exact ⟨by omega,by omega,YdW _ (Nat.le_refl _) Zi,YiC _ (Nat.le_refl _) Zi⟩
theorem YeG {l:List Change} (h:(l.map XZ).sum≤100000000):YiX l:=by
 have:=WO Yge l
 exact ⟨by omega,fun c hc=>chsm_of (by have:=Yar (w:=XZ) hc;omega)⟩
theorem YgT {d:Domain} (h:domW d≤100000000):DomTn d:=by
 unfold domW at h
 have l3:=WO Yfb d.predicates
 have l4:=WO YgI d.functions
 have l5:=WO actW_pos d.actions
 have l6:=WO durW_pos d.duratives
 have p3:∀ p∈d.predicates,p.params.length≤100000000:=fun p hp=>by have:=Yar (w:=Yfc) hp;have e:Yfc p=1+p.params.length:=rfl;omega
 have p4:∀ p∈d.functions,p.params.length≤100000000:=fun p hp=>by have:=Yar (w:=funW) hp;have e:funW p=1+p.params.length:=rfl;omega
 have p5:∀ x∈d.actions,actW x≤100000000:=fun p hp=>by have:=Yar (w:=actW) hp;omega
 have p6:∀ x∈d.duratives,durW x≤100000000:=fun p hp=>by have:=Yar (w:=durW) hp;omega
 refine ⟨⟨by omega,by omega,by omega,fun p hp=>Nat.le_trans (p3 p hp) Zh,by omega,fun p hp=>Nat.le_trans (p4 p hp) Zh,by omega,fun x hx=>?_,by omega,fun x hx=>?_⟩,by omega,by omega,by omega,p3,by omega,p4,by omega,fun x hx=>?_,by omega,fun x hx=>?_⟩
 ·have:=p5 x hx
  unfold actW at this
  exact ⟨by omega,YdW _ (Nat.le_refl _) Zi,YeG Zi⟩
 ·have:=p6 x hx
  unfold durW at this
  exact ⟨by omega,YdW _ (Nat.le_refl _) Zi,YdW _ (Nat.le_refl _) Zi,YdW _ (Nat.le_refl _) Zi,YeG Zi,YeG Zi⟩
 ·have:=p5 x hx
  unfold actW at this
  omega
 ·have:=p6 x hx
  unfold durW at this
  omega
end Go.Proofs.YtbhlgkibgajajaaGreatDoor
namespace Go.Proofs.YtbhlgkibgajajaaGreatDoor
open Go.Lx Go.RowKit
attribute [local instance 10] Classical.propDecidable
end Go.Proofs.YtbhlgkibgajajaaGreatDoor
set_option maxRecDepth 20000
namespace Go.Proofs.YtbhlgkibgajajaaGreatDoor
open Go.Lx Go.RowKit
attribute [local instance 10] Classical.propDecidable
theorem Yea {α:Type} {w:α→Nat} {l:List α} {k:Nat}:((l.take k).map w).sum≤(l.map w).sum:=by
 conv=>rhs;rw [← List.take_append_drop k l]
 rw [List.map_append,List.sum_append];omega
theorem Yeb {α:Type} {w:α→Nat} {l:List α} {k:Nat} {x:α} (hx:l[k]?=some x):((l.take (k+1)).map w).sum=((l.take k).map w).sum+w x:=by
 rw [List.take_add_one,hx];simp
mutual
theorem ecount_le:∀ e:Lx.Expr,ecount e≤eW e
 | .mk a b c args kids=>by have:=ecountL_le kids;rw [ecount,eW];omega
theorem ecountL_le:∀ l:List Lx.Expr,ecountL l≤eWL l
 | []=>by simp [ecountL]
 | x::r=>by have h1:=ecount_le x;have h2:=ecountL_le r;rw [ecountL,eWL];omega
end
mutual
theorem fcount_le:∀ f:Formula,fcount f≤fW f
 | .mk a b c d exprs kids=>by have h1:=ecountL_le exprs;have h2:=fcountL_le kids;rw [fcount,fW];omega
theorem fcountL_le:∀ l:List Formula,fcountL l≤fWL l
 | []=>by simp [fcountL]
 | x::r=>by have h1:=fcount_le x;have h2:=fcountL_le r;rw [fcountL,fWL];omega
end
set_option maxHeartbeats 1000000 in
theorem YhE:∀ (s:Nat) {fz:FZ} {e:Lx.Expr} {va vk:Value},SizeOf.sizeOf e≤s→ExprR fz e va vk→ecount e≤1000000000000→
 QFn Tryz.prog 23 [.agg #[.string e.op,.string e.name,.int .i64 e.n,va,vk]] fz (.int .i64 (ecount e))
 | 0,_,e,_,_,hs,_,_=>by cases e;simp at hs
 | s+1,fz,e,va,vk,hs,h,hc=>by
  obtain ⟨A,n,ca,rfl,ha⟩:=h.args
  obtain ⟨B,m,cb,rfl,hk⟩:=h.kids
  refine GFn.quiet ?_
  have lk:=hk.len
  have sk:=hk.short
  have ec:=Ya1 e
  (refine GFn.of_wp Tryz.func23 rfl Tryz.ntmps23 rfl rfl (fun w0=>?_))
  (refine Yu (Yy (Yd Zz (XB _ Zz Zz (fun g0=>?_)))))
  ((repeat (first | refine zS ?_ | refine zA fun _=>?_)))
  refine YI (fun q σ fz' H'=>∃ (k:Nat) (c:Int),k≤m∧q=m - k∧σ=[(4,.int .i64 k),(3,.int .i64 c),(1,.pointer (some ⟨g0,0,none⟩))]∧fz=fz'∧H'=[(g0,.cells #[.string e.op,.string e.name,.int .i64 e.n,.slice A n ca,.slice B m cb] 75 (0,0))]∧c=((1+ecountL (e.kids.take k):Nat):Int)) ⟨0,_,Nat.zero_le _,rfl,rfl,rfl,rfl,rfl⟩ (Zw) (Zb) ?_
  rintro q σ fz' H' ⟨k,c,hkm,rfl,rfl,rfl,rfl,hh⟩
  ((repeat (first | refine zS ?_ | refine zA fun _=>?_)))
  ((refine zG ?_;refine zC (fun c1=>?_) (fun c1=>?_)))
  ·obtain ⟨x,hx⟩:=YH (l:=e.kids) (k:=k) Zi
   have hxm:=List.mem_of_getElem? hx
   have hlt:=Lx.Expr.kids_lt hxm
   have hst:=Ya3 hx
   have htk:=Ya2 (l:=e.kids) (k:=k+1)
   ((repeat (first | refine zS ?_ | refine zA fun _=>?_)))
   (((refine zG ?_));refine YG T k Zz Zz Zz Zz Zz Zz hk (by first | rfl | omega) hx (fun p1 hp1=>?_))
   (((refine zG ?_));refine YA T Zz Zz Zz hp1 Zz ?_)
   intro cs hcs
   obtain ⟨wa,wk,rfl,hRx⟩:=YR hcs
   ((repeat (first | refine zS ?_ | refine zA fun _=>?_)))
   (((refine zG ?_));refine Yl Zz Zz (YhE s Zi hRx Zi) ?_)
   ((repeat (first | refine zS ?_ | refine zA fun _=>?_)))
   exact YY ⟨k+1,c+(ecount x:Nat),by omega,rfl,rfl,rfl,rfl,by omega⟩ Zi (Zw) (Zb)
  ·rw [List.take_of_length_le Zi] at hh
   ((repeat (first | refine zS ?_ | refine zA fun _=>?_)))
   (exact ret1 rfl rfl (Zb) (by rw [hh,ec]))
theorem YhD {fz:FZ} {e:Lx.Expr} {va vk:Value} (h:ExprR fz e va vk) (hc:ecount e≤1000000000000):
 QFn Tryz.prog 23 [.agg #[.string e.op,.string e.name,.int .i64 e.n,va,vk]] fz (.int .i64 (ecount e)):=YhE _ (Nat.le_refl _) h hc
set_option maxHeartbeats 1000000 in
theorem size_f:∀ (s:Nat) {fz:FZ} {f:Formula} {va vp ve vk:Value},SizeOf.sizeOf f≤s→FormulaR fz f va vp ve vk→fcount f≤1000000000000→
 QFn Tryz.prog 13 [.agg #[.string f.op,.string f.name,va,vp,ve,vk]] fz (.int .i64 (fcount f))
 | 0,_,e,_,_,_,_,hs,_,_=>by cases e;simp at hs
 | s+1,fz,f,va,vp,ve,vk,hs,h,hc=>by
  obtain ⟨A,n,ca,rfl,ha⟩:=h.args
  obtain ⟨B,m,cb,rfl,hp⟩:=h.params
  obtain ⟨C,r,cr,rfl,he⟩:=h.exprs
  obtain ⟨D,q0,cq,rfl,hk⟩:=h.kids
  refine GFn.quiet ?_
  have lk:=hk.len
  have sk:=hk.short
  have le:=he.len
  have se:=he.short
  have ec:=YbK f
  (refine GFn.of_wp Tryz.func13 rfl Tryz.ntmps13 rfl rfl (fun w0=>?_))
  (refine Yu (Yy (Yd Zz (XB _ Zz Zz (fun g0=>?_)))))
  ((repeat (first | refine zS ?_ | refine zA fun _=>?_)))
  refine YI (fun q σ fz' H'=>∃ (k:Nat) (c:Int),k≤r∧q=r - k∧σ=[(4,.int .i64 k),(3,.int .i64 c),(1,.pointer (some ⟨g0,0,none⟩))]∧fz=fz'∧H'=[(g0,.cells #[.string f.op,.string f.name,.slice A n ca,.slice B m cb,.slice C r cr,.slice D q0 cq] 36 (0,0))]∧c=((1+ecountL (f.exprs.take k):Nat):Int)) ⟨0,_,Nat.zero_le _,rfl,rfl,rfl,rfl,rfl⟩ (Zw) (Zb) ?_
  rintro q σ fz' H' ⟨k,c,hkm,rfl,rfl,rfl,rfl,hh⟩
  ((repeat (first | refine zS ?_ | refine zA fun _=>?_)))
  ((refine zG ?_;refine zC (fun c1=>?_) (fun c1=>?_)))
  ·obtain ⟨x,hx⟩:=YH (l:=f.exprs) (k:=k) Zi
   have hxm:=List.mem_of_getElem? hx
   have hst:=Ya3 hx
   have htk:=Ya2 (l:=f.exprs) (k:=k+1)
   ((repeat (first | refine zS ?_ | refine zA fun _=>?_)))
   (((refine zG ?_));refine YG T k Zz Zz Zz Zz Zz Zz he (by first | rfl | omega) hx (fun p1 hp1=>?_))
   (((refine zG ?_));refine YA T Zz Zz Zz hp1 Zz ?_)
   intro cs hcs
   obtain ⟨wa,wk,rfl,hRx⟩:=YR hcs
   ((repeat (first | refine zS ?_ | refine zA fun _=>?_)))
   (((refine zG ?_));refine Yl Zz Zz (YhD hRx Zi) ?_)
   ((repeat (first | refine zS ?_ | refine zA fun _=>?_)))
   exact YY ⟨k+1,c+(ecount x:Nat),by omega,rfl,rfl,rfl,rfl,by omega⟩ Zi (Zw) (Zb)
  ·rw [List.take_of_length_le Zi] at hh
   ((repeat (first | refine zS ?_ | refine zA fun _=>?_)))
   refine YI (fun q σ fz' H'=>∃ (k:Nat) (c:Int),k≤q0∧q=q0 - k∧σ=[(5,.int .i64 k),(3,.int .i64 c),(1,.pointer (some ⟨g0,0,none⟩))]∧fz=fz'∧H'=[(g0,.cells #[.string f.op,.string f.name,.slice A n ca,.slice B m cb,.slice C r cr,.slice D q0 cq] 36 (0,0))]∧c=((1+ecountL f.exprs+fcountL (f.kids.take k):Nat):Int)) ⟨0,c,Nat.zero_le _,rfl,rfl,rfl,rfl,by rw [hh];simp [fcountL]⟩ (Zw) (Zb) ?_
   rintro q σ fz' H' ⟨k,c,hkm,rfl,rfl,rfl,rfl,hh⟩
   ((repeat (first | refine zS ?_ | refine zA fun _=>?_)))
   ((refine zG ?_;refine zC (fun c2=>?_) (fun c2=>?_)))
   ·obtain ⟨x,hx⟩:=YH (l:=f.kids) (k:=k) Zi
    have hxm:=List.mem_of_getElem? hx
    have hlt:=Formula.kids_lt hxm
    have hst:=Ycu hx
    have htk:=Yct (l:=f.kids) (k:=k+1)
    ((repeat (first | refine zS ?_ | refine zA fun _=>?_)))
    (((refine zG ?_));refine YG T k Zz Zz Zz Zz Zz Zz hk (by first | rfl | omega) hx (fun p1 hp1=>?_))
    (((refine zG ?_));refine YA T Zz Zz Zz hp1 Zz ?_)
    intro cs hcs
    obtain ⟨w1,w2,w3,w4,rfl,hRx⟩:=YT hcs
    ((repeat (first | refine zS ?_ | refine zA fun _=>?_)))
    (((refine zG ?_));refine Yl Zz Zz (size_f s Zi hRx Zi) ?_)
    ((repeat (first | refine zS ?_ | refine zA fun _=>?_)))
    exact YY ⟨k+1,c+(fcount x:Nat),by omega,rfl,rfl,rfl,rfl,by omega⟩ Zi (Zw) (Zb)
   ·rw [List.take_of_length_le Zi] at hh
    ((repeat (first | refine zS ?_ | refine zA fun _=>?_)))
    (exact ret1 rfl rfl (Zb) (by rw [hh,ec]))
theorem YdI {fz:FZ} {f:Formula} {va vp ve vk:Value} (h:FormulaR fz f va vp ve vk) (hc:fcount f≤1000000000000):
 QFn Tryz.prog 13 [.agg #[.string f.op,.string f.name,va,vp,ve,vk]] fz (.int .i64 (fcount f)):=size_f _ (Nat.le_refl _) h hc
def hvC (c:Change):Nat:=1+c.params.length+c.args.length+fcount c.when_+ecount c.value
def W0 (l:List Change):Nat:=(l.map hvC).sum
theorem hvC_le (c:Change):hvC c≤1*XZ c:=by
 have h1:=fcount_le c.when_
 have h2:=ecount_le c.value
 unfold hvC XZ;omega
theorem Ydc (l:List Change):W0 l≤(l.map XZ).sum:=by
 have:=Yec hvC_le l
 unfold W0;omega
set_option maxHeartbeats 1000000 in
theorem Yf4 {fz:FZ} {A:Option Addr} {n ca:Nat} {l:List Change} (h1:Sl changeL fz A n ca l) (hc:W0 l≤1000000000000):
 QFn Tryz.prog 14 [.slice A n ca] fz (.int .i64 (W0 l)):=by
 refine GFn.quiet ?_
 have l1:=h1.len
 have s1:=h1.short
 (refine GFn.of_wp Tryz.func14 rfl Tryz.ntmps14 rfl rfl (fun w0=>?_))
 ((repeat (first | refine zS ?_ | refine zA fun _=>?_)))
 refine YI (fun q σ fz' H'=>∃ (k:Nat) (c:Int),k≤n∧q=n - k∧σ=[(4,.int .i64 k),(3,.int .i64 c),(0,.slice A n ca)]∧fz=fz'∧H'=[]∧c=((((l.take k).map hvC).sum:Nat):Int)) ⟨0,_,Nat.zero_le _,rfl,rfl,rfl,rfl,rfl⟩ (Zw) (Zb) ?_
 rintro q σ fz' H' ⟨k,c,hkm,rfl,rfl,rfl,rfl,hh⟩
 ((repeat (first | refine zS ?_ | refine zA fun _=>?_)))
 ((refine zG ?_;refine zC (fun c1=>?_) (fun c1=>?_)))
 ·obtain ⟨x,hx⟩:=YH (l:=l) (k:=k) Zi
  have hst:=Yeb (w:=hvC) hx
  have htk:=Yea (w:=hvC) (l:=l) (k:=k+1)
  unfold W0 at hc
  have hvx:hvC x=1+x.params.length+x.args.length+fcount x.when_+ecount x.value:=rfl
  ((repeat (first | refine zS ?_ | refine zA fun _=>?_)))
  (((refine zG ?_));refine YG T k Zz Zz Zz Zz Zz Zz h1 (by first | rfl | omega) hx (fun p1 hp1=>?_))
  ((repeat (first | refine zS ?_ | refine zA fun _=>?_)))
  (((refine zG ?_));refine YcX T Zz Zz Zz hp1.Change_params (fun P1 pn1 pc1 ip=>?_))
  have lp:=ip.len
  ((repeat (first | refine zS ?_ | refine zA fun _=>?_)))
  (((refine zG ?_));refine YG T k Zz Zz Zz Zz Zz Zz h1 (by first | rfl | omega) hx (fun p2 hp2=>?_))
  ((repeat (first | refine zS ?_ | refine zA fun _=>?_)))
  (((refine zG ?_));refine YcX T Zz Zz Zz hp2.Change_args (fun P2 pn2 pc2 ia=>?_))
  have la:=ia.len
  ((repeat (first | refine zS ?_ | refine zA fun _=>?_)))
  (((refine zG ?_));refine YG T k Zz Zz Zz Zz Zz Zz h1 (by first | rfl | omega) hx (fun p3 hp3=>?_))
  ((repeat (first | refine zS ?_ | refine zA fun _=>?_)))
  (((refine zG ?_));refine YA T Zz Zz Zz hp3.Change_when_ Zz ?_)
  intro cs3 hcs3
  obtain ⟨w1,w2,w3,w4,rfl,hR3⟩:=YT hcs3
  (((refine zG ?_));refine Yl Zz Zz (YdI hR3 Zi) ?_)
  ((repeat (first | refine zS ?_ | refine zA fun _=>?_)))
  (((refine zG ?_));refine YG T k Zz Zz Zz Zz Zz Zz h1 (by first | rfl | omega) hx (fun p4 hp4=>?_))
  ((repeat (first | refine zS ?_ | refine zA fun _=>?_)))
  (((refine zG ?_));refine YA T Zz Zz Zz hp4.Change_value Zz ?_)
  intro cs4 hcs4
  obtain ⟨u1,u2,rfl,hR4⟩:=YR hcs4
  (((refine zG ?_));refine Yl Zz Zz (YhD hR4 Zi) ?_)
  ((repeat (first | refine zS ?_ | refine zA fun _=>?_)))
  exact YY ⟨k+1,c+(1+pn1+pn2+(fcount x.when_:Nat)+(ecount x.value:Nat)),by omega,rfl,rfl,rfl,rfl,by omega⟩ Zi (Zw) (Zb)
 ·rw [List.take_of_length_le Zi] at hh
  ((repeat (first | refine zS ?_ | refine zA fun _=>?_)))
  (exact ret1 rfl rfl (Zb) (by rw [hh];rfl))
def laA (a:Action):Nat:=1+fcount a.pre+W0 a.changes
def laU (a:Durative):Nat:=1+fcount a.start+fcount a.over+fcount a.fin+W0 a.atStart+W0 a.atEnd
def Yfj (d:Domain) (p:Problem):Nat:=d.types.length+d.constants.length+d.predicates.length+d.functions.length+p.objects.length+p.init.length+p.values.length+fcount p.goal+(d.actions.map laA).sum+(d.duratives.map laU).sum
theorem laA_le (a:Action):laA a≤1*actW a:=by
 have h1:=fcount_le a.pre
 have h2:=Ydc a.changes
 unfold laA actW;omega
theorem laU_le (a:Durative):laU a≤1*durW a:=by
 have h1:=fcount_le a.start
 have h2:=fcount_le a.over
 have h3:=fcount_le a.fin
 have h4:=Ydc a.atStart
 have h5:=Ydc a.atEnd
 unfold laU durW;omega
theorem Yic (d:Domain) (p:Problem):Yfj d p≤domW d+prbW p:=by
 have h1:=Yec laA_le d.actions
 have h2:=Yec laU_le d.duratives
 have h3:=fcount_le p.goal
 have h4:=WO Yfb d.predicates
 have h5:=WO YgI d.functions
 have h6:=WO YiL p.init
 have h7:=WO Yg4 p.values
 unfold Yfj domW prbW;omega
set_option maxHeartbeats 4000000 in
theorem large_q {fz:FZ} {d:Domain} {p:Problem} {v1 v2 v3 v4 v5 v6 u1 u2 u3 u4 u5 u6 u7:Value} (h:DomainR fz d v1 v2 v3 v4 v5 v6) (hp:ProblemR fz p u1 u2 u3 u4 u5 u6 u7) (hn:Yfj d p≤1000000000000):
 QFn Tryz.prog 6 [.agg #[.string d.name,v1,v2,v3,v4,v5,v6],.agg #[.string p.name,.string p.domain,u1,u2,u3,.string p.goal.op,.string p.goal.name,u4,u5,u6,u7]] fz (.bool (decide (2000<Yfj d p))):=by
 obtain ⟨A1,n1,b1,rfl,i1⟩:=h.types
 have l1:=i1.len
 obtain ⟨A2,n2,b2,rfl,i2⟩:=h.constants
 have l2:=i2.len
 obtain ⟨A3,n3,b3,rfl,i3⟩:=h.predicates
 have l3:=i3.len
 obtain ⟨A4,n4,b4,rfl,i4⟩:=h.functions
 have l4:=i4.len
 obtain ⟨A5,n5,b5,rfl,i5⟩:=h.actions
 have l5:=i5.len
 obtain ⟨A6,n6,b6,rfl,i6⟩:=h.duratives
 have l6:=i6.len
 have s5:=i5.short
 have s6:=i6.short
 obtain ⟨C1,m1,e1,rfl,j1⟩:=hp.objects
 have k1:=j1.len
 obtain ⟨C2,m2,e2,rfl,j2⟩:=hp.init
 have k2:=j2.len
 obtain ⟨C3,m3,e3,rfl,j3⟩:=hp.values
 have k3:=j3.len
 have hg:=hp.goal
 obtain ⟨U1,w1,z1,rfl,_⟩:=hp.goal.args
 obtain ⟨U2,w2,z2,rfl,_⟩:=hp.goal.params
 obtain ⟨U3,w3,z3,rfl,_⟩:=hp.goal.exprs
 obtain ⟨U4,w4,z4,rfl,_⟩:=hp.goal.kids
 refine GFn.quiet ?_
 have hnn:Yfj d p=d.types.length+d.constants.length+d.predicates.length+d.functions.length+p.objects.length+p.init.length+p.values.length+fcount p.goal+(d.actions.map laA).sum+(d.duratives.map laU).sum:=rfl
 (refine GFn.of_wp Tryz.func6 rfl Tryz.ntmps6 rfl rfl (fun w0=>?_))
 (refine Yu (Yy (Yd Zz (XB _ Zz Zz (fun g0=>?_)))))
 (refine Yd Zz (XB _ Zz Zz (fun g1=>?_)))
 ((repeat (first | refine zS ?_ | refine zA fun _=>?_)))
 (((refine zG ?_));refine YF (vs:=[.string p.goal.op,.string p.goal.name,.slice U1 w1 z1,.slice U2 w2 z2,.slice U3 w3 z3,.slice U4 w4 z4]) T 0 Zz Zz Zz Zz Zz Zz ?_)
 (((refine zG ?_));refine Yl Zz Zz (YdI hg Zi) ?_)
 ((repeat (first | refine zS ?_ | refine zA fun _=>?_)))
 refine YI (fun q σ fz' H'=>∃ (k:Nat) (c:Int),k≤n5∧q=n5 - k∧σ=[(6,.int .i64 k),(5,.int .i64 c),(2,.pointer (some ⟨g0,0,none⟩))]∧fz=fz'∧H'=[(g0,.cells #[.string d.name,.slice A1 n1 b1,.slice A2 n2 b2,.slice A3 n3 b3,.slice A4 n4 b4,.slice A5 n5 b5,.slice A6 n6 b6] 28 (0,0))]∧c=((n1+n2+n3+n4+m1+m2+m3+fcount p.goal+((d.actions.take k).map laA).sum:Nat):Int)) ⟨0,(n1:Int)+n2+n3+n4+m1+m2+m3+(fcount p.goal:Nat),Nat.zero_le _,rfl,rfl,rfl,rfl,by simp⟩ (Zw) (List.Sublist.cons _ (List.Sublist.refl _)) ?_
 rintro q σ fz' H' ⟨k,c,hkm,rfl,rfl,rfl,rfl,hh⟩
 ((repeat (first | refine zS ?_ | refine zA fun _=>?_)))
 ((refine zG ?_;refine zC (fun c1=>?_) (fun c1=>?_)))
 ·obtain ⟨x,hx⟩:=YH (l:=d.actions) (k:=k) Zi
  have hst:=Yeb (w:=laA) hx
  have htk:=Yea (w:=laA) (l:=d.actions) (k:=k+1)
  have hvx:laA x=1+fcount x.pre+W0 x.changes:=rfl
  ((repeat (first | refine zS ?_ | refine zA fun _=>?_)))
  (((refine zG ?_));refine YG T k Zz Zz Zz Zz Zz Zz i5 (by first | rfl | omega) hx (fun pp1 hp1=>?_))
  ((repeat (first | refine zS ?_ | refine zA fun _=>?_)))
  (((refine zG ?_));refine YA T Zz Zz Zz hp1.Action_pre Zz ?_)
  intro cs1 hcs1
  obtain ⟨s1,s2,s3,s4,rfl,hR1⟩:=YT hcs1
  (((refine zG ?_));refine Yl Zz Zz (YdI hR1 Zi) ?_)
  ((repeat (first | refine zS ?_ | refine zA fun _=>?_)))
  (((refine zG ?_));refine YG T k Zz Zz Zz Zz Zz Zz i5 (by first | rfl | omega) hx (fun pp2 hp2=>?_))
  ((repeat (first | refine zS ?_ | refine zA fun _=>?_)))
  (((refine zG ?_));refine YcX T Zz Zz Zz hp2.Action_changes (fun P2 pn2 pc2 ic=>?_))
  (((refine zG ?_));refine Yl Zz Zz (Yf4 ic Zi) ?_)
  ((repeat (first | refine zS ?_ | refine zA fun _=>?_)))
  exact YY ⟨k+1,c+(1+(fcount x.pre:Nat)+(W0 x.changes:Nat)),by omega,rfl,rfl,rfl,rfl,by omega⟩ Zi (Zw) (Zb)
 ·rw [List.take_of_length_le Zi] at hh
  ((repeat (first | refine zS ?_ | refine zA fun _=>?_)))
  refine YI (fun q σ fz' H'=>∃ (k:Nat) (c:Int),k≤n6∧q=n6 - k∧σ=[(7,.int .i64 k),(5,.int .i64 c),(2,.pointer (some ⟨g0,0,none⟩))]∧fz=fz'∧H'=[(g0,.cells #[.string d.name,.slice A1 n1 b1,.slice A2 n2 b2,.slice A3 n3 b3,.slice A4 n4 b4,.slice A5 n5 b5,.slice A6 n6 b6] 28 (0,0))]∧c=((n1+n2+n3+n4+m1+m2+m3+fcount p.goal+(d.actions.map laA).sum+((d.duratives.take k).map laU).sum:Nat):Int)) ⟨0,c,Nat.zero_le _,rfl,rfl,rfl,rfl,by rw [hh];simp⟩ (Zw) (Zb) ?_
  rintro q σ fz' H' ⟨k,c,hkm,rfl,rfl,rfl,rfl,hh⟩
  ((repeat (first | refine zS ?_ | refine zA fun _=>?_)))
  ((refine zG ?_;refine zC (fun c2=>?_) (fun c2=>?_)))
  ·obtain ⟨x,hx⟩:=YH (l:=d.duratives) (k:=k) Zi
   have hst:=Yeb (w:=laU) hx
   have htk:=Yea (w:=laU) (l:=d.duratives) (k:=k+1)
   have hvx:laU x=1+fcount x.start+fcount x.over+fcount x.fin+W0 x.atStart+W0 x.atEnd:=rfl
   ((repeat (first | refine zS ?_ | refine zA fun _=>?_)))
   (((refine zG ?_));refine YG T k Zz Zz Zz Zz Zz Zz i6 (by first | rfl | omega) hx (fun pp1 hp1=>?_))
   (((refine zG ?_));refine YA T Zz Zz Zz hp1 Zz ?_)
   intro cs1 hcs1
   obtain ⟨r0,r1,r2,r3,r4,r5,r6,r7,r8,r9,r10,r11,r12,r13,r14,rfl,hR⟩:=Ybi hcs1
   obtain ⟨P,p1,q1,rfl,ip⟩:=hR.params
   have hS1:=hR.start
   have hS2:=hR.over
   have hS3:=hR.fin
   obtain ⟨V1,a1,y1,rfl,_⟩:=hR.start.args
   obtain ⟨V2,a2,y2,rfl,_⟩:=hR.start.params
   obtain ⟨V3,a3,y3,rfl,_⟩:=hR.start.exprs
   obtain ⟨V4,a4,y4,rfl,_⟩:=hR.start.kids
   obtain ⟨V5,a5,y5,rfl,_⟩:=hR.over.args
   obtain ⟨V6,a6,y6,rfl,_⟩:=hR.over.params
   obtain ⟨V7,a7,y7,rfl,_⟩:=hR.over.exprs
   obtain ⟨V8,a8,y8,rfl,_⟩:=hR.over.kids
   obtain ⟨V9,a9,y9,rfl,_⟩:=hR.fin.args
   obtain ⟨V10,a10,y10,rfl,_⟩:=hR.fin.params
   obtain ⟨V11,a11,y11,rfl,_⟩:=hR.fin.exprs
   obtain ⟨V12,a12,y12,rfl,_⟩:=hR.fin.kids
   obtain ⟨V13,a13,y13,rfl,ia⟩:=hR.atStart
   obtain ⟨V14,a14,y14,rfl,ie⟩:=hR.atEnd
   ((repeat (first | refine zS ?_ | refine zA fun _=>?_)))
   (((refine zG ?_));refine YF (vs:=[.string x.start.op,.string x.start.name,.slice V1 a1 y1,.slice V2 a2 y2,.slice V3 a3 y3,.slice V4 a4 y4]) T 0 Zz Zz Zz Zz Zz Zz ?_)
   ((repeat (first | refine zS ?_ | refine zA fun _=>?_)))
   (((refine zG ?_));refine Yl Zz Zz (YdI hS1 Zi) ?_)
   ((repeat (first | refine zS ?_ | refine zA fun _=>?_)))
   (((refine zG ?_));refine YF (vs:=[.string x.over.op,.string x.over.name,.slice V5 a5 y5,.slice V6 a6 y6,.slice V7 a7 y7,.slice V8 a8 y8]) T 0 Zz Zz Zz Zz Zz Zz ?_)
   ((repeat (first | refine zS ?_ | refine zA fun _=>?_)))
   (((refine zG ?_));refine Yl Zz Zz (YdI hS2 Zi) ?_)
   ((repeat (first | refine zS ?_ | refine zA fun _=>?_)))
   (((refine zG ?_));refine YF (vs:=[.string x.fin.op,.string x.fin.name,.slice V9 a9 y9,.slice V10 a10 y10,.slice V11 a11 y11,.slice V12 a12 y12]) T 0 Zz Zz Zz Zz Zz Zz ?_)
   ((repeat (first | refine zS ?_ | refine zA fun _=>?_)))
   (((refine zG ?_));refine Yl Zz Zz (YdI hS3 Zi) ?_)
   ((repeat (first | refine zS ?_ | refine zA fun _=>?_)))
   (((refine zG ?_));refine Yl Zz Zz (Yf4 ia Zi) ?_)
   ((repeat (first | refine zS ?_ | refine zA fun _=>?_)))
   (((refine zG ?_));refine Yl Zz Zz (Yf4 ie Zi) ?_)
   ((repeat (first | refine zS ?_ | refine zA fun _=>?_)))
   exact YY ⟨k+1,c+(1+(fcount x.start:Nat)+(fcount x.over:Nat)+(fcount x.fin:Nat)+(W0 x.atStart:Nat)+(W0 x.atEnd:Nat)),by omega,rfl,rfl,rfl,rfl,by omega⟩ Zi (Zw) (Zb)
  ·rw [List.take_of_length_le Zi] at hh
   ((repeat (first | refine zS ?_ | refine zA fun _=>?_)))
   ((refine zG ?_;refine zC (fun c3=>?_) (fun c3=>?_)))
   ·((repeat (first | refine zS ?_ | refine zA fun _=>?_)))
    (exact ret1 rfl rfl (Zb) (Y1 Zi))
   ·((repeat (first | refine zS ?_ | refine zA fun _=>?_)))
    (exact ret1 rfl rfl (Zb) (Yt Zi))
end Go.Proofs.YtbhlgkibgajajaaGreatDoor
namespace Go.Lx
open Go
def Ln (l:List UInt8):Prop:=∃ (j:Nat) (mid:List UInt8) (m:Nat),l=List.replicate j 32++(mid++List.replicate m 41)∧mid≠ []∧mid.head?≠some 32∧10 ∉ mid∧(j+mid.length≤80∨32 ∉ mid)
inductive Lns:List UInt8→Prop
 | one {l:List UInt8}:Ln l→Lns l
 | more {l t:List UInt8}:Ln l→Lns t→Lns (l++10::t)
theorem Lns.append {a b:List UInt8} (ha:Lns a) (hb:Lns b):Lns (a++10::b):=by
 induction ha with
 | one h=>exact .more h hb
 | more h _ ih=>rw [List.append_assoc];exact .more h ih
theorem Ln.no10 {l:List UInt8} (h:Ln l):10 ∉ l:=by
 obtain ⟨j,mid,m,rfl,_,_,h,_⟩:=h
 simp only [List.mem_append,List.mem_replicate,not_or]
 exact ⟨fun h0=>absurd h0.2 Zh,h,fun h0=>absurd h0.2 Zh⟩
theorem YhC {a b c d:List UInt8} (ha:10 ∉ a) (hc:10 ∉ c) (h:a++10::b=c++10::d):a=c∧b=d:=by
 induction a generalizing c with
 | nil=>
  cases c with
  | nil=>simpa using h
  | cons x r=>simp at h;exact absurd h.1 (fun h0=>hc (by simp [h0]))
 | cons x r ih=>
  cases c with
  | nil=>simp at h;exact absurd h.1 (fun h0=>ha (by simp [h0]))
  | cons y s=>
   simp at h
   have:=ih (c:=s) (fun h0=>ha (by simp [h0])) (fun h0=>hc (by simp [h0])) h.2
   exact ⟨by rw [h.1,this.1],this.2⟩
theorem Lns.first {t cur rest:List UInt8} (h:Lns t) (hc:10 ∉ cur) (e:cur++10::rest=t++ [10]):Ln cur∧(rest=[]∨∃ t',Lns t'∧rest=t'++ [10]):=by
 cases h with
 | one h=>
  have:=YhC hc h.no10 e
  exact ⟨this.1 ▸ h,.inl this.2⟩
 | more h ht=>
  rename_i l t'
  rw [List.append_assoc,List.cons_append] at e
  have:=YhC hc h.no10 e
  exact ⟨this.1 ▸ h,.inr ⟨t',ht,this.2⟩⟩
def XTx (x:Sexpr):Prop:=x.kind=1→x.text.data.toList≠ []∧32 ∉ x.text.data.toList∧10 ∉ x.text.data.toList
theorem dec_no {u:Nat} {c:UInt8} (hc:c.toNat<48):Lib.decDigits u≠ []∧c ∉ Lib.decDigits u:=by
 have key:∀ n:Nat,n<10→c≠UInt8.ofNat (48+n):=fun n hn h=>by
  have:(UInt8.ofNat (48+n)).toNat=48+n:=by simp [UInt8.toNat_ofNat'];omega
  rw [h,this] at hc;omega
 induction u using Nat.strongRecOn with
 | ind u ih=>
  rw [Lib.decDigits]
  split
  ·rename_i h
   exact ⟨by simp,by simpa using key u h⟩
  ·rename_i h
   have:=ih (u / 10) Zi
   refine ⟨by simp,?_⟩
   simp only [List.mem_append,not_or]
   exact ⟨this.2,by simpa using key (u % 10) Zi⟩
theorem itoa_no {n:Int} {c:UInt8} (hc:c.toNat<45):Lib.itoa n≠ []∧c ∉ Lib.itoa n:=by
 unfold Lib.itoa
 split
 ·refine ⟨by simp,?_⟩
  simp only [List.mem_cons,not_or]
  exact ⟨fun h=>by subst h;simp at hc,(dec_no Zi).2⟩
 ·exact dec_no Zi
theorem txt_ne {x:Sexpr} (h:XTx x):txt x≠ []:=by
 rw [Ygl]
 split
 ·rename_i hk;exact (h hk).1
 ·split
  ·exact (itoa_no (c:=32) Zh).1
  ·simp
theorem txt_one {x:Sexpr} (h:XTx x) (hk:x.kind≠3∨x.kids.length=0) (h3:x.kind=1∨x.kind=2∨x.kind=3):32 ∉ txt x:=by
 rw [Ygl]
 split
 ·rename_i h1;exact (h h1).2.1
 ·split
  ·exact (itoa_no (c:=32) Zh).2
  ·rename_i h1 h2
   have h4:x.kids=[]:=List.eq_nil_of_length_eq_zero Zi
   rw [h4]
   decide
theorem mem_join {c:UInt8} {l:List (List UInt8)} (h:c∈Lib.join l [32]):c=32∨∃ t∈l,c∈t:=by
 cases l with
 | nil=>simp [Lib.join_nil] at h
 | cons a r=>
  rw [Lib.join_cons,Lib.joinTail] at h
  rcases List.mem_append.1 h with h | h
  ·exact .inr ⟨a,by simp,h⟩
  ·obtain ⟨t,ht,hc⟩:=List.mem_flatten.1 h
   obtain ⟨u,hu,rfl⟩:=List.mem_map.1 ht
   simp at hc
   rcases hc with hc | hc
   ·exact .inl hc
   ·exact .inr ⟨u,by simp [hu],hc⟩
mutual
theorem txt_no10:∀ {x:Sexpr},XAll XTx x→10 ∉ txt x
 | .mk k v l c t ks,h=>by
  rw [XAll] at h
  have hs:=txtL_no10 h.2
  rw [txt]
  split
  ·rename_i h1;exact (h.1 h1).2.2
  ·split
   ·exact (itoa_no (c:=10) Zh).2
   ·simp only [List.mem_cons,List.mem_append,List.not_mem_nil,or_false,not_or]
    refine ⟨by decide,fun h0=>?_,by decide⟩
    rcases mem_join h0 with h0 | ⟨u,hu,h0⟩
    ·exact absurd h0 Zh
    ·exact hs u hu h0
theorem txtL_no10:∀ {l:List Sexpr},XAllL XTx l→∀ u∈txtL l,10 ∉ u
 | [],_=>by simp [txtL]
 | x::r,h=>by
  rw [XAllL] at h
  have h1:=txt_no10 h.1
  have h2:=txtL_no10 h.2
  simp only [txtL,List.mem_cons,forall_eq_or_imp]
  exact ⟨h1,h2⟩
end
theorem head_no {k:Nat} {l:List UInt8} (h1:l≠ []) (h2:l.head?≠some 32):(List.replicate k 40++l).head?≠some 32:=by
 cases k with
 | zero=>simpa using h2
 | succ k=>simp [List.replicate_succ]
theorem txt_head {x:Sexpr} (h:XTx x):(txt x).head?≠some 32:=by
 rw [Ygl]
 have key:∀ l:List UInt8,32 ∉ l→l.head?≠some 32:=fun l h0 h1=>by
  cases l with
  | nil=>simp at h1
  | cons a r=>simp at h1;subst h1;simp at h0
 split
 ·rename_i h1;exact key _ (h h1).2.1
 ·split
  ·exact key _ (itoa_no (c:=32) Zh).2
  ·simp
def XK (x:Sexpr):Prop:=XTx x∧(x.kind=1∨x.kind=2∨x.kind=3)
mutual
theorem all_tx:∀ {x:Sexpr},XAll XK x→XAll XTx x
 | .mk k v l c t ks,h=>by
  rw [XAll] at h ⊢
  exact ⟨h.1.1,all_txL h.2⟩
theorem all_txL:∀ {l:List Sexpr},XAllL XK l→XAllL XTx l
 | [],_=>by simp [XAllL]
 | x::r,h=>by
  rw [XAllL] at h ⊢
  exact ⟨all_tx h.1,all_txL h.2⟩
end
theorem snoc41 {m:Nat} {a:List UInt8}:a++ [41]++List.replicate m 41=a++List.replicate (m+1) 41:=by
 rw [List.append_assoc];rfl
mutual
theorem lay_lns:∀ {x:Sexpr} {i j k m:Nat},XAll XK x→j+k=i→Lns (List.replicate j 32++(List.replicate k 40++(lay 80 x i++List.replicate m 41)))
 | .mk kd v l c t ks,i,j,k,m,h,hi=>by
  have hT:=all_tx h
  have h0:=h
  rw [XAll] at h0
  by_cases hf:kd≠3∨ks.length=0∨i+(txt (.mk kd v l c t ks)).length≤80
  ·rw [lay,if_pos hf]
   refine .one ⟨j,List.replicate k 40++txt (.mk kd v l c t ks),m,by simp only [List.append_assoc],?_,head_no (txt_ne h0.1.1) (txt_head h0.1.1),?_,?_⟩
   ·intro h1
    exact txt_ne h0.1.1 (List.append_eq_nil_iff.1 h1).2
   ·simp only [List.mem_append,List.mem_replicate,not_or]
    exact ⟨fun h1=>absurd h1.2 Zh,txt_no10 hT⟩
   ·by_cases hw:i+(txt (.mk kd v l c t ks)).length≤80
    ·left;simp only [List.length_append,List.length_replicate];omega
    ·right
     simp only [List.mem_append,List.mem_replicate,not_or]
     refine ⟨fun h1=>absurd h1.2 Zh,txt_one h0.1.1 ?_ h0.1.2⟩
     rcases hf with hf | hf | hf
     ·exact .inl hf
     ·exact .inr hf
     ·exact absurd hf hw
  ·rw [lay,if_neg hf]
   have e:List.replicate k 40++((40:UInt8)::(layH 80 ks i++ [41])++List.replicate m 41)=List.replicate (k+1) 40++(layH 80 ks i++List.replicate (m+1) 41):=by
    rw [List.replicate_succ' (n:=k),List.cons_append,snoc41,List.append_assoc];rfl
   rw [e]
   exact layH_lns h0.2 (fun h1=>hf (.inr (.inl (by rw [h1];rfl)))) Zi
theorem layH_lns:∀ {ks:List Sexpr} {i j k m:Nat},XAllL XK ks→ks≠ []→j+k=i+1→Lns (List.replicate j 32++(List.replicate k 40++(layH 80 ks i++List.replicate m 41)))
 | [],_,_,_,_,_,h,_=>absurd rfl h
 | x::r,i,j,k,m,h,_,hi=>by
  rw [XAllL] at h
  rw [layH]
  cases hr:r with
  | nil=>
   rw [layT,List.append_nil]
   exact lay_lns h.1 hi
  | cons y s=>
   obtain ⟨u,hu,hl⟩:=layT_lns (ks:=r) (i:=i+2) (m:=m) h.2 (by rw [hr];simp)
   have h1:=lay_lns (i:=i+1) (j:=j) (k:=k) (m:=0) h.1 hi
   rw [List.replicate_zero,List.append_nil] at h1
   have:=h1.append hl
   rw [← hr,hu]
   simpa only [List.append_assoc,List.cons_append] using this
theorem layT_lns:∀ {ks:List Sexpr} {i m:Nat},XAllL XK ks→ks≠ []→∃ u,layT 80 ks i=10::u∧Lns (u++List.replicate m 41)
 | [],_,_,_,h=>absurd rfl h
 | x::r,i,m,h,_=>by
  rw [XAllL] at h
  refine ⟨(List.replicate i 32++lay 80 x i)++layT 80 r i,by rw [layT,List.cons_append],?_⟩
  cases hr:r with
  | nil=>
   rw [layT,List.append_nil]
   have:=lay_lns (i:=i) (j:=i) (k:=0) (m:=m) h.1 Zi
   simpa only [List.replicate_zero,List.nil_append,List.append_assoc] using this
  | cons y s=>
   obtain ⟨u,hu,hl⟩:=layT_lns (ks:=r) (i:=i) (m:=m) h.2 (by rw [hr];simp)
   have h1:=lay_lns (i:=i) (j:=i) (k:=0) (m:=0) h.1 Zi
   simp only [List.replicate_zero,List.append_nil,List.nil_append] at h1
   have:=h1.append hl
   rw [← hr,hu]
   simpa only [List.append_assoc,List.cons_append] using this
end
theorem Yh9 {x:Sexpr} (h:XAll XK x):Lns (lay 80 x 0):=by
 have:=lay_lns (i:=0) (j:=0) (k:=0) (m:=0) h rfl
 simpa using this
theorem Yh6 {j p m:Nat} {mid:List UInt8} {c:UInt8} (h:(List.replicate j 32++(mid++List.replicate m 41))[p]?=some c):(p<j∧c=32)∨(j≤p∧p<j+mid.length∧c∈mid)∨(j+mid.length≤p∧c=41):=by
 by_cases h1:p<j
 ·rw [List.getElem?_append_left (by simpa using h1)] at h
  have:=List.mem_of_getElem? h
  exact .inl ⟨h1,(List.mem_replicate.1 this).2⟩
 ·rw [List.getElem?_append_right (by simp;omega)] at h
  simp only [List.length_replicate] at h
  by_cases h2:p - j<mid.length
  ·rw [List.getElem?_append_left h2] at h
   exact .inr (.inl ⟨by omega,by omega,List.mem_of_getElem? h⟩)
  ·rw [List.getElem?_append_right Zi] at h
   exact .inr (.inr ⟨by omega,(List.mem_replicate.1 (List.mem_of_getElem? h)).2⟩)
theorem ln_check {l:List UInt8} (h:Ln l) {n b:Nat} (hn:n≤l.length) (h2:n=0∨∃ c,l[n - 1]?=some c∧c≠41) (h3:∀ p,p<b→l[p]?=some 32) (h4:b=n∨∃ c,l[b]?=some c∧c≠32):
 ¬(n=b∧l.length=n)∧(80<n→∀ p,b≤p→p<n→l[p]?≠some 32):=by
 obtain ⟨j,mid,m,rfl,m1,m2,_,m4⟩:=h
 constructor
 ·rintro ⟨rfl,hl⟩
  cases hm:mid with
  | nil=>exact m1 hm
  | cons a r=>
   have ha:a≠32:=fun h0=>m2 (by rw [hm,h0];rfl)
   have hg:(List.replicate j 32++(mid++List.replicate m 41))[j]?=some a:=by
    rw [List.getElem?_append_right (by simp),hm];simp
   have hj:j<n:=by rw [← hl];exact (List.getElem?_eq_some_iff.1 hg).1
   have:=h3 j hj
   rw [hg] at this
   exact ha (Option.some.inj this)
 ·intro h80 p hp1 hp2 h0
  have hnl:n≤j+mid.length:=by
   rcases h2 with h2 | ⟨c,hc,h41⟩
   ·omega
   ·rcases Yh6 hc with h5 | h5 | h5
    ·omega
    ·omega
    ·exact absurd h5.2 h41
  rcases m4 with m4 | m4
  ·omega
  ·rcases Yh6 h0 with h5 | h5 | h5
   ·rcases h4 with h4 | ⟨c,hc,h32⟩
    ·omega
    ·rcases Yh6 hc with h6 | h6 | h6
     ·exact h32 h6.2
     ·omega
     ·omega
   ·exact m4 h5.2.2
   ·exact absurd h5.2 Zh
end Go.Lx
set_option maxRecDepth 20000
namespace Go.Proofs.YtbhlgkibgajajaaGreatDoor
open Go.Lx Go.RowKit
attribute [local instance 10] Classical.propDecidable
theorem Yhd {fz:FZ} {x:Sexpr} {vk:Value} (h:Y4 fz x vk) (hv:XVal x) (hT:TabF fz):
 QFn Tryz.prog 16 [.agg #[.int .i64 x.kind,.int .i64 x.value,.int .i64 x.line,.int .i64 x.column,.string x.text,vk],.nilIface] fz (.tuple #[.string (strOf (lay 80 x 0++ [10])),.nilIface]):=by
 obtain ⟨A,n,c,rfl,_⟩:=h.kids
 have hL:=Yhq h hT
 rw [if_pos hv] at hL
 have hl:=Yd3 (w:=80) (i:=0) hv.1 (by have:=hv.2.1;omega)
 have hc:=hv.2.2
 refine GFn.quiet ?_
 (refine GFn.of_wp Tryz.func16 rfl Tryz.ntmps16 rfl rfl (fun w0=>?_))
 (refine Yu (Yy (Yd Zz (XB _ Zz Zz (fun g0=>?_)))))
 ((repeat (first | refine zS ?_ | refine zA fun _=>?_)))
 (((refine zG ?_));refine Yl Zz Zz hL ?_)
 ((repeat (first | refine zS ?_ | refine zA fun _=>?_)))
 ((refine zG ?_));refine YcY (b:=[10]) Zz Zz (by simp;omega) ?_
 ((repeat (first | refine zS ?_ | refine zA fun _=>?_)))
 exact ret2 rfl rfl rfl (Zb) rfl
theorem YfU {fz:FZ} {x:Sexpr} {vk:Value} (h:Y4 fz x vk):
 QFn Tryz.prog 16 [.agg #[.int .i64 x.kind,.int .i64 x.value,.int .i64 x.line,.int .i64 x.column,.string x.text,vk],.iface 47 (.int .i64 2)] fz (.tuple #[.string ⟨#[]⟩,.iface 47 (.int .i64 2)]):=by
 obtain ⟨A,n,c,rfl,_⟩:=h.kids
 refine GFn.quiet ?_
 (refine GFn.of_wp Tryz.func16 rfl Tryz.ntmps16 rfl rfl (fun w0=>?_))
 (refine Yu (Yy (Yd Zz (XB _ Zz Zz (fun g0=>?_)))))
 ((repeat (first | refine zS ?_ | refine zA fun _=>?_)))
 exact ret2 rfl rfl rfl (Zb) rfl
noncomputable def txtV (P:Prop) (l:List UInt8):Value:=.tuple #[.string (if P then strOf l else ⟨#[]⟩),errV (if P then 0 else 2)]
theorem pdom_q {fz:FZ} {d:Domain} {v1 v2 v3 v4 v5 v6:Value} (h:DomainR fz d v1 v2 v3 v4 v5 v6) (hs:DomSm d) (hT:TabF fz):
 QFn Tryz.prog 8 [.agg #[.string d.name,v1,v2,v3,v4,v5,v6]] fz (txtV (Yds d∧XVal (domX d)) (lay 80 (domX d) 0++ [10])):=by
 obtain ⟨A1,n1,b1,rfl,i1⟩:=h.types
 obtain ⟨A2,n2,b2,rfl,i2⟩:=h.constants
 obtain ⟨A3,n3,b3,rfl,i3⟩:=h.predicates
 obtain ⟨A4,n4,b4,rfl,i4⟩:=h.functions
 obtain ⟨A5,n5,b5,rfl,i5⟩:=h.actions
 obtain ⟨A6,n6,b6,rfl,i6⟩:=h.duratives
 refine GFn.quiet ?_
 (refine GFn.of_wp Tryz.func8 rfl Tryz.ntmps8 rfl rfl (fun w0=>?_))
 (refine Yu (Yy (Yd Zz (XB _ Zz Zz (fun g0=>?_)))))
 ((repeat (first | refine zS ?_ | refine zA fun _=>?_)))
 (refine Yd Zz (Yz [] _ Zz Zz Zz (dWrite_q h hs) (fun v6 fz6 H6 hle6 hR6=>?_)))
 obtain ⟨rfl,u,y,rfl,hy,hyx⟩:=hR6
 obtain ⟨A7,m7,c7,rfl,hX7⟩:=hy.x
 by_cases hP:Yds d∧XVal (domX d)
 ·have e:=hyx hP
  subst e
  rw [if_pos hP,show errV 0=.nilIface from rfl]
  ((repeat (first | refine zS ?_ | refine zA fun _=>?_)))
  (((refine zG ?_));refine Yl Zz Zz (Yhd hX7 hP.2 (hT.mono hle6)) ?_)
  ((repeat (first | refine zS ?_ | refine zA fun _=>?_)))
  exact ret2 rfl rfl rfl (Zb) (by rw [txtV,if_pos hP,if_pos hP];rfl)
 ·rw [if_neg hP,Ybt Zh]
  ((repeat (first | refine zS ?_ | refine zA fun _=>?_)))
  (((refine zG ?_));refine Yl Zz Zz (YfU hX7) ?_)
  ((repeat (first | refine zS ?_ | refine zA fun _=>?_)))
  exact ret2 rfl rfl rfl (Zb) (by rw [txtV,if_neg hP,if_neg hP,Ybt Zh];rfl)
def zeroP:Problem:=⟨⟨#[]⟩,⟨#[]⟩,[],[],[],.mk ⟨#[]⟩ ⟨#[]⟩ [] [] [] []⟩
theorem zeroP_R {fz:FZ}:ProblemR fz zeroP (.slice none 0 0) (.slice none 0 0) (.slice none 0 0) (.slice none 0 0) (.slice none 0 0) (.slice none 0 0) (.slice none 0 0):=
 ⟨YP,YP,IsSl.nil,IsSl.nil,IsSl.nil,⟨YP,YP,IsSl.nil,IsSl.nil,IsSl.nil,IsSl.nil⟩⟩
def AwkP:Prop:=∀ fz,TabF fz→QFn Tryz.prog 7 [] fz (.bool true)
end Go.Proofs.YtbhlgkibgajajaaGreatDoor
