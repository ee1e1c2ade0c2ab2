/- The texts Shelf, PWalkU, PWalkV, PRefN, PRefP, PWt, PBnd, PSame, laid together. Conditions: none. -/
import Derived.Test.YtbhlgkibgajajaaGreatDoorQPK
import Derived.Test.YtbhlgkibgajajaaGreatDoorQPH
import Derived.Test.YtbhlgkibgajajaaGreatDoorQPI
import Derived.Test.YtbhlgkibgajajaaGreatDoorQPB
import Derived.Test.YtbhlgkibgajajaaGreatDoorQPC
import Derived.Test.YtbhlgkibgajajaaGreatDoorQPD
import Derived.Shelf.Strings.Builder1
import Derived.Shelf.Strings.Builder2
import Derived.Shelf.Strings.OnBuilder
import Derived.Shelf.Small.Strs
import Derived.Shelf.Strings.BuilderF
import Derived.Shelf.Strconv.Itoa0
import Derived.Shelf.Strconv.Itoa1
import Derived.Shelf.LaysM
import Derived.Shelf.Strconv.Itoa2
import Derived.Shelf.Strconv.Itoa3
import Derived.Shelf.Strings.Search1
import Derived.Shelf.Strings.Search2
import Derived.Shelf.Strings.Search3
import Derived.Shelf.Strings.Shaped
import Derived.Shelf.Strings.Prefix
import Derived.Shelf.Bits.Mul64
import Derived.Shelf.Strings.Repeat
import Derived.Test.YtbhlgkibgajajaaGreatDoorChecked
import Derived.Test.YtbhlgkibgajajaaGreatDoorQPE
import Derived.Test.YtbhlgkibgajajaaGreatDoorQPL
import Derived.Test.YtbhlgkibgajajaaGreatDoorQPG
import Derived.Test.YtbhlgkibgajajaaGreatDoorQPJ
import Derived.Test.YtbhlgkibgajajaaGreatDoorQPF
namespace Go.Proofs
open Go.Shelf
def Tryz.lays156_ren:Go.Shelf.Ren:=⟨fun | 156=>197 | 165=>201 | 166=>139 | 169=>141 | 240=>198 | 241=>241 | 276=>237 | 277=>269 | n=>n,fun | 31=>32 | 9=>9 | 3=>3 | 4=>4 | 0=>0 | 20=>20 | 72=>194 | 76=>195 | 70=>191 | 37=>192 | 75=>41 | 127=>254 | 164=>283 | 5=>5 | 80=>198 | n=>n,fun | n=>n⟩
theorem Tryz.lays156:Go.Proofs.Lays.n156 Tryz.prog Tryz.lays156_ren:={
 mixed:=by kernel_rfl
 f156:=Tryz.func197.trans (congrArg some (by kernel_rfl))
 f165:=Tryz.func201.trans (congrArg some (by kernel_rfl))
 f166:=Tryz.func139.trans (congrArg some (by kernel_rfl))
 f169:=Tryz.func141.trans (congrArg some (by kernel_rfl))
 f240:=Tryz.func198.trans (congrArg some (by kernel_rfl))
 f241:=Tryz.func241.trans (congrArg some (by kernel_rfl))
 f276:=Tryz.func237.trans (congrArg some (by kernel_rfl))
 f277:=Tryz.func269.trans (congrArg some (by kernel_rfl))
 t0:=Tryz.underlying0
 a0:=Tryz.isAgg0
 z0:=Tryz.sizeOf0
 v0:=Tryz.zeroValue0
 t3:=Tryz.underlying3
 a3:=Tryz.isAgg3
 z3:=Tryz.sizeOf3
 v3:=Tryz.zeroValue3
 t4:=Tryz.underlying4
 a4:=Tryz.isAgg4
 z4:=Tryz.sizeOf4
 v4:=Tryz.zeroValue4
 t9:=Tryz.underlying9
 a9:=Tryz.isAgg9
 z9:=Tryz.sizeOf9
 v9:=Tryz.zeroValue9
 t20:=Tryz.underlying20
 a20:=Tryz.isAgg20
 z20:=Tryz.sizeOf20
 v20:=Tryz.zeroValue20
 t31:=Tryz.underlying32
 a31:=Tryz.isAgg32
 z31:=Tryz.sizeOf32
 v31:=Tryz.zeroValue32
 t37:=Tryz.underlying192
 a37:=Tryz.isAgg192
 z37:=Tryz.sizeOf192
 v37:=Tryz.zeroValue192
 t70:=Tryz.underlying191
 a70:=Tryz.isAgg191
 z70:=Tryz.sizeOf191
 v70:=Tryz.zeroValue191
 t72:=Tryz.underlying194
 a72:=Tryz.isAgg194
 z72:=Tryz.sizeOf194
 v72:=Tryz.zeroValue194
 t75:=Tryz.underlying41
 a75:=Tryz.isAgg41
 z75:=Tryz.sizeOf41
 v75:=Tryz.zeroValue41
 t76:=Tryz.underlying195
 a76:=Tryz.isAgg195
 z76:=Tryz.sizeOf195
 v76:=Tryz.zeroValue195
 t127:=Tryz.underlying254
 a127:=Tryz.isAgg254
 z127:=Tryz.sizeOf254
 v127:=Tryz.zeroValue254
 t164:=Tryz.underlying283
 a164:=Tryz.isAgg283
 z164:=Tryz.sizeOf283
 v164:=Tryz.zeroValue283}
theorem Tryz.Builder_Extra_156:Builder.Extra Tryz.prog Tryz.lays156_ren:={
 sizeBuilder:=by kernel_rfl
 liesBuilder:=by kernel_rfl
 t5:=Tryz.underlying5
 a5:=Tryz.isAgg5
 z5:=Tryz.sizeOf5
 v5:=Tryz.zeroValue5
 infoByte:=by kernel_rfl
 cellsByte:=by kernel_rfl
 sizeByte:=by kernel_rfl
 neB5:=by decide}
open Go.RowKit in
/-- No element: the empty string; the world is as1 it was. (Whatever the slice's address and capacity: a nil slice too.) (LAID: no walk: one application.) -/
theorem Tryz.strings_Join_none (a:Option Addr) (c:Nat) (sep:ByteArray) (w:World):
 Calls Tryz.prog 197 #[.slice a 0 c,.string sep] w fun e w'=>e=.returned (.string ⟨#[]⟩)∧w'=w:=Any.strings_Join_none Tryz.lays156 Tryz.Builder_Extra_156 a c sep w
open Go.RowKit in
/-- strings.Join: "Join concatenates the elements of its first argument to create a single string. The separator string sep is placed between elements in the resulting string.": HOWEVER MANY ELEMENTS. Below the heap's end the world is as1 it was. (LAID: no walk: one application.) -/
theorem Tryz.strings_Join (bk o c:Nat) (xs:List ByteArray) (sep:ByteArray) (w:World) (hcells:∀ (j:Nat) x,xs[j]?=some x→w.cell? ⟨bk,o+j,none⟩=some (.string x)) (hbk:bk<w.heap.size) (hN:xs.length≤140737488355328) (hcap:xs.length≤c) (hlen:(Lib.join (xs.map (·.data.toList)) sep.data.toList).length≤140737488355328):
 Calls Tryz.prog 197 #[.slice (some ⟨bk,o,none⟩) xs.length c,.string sep] w fun e w'=>e=.returned (.string ⟨(Lib.join (xs.map (·.data.toList)) sep.data.toList).toArray⟩)∧Below w.heap.size w w':=Any.strings_Join Tryz.lays156 Tryz.Builder_Extra_156 bk o c xs sep w hcells hbk hN hcap hlen
def Tryz.laysM171_ren:Go.Shelf.Ren:=⟨fun | 171=>54 | 243=>103 | 246=>170 | 283=>218 | 284=>219 | 285=>220 | 286=>221 | 129=>250 | 317=>249 | 318=>251 | 319=>252 | 320=>253 | 337=>272 | 338=>273 | n=>n,fun | 3=>3 | 9=>9 | 2=>2 | 4=>4 | 171=>262 | 0=>0 | 53=>263 | 37=>192 | 5=>5 | 173=>266 | 212=>293 | 51=>285 | 20=>20 | 213=>294 | 46=>248 | 232=>313 | 233=>314 | n=>n,fun | 17=>0 | 18=>2 | 19=>3 | n=>n⟩
theorem Tryz.laysM171:Go.Proofs.LaysM.n171 Tryz.prog Tryz.laysM171_ren:={
 mixed:=by kernel_rfl
 f129:=Tryz.func250.trans (congrArg some (by kernel_rfl))
 f171:=Tryz.func54.trans (congrArg some (by kernel_rfl))
 f243:=Tryz.func103.trans (congrArg some (by kernel_rfl))
 f246:=Tryz.func170.trans (congrArg some (by kernel_rfl))
 f283:=Tryz.func218.trans (congrArg some (by kernel_rfl))
 f284:=Tryz.func219.trans (congrArg some (by kernel_rfl))
 f285:=Tryz.func220.trans (congrArg some (by kernel_rfl))
 f286:=Tryz.func221.trans (congrArg some (by kernel_rfl))
 f317:=Tryz.func249.trans (congrArg some (by kernel_rfl))
 f318:=Tryz.func251.trans (congrArg some (by kernel_rfl))
 f319:=Tryz.func252.trans (congrArg some (by kernel_rfl))
 f320:=Tryz.func253.trans (congrArg some (by kernel_rfl))
 f337:=Tryz.func272.trans (congrArg some (by kernel_rfl))
 f338:=Tryz.func273.trans (congrArg some (by kernel_rfl))
 t0:=Tryz.underlying0
 a0:=Tryz.isAgg0
 z0:=Tryz.sizeOf0
 v0:=Tryz.zeroValue0
 t2:=Tryz.underlying2
 a2:=Tryz.isAgg2
 z2:=Tryz.sizeOf2
 v2:=Tryz.zeroValue2
 t3:=Tryz.underlying3
 a3:=Tryz.isAgg3
 z3:=Tryz.sizeOf3
 v3:=Tryz.zeroValue3
 t4:=Tryz.underlying4
 a4:=Tryz.isAgg4
 z4:=Tryz.sizeOf4
 v4:=Tryz.zeroValue4
 t5:=Tryz.underlying5
 a5:=Tryz.isAgg5
 z5:=Tryz.sizeOf5
 v5:=Tryz.zeroValue5
 t9:=Tryz.underlying9
 a9:=Tryz.isAgg9
 z9:=Tryz.sizeOf9
 v9:=Tryz.zeroValue9
 t20:=Tryz.underlying20
 a20:=Tryz.isAgg20
 z20:=Tryz.sizeOf20
 v20:=Tryz.zeroValue20
 t37:=Tryz.underlying192
 a37:=Tryz.isAgg192
 z37:=Tryz.sizeOf192
 v37:=Tryz.zeroValue192
 t46:=Tryz.underlying248
 a46:=Tryz.isAgg248
 z46:=Tryz.sizeOf248
 v46:=Tryz.zeroValue248
 t51:=Tryz.underlying285
 a51:=Tryz.isAgg285
 z51:=Tryz.sizeOf285
 v51:=Tryz.zeroValue285
 t53:=Tryz.underlying263
 a53:=Tryz.isAgg263
 z53:=Tryz.sizeOf263
 v53:=Tryz.zeroValue263
 t171:=Tryz.underlying262
 a171:=Tryz.isAgg262
 z171:=Tryz.sizeOf262
 v171:=Tryz.zeroValue262
 t173:=Tryz.underlying266
 a173:=Tryz.isAgg266
 z173:=Tryz.sizeOf266
 v173:=Tryz.zeroValue266
 t212:=Tryz.underlying293
 a212:=Tryz.isAgg293
 z212:=Tryz.sizeOf293
 v212:=Tryz.zeroValue293
 t213:=Tryz.underlying294
 a213:=Tryz.isAgg294
 z213:=Tryz.sizeOf294
 t232:=Tryz.underlying313
 a232:=Tryz.isAgg313
 z232:=Tryz.sizeOf313
 v232:=Tryz.zeroValue313
 t233:=Tryz.underlying314
 a233:=Tryz.isAgg314
 z233:=Tryz.sizeOf314
 v233:=Tryz.zeroValue314
 g17:=by kernel_rfl
 g18:=by kernel_rfl
 g19:=by kernel_rfl
 i0:=by kernel_rfl
 i2:=by kernel_rfl
 i3:=by kernel_rfl
 i4:=by kernel_rfl
 i5:=by kernel_rfl
 i9:=by kernel_rfl
 i20:=by kernel_rfl
 i37:=by kernel_rfl
 i46:=by kernel_rfl
 i51:=by kernel_rfl
 i53:=by kernel_rfl
 i171:=by kernel_rfl
 i173:=by kernel_rfl
 i212:=by kernel_rfl
 i232:=by kernel_rfl
 i233:=by kernel_rfl
 m17:=by kernel_rfl
 m18:=by kernel_rfl
 m19:=by kernel_rfl}
open Go.RowKit Go.Sort Go.Lib in
/-- strconv.Itoa: "Itoa is equivalent to FormatInt(int64(i), 10).": i's DECIMAL NUMERAL ('Lib.itoa': a '-' where i is negative, then the digits), FOR EVERY int. The world behind the call: the world before it, new blocks behind the heap (the library's 'var a [24]byte'), draws. (LAID: no walk: one application.) -/
theorem Tryz.strconv_Itoa (n:Int) (h0: -9223372036854775808≤n) (h1:n≤9223372036854775807) (w:World) (htab:Lib.TabIs Tryz.prog w "internal/strconv.uint64pow10" .u64 Lib.pow10Tab):
 Calls Tryz.prog 54 #[.int .i64 n] w fun e w'=>e=.returned (.string ⟨(Lib.itoa n).toArray⟩)∧∃ k os,w'=grow (w.drewN k) os:=Any.strconv_Itoa Tryz.laysM171 n h0 h1 w htab
def Tryz.lays105_ren:Go.Shelf.Ren:=⟨fun | 105=>140 | 212=>199 | 99=>200 | 165=>201 | 166=>139 | 170=>202 | 169=>141 | 263=>238 | 264=>239 | 206=>240 | 240=>198 | 241=>241 | 276=>237 | 277=>269 | n=>n,fun | 9=>9 | 3=>3 | 4=>4 | 20=>20 | 0=>0 | 46=>248 | 109=>249 | 5=>5 | 72=>194 | 76=>195 | 51=>285 | 146=>286 | 53=>263 | 148=>288 | 70=>191 | 37=>192 | 75=>41 | 127=>254 | 164=>283 | 80=>198 | n=>n,fun | n=>n⟩
theorem Tryz.lays105:Go.Proofs.Lays.n105 Tryz.prog Tryz.lays105_ren:={
 mixed:=by kernel_rfl
 f99:=Tryz.func200.trans (congrArg some (by kernel_rfl))
 f105:=Tryz.func140.trans (congrArg some (by kernel_rfl))
 f165:=Tryz.func201.trans (congrArg some (by kernel_rfl))
 f166:=Tryz.func139.trans (congrArg some (by kernel_rfl))
 f169:=Tryz.func141.trans (congrArg some (by kernel_rfl))
 f170:=Tryz.func202.trans (congrArg some (by kernel_rfl))
 f206:=Tryz.func240.trans (congrArg some (by kernel_rfl))
 f212:=Tryz.func199.trans (congrArg some (by kernel_rfl))
 f240:=Tryz.func198.trans (congrArg some (by kernel_rfl))
 f241:=Tryz.func241.trans (congrArg some (by kernel_rfl))
 f263:=Tryz.func238.trans (congrArg some (by kernel_rfl))
 f264:=Tryz.func239.trans (congrArg some (by kernel_rfl))
 f276:=Tryz.func237.trans (congrArg some (by kernel_rfl))
 f277:=Tryz.func269.trans (congrArg some (by kernel_rfl))
 t0:=Tryz.underlying0
 a0:=Tryz.isAgg0
 z0:=Tryz.sizeOf0
 v0:=Tryz.zeroValue0
 t3:=Tryz.underlying3
 a3:=Tryz.isAgg3
 z3:=Tryz.sizeOf3
 v3:=Tryz.zeroValue3
 t4:=Tryz.underlying4
 a4:=Tryz.isAgg4
 z4:=Tryz.sizeOf4
 v4:=Tryz.zeroValue4
 t5:=Tryz.underlying5
 a5:=Tryz.isAgg5
 z5:=Tryz.sizeOf5
 v5:=Tryz.zeroValue5
 t9:=Tryz.underlying9
 a9:=Tryz.isAgg9
 z9:=Tryz.sizeOf9
 v9:=Tryz.zeroValue9
 t20:=Tryz.underlying20
 a20:=Tryz.isAgg20
 z20:=Tryz.sizeOf20
 v20:=Tryz.zeroValue20
 t37:=Tryz.underlying192
 a37:=Tryz.isAgg192
 z37:=Tryz.sizeOf192
 v37:=Tryz.zeroValue192
 t46:=Tryz.underlying248
 a46:=Tryz.isAgg248
 z46:=Tryz.sizeOf248
 v46:=Tryz.zeroValue248
 t51:=Tryz.underlying285
 a51:=Tryz.isAgg285
 z51:=Tryz.sizeOf285
 v51:=Tryz.zeroValue285
 t53:=Tryz.underlying263
 a53:=Tryz.isAgg263
 z53:=Tryz.sizeOf263
 v53:=Tryz.zeroValue263
 t70:=Tryz.underlying191
 a70:=Tryz.isAgg191
 z70:=Tryz.sizeOf191
 v70:=Tryz.zeroValue191
 t72:=Tryz.underlying194
 a72:=Tryz.isAgg194
 z72:=Tryz.sizeOf194
 v72:=Tryz.zeroValue194
 t75:=Tryz.underlying41
 a75:=Tryz.isAgg41
 z75:=Tryz.sizeOf41
 v75:=Tryz.zeroValue41
 t76:=Tryz.underlying195
 a76:=Tryz.isAgg195
 z76:=Tryz.sizeOf195
 v76:=Tryz.zeroValue195
 t109:=Tryz.underlying249
 a109:=Tryz.isAgg249
 z109:=Tryz.sizeOf249
 v109:=Tryz.zeroValue249
 t127:=Tryz.underlying254
 a127:=Tryz.isAgg254
 z127:=Tryz.sizeOf254
 v127:=Tryz.zeroValue254
 t146:=Tryz.underlying286
 a146:=Tryz.isAgg286
 z146:=Tryz.sizeOf286
 v146:=Tryz.zeroValue286
 t148:=Tryz.underlying288
 a148:=Tryz.isAgg288
 z148:=Tryz.sizeOf288
 v148:=Tryz.zeroValue288
 t164:=Tryz.underlying283
 a164:=Tryz.isAgg283
 z164:=Tryz.sizeOf283
 v164:=Tryz.zeroValue283}
theorem Tryz.Builder_Extra_105:Builder.Extra Tryz.prog Tryz.lays105_ren:={
 sizeBuilder:=by kernel_rfl
 liesBuilder:=by kernel_rfl
 t5:=Tryz.underlying5
 a5:=Tryz.isAgg5
 z5:=Tryz.sizeOf5
 v5:=Tryz.zeroValue5
 infoByte:=by kernel_rfl
 cellsByte:=by kernel_rfl
 sizeByte:=by kernel_rfl
 neB5:=by decide}
open Go.RowKit Go.Lib in
/-- **strings.Repeat: count ≥ 0, the result within one allocation: count copies of s.** (LAID: no walk: one application.) -/
theorem Tryz.strings_Repeat (s:ByteArray) (c:Nat) (w:World) (hc:c≤9223372036854775807) (hlen:s.size*c≤140737488355328):
 Calls Tryz.prog 140 #[.string s,.int .i64 c] w fun e w'=>e=.returned (.string ⟨(Lib.repeatL s.data.toList c).toArray⟩)∧Below w.heap.size w w':=Any.strings_Repeat Tryz.lays105 Tryz.Builder_Extra_105 s c w hc hlen
end Go.Proofs
set_option maxRecDepth 20000
namespace Go.Proofs.YtbhlgkibgajajaaGreatDoor
open Go.Lx Go.RowKit
attribute [local instance 10] Classical.propDecidable
theorem YhN {w w':World} (h:Below w.heap.size w w'):Fr [] w w':=⟨h.os,h.tape,h.output,h.size,fun b hb _=>h.block b hb⟩
def TabF (fz:FZ):Prop:=∀ w,Hp fz [] w→Lib.TabIs Tryz.prog w "internal/strconv.uint64pow10" .u64 Lib.pow10Tab
theorem TabF.mono {fz fz':FZ} (hle:Le fz fz') (h:TabF fz):TabF fz':=fun w hw=>h w ⟨fun b o hb=>hw.keep b o (hle b o hb),by simp,by simp⟩
theorem itoa_q {fz:FZ} {n:Int} (hT:TabF fz) (h:YcB n):QFn Tryz.prog 54 [.int .i64 n] fz (.string (strOf (Lib.itoa n))):=by
 unfold QFn
 refine ⟨⟨_,Tryz.func54,by decide,by decide⟩,fun w hw=>?_⟩
 unfold YcB at h
 refine (Tryz.strconv_Itoa n Zi Zi w (hT w hw)).mono fun e w' ⟨he,k,os,hw'⟩=>⟨he,?_⟩
 subst hw'
 exact ⟨rfl,rfl,rfl,by show w.heap.size≤(w.heap++os).size;rw [Array.size_append];omega,fun b hb _=>Sort.heap_grow_old (w.drewN k) os hb⟩
theorem repeat_q {fz:FZ} {n:Nat} (h:n≤1000000000):QFn Tryz.prog 140 [.string ⟨#[32]⟩,.int .i64 n] fz (.string (strOf (List.replicate n 32))):=by
 unfold QFn
 refine ⟨⟨_,Tryz.func140,by decide,by decide⟩,fun w hw=>?_⟩
 refine (Tryz.strings_Repeat ⟨#[32]⟩ n w Zi (by show 1*n≤_;omega)).mono fun e w' ⟨he,hb⟩=>⟨?_,YhN hb⟩
 rw [he,← YfU]
 rfl
theorem join_q {fz fz':FZ} {v:Value} {n:Nat} {Hs:HP} {l:List (List UInt8)} (hg:Grow strL 9 fz v n Hs (l.map strOf)) (hf:∀ p∈Hs,fz' p.1=some p.2) (hn:n≤1000000000) (hlen:(Lib.join l [32]).length≤1000000000):
 QFn Tryz.prog 197 [v,.string ⟨#[32]⟩] fz' (.string (strOf (Lib.join l [32]))):=by
 unfold QFn
 refine ⟨⟨_,Tryz.func197,by decide,by decide⟩,fun w hw=>?_⟩
 have hd:(l.map strOf).map (fun x=>x.data.toList)=l:=by
  rw [List.map_map]
  calc l.map _=l.map id:=List.map_congr_left fun t _=>YcI t
   _=l:=List.map_id l
 obtain ⟨xs,h1,h2,h3,h4⟩:=hg
 rcases h4.2 with ⟨rfl,h0,_⟩ | ⟨g,cap,cur,rfl,hH,h6,h7,h8,h9⟩
 ·have hl:l=[]:=List.eq_nil_of_length_eq_zero (by have:=h3;rw [List.length_map] at this;omega)
  subst hl
  refine (Tryz.strings_Join_none none 0 ⟨#[32]⟩ w).mono fun e w' ⟨he,hb⟩=>⟨?_,by subst hb;exact Fr.refl _ _⟩
  rw [he];rfl
 ·have hb:=hw.keep _ _ (hf (g,.cells cur 9 (0,0)) (by rw [hH];simp))
  have hsh:∀ p∈xs,p.2=[Value.string p.1]:=fun p hp=>(h2 p hp).1
  have hfl:xs.flatMap Prod.snd=(l.map strOf).map Value.string:=by
   rw [← h1,List.map_map]
   clear h1 h3 h4 h9 h2
   induction xs with
   | nil=>rfl
   | cons a r ih=>rw [List.flatMap_cons,hsh a (by simp),ih (fun p hp=>hsh p (by simp [hp]))];rfl
  have hcells:∀ (j:Nat) x,(l.map strOf)[j]?=some x→w.cell? ⟨g,0+j,none⟩=some (.string x):=by
   intro j x hx
   have hj:j<n:=by have:=(List.getElem?_eq_some_iff.1 hx).1;omega
   have h10:(cur.toList.take (n*1))[j]?=some (.string x):=by
    have h9':cur.toList.take (n*1)=xs.flatMap Prod.snd:=h9
    rw [h9',hfl,List.getElem?_map,hx];rfl
   rw [List.getElem?_take,if_pos Zi] at h10
   rw [Nat.zero_add]
   simp only [World.cell?,hb]
   simpa using h10
  have hll:(l.map strOf).length=n:=h3
  have:=Tryz.strings_Join g 0 cap (l.map strOf) ⟨#[32]⟩ w hcells (lt_of_heap hb) Zi Zi (by rw [hd];exact Nat.le_trans hlen Zh)
  rw [hd,hll] at this
  exact this.mono fun e w' ⟨he,hb⟩=>⟨he,YhN hb⟩
def bldO (p v:Value):Obj:=.cells #[p,v] 194 (0,0)
def Bld (b:Nat) (l:List UInt8) (H:HP):Prop:=∃ (p v:Value) (Hs:HP),H=(b,bldO p v)::Hs∧(p=.pointer none∨p=.pointer (some ⟨b,0,none⟩))∧OwnS 5 1 v l.length (l.map Yao) Hs
theorem Bld.new (b:Nat):Bld b [] [(b,bldO (.pointer none) (.slice none 0 0))]:=⟨_,_,_,rfl,.inl rfl,OwnS.nil _ _⟩
theorem Yhe {fz:FZ} {b:Nat} {p v:Value} (hp:p=.pointer none∨p=.pointer (some ⟨b,0,none⟩)):
 GFn Tryz.prog 198 [.pointer (some ⟨b,0,none⟩)] fz [(b,bldO p v)] (fun r fz' H'=>r=.tuple #[]∧fz=fz'∧H'=[(b,bldO (.pointer (some ⟨b,0,none⟩)) v)]):=by
 refine GFn.of ⟨_,Tryz.func198,by decide,by decide⟩ fun w hw=>?_
 obtain ⟨hb,hz⟩:=hw.own (b,bldO p v) (by simp)
 simp only at hb hz
 have c0:w.cell? ⟨b,0,none⟩=some p:=by simp [World.cell?,hb,bldO]
 rcases hp with rfl | rfl
 ·refine (Any.Builder_copyCheck_fresh (ρ:=Tryz.lays156_ren) {Tryz.lays156 with} Tryz.Builder_Extra_156.toX72 b w c0 (by simp [World.shape?,hb,bldO];rfl) (by simp [World.frozen?,hb,bldO])).mono fun e w' ⟨he,hw'⟩=>?_
  subst hw'
  refine ⟨_,fz,_,he,⟨rfl,rfl,rfl⟩,⟨fun k o hk=>?_,fun q hq=>?_,by simp⟩,⟨rfl,rfl,rfl,by simp [World.setCell],fun k _ hn=>?_⟩,⟨fun _ _ h=>h,fun _ _ _=>rfl,fun q hq=>.inl (by simp at hq;subst hq;simp)⟩⟩
  ·rw [Below.heap_setCell _ _ _ _ (fun h=>by subst h;rw [hz] at hk;cases hk)]
   exact hw.keep k o hk
  ·simp only [List.mem_singleton] at hq
   subst hq
   refine ⟨?_,hz⟩
   simp [World.setCell,Array.getElem?_modify,hb,bldO]
  ·exact Below.heap_setCell _ _ _ _ (fun h=>hn (by simp [h]))
 ·refine (Any.Builder_copyCheck_used (ρ:=Tryz.lays156_ren) {Tryz.lays156 with} Tryz.Builder_Extra_156.toX72 b w c0).mono fun e w' ⟨he,hw'⟩=>?_
  subst hw'
  exact ⟨_,fz,_,he,⟨rfl,rfl,rfl⟩,hw,Fr.refl _ _,⟨fun _ _ h=>h,fun _ _ _=>rfl,fun q hq=>.inl (by simp at hq;subst hq;simp)⟩⟩
set_option maxHeartbeats 1000000 in
theorem Yeu {fz:FZ} {b:Nat} {l:List UInt8} {H:HP} {s:ByteArray} (hb:Bld b l H) (hs:l.length+s.size≤1000000000):
 GFn Tryz.prog 139 [.pointer (some ⟨b,0,none⟩),.string s] fz H (fun r fz' H'=>fz=fz'∧r=.tuple #[.int .i64 s.size,.nilIface]∧Bld b (l++s.data.toList) H'):=by
 obtain ⟨p,v,Hs,rfl,hp,hO⟩:=hb
 (refine GFn.of_wp Tryz.func139 rfl Tryz.ntmps139 rfl rfl (fun w0=>?_))
 ((repeat (first | refine zS ?_ | refine zA fun _=>?_)))
 (refine Yb Zz (YB [_] _ Zz Zz Zz (Yhe hp) (fun r1 fz1 H1 hle1 hR1=>?_)))
 obtain ⟨rfl,rfl,rfl⟩:=hR1
 unfold bldO
 ((repeat (first | refine zS ?_ | refine zA fun _=>?_)))
 refine Yb Zz (Yg2 T (Hr:=[_]) Zz Zz Zz Zz Zz Zz Zz Zz Zz Zz (List.Perm.refl _) hO Zi (fun v' Hs' hO'=>?_))
 obtain ⟨A',c',rfl,_,_⟩:=hO'.form
 ((repeat (first | refine zS ?_ | refine zA fun _=>?_)))
 refine ret2 rfl rfl rfl (List.Sublist.refl _) ⟨rfl,rfl,_,_,Hs',rfl,.inr rfl,?_⟩
 have e:(l++s.data.toList).length=l.length+s.size:=by rw [List.length_append,Array.length_toList];rfl
 rw [e,List.map_append]
 exact hO'
set_option maxHeartbeats 1000000 in
theorem Yj3 {fz:FZ} {b:Nat} {l:List UInt8} {H:HP} (hb:Bld b l H) (h0:l≠ []) (hn:l.length≤1000000000):
 GFn Tryz.prog 141 [.pointer (some ⟨b,0,none⟩)] fz H (fun r fz' H'=>fz=fz'∧r=.string (strOf l)∧H'=[]):=by
 obtain ⟨p,v,Hs,rfl,hp,hO⟩:=hb
 have hl0:l.length≠0:=by simpa using h0
 rcases hO.2 with ⟨_,h1,_⟩ | ⟨g,cap,cur,rfl,rfl,h3,h4,h5,h6⟩
 ·exact absurd h1 hl0
 ·obtain ⟨curl,rfl⟩:∃ cl:List Value,cur=cl.toArray:=⟨cur.toList,by simp⟩
  unfold bldO
  (refine GFn.of_wp Tryz.func141 rfl Tryz.ntmps141 rfl rfl (fun w0=>?_))
  ((repeat (first | refine zSO ?_ | refine zA fun _=>?_)))
  refine Yr (Yp ?_)
  ((repeat (first | refine zSO ?_ | refine zA fun _=>?_)))
  refine Yr ?_
  (refine Wp.drawK (Hq:=[_]) T.mixed Zj Zj (Zb) ?_)
  ((repeat (first | refine zS ?_ | refine zA fun _=>?_)))
  ((refine zG ?_));refine YfV Zz Zi ?_
  ((repeat (first | refine zS ?_ | refine zA fun _=>?_)))
  (refine Ye ?_)
  (refine Ye ?_)
  (refine YR ⟨by kernel_rfl,?_⟩)
  refine Ys (Yem T (pre:=[_]) (post:=[]) Zz Zz Zz Zz Zz Zz h0 (by simp at h5;omega) Zi (by simpa using h6) ⟨(⟨Le.refl _,Zx⟩),?_⟩)
  refine Ch.qk (⟨Le.refl _,Zx⟩) (Xk Zz ?_)
  refine Ch.done ?_
  ((repeat (first | refine zS ?_ | refine zA fun _=>?_)))
  exact ret1 rfl rfl (List.nil_sublist _) ⟨rfl,rfl,rfl⟩
end Go.Proofs.YtbhlgkibgajajaaGreatDoor
set_option maxRecDepth 20000
namespace Go.Proofs.YtbhlgkibgajajaaGreatDoor
open Go.Lx Go.RowKit
attribute [local instance 10] Classical.propDecidable
theorem Yhk {p q:Sexpr→Prop} (h:∀ x,p x→q x):∀ (s:Nat) {x:Sexpr},SizeOf.sizeOf x≤s→XAll p x→XAll q x
 | 0,x,hs,_=>by cases x;simp at hs
 | s+1,x,hs,hx=>by
  have h1:=Xq.1 hx
  exact Xq.2 ⟨h _ h1.1,fun k hk=>Yhk h s (by have:=Sexpr.kids_lt hk;omega) (h1.2 k hk)⟩
theorem xnode_sm {x:Sexpr} (h:YbV x):XSm x:=by
 rcases h with ⟨h1,h2,_⟩ | ⟨h1,_,_,h2⟩ | ⟨h1,_⟩
 ·exact ⟨fun _=>h2.2.1,fun h0=>by omega⟩
 ·exact ⟨fun h0=>by omega,fun _=>h2⟩
 ·exact ⟨fun h0=>by omega,fun h0=>by omega⟩
theorem Yes {x:Sexpr} (h:XOk x):XAll XSm x:=Yhk (fun _=>xnode_sm) _ (Nat.le_refl _) h
theorem YeP {x:Sexpr} (h:XOk x):(txt x).length≤36*xcount x:=by have:=txt_len (Yes h);omega
theorem str_one:OneC strL:=by
 intro fz d cs h u hu
 obtain ⟨rfl,_⟩:=h
 simp at hu;subst hu;rfl
theorem YiN {fz:FZ} {l:List UInt8} (h:l.length≤1000000000):strL.rep fz (strOf l) [.string (strOf l)]:=⟨rfl,by rw [Wt];omega⟩
theorem Ygi {x:Sexpr} (h:XOk x):(Lib.join (x.kids.map txt) [32]).length≤36*xcount x:=by
 cases x with
 | mk k v l c t ks=>
  have h1:=(Xq.1 (Yes h)).2
  have h2:=txtL_len (YbC.2 h1)
  have h3:=join_len (l:=ks.map txt)
  rw [← YeW] at h3 ⊢
  simp only [Sexpr.kids] at h2 ⊢
  rw [xcount]
  omega
set_option maxHeartbeats 1000000 in
theorem Yhj:∀ (s:Nat) {fz:FZ} {x:Sexpr} {vk:Value},SizeOf.sizeOf x≤s→Xd fz x vk→XOk x→xcount x≤4096→TabF fz→
 QFn Tryz.prog 138 [.agg #[.int .i64 x.kind,.int .i64 x.value,.int .i64 x.line,.int .i64 x.column,.string x.text,vk]] fz (.string (strOf (txt x)))
 | 0,_,x,_,hs,_,_,_,_=>by cases x;simp at hs
 | s+1,fz,x,vk,hs,h,hX,hc,hT=>by
  refine GFn.quiet ?_
  obtain ⟨A,n,ca,rfl,hk⟩:=h.kids
  have l1:=hk.len
  have l2:=hk.short
  have hN:=Xq.1 hX
  have e:=YfJ x
  have ec:=WD x
  (refine GFn.of_wp Tryz.func138 rfl Tryz.ntmps138 rfl rfl (fun w0=>?_))
  (refine Yr (Yp (Yb Zz (Xi _ Zz Zz (fun g0=>?_)))))
  ((repeat (first | refine zS ?_ | refine zA fun _=>?_)))
  ((refine zG ?_;refine zC (fun x1=>?_) (fun y1=>?_)))
  ·((repeat (first | refine zS ?_ | refine zA fun _=>?_)))
   (exact ret1 rfl rfl (Zb) (by rw [e,if_pos (show x.kind=1 from x1),Yhp]))
  ·((repeat (first | refine zS ?_ | refine zA fun _=>?_)))
   ((refine zG ?_;refine zC (fun x2=>?_) (fun y2=>?_)))
   ·have hNum:YcB x.value:=by
     rcases hN.1 with ⟨h1,_⟩ | ⟨_,_,_,h1⟩ | ⟨h1,_⟩
     ·omega
     ·exact h1
     ·omega
    ((repeat (first | refine zS ?_ | refine zA fun _=>?_)))
    (((refine zG ?_));refine Yj Zz Zz (itoa_q hT hNum) ?_)
    ((repeat (first | refine zS ?_ | refine zA fun _=>?_)))
    (exact ret1 rfl rfl (Zb) (by rw [e,if_neg (show ¬x.kind=1 from y1),if_pos (show x.kind=2 from x2)]))
   ·have hlen:=Ygi hX
    have hln:=Ydv (l:=x.kids)
    ((repeat (first | refine zS ?_ | refine zA fun _=>?_)))
    refine YD (fun q σ fz' H'=>∃ (k:Nat) (v:Value) (Hs:HP),k≤n∧q=n - k∧σ=[(20,.int .i64 k),(19,.int .i64 n),(18,.slice A n ca),(3,v)]∧fz=fz'∧H'=Hs∧Grow strL 9 fz' v k Hs (((x.kids.map txt).take k).map strOf))
     ⟨0,_,[],Nat.zero_le _,rfl,rfl,rfl,rfl,Grow.nil _ _ _⟩ (Zw) (Zb) ?_
    rintro q σ fz' H' ⟨k,v,Hs,hk',rfl,rfl,rfl,rfl,hG⟩
    obtain ⟨Av,cv,rfl,_,_⟩:=hG.form
    ((repeat (first | refine zS ?_ | refine zA fun _=>?_)))
    ((refine zG ?_;refine zC (fun c1=>?_) (fun c1=>?_)))
    ·obtain ⟨y,hy⟩:=YG (l:=x.kids) (k:=k) Zi
     have hym:=List.mem_of_getElem? hy
     have hlt:=Sexpr.kids_lt hym
     have hcy:=Wm hym
     have hyo:=hN.2 y hym
     have hyl:=YeP hyo
     ((repeat (first | refine zS ?_ | refine zA fun _=>?_)))
     (((refine zG ?_));refine YA T k Zz Zz Zz Zz Zz Zz hk (by first | rfl | omega) hy (fun p hp=>?_))
     (((refine zG ?_));refine Yx T Zz Zz Zz hp Zz ?_)
     intro cs hcs
     obtain ⟨vk2,rfl,hR⟩:=Yt hcs
     obtain ⟨A2,n2,c2,rfl,_⟩:=hR.kids
     ((repeat (first | refine zS ?_ | refine zA fun _=>?_)))
     (((refine zG ?_));refine Yj Zz Zz (Yhj s Zi hR hyo Zi hT) ?_)
     refine Yb Zz (Yc T (cs:=[.string (strOf (txt y))]) Zz Zz Zz Zz Zz Zz Zz Zz (fun gb=>?_))
     refine Yb Zz (Y3 T (Hr:=[_,_]) Zz Zz Zz Zz Zz Zz Zz Zz (List.Perm.refl _) hG str_one (.head _) (YiN Zi) (by show _*16≤_;omega) Zi (fun v' Hs' hO'=>?_))
     obtain ⟨Av',cv',rfl,_,_⟩:=hO'.form
     ((repeat (first | refine zS ?_ | refine zA fun _=>?_)))
     exact YP ⟨k+1,_,Hs',by omega,rfl,rfl,rfl,rfl,hO'.of (by rw [List.take_add_one,List.getElem?_map,hy];simp) rfl⟩ Zi (Zw) (Zb)
    ·have hk1:n=k:=by omega
     subst hk1
     rw [List.take_of_length_le (by rw [List.length_map];omega)] at hG
     ((repeat (first | refine zS ?_ | refine zA fun _=>?_)))
     refine Seq.freezeAll (H1:=[]) (List.Perm.refl _) (fun fz3 hle3 hf3=>?_)
     (((refine zG ?_));refine Yj Zz Zz (join_q hG hf3 Zi Zi) ?_)
     ((refine zG ?_));refine WA (a:=[40]) Zz Zz (by simp;omega) ?_
     ((refine zG ?_));refine WA (b:=[41]) Zz Zz (by simp;omega) ?_
     ((repeat (first | refine zS ?_ | refine zA fun _=>?_)))
     (exact ret1 rfl rfl (Zb) (by rw [e,if_neg (show ¬x.kind=1 from y1),if_neg (show ¬x.kind=2 from y2)];rfl))
theorem xwrite_q {fz:FZ} {x:Sexpr} {vk:Value} (h:Xd fz x vk) (hX:XOk x) (hc:xcount x≤4096) (hT:TabF fz):
 QFn Tryz.prog 138 [.agg #[.int .i64 x.kind,.int .i64 x.value,.int .i64 x.line,.int .i64 x.column,.string x.text,vk]] fz (.string (strOf (txt x))):=Yhj _ (Nat.le_refl _) h hX hc hT
theorem YcF {x:Sexpr} {w i:Nat} (h:XOk x) (hi:i+2*xdepth x≤66):(lay w x i).length≤102*xcount x:=by
 have:=lay_len (w:=w) (M:=66) (Yes h) hi
 omega
set_option maxHeartbeats 2000000 in
theorem YiC:∀ (s:Nat) {fz:FZ} {x:Sexpr} {vk:Value} {w i:Nat},SizeOf.sizeOf x≤s→Xd fz x vk→XOk x→xcount x≤4096→i+2*xdepth x≤66→w≤200→TabF fz→
 QFn Tryz.prog 64 [.agg #[.int .i64 x.kind,.int .i64 x.value,.int .i64 x.line,.int .i64 x.column,.string x.text,vk],.int .i64 w,.int .i64 i] fz (.string (strOf (lay w x i)))
 | 0,_,x,_,_,_,hs,_,_,_,_,_,_=>by cases x;simp at hs
 | s+1,fz,x,vk,w,i,hs,h,hX,hc,hi,hw,hT=>by
  refine GFn.quiet ?_
  obtain ⟨A,n,ca,rfl,hk⟩:=h.kids
  have l1:=hk.len
  have l2:=hk.short
  have hN:=Xq.1 hX
  have ec:=WD x
  have ed:=YaO x
  have htl:=YeP hX
  have hsz:=Wt (txt x)
  (refine GFn.of_wp Tryz.func64 rfl Tryz.ntmps64 rfl rfl (fun w0=>?_))
  (refine Yr (Yp (Yb Zz (Xi _ Zz Zz (fun g0=>?_)))))
  ((repeat (first | refine zS ?_ | refine zA fun _=>?_)))
  (((refine zG ?_));refine Yj Zz Zz (xwrite_q h hX hc hT) ?_)
  ((repeat (first | refine zS ?_ | refine zA fun _=>?_)))
  ((refine zG ?_;refine zC (fun x3=>?_) (fun y3=>?_)))
  ·((repeat (first | refine zS ?_ | refine zA fun _=>?_)))
   (exact ret1 rfl rfl (Zb) (by rw [Yba (.inl x3)]))
  ·((repeat (first | refine zS ?_ | refine zA fun _=>?_)))
   ((refine zG ?_;refine zC (fun e1=>?_) (fun e1=>?_)))
   ·((repeat (first | refine zS ?_ | refine zA fun _=>?_)))
    (exact ret1 rfl rfl (Zb) (by rw [Yba (.inr (.inl Zi))]))
   ·((repeat (first | refine zS ?_ | refine zA fun _=>?_)))
    ((refine zG ?_;refine zC (fun e2=>?_) (fun e2=>?_)))
    ·((repeat (first | refine zS ?_ | refine zA fun _=>?_)))
     (exact ret1 rfl rfl (Zb) (by rw [Yba (.inr (.inr Zi))]))
    ·have hl:=YhE (w:=w) (i:=i) (x:=x) (fun h0=>by omega)
     obtain ⟨y,hy⟩:=YG (l:=x.kids) (k:=0) Zi
     have hym:=List.mem_of_getElem? hy
     have hlt:=Sexpr.kids_lt hym
     have hcy:=Wm hym
     have hdy:=XF.1 (Nat.le_refl _) y hym
     have hd0:i+2+2*xdepthL x.kids≤66:=by rw [if_pos Zi] at ed;omega
     have hyo:=hN.2 y hym
     have hyl:=YcF (w:=w) (i:=i+1) hyo Zi
     ((repeat (first | refine zS ?_ | refine zA fun _=>?_)))
     rename_i gb
     (((refine zG ?_));refine YA T 0 Zz Zz Zz Zz Zz Zz hk (by first | rfl | omega) hy (fun p hp=>?_))
     (((refine zG ?_));refine Yx T Zz Zz Zz hp Zz ?_)
     intro cs hcs
     obtain ⟨vk2,rfl,hR⟩:=Yt hcs
     obtain ⟨A2,n2,c2,rfl,_⟩:=hR.kids
     ((repeat (first | refine zS ?_ | refine zA fun _=>?_)))
     (((refine zG ?_));refine Yj Zz Zz (YiC s (i:=i+1) Zi hR hyo Zi Zi hw hT) ?_)
     ((refine zG ?_));refine WA (a:=[40]) Zz Zz (by simp;omega) ?_
     (refine Yb Zz (YB [_] [_] Zz Zz Zz (Yeu (Bld.new gb) (by rw [Wt];simp;omega)) (fun r1 fz1 H1 hle1 hR1=>?_)))
     obtain ⟨rfl,rfl,hB⟩:=hR1
     refine Seq.perm (List.perm_append_comm (l₁:=[_])) ?_
     have hkk:x.kids=y::x.kids.drop 1:=by
      cases hq:x.kids with
      | nil=>simp [hq] at hy
      | cons a b=>simp [hq] at hy;subst hy;rfl
     have hcr:xcountL (x.kids.drop 1)≤xcountL x.kids:=by
      have h0:xcountL x.kids=xcountL (y::x.kids.drop 1):=congrArg xcountL hkk
      rw [xcountL] at h0;omega
     have hB2:Bld gb (40::(lay w y (i+1)++layT w ((x.kids.drop 1).take 0) (i+2))) H1:=by simpa [YcI,layT] using hB
     have hlT:∀ k,(layT w ((x.kids.drop 1).take k) (i+2)).length≤102*4096:=fun k=>by
      have h0:=layT_len (w:=w) (M:=66) (l:=(x.kids.drop 1).take k) (i:=i+2) (YbC.2 (fun z hz=>Yes (hN.2 z (List.mem_of_mem_drop (List.mem_of_mem_take hz))))) (by
       have:xdepthL ((x.kids.drop 1).take k)≤xdepthL x.kids:=XF.2 (fun z hz=>XF.1 (Nat.le_refl _) z (List.mem_of_mem_drop (List.mem_of_mem_take hz)))
       omega)
      have h1:=YaA (l:=x.kids.drop 1) (k:=k)
      omega
     ((repeat (first | refine zS ?_ | refine zA fun _=>?_)))
     ((refine zG ?_));refine YfX T (j:=1) Zz Zz Zz Zz Zz Zz hk Zi (fun B hS=>?_)
     ((repeat (first | refine zS ?_ | refine zA fun _=>?_)))
     refine YD (fun q σ fz' H'=>∃ k:Nat,k≤n - 1∧q=n - 1 - k∧σ=[(45,.int .i64 k),(44,.int .i64 ((n - 1:Nat):Int)),(43,.slice B (n - 1) (ca - 1)),(8,.pointer (some ⟨gb,0,none⟩)),(2,.int .i64 i),(1,.int .i64 w)]∧fz=fz'∧Bld gb (40::(lay w y (i+1)++layT w ((x.kids.drop 1).take k) (i+2))) H')
      ⟨0,Nat.zero_le _,rfl,rfl,rfl,hB2⟩ (Zw) (Zb) ?_
     rintro q σ fz' H' ⟨k,hk',rfl,rfl,rfl,hBk⟩
     have hdl:(x.kids.drop 1).length=n - 1:=by rw [List.length_drop,l1]
     ((repeat (first | refine zS ?_ | refine zA fun _=>?_)))
     ((refine zG ?_;refine zC (fun c1=>?_) (fun c1=>?_)))
     ·obtain ⟨z,hz⟩:=YG (l:=x.kids.drop 1) (k:=k) Zi
      have hzm:z∈x.kids:=List.mem_of_mem_drop (List.mem_of_getElem? hz)
      have hltz:=Sexpr.kids_lt hzm
      have hcz:=Wm hzm
      have hdz:=XF.1 (Nat.le_refl _) z hzm
      have hzo:=hN.2 z hzm
      have hzl:=YcF (w:=w) (i:=i+2) hzo Zi
      have hlk:=hlT k
      ((repeat (first | refine zS ?_ | refine zA fun _=>?_)))
      (((refine zG ?_));refine YA T k Zz Zz Zz Zz Zz Zz hS (by first | rfl | omega) hz (fun p2 hp2=>?_))
      (((refine zG ?_));refine Yx T Zz Zz Zz hp2 Zz ?_)
      intro cs2 hcs2
      obtain ⟨vk3,rfl,hR3⟩:=Yt hcs2
      obtain ⟨A3,n3,c3,rfl,_⟩:=hR3.kids
      ((repeat (first | refine zSO ?_ | refine zA fun _=>?_)))
      rename_i gk
      (refine Wp.drawK (Hq:=[_]) T.mixed Zj Zj (Zb) ?_)
      ((repeat (first | refine zS ?_ | refine zA fun _=>?_)))
      (((refine zG ?_));refine Yj Zz Zz (repeat_q (n:=i+2) Zi) ?_)
      ((refine zG ?_));refine WA (a:=[10]) Zz Zz (by simp;omega) ?_
      ((repeat (first | refine zS ?_ | refine zA fun _=>?_)))
      (((refine zG ?_));refine Yj Zz Zz (YiC s (i:=i+2) Zi hR3 hzo Zi Zi hw hT) ?_)
      ((refine zG ?_));refine WA Zz Zz (by simp;omega) ?_
      (refine Ye ?_)
      (refine YR ⟨by kernel_rfl,?_⟩)
      refine Ys (Does.perm (List.perm_append_comm (l₂:=[_])) (YB _ [_] Zz Zz Zz (Yeu hBk (by rw [Wt];simp only [List.length_cons,List.length_append,List.length_replicate,List.length_nil];omega)) (fun r2 fz2 H2 hle2 hR2=>?_)))
      obtain ⟨rfl,rfl,hB3⟩:=hR2
      refine ⟨⟨Le.refl _,by intro p hp;simp only [List.mem_singleton] at hp;subst hp;simp⟩,?_⟩
      refine Ch.done ?_
      have hB4:Bld gb (40::(lay w y (i+1)++layT w ((x.kids.drop 1).take (k+1)) (i+2))) H2:=by
       rw [Ygb hz]
       rw [YcI] at hB3
       simpa only [List.cons_append,List.append_assoc,List.nil_append] using hB3
      ((repeat (first | refine zS ?_ | refine zA fun _=>?_)))
      exact YP ⟨k+1,by omega,rfl,rfl,rfl,hB4⟩ Zi (Zw) (List.sublist_append_left _ _)
     ·have hk1:k=n - 1:=by omega
      subst hk1
      rw [List.take_of_length_le Zi] at hBk
      have hll:=hlT (n - 1)
      rw [List.take_of_length_le Zi] at hll
      ((repeat (first | refine zS ?_ | refine zA fun _=>?_)))
      refine Yb Zz (YB _ [] (List.append_nil _).symm Zz Zz (Yj3 hBk (by simp) (by simp only [List.length_cons,List.length_append];omega)) (fun r2 fz2 H2 hle2 hR2=>?_))
      obtain ⟨rfl,rfl,rfl⟩:=hR2
      ((refine zG ?_));refine WA (b:=[41]) Zz Zz (by simp only [List.length_cons,List.length_append,List.length_nil];omega) ?_
      ((repeat (first | refine zS ?_ | refine zA fun _=>?_)))
      (exact ret1 rfl rfl (Zb) (by rw [hl,hkk];rfl))
set_option maxHeartbeats 1000000 in
theorem YiD {fz:FZ} {x:Sexpr} {vk:Value} (h:Xd fz x vk) (hT:TabF fz):
 QFn Tryz.prog 28 [.agg #[.int .i64 x.kind,.int .i64 x.value,.int .i64 x.line,.int .i64 x.column,.string x.text,vk],.int .i64 80] fz (if XVal x then .tuple #[.string (strOf (lay 80 x 0)),.nilIface] else .tuple #[.string ⟨#[]⟩,errV 2]):=by
 refine GFn.quiet ?_
 obtain ⟨A,n,ca,rfl,hk⟩:=h.kids
 (refine GFn.of_wp Tryz.func28 rfl Tryz.ntmps28 rfl rfl (fun w0=>?_))
 (refine Yr (Yp (Yb Zz (Xi _ Zz Zz (fun g0=>?_)))))
 ((repeat (first | refine zS ?_ | refine zA fun _=>?_)))
 (((refine zG ?_));refine Yz Zz Zz (Yb9 h) (fun f1=>?_) (fun f1=>?_))
 ·have hv:=of_decide_eq_true f1
  ((repeat (first | refine zS ?_ | refine zA fun _=>?_)))
  ((refine zG ?_));refine q_min Zz Zz ?_
  ((repeat (first | refine zS ?_ | refine zA fun _=>?_)))
  (((refine zG ?_));refine Yj Zz Zz (YiC (w:=80) (i:=0) _ (Nat.le_refl _) h hv.1 hv.2.2 (by have:=hv.2.1;omega) Zi hT) ?_)
  ((repeat (first | refine zS ?_ | refine zA fun _=>?_)))
  exact ret2 rfl rfl rfl (Zb) (if_pos hv).symm
 ·have hv:=of_decide_eq_false f1
  ((repeat (first | refine zS ?_ | refine zA fun _=>?_)))
  exact ret2 rfl rfl rfl (Zb) (if_neg hv).symm
end Go.Proofs.YtbhlgkibgajajaaGreatDoor
set_option maxRecDepth 20000
namespace Go.Proofs.YtbhlgkibgajajaaGreatDoor
open Go.Lx Go.RowKit
attribute [local instance 10] Classical.propDecidable
theorem YhY {d:Nat} (h:d<10):IntKind.u8.wrap (48+(d:Int))=((UInt8.ofNat (48+d)).toNat:Int):=by
 have h1:(UInt8.ofNat (48+d)).toNat=48+d:=by simp [UInt8.toNat_ofNat'];omega
 rw [h1]
 have:d=0∨d=1∨d=2∨d=3∨d=4∨d=5∨d=6∨d=7∨d=8∨d=9:=by omega
 rcases this with rfl | rfl | rfl | rfl | rfl | rfl | rfl | rfl | rfl | rfl<;>rfl
theorem Ygs {u:Nat} (h:u<10):Lib.decDigits u=[UInt8.ofNat (48+u % 10)]:=by
 rw [Lib.decDigits,dif_pos h,Nat.mod_eq_of_lt h]
theorem dec_big {u:Nat} (h:¬u<10):Lib.decDigits u=Lib.decDigits (u / 10)++ [UInt8.ofNat (48+u % 10)]:=by
 rw [Lib.decDigits,dif_neg h]
theorem Yj0 {u:Nat} (h:u≤1099511627776):(Lib.decDigits u).length≤13:=Ycu (k:=12) Zi
set_option maxHeartbeats 1000000 in
theorem Ygr:∀ (s:Nat) {fz:FZ} {u:Nat},u≤s→u≤1099511627776→QFn Tryz.prog 157 [.int .i64 u] fz (.string (strOf (Lib.decDigits u))):=by
 intro s
 induction s with
 | zero=>
  intro fz u hs hu
  have h0:u=0:=by omega
  subst h0
  refine GFn.quiet ?_
  (refine GFn.of_wp Tryz.func157 rfl Tryz.ntmps157 rfl rfl (fun w0=>?_))
  ((repeat (first | refine zS ?_ | refine zA fun _=>?_)))
  ((refine zG ?_;refine zC (fun c0=>?_) (fun c0=>?_)))
  ·exact absurd c0 Zi
  ((repeat (first | refine zS ?_ | refine zA fun _=>?_)))
  ((refine zG ?_));refine q_remN (a:=0) (b:=10) Zz Zz Zh ?_
  ((repeat (first | refine zS ?_ | refine zA fun _=>?_)))
  ((refine zG ?_));refine Ya4 T Zz Zz Zz Zz (YhY (Nat.mod_lt _ Zh)) ?_
  refine Yb Zz (Yc T (cs:=[Yao (UInt8.ofNat (48+0 % 10))]) Zz Zz Zz Zz Zz Zz Zz Zz (fun gb=>?_))
  ((refine zG ?_));refine YfW T 0 (bs:=[UInt8.ofNat (48+0 % 10)]) Zz Zz Zz Zz Zz Zz Zz Zz rfl rfl ?_
  ((repeat (first | refine zS ?_ | refine zA fun _=>?_)))
  ((refine zG ?_;refine zC (fun c1=>?_) (fun c1=>?_)))
  ·exact absurd c1 Zi
  ·((repeat (first | refine zS ?_ | refine zA fun _=>?_)))
   (exact ret1 rfl rfl (Zb) (by rw [Ygs Zh]))
 | succ s ih=>
  intro fz u hs hu
  refine GFn.quiet ?_
  have hq:u / 10≤u:=Nat.div_le_self _ _
  (refine GFn.of_wp Tryz.func157 rfl Tryz.ntmps157 rfl rfl (fun w0=>?_))
  ((repeat (first | refine zS ?_ | refine zA fun _=>?_)))
  ((refine zG ?_;refine zC (fun c0=>?_) (fun c0=>?_)))
  ·exact absurd c0 Zi
  ((repeat (first | refine zS ?_ | refine zA fun _=>?_)))
  ((refine zG ?_));refine q_remN (a:=u) (b:=10) Zz Zz Zh ?_
  ((repeat (first | refine zS ?_ | refine zA fun _=>?_)))
  ((refine zG ?_));refine Ya4 T Zz Zz Zz Zz (YhY (Nat.mod_lt _ Zh)) ?_
  refine Yb Zz (Yc T (cs:=[Yao (UInt8.ofNat (48+u % 10))]) Zz Zz Zz Zz Zz Zz Zz Zz (fun gb=>?_))
  ((refine zG ?_));refine YfW T 0 (bs:=[UInt8.ofNat (48+u % 10)]) Zz Zz Zz Zz Zz Zz Zz Zz rfl rfl ?_
  ((repeat (first | refine zS ?_ | refine zA fun _=>?_)))
  ((refine zG ?_;refine zC (fun c1=>?_) (fun c1=>?_)))
  ·have:=Yj0 (u:=u / 10) Zi
   ((repeat (first | refine zS ?_ | refine zA fun _=>?_)))
   ((refine zG ?_));refine q_quoN (a:=u) (b:=10) Zz Zz Zh Zi ?_
   ((repeat (first | refine zS ?_ | refine zA fun _=>?_)))
   (((refine zG ?_));refine Yj Zz Zz (ih (u:=u / 10) Zi Zi) ?_)
   ((repeat (first | refine zS ?_ | refine zA fun _=>?_)))
   ((refine zG ?_));refine WA Zz Zz (by simp;omega) ?_
   ((repeat (first | refine zS ?_ | refine zA fun _=>?_)))
   (exact ret1 rfl rfl (Zb) (by rw [dec_big (u:=u) Zi]))
  ·((repeat (first | refine zS ?_ | refine zA fun _=>?_)))
   (exact ret1 rfl rfl (Zb) (by rw [Ygs Zi]))
theorem YjZ {fz:FZ} {n:Int} (h:YcB n):QFn Tryz.prog 157 [.int .i64 n] fz (.string (strOf (Lib.itoa n))):=by
 unfold YcB at h
 by_cases h0:n<0
 ·obtain ⟨u,rfl⟩:∃ u:Nat,n= -(u:Int):=⟨n.natAbs,by omega⟩
  have hl:=Yj0 (u:=u) Zi
  have e:=Lib.itoa_neg u Zi
  refine GFn.quiet ?_
  (refine GFn.of_wp Tryz.func157 rfl Tryz.ntmps157 rfl rfl (fun w0=>?_))
  ((repeat (first | refine zS ?_ | refine zA fun _=>?_)))
  ((refine zG ?_;refine zC (fun c0=>?_) (fun c0=>?_)))
  ·((repeat (first | refine zS ?_ | refine zA fun _=>?_)))
   ((refine zG ?_));refine q_neg (c:=(u:Int)) Zz (by rw [show (0:Int) - -(u:Int)=u by omega];exact Xl Zi) ?_
   ((repeat (first | refine zS ?_ | refine zA fun _=>?_)))
   (((refine zG ?_));refine Yj Zz Zz (Ygr _ (Nat.le_refl _) (u:=u) Zi) ?_)
   ((refine zG ?_));refine WA (a:=[45]) Zz Zz (by simp;omega) ?_
   ((repeat (first | refine zS ?_ | refine zA fun _=>?_)))
   (exact ret1 rfl rfl (Zb) (by rw [e];rfl))
  ·exact absurd h0 c0
 ·obtain ⟨u,rfl⟩:∃ u:Nat,n=(u:Int):=⟨n.toNat,by omega⟩
  rw [Lib.itoa_nonneg]
  exact Ygr _ (Nat.le_refl _) Zi
set_option maxHeartbeats 1000000 in
theorem YgF:∀ (s:Nat) {fz:FZ} {x:Sexpr} {vk:Value},SizeOf.sizeOf x≤s→Xd fz x vk→XOk x→xcount x≤4096→
 QFn Tryz.prog 86 [.agg #[.int .i64 x.kind,.int .i64 x.value,.int .i64 x.line,.int .i64 x.column,.string x.text,vk]] fz (.string (strOf (txt x)))
 | 0,_,x,_,hs,_,_,_=>by cases x;simp at hs
 | s+1,fz,x,vk,hs,h,hX,hc=>by
  refine GFn.quiet ?_
  obtain ⟨A,n,ca,rfl,hk⟩:=h.kids
  have l1:=hk.len
  have l2:=hk.short
  have hN:=Xq.1 hX
  have e:=YfJ x
  have ec:=WD x
  (refine GFn.of_wp Tryz.func86 rfl Tryz.ntmps86 rfl rfl (fun w0=>?_))
  (refine Yr (Yp (Yb Zz (Xi _ Zz Zz (fun g0=>?_)))))
  ((repeat (first | refine zS ?_ | refine zA fun _=>?_)))
  ((refine zG ?_;refine zC (fun x1=>?_) (fun y1=>?_)))
  ·((repeat (first | refine zS ?_ | refine zA fun _=>?_)))
   (exact ret1 rfl rfl (Zb) (by rw [e,if_pos (show x.kind=1 from x1),Yhp]))
  ·((repeat (first | refine zS ?_ | refine zA fun _=>?_)))
   ((refine zG ?_;refine zC (fun x2=>?_) (fun y2=>?_)))
   ·have hNum:YcB x.value:=by
     rcases hN.1 with ⟨h1,_⟩ | ⟨_,_,_,h1⟩ | ⟨h1,_⟩
     ·omega
     ·exact h1
     ·omega
    ((repeat (first | refine zS ?_ | refine zA fun _=>?_)))
    (((refine zG ?_));refine Yj Zz Zz (YjZ hNum) ?_)
    ((repeat (first | refine zS ?_ | refine zA fun _=>?_)))
    (exact ret1 rfl rfl (Zb) (by rw [e,if_neg (show ¬x.kind=1 from y1),if_pos (show x.kind=2 from x2)]))
   ·have hlen:=Ygi hX
    have hln:=Ydv (l:=x.kids)
    have hjl:∀ k,(Lib.join ((x.kids.map txt).take k) [32]).length≤36*xcount x:=fun k=>by
     have h1:=join_len (l:=(x.kids.map txt).take k)
     have h2:((x.kids.map txt).map fun t=>t.length+1).sum≤36*xcountL x.kids:=by
      rw [← YeW]
      exact txtL_len (YbC.2 (Xq.1 (Yes hX)).2)
     have h3:(((x.kids.map txt).take k).map fun t=>t.length+1).sum≤((x.kids.map txt).map fun t=>t.length+1).sum:=by
      conv=>rhs;rw [← List.take_append_drop k (x.kids.map txt)]
      rw [List.map_append,List.sum_append];omega
     omega
    ((repeat (first | refine zS ?_ | refine zA fun _=>?_)))
    refine YD (fun q σ fz' H'=>∃ (k:Nat) (acc:List UInt8),k≤n∧q=n - k∧σ=[(4,.int .i64 k),(3,.string (strOf acc)),(1,.pointer (some ⟨g0,0,none⟩))]∧fz=fz'∧H'=[(g0,.cells #[.int .i64 x.kind,.int .i64 x.value,.int .i64 x.line,.int .i64 x.column,.string x.text,.slice A n ca] 64 (0,0))]∧acc=40::Lib.join ((x.kids.map txt).take k) [32])
     ⟨0,[40],Nat.zero_le _,rfl,rfl,rfl,rfl,rfl⟩ (Zw) (Zb) ?_
    rintro q σ fz' H' ⟨k,acc,hk',rfl,rfl,rfl,rfl,hacc⟩
    have hal:=congrArg List.length hacc
    rw [List.length_cons] at hal
    ((repeat (first | refine zS ?_ | refine zA fun _=>?_)))
    ((refine zG ?_;refine zC (fun c1=>?_) (fun c1=>?_)))
    ·obtain ⟨y,hy⟩:=YG (l:=x.kids) (k:=k) Zi
     have hym:=List.mem_of_getElem? hy
     have hlt:=Sexpr.kids_lt hym
     have hcy:=Wm hym
     have hyo:=hN.2 y hym
     have hyl:=YeP hyo
     have hjk:=hjl k
     have hst:=join_step (l:=x.kids.map txt) (k:=k) (y:=txt y) (by rw [List.getElem?_map,hy];rfl)
     ((repeat (first | refine zS ?_ | refine zA fun _=>?_)))
     ((refine zG ?_;refine zC (fun c2=>?_) (fun c2=>?_)))
     ·((repeat (first | refine zS ?_ | refine zA fun _=>?_)))
      ((refine zG ?_));refine WA (b:=[32]) Zz Zz (by simp only [List.length_cons,List.length_nil];omega) ?_
      ((repeat (first | refine zS ?_ | refine zA fun _=>?_)))
      (((refine zG ?_));refine YA T k Zz Zz Zz Zz Zz Zz hk (by first | rfl | omega) hy (fun p hp=>?_))
      (((refine zG ?_));refine Yx T Zz Zz Zz hp Zz ?_)
      intro cs hcs
      obtain ⟨vk2,rfl,hR⟩:=Yt hcs
      obtain ⟨A2,n2,c2',rfl,_⟩:=hR.kids
      ((repeat (first | refine zS ?_ | refine zA fun _=>?_)))
      (((refine zG ?_));refine Yj Zz Zz (YgF s Zi hR hyo Zi) ?_)
      ((refine zG ?_));refine WA Zz Zz (by have h1:=congrArg List.length hacc;simp only [List.length_cons,List.length_append,List.length_nil] at*;omega) ?_
      ((repeat (first | refine zS ?_ | refine zA fun _=>?_)))
      exact YP ⟨k+1,acc++ [32]++txt y,by omega,rfl,rfl,rfl,rfl,(by rw [hst,if_neg Zi,hacc];simp)⟩ Zi (Zw) (Zb)
     ·have hk0:k=0:=by omega
      subst hk0
      ((repeat (first | refine zS ?_ | refine zA fun _=>?_)))
      (((refine zG ?_));refine YA T 0 Zz Zz Zz Zz Zz Zz hk (by first | rfl | omega) hy (fun p hp=>?_))
      (((refine zG ?_));refine Yx T Zz Zz Zz hp Zz ?_)
      intro cs hcs
      obtain ⟨vk2,rfl,hR⟩:=Yt hcs
      obtain ⟨A2,n2,c2',rfl,_⟩:=hR.kids
      ((repeat (first | refine zS ?_ | refine zA fun _=>?_)))
      (((refine zG ?_));refine Yj Zz Zz (YgF s Zi hR hyo Zi) ?_)
      ((refine zG ?_));refine WA Zz Zz (by have h1:=congrArg List.length hacc;simp only [List.length_cons] at*;omega) ?_
      ((repeat (first | refine zS ?_ | refine zA fun _=>?_)))
      exact YP ⟨0+1,acc++txt y,by omega,rfl,rfl,rfl,rfl,(by rw [hst,if_pos rfl,hacc];rfl)⟩ Zi (Zw) (Zb)
    ·have hk1:n=k:=by omega
     subst hk1
     rw [List.take_of_length_le (by rw [List.length_map];omega)] at hacc hal
     subst hacc
     ((repeat (first | refine zS ?_ | refine zA fun _=>?_)))
     ((refine zG ?_));refine WA (b:=[41]) Zz Zz (by simp only [List.length_cons,List.length_nil];omega) ?_
     ((repeat (first | refine zS ?_ | refine zA fun _=>?_)))
     (exact ret1 rfl rfl (Zb) (by rw [e,if_neg (show ¬x.kind=1 from y1),if_neg (show ¬x.kind=2 from y2)];rfl))
theorem Yj5 {fz:FZ} {n:Nat} (h:n≤1000000000):QFn Tryz.prog 87 [.int .i64 n] fz (.string (strOf (List.replicate n 32))):=by
 refine GFn.quiet ?_
 have hl:∀ k,(strOf (List.replicate k 32)).size=k:=fun k=>by rw [Wt,List.length_replicate]
 (refine GFn.of_wp Tryz.func87 rfl Tryz.ntmps87 rfl rfl (fun w0=>?_))
 ((repeat (first | refine zS ?_ | refine zA fun _=>?_)))
 refine YD (fun q σ fz' H'=>∃ (k:Nat) (acc:List UInt8),k≤n∧q=n - k∧σ=[(3,.string (strOf acc)),(0,.int .i64 n)]∧fz=fz'∧H'=[]∧acc=List.replicate k 32)
  ⟨0,[],Nat.zero_le _,rfl,rfl,rfl,rfl,rfl⟩ (Zw) (Zb) ?_
 rintro q σ fz' H' ⟨k,acc,hk',rfl,rfl,rfl,rfl,rfl⟩
 have hlk:=hl k
 ((repeat (first | refine zS ?_ | refine zA fun _=>?_)))
 ((refine zG ?_;refine zC (fun c1=>?_) (fun c1=>?_)))
 ·((repeat (first | refine zS ?_ | refine zA fun _=>?_)))
  ((refine zG ?_));refine WA (b:=[32]) Zz Zz (by simp only [List.length_replicate,List.length_cons,List.length_nil];omega) ?_
  ((repeat (first | refine zS ?_ | refine zA fun _=>?_)))
  exact YP ⟨k+1,List.replicate k 32++ [32],by omega,rfl,rfl,rfl,rfl,(by rw [List.replicate_succ'])⟩ Zi (Zw) (Zb)
 ·have hk1:n=k:=by omega
  subst hk1
  ((repeat (first | refine zS ?_ | refine zA fun _=>?_)))
  (exact ret1 rfl rfl (Zb) rfl)
set_option maxHeartbeats 2000000 in
theorem Yfc:∀ (s:Nat) {fz:FZ} {x:Sexpr} {vk:Value} {w i:Nat},SizeOf.sizeOf x≤s→Xd fz x vk→XOk x→xcount x≤4096→i+2*xdepth x≤66→w≤200→
 QFn Tryz.prog 41 [.agg #[.int .i64 x.kind,.int .i64 x.value,.int .i64 x.line,.int .i64 x.column,.string x.text,vk],.int .i64 i,.int .i64 w] fz (.string (strOf (lay w x i)))
 | 0,_,x,_,_,_,hs,_,_,_,_,_=>by cases x;simp at hs
 | s+1,fz,x,vk,w,i,hs,h,hX,hc,hi,hw=>by
  refine GFn.quiet ?_
  obtain ⟨A,n,ca,rfl,hk⟩:=h.kids
  have l1:=hk.len
  have l2:=hk.short
  have hN:=Xq.1 hX
  have ec:=WD x
  have ed:=YaO x
  have htl:=YeP hX
  have hsz:=Wt (txt x)
  (refine GFn.of_wp Tryz.func41 rfl Tryz.ntmps41 rfl rfl (fun w0=>?_))
  (refine Yr (Yp (Yb Zz (Xi _ Zz Zz (fun g0=>?_)))))
  ((repeat (first | refine zS ?_ | refine zA fun _=>?_)))
  (((refine zG ?_));refine Yj Zz Zz (YgF _ (Nat.le_refl _) h hX hc) ?_)
  ((repeat (first | refine zS ?_ | refine zA fun _=>?_)))
  ((refine zG ?_;refine zC (fun x3=>?_) (fun y3=>?_)))
  ·((repeat (first | refine zS ?_ | refine zA fun _=>?_)))
   (exact ret1 rfl rfl (Zb) (by rw [Yba (.inl x3)]))
  ·((repeat (first | refine zS ?_ | refine zA fun _=>?_)))
   ((refine zG ?_;refine zC (fun e1=>?_) (fun e1=>?_)))
   ·((repeat (first | refine zS ?_ | refine zA fun _=>?_)))
    (exact ret1 rfl rfl (Zb) (by rw [Yba (.inr (.inl Zi))]))
   ·((repeat (first | refine zS ?_ | refine zA fun _=>?_)))
    ((refine zG ?_;refine zC (fun e2=>?_) (fun e2=>?_)))
    ·((repeat (first | refine zS ?_ | refine zA fun _=>?_)))
     (exact ret1 rfl rfl (Zb) (by rw [Yba (.inr (.inr Zi))]))
    ·have hl:=YhE (w:=w) (i:=i) (x:=x) (fun h0=>by omega)
     obtain ⟨y,hy⟩:=YG (l:=x.kids) (k:=0) Zi
     have hym:=List.mem_of_getElem? hy
     have hlt:=Sexpr.kids_lt hym
     have hcy:=Wm hym
     have hdy:=XF.1 (Nat.le_refl _) y hym
     have hd0:i+2+2*xdepthL x.kids≤66:=by rw [if_pos Zi] at ed;omega
     have hyo:=hN.2 y hym
     have hyl:=YcF (w:=w) (i:=i+1) hyo Zi
     have hkk:x.kids=y::x.kids.drop 1:=by
      cases hq:x.kids with
      | nil=>simp [hq] at hy
      | cons a b=>simp [hq] at hy;subst hy;rfl
     have hcr:xcountL (x.kids.drop 1)≤xcountL x.kids:=by
      have h0:xcountL x.kids=xcountL (y::x.kids.drop 1):=congrArg xcountL hkk
      rw [xcountL] at h0;omega
     have hlT:∀ k,(layT w ((x.kids.drop 1).take k) (i+2)).length≤102*4096:=fun k=>by
      have h0:=layT_len (w:=w) (M:=66) (l:=(x.kids.drop 1).take k) (i:=i+2) (YbC.2 (fun z hz=>Yes (hN.2 z (List.mem_of_mem_drop (List.mem_of_mem_take hz))))) (by
       have:xdepthL ((x.kids.drop 1).take k)≤xdepthL x.kids:=XF.2 (fun z hz=>XF.1 (Nat.le_refl _) z (List.mem_of_mem_drop (List.mem_of_mem_take hz)))
       omega)
      have h1:=YaA (l:=x.kids.drop 1) (k:=k)
      omega
     ((repeat (first | refine zS ?_ | refine zA fun _=>?_)))
     (((refine zG ?_));refine YA T 0 Zz Zz Zz Zz Zz Zz hk (by first | rfl | omega) hy (fun p hp=>?_))
     (((refine zG ?_));refine Yx T Zz Zz Zz hp Zz ?_)
     intro cs hcs
     obtain ⟨vk2,rfl,hR⟩:=Yt hcs
     obtain ⟨A2,n2,c2,rfl,_⟩:=hR.kids
     ((repeat (first | refine zS ?_ | refine zA fun _=>?_)))
     (((refine zG ?_));refine Yj Zz Zz (Yfc s (i:=i+1) Zi hR hyo Zi Zi hw) ?_)
     ((refine zG ?_));refine WA (a:=[40]) Zz Zz (by simp;omega) ?_
     ((repeat (first | refine zS ?_ | refine zA fun _=>?_)))
     refine YD (fun q σ fz' H'=>∃ (k:Nat) (acc:List UInt8),k≤n - 1∧q=n - 1 - k∧σ=[(9,.int .i64 ((k+1:Nat):Int)),(8,.string (strOf acc)),(3,.pointer (some ⟨g0,0,none⟩)),(2,.int .i64 w),(1,.int .i64 i)]∧fz=fz'∧H'=[(g0,.cells #[.int .i64 x.kind,.int .i64 x.value,.int .i64 x.line,.int .i64 x.column,.string x.text,.slice A n ca] 64 (0,0))]∧acc=40::(lay w y (i+1)++layT w ((x.kids.drop 1).take k) (i+2)))
      ⟨0,[40]++lay w y (i+1),Nat.zero_le _,rfl,rfl,rfl,rfl,by simp [layT]⟩ (Zw) (Zb) ?_
     rintro q σ fz' H' ⟨k,acc,hk',rfl,rfl,rfl,rfl,hacc⟩
     have hlk:=hlT k
     have hal:=congrArg List.length hacc
     simp only [List.length_cons,List.length_append] at hal
     have hdl:(x.kids.drop 1).length=n - 1:=by rw [List.length_drop,l1]
     ((repeat (first | refine zS ?_ | refine zA fun _=>?_)))
     ((refine zG ?_;refine zC (fun c1=>?_) (fun c1=>?_)))
     ·obtain ⟨z,hz⟩:=YG (l:=x.kids.drop 1) (k:=k) Zi
      have hzk:x.kids[k+1]?=some z:=by rw [List.getElem?_drop,Nat.add_comm] at hz;exact hz
      have hzm:z∈x.kids:=List.mem_of_getElem? hzk
      have hltz:=Sexpr.kids_lt hzm
      have hcz:=Wm hzm
      have hdz:=XF.1 (Nat.le_refl _) z hzm
      have hzo:=hN.2 z hzm
      have hzl:=YcF (w:=w) (i:=i+2) hzo Zi
      ((repeat (first | refine zSO ?_ | refine zA fun _=>?_)))
      refine Wp.cond_true Zz ?_
      refine Wj ?_
      refine YbU ?_
      refine Yr ?_
      refine W8 ?_
      (refine Wp.drawK (Hq:=[_]) T.mixed Zj Zj (Zb) ?_)
      ((repeat (first | refine zS ?_ | refine zA fun _=>?_)))
      (((refine zG ?_));refine Yj Zz Zz (Yj5 (n:=i+2) Zi) ?_)
      ((refine zG ?_));refine WA (a:=[10]) Zz Zz (by simp;omega) ?_
      ((repeat (first | refine zS ?_ | refine zA fun _=>?_)))
      (((refine zG ?_));refine YA T (k+1) Zz Zz Zz Zz Zz Zz hk (by first | rfl | omega) hzk (fun p2 hp2=>?_))
      (((refine zG ?_));refine Yx T Zz Zz Zz hp2 Zz ?_)
      intro cs2 hcs2
      obtain ⟨vk3,rfl,hR3⟩:=Yt hcs2
      obtain ⟨A3,n3,c3,rfl,_⟩:=hR3.kids
      ((repeat (first | refine zS ?_ | refine zA fun _=>?_)))
      (((refine zG ?_));refine Yj Zz Zz (Yfc s (i:=i+2) Zi hR3 hzo Zi Zi hw) ?_)
      ((refine zG ?_));refine WA Zz Zz (by simp;omega) ?_
      ((refine zG ?_));refine WA Zz Zz (by simp;omega) ?_
      (refine Ye ?_)
      (refine YR ⟨by kernel_rfl,?_⟩)
      refine Ch.qk (⟨Le.refl _,Zx⟩) (Xk Zz ?_)
      refine Ch.done ?_
      have hst:=Ygb (w:=w) (i:=i+2) hz
      ((repeat (first | refine zS ?_ | refine zA fun _=>?_)))
      exact YP ⟨k+1,acc++([10]++List.replicate (i+2) 32++lay w z (i+2)),by omega,rfl,rfl,rfl,rfl,(by rw [hst,hacc];simp only [List.cons_append,List.append_assoc,List.nil_append])⟩ Zi (Zw) (Zb)
     ·have hk1:k=n - 1:=by omega
      subst hk1
      rw [List.take_of_length_le Zi] at hacc hlk hal
      subst hacc
      ((repeat (first | refine zS ?_ | refine zA fun _=>?_)))
      ((refine zG ?_));refine WA (b:=[41]) Zz Zz (by simp only [List.length_cons,List.length_append,List.length_nil];omega) ?_
      ((repeat (first | refine zS ?_ | refine zA fun _=>?_)))
      (exact ret1 rfl rfl (Zb) (by rw [hl,hkk];rfl))
theorem Yjq {fz:FZ} {x:Sexpr} {vk:Value} (h:Xd fz x vk) (hv:XVal x):
 QFn Tryz.prog 19 [.agg #[.int .i64 x.kind,.int .i64 x.value,.int .i64 x.line,.int .i64 x.column,.string x.text,vk],.int .i64 80] fz (.string (strOf (lay 80 x 0))):=by
 refine GFn.quiet ?_
 obtain ⟨A,n,ca,rfl,hk⟩:=h.kids
 (refine GFn.of_wp Tryz.func19 rfl Tryz.ntmps19 rfl rfl (fun w0=>?_))
 (refine Yr (Yp (Yb Zz (Xi _ Zz Zz (fun g0=>?_)))))
 ((repeat (first | refine zS ?_ | refine zA fun _=>?_)))
 ((refine zG ?_;refine zC (fun c1=>?_) (fun c1=>?_)))
 ·exact absurd c1 Zi
 ·((repeat (first | refine zS ?_ | refine zA fun _=>?_)))
  ((refine zG ?_;refine zC (fun c2=>?_) (fun c2=>?_)))
  ·exact absurd c2 Zi
  ·((repeat (first | refine zS ?_ | refine zA fun _=>?_)))
   (((refine zG ?_));refine Yj Zz Zz (Yfc _ (Nat.le_refl _) (w:=80) (i:=0) h hv.1 hv.2.2 (by have:=hv.2.1;omega) Zi) ?_)
   ((repeat (first | refine zS ?_ | refine zA fun _=>?_)))
   (exact ret1 rfl rfl (Zb) rfl)
end Go.Proofs.YtbhlgkibgajajaaGreatDoor
set_option maxRecDepth 20000
namespace Go.Proofs.YtbhlgkibgajajaaGreatDoor
open Go.Lx Go.RowKit
attribute [local instance 10] Classical.propDecidable
structure DomTn (d:Domain):Prop where
 sm:DomSm d
 types:d.types.length≤100000000
 constants:d.constants.length≤100000000
 predicates:d.predicates.length≤100000000
 predp:∀ p∈d.predicates,p.params.length≤100000000
 functions:d.functions.length≤100000000
 funp:∀ f∈d.functions,f.params.length≤100000000
 actions:d.actions.length≤100000000
 actp:∀ x∈d.actions,x.params.length≤100000000
 duratives:d.duratives.length≤100000000
 durp:∀ x∈d.duratives,x.params.length≤100000000
def IsX (v:Value) (x:Sexpr) (fz:FZ):Prop:=∃ A n c,v=.agg #[.int .i64 x.kind,.int .i64 x.value,.int .i64 x.line,.int .i64 x.column,.string x.text,.slice A n c]∧Xd fz x (.slice A n c)
theorem SxIs.x {fz:FZ} {v:Value} {x:Sexpr} (h:SxIs fz v x):IsX v x fz:=by
 obtain ⟨cs,rfl,hr⟩:=h
 obtain ⟨vk,rfl,hX⟩:=Yt hr
 obtain ⟨A,n,c,rfl,_⟩:=hX.kids
 exact ⟨A,n,c,rfl,hX⟩
end Go.Proofs.YtbhlgkibgajajaaGreatDoor
namespace Go.Lx
mutual
def eW:Expr→Nat
 | .mk _ _ _ args kids=>1+args.length+eWL kids
def eWL:List Expr→Nat
 | []=>0
 | k::r=>eW k+eWL r
end
mutual
def fW:Formula→Nat
 | .mk _ _ args params exprs kids=>1+args.length+params.length+eWL exprs+fWL kids
def fWL:List Formula→Nat
 | []=>0
 | k::r=>fW k+fWL r
end
theorem YjW (l:List Expr):eWL l=(l.map eW).sum:=by
 induction l with
 | nil=>rfl
 | cons a r ih=>simp [eWL,ih]
theorem fWL_sum (l:List Formula):fWL l=(l.map fW).sum:=by
 induction l with
 | nil=>rfl
 | cons a r ih=>simp [fWL,ih]
def parW (_:Param):Nat:=1
def strW (_:ByteArray):Nat:=1
def Ydj (a:Atom):Nat:=1+a.args.length
def YbW (v:Value_):Nat:=1+Ydj v.fluent
def Yad (c:Change):Nat:=1+c.params.length+fW c.when_+c.args.length+eW c.value
def Yja (p:Predicate):Nat:=1+p.params.length
def funW (p:Function):Nat:=1+p.params.length
def actW (a:Action):Nat:=1+a.params.length+fW a.pre+(a.changes.map Yad).sum
def durW (a:Durative):Nat:=1+a.params.length+fW a.start+fW a.over+fW a.fin+(a.atStart.map Yad).sum+(a.atEnd.map Yad).sum
def domW (d:Domain):Nat:=1+d.types.length+d.constants.length+(d.predicates.map Yja).sum+(d.functions.map funW).sum+(d.actions.map actW).sum+(d.duratives.map durW).sum
def prbW (p:Problem):Nat:=1+p.objects.length+(p.init.map Ydj).sum+(p.values.map YbW).sum+fW p.goal
theorem eW_eq (e:Expr):eW e=1+e.args.length+(e.kids.map eW).sum:=by cases e;rw [eW,YjW];rfl
theorem fW_eq (f:Formula):fW f=1+f.args.length+f.params.length+(f.exprs.map eW).sum+(f.kids.map fW).sum:=by cases f;rw [fW,YjW,fWL_sum];rfl
theorem YbK (l:List Param):(l.map parW).sum=l.length:=by
 induction l with
 | nil=>rfl
 | cons a r ih=>simp [parW] at ih ⊢;omega
theorem YbJ (l:List ByteArray):(l.map strW).sum=l.length:=by
 induction l with
 | nil=>rfl
 | cons a r ih=>simp [strW] at ih ⊢;omega
theorem Yaq {α:Type} {w:α→Nat}:∀ {l:List α} {x:α},x∈l→w x≤(l.map w).sum
 | [],_,h=>by cases h
 | a::r,x,h=>by
  simp only [List.map_cons,List.sum_cons]
  rcases List.mem_cons.1 h with rfl | h
  ·omega
  ·have:=Yaq (w:=w) h;omega
theorem WR {α:Type} {w:α→Nat} (h:∀ x,1≤w x):∀ (l:List α),l.length≤(l.map w).sum
 | []=>by simp
 | a::r=>by
  have h1:=h a
  have h2:=WR h r
  simp only [List.length_cons,List.map_cons,List.sum_cons];omega
theorem YdC {α:Type} {w:α→Nat} {n:α→Nat} {k:Nat} (h:∀ x,n x≤k*w x):∀ (l:List α),(l.map n).sum≤k*(l.map w).sum
 | []=>by simp
 | a::r=>by
  have h1:=h a
  have h2:=YdC h r
  simp only [List.map_cons,List.sum_cons,Nat.mul_add];omega
theorem fW_pos (f:Formula):1≤fW f:=by rw [fW_eq];omega
theorem Yhh (c:Change):1≤Yad c:=by unfold Yad;omega
theorem Yf2 (c:Predicate):1≤Yja c:=by unfold Yja;omega
theorem YhM (c:Function):1≤funW c:=by unfold funW;omega
theorem actW_pos (c:Action):1≤actW c:=by unfold actW;omega
theorem durW_pos (c:Durative):1≤durW c:=by unfold durW;omega
theorem Ygx (c:Atom):1≤Ydj c:=by unfold Ydj;omega
theorem Yev (c:Value_):1≤YbW c:=by unfold YbW;omega
end Go.Lx
namespace Go.Proofs.YtbhlgkibgajajaaGreatDoor
open Go.Lx Go.RowKit
attribute [local instance 10] Classical.propDecidable
theorem Yb0 (l:List Sexpr):xcountL l=(l.map xcount).sum:=by
 induction l with
 | nil=>rfl
 | cons a r ih=>simp [xcountL,ih]
theorem Yb1 {α:Type} {f:α→Sexpr} {w:α→Nat} {k:Nat} (h:∀ x,xcount (f x)≤k*w x) (l:List α):xcountL (l.map f)≤k*(l.map w).sum:=by
 rw [Yb0,List.map_map]
 exact YdC (n:=xcount ∘ f) h l
theorem Yam (s:ByteArray):xcount (Yd s)=1:=by simp [Yd,xcount,xcountL]
theorem Yj1 (n:Int):xcount (numE n)=1:=by simp [numE,xcount,xcountL]
theorem Yan (l:List Sexpr):xcount (Yv l)=1+xcountL l:=by simp [Yv,xcount]
theorem Ygu {α:Type} (f:α→ByteArray) (l:List α):xcountL (l.map fun x=>Yd (f x))=l.length:=by
 induction l with
 | nil=>rfl
 | cons a r ih=>simp only [List.map_cons,xcountL,Yam,ih,List.length_cons];omega
theorem YaU (f:ByteArray) (l:List ByteArray):xcount (Xj f l)=2+l.length:=by
 have:=Ygu id l
 simp only [id] at this
 rw [Xj,Yan,xcountL,Yam]
 rw [show l.map Yd=l.map fun x=>Yd x from rfl,this];omega
theorem Yh1 (l:List Param):xcountL (XV l)=3*l.length:=by
 have:=Ygu id (l.flatMap XO)
 simp only [id,YbO] at this
 exact this
theorem Yh3:∀ (s:Nat) (e:Lx.Expr),SizeOf.sizeOf e≤s→xcount (Y8 e)≤4*eW e
 | 0,e,h=>by cases e;simp at h
 | s+1,e,h=>by
  rw [Ycs,eW_eq]
  split
  ·rw [Yj1];omega
  ·split
   ·rw [YaU];omega
   ·have:xcountL (e.kids.map Y8)≤4*(e.kids.map eW).sum:=by
     rw [Yb0,List.map_map]
     have key:∀ l:List Lx.Expr,(∀ k∈l,k∈e.kids)→(l.map (xcount ∘ Y8)).sum≤4*(l.map eW).sum:=by
      intro l
      induction l with
      | nil=>intro _;simp
      | cons a r ih=>
       intro hl
       have h1:=Yh3 s a (by have:=Lx.Expr.kids_lt (hl a (by simp));omega)
       have h2:=ih (fun k hk=>hl k (by simp [hk]))
       simp only [List.map_cons,List.sum_cons,Function.comp,Nat.mul_add] at h2 ⊢;omega
     exact key _ (fun _ h=>h)
    rw [Yan,xcountL,Yam];omega
theorem Yh2:∀ (s:Nat) (f:Formula),SizeOf.sizeOf f≤s→xcount (YN f)≤8*fW f
 | 0,e,h=>by cases e;simp at h
 | s+1,f,h=>by
  rw [YaE,fW_eq]
  split
  ·rw [YaU];omega
  ·split
   ·rw [YaU];omega
   ·split
    ·have:=Yb1 (f:=Y8) (w:=eW) (k:=4) (fun e=>Yh3 _ e (Nat.le_refl _)) f.exprs
     rw [Yan,xcountL,Yam];omega
    ·have hk:xcountL (f.kids.map YN)≤8*(f.kids.map fW).sum:=by
      rw [Yb0,List.map_map]
      have key:∀ l:List Formula,(∀ k∈l,k∈f.kids)→(l.map (xcount ∘ YN)).sum≤8*(l.map fW).sum:=by
       intro l
       induction l with
       | nil=>intro _;simp
       | cons a r ih=>
        intro hl
        have h1:=Yh2 s a (by have:=Formula.kids_lt (hl a (by simp));omega)
        have h2:=ih (fun k hk=>hl k (by simp [hk]))
        simp only [List.map_cons,List.sum_cons,Function.comp,Nat.mul_add] at h2 ⊢;omega
      exact key _ (fun _ h=>h)
     have hp:=Yh1 f.params
     rw [XV] at hp
     rw [Yan,X1,X1]
     have h1:xcountL (if f.op≠kAnd∨f.kids≠ [] then [Yd f.op] else [])≤1:=by split<;>simp [xcountL,Yam]
     have h2:xcountL (if f.op=XN∨f.op=We then [Yv ((f.params.flatMap XO).map Yd)] else [])≤1+3*f.params.length:=by
      split
      ·rw [xcountL,xcountL,Yan,hp];omega
      ·simp [xcountL]
     omega
theorem Yj2 (kw:ByteArray) (l:List Sexpr):xcountL (grp kw l)≤2+xcountL l:=by
 unfold grp
 split
 ·simp [xcountL]
 ·simp only [xcountL,Yan,Yam];omega
mutual
theorem depth_count:∀ x:Sexpr,xdepth x≤xcount x
 | .mk k v l c t ks=>by
  have:=depth_countL ks
  rw [xdepth,xcount]
  split<;>omega
theorem depth_countL:∀ l:List Sexpr,xdepthL l≤xcountL l
 | []=>by simp [xdepthL]
 | x::r=>by
  have h1:=depth_count x
  have h2:=depth_countL r
  rw [xdepthL,xcountL]
  omega
end
theorem YjU:∀ (s:Nat) {e:Lx.Expr},SizeOf.sizeOf e≤s→eW e≤1000000000→ESm e
 | 0,e,h,_=>by cases e;simp at h
 | s+1,e,h,hw=>by
  rw [eW_eq] at hw
  refine WZ.2 ⟨by unfold ESmN;omega,fun k hk=>YjU s (by have:=Lx.Expr.kids_lt hk;omega) (by have:=Yaq (w:=eW) hk;omega)⟩
theorem Yd1:∀ (s:Nat) {f:Formula},SizeOf.sizeOf f≤s→fW f≤1000000000→FSm f
 | 0,e,h,_=>by cases e;simp at h
 | s+1,f,h,hw=>by
  rw [fW_eq] at hw
  have hl:=WR fW_pos f.kids
  refine Wl.2 ⟨by unfold FSmN;omega,fun e he=>YjU _ (Nat.le_refl _) (by have:=Yaq (w:=eW) he;omega),fun k hk=>Yd1 s (by have:=Formula.kids_lt hk;omega) (by have:=Yaq (w:=fW) hk;omega)⟩
theorem chsm_of {c:Change} (h:Yad c≤100000000):ChSm c:=by
 unfold Yad at h
 exact ⟨by omega,by omega,Yd1 _ (Nat.le_refl _) Zi,YjU _ (Nat.le_refl _) Zi⟩
theorem Yfr {l:List Change} (h:(l.map Yad).sum≤100000000):Ykj l:=by
 have:=WR Yhh l
 exact ⟨by omega,fun c hc=>chsm_of (by have:=Yaq (w:=Yad) hc;omega)⟩
theorem domtn_of {d:Domain} (h:domW d≤100000000):DomTn d:=by
 unfold domW at h
 have l3:=WR Yf2 d.predicates
 have l4:=WR YhM d.functions
 have l5:=WR actW_pos d.actions
 have l6:=WR durW_pos d.duratives
 have p3:∀ p∈d.predicates,p.params.length≤100000000:=fun p hp=>by have:=Yaq (w:=Yja) hp;have e:Yja p=1+p.params.length:=rfl;omega
 have p4:∀ p∈d.functions,p.params.length≤100000000:=fun p hp=>by have:=Yaq (w:=funW) hp;have e:funW p=1+p.params.length:=rfl;omega
 have p5:∀ x∈d.actions,actW x≤100000000:=fun p hp=>by have:=Yaq (w:=actW) hp;omega
 have p6:∀ x∈d.duratives,durW x≤100000000:=fun p hp=>by have:=Yaq (w:=durW) hp;omega
 refine ⟨⟨by omega,by omega,by omega,fun p hp=>Nat.le_trans (p3 p hp) Zh,by omega,fun p hp=>Nat.le_trans (p4 p hp) Zh,by omega,fun x hx=>?_,by omega,fun x hx=>?_⟩,by omega,by omega,by omega,p3,by omega,p4,by omega,fun x hx=>?_,by omega,fun x hx=>?_⟩
 ·have:=p5 x hx
  unfold actW at this
  exact ⟨by omega,Yd1 _ (Nat.le_refl _) Zi,Yfr Zi⟩
 ·have:=p6 x hx
  unfold durW at this
  exact ⟨by omega,Yd1 _ (Nat.le_refl _) Zi,Yd1 _ (Nat.le_refl _) Zi,Yd1 _ (Nat.le_refl _) Zi,Yfr Zi,Yfr Zi⟩
 ·have:=p5 x hx
  unfold actW at this
  omega
 ·have:=p6 x hx
  unfold durW at this
  omega
end Go.Proofs.YtbhlgkibgajajaaGreatDoor
namespace Go.Proofs.YtbhlgkibgajajaaGreatDoor
open Go.Lx Go.RowKit
attribute [local instance 10] Classical.propDecidable
theorem xval_kid {x k:Sexpr} (h:XVal x) (hk:k∈x.kids):XVal k:=by
 refine ⟨(Xq.1 h.1).2 k hk,?_,?_⟩
 ·have h1:=h.2.1
  rw [YaO] at h1
  have:=XF.1 (Nat.le_refl _) k hk
  omega
 ·have h1:=h.2.2
  rw [WD] at h1
  have:=Wm hk
  omega
theorem YfD {l:List Sexpr} {k:Sexpr} (h:XVal (Yv l)) (hk:k∈l):XVal k:=xval_kid h hk
end Go.Proofs.YtbhlgkibgajajaaGreatDoor
