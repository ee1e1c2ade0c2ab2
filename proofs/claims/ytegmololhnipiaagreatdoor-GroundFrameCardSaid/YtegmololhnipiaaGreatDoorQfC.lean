/- The texts Tab, GWalkA, GWalkB, GWalkC, GWalkD, GSet, GWalkE, GWalkF, GWalkG, GWalkH, laid together. Conditions: none. -/
import Derived.Test.YtegmololhnipiaaGreatDoorQfB
import Derived.Test.YtegmololhnipiaaGreatDoorProg
import Derived.KernelRfl
namespace Go.Proofs.YtegmololhnipiaaGreatDoor
open Go.Lx
set_option maxRecDepth 100000
def ty1_ : Ty := ⟨(.func #[] #[] false), 1, 8, .nilFunc⟩
theorem ty1_ok : TyOk Tryz.prog 1 ty1_ := Zk
def ty2_ : Ty := ⟨(.int .i64), 1, 8, (.int .i64 0)⟩
theorem ty2_ok : TyOk Tryz.prog 2 ty2_ := Zk
def ty3_ : Ty := ⟨(.int .i64), 1, 8, (.int .i64 0)⟩
theorem ty3_ok : TyOk Tryz.prog 3 ty3_ := Zk
def ty4_ : Ty := ⟨.bool, 1, 1, (.bool false)⟩
theorem ty4_ok : TyOk Tryz.prog 4 ty4_ := Zk
def ty5_ : Ty := ⟨(.int .u8), 1, 1, (.int .u8 0)⟩
theorem ty5_ok : TyOk Tryz.prog 5 ty5_ := Zk
def ty6_ : Ty := ⟨(.int .u8), 1, 1, (.int .u8 0)⟩
theorem ty6_ok : TyOk Tryz.prog 6 ty6_ := Zk
def ty7_ : Ty := ⟨(.struct #[fld 2 0, fld 3 1, fld 4 2, fld 6 3]), 4, 24, (.agg #[(.int .i64 0), (.int .i64 0), (.bool false), (.int .u8 0)])⟩
theorem ty7_ok : TyOk Tryz.prog 7 ty7_ := Zk
def ty8_ : Ty := ⟨(.struct #[fld 2 0, fld 3 1, fld 4 2, fld 6 3]), 4, 24, (.agg #[(.int .i64 0), (.int .i64 0), (.bool false), (.int .u8 0)])⟩
theorem ty8_ok : TyOk Tryz.prog 8 ty8_ := Zk
def ty9_ : Ty := ⟨.string, 1, 16, (.string ⟨#[]⟩)⟩
theorem ty9_ok : TyOk Tryz.prog 9 ty9_ := Zk
def ty10_ : Ty := ⟨.string, 1, 16, (.string ⟨#[]⟩)⟩
theorem ty10_ok : TyOk Tryz.prog 10 ty10_ := Zk
def ty11_ : Ty := ⟨.string, 1, 16, (.string ⟨#[]⟩)⟩
theorem ty11_ok : TyOk Tryz.prog 11 ty11_ := Zk
def ty12_ : Ty := ⟨(.int .u64), 1, 8, (.int .u64 0)⟩
theorem ty12_ok : TyOk Tryz.prog 12 ty12_ := Zk
def ty13_ : Ty := ⟨(.struct #[fld 9 0, fld 12 1]), 2, 24, (.agg #[(.string ⟨#[]⟩), (.int .u64 0)])⟩
theorem ty13_ok : TyOk Tryz.prog 13 ty13_ := Zk
def ty14_ : Ty := ⟨(.struct #[fld 9 0, fld 12 1]), 2, 24, (.agg #[(.string ⟨#[]⟩), (.int .u64 0)])⟩
theorem ty14_ok : TyOk Tryz.prog 14 ty14_ := Zk
def ty15_ : Ty := ⟨(.pointer 455), 1, 8, (.pointer none)⟩
theorem ty15_ok : TyOk Tryz.prog 15 ty15_ := Zk
def ty16_ : Ty := ⟨(.pointer 458), 1, 8, (.pointer none)⟩
theorem ty16_ok : TyOk Tryz.prog 16 ty16_ := Zk
def ty17_ : Ty := ⟨(.pointer 466), 1, 8, (.pointer none)⟩
theorem ty17_ok : TyOk Tryz.prog 17 ty17_ := Zk
def ty18_ : Ty := ⟨(.struct #[fld 17 0]), 1, 8, (.agg #[(.pointer none)])⟩
theorem ty18_ok : TyOk Tryz.prog 18 ty18_ := Zk
def ty19_ : Ty := ⟨(.struct #[fld 17 0]), 1, 8, (.agg #[(.pointer none)])⟩
theorem ty19_ok : TyOk Tryz.prog 19 ty19_ := Zk
def ty20_ : Ty := ⟨(.interface #[]), 1, 16, .nilIface⟩
theorem ty20_ok : TyOk Tryz.prog 20 ty20_ := Zk
def ty21_ : Ty := ⟨(.int .i32), 1, 4, (.int .i32 0)⟩
theorem ty21_ok : TyOk Tryz.prog 21 ty21_ := Zk
def ty22_ : Ty := ⟨(.slice 103), 1, 24, (.slice none 0 0)⟩
theorem ty22_ok : TyOk Tryz.prog 22 ty22_ := Zk
def ty23_ : Ty := ⟨(.slice 105), 1, 24, (.slice none 0 0)⟩
theorem ty23_ok : TyOk Tryz.prog 23 ty23_ := Zk
def ty24_ : Ty := ⟨(.slice 3), 1, 24, (.slice none 0 0)⟩
theorem ty24_ok : TyOk Tryz.prog 24 ty24_ := Zk
def ty25_ : Ty := ⟨(.slice 42), 1, 24, (.slice none 0 0)⟩
theorem ty25_ok : TyOk Tryz.prog 25 ty25_ := Zk
def ty26_ : Ty := ⟨(.slice 46), 1, 24, (.slice none 0 0)⟩
theorem ty26_ok : TyOk Tryz.prog 26 ty26_ := Zk
def ty27_ : Ty := ⟨(.struct #[fld 22 0, fld 23 1, fld 24 2, fld 25 3, fld 26 4]), 5, 120, (.agg #[(.slice none 0 0), (.slice none 0 0), (.slice none 0 0), (.slice none 0 0), (.slice none 0 0)])⟩
theorem ty27_ok : TyOk Tryz.prog 27 ty27_ := Zk
def ty28_ : Ty := ⟨(.struct #[fld 22 0, fld 23 1, fld 24 2, fld 25 3, fld 26 4]), 5, 120, (.agg #[(.slice none 0 0), (.slice none 0 0), (.slice none 0 0), (.slice none 0 0), (.slice none 0 0)])⟩
theorem ty28_ok : TyOk Tryz.prog 28 ty28_ := Zk
def ty29_ : Ty := ⟨(.func #[] #[] false), 1, 8, .nilFunc⟩
theorem ty29_ok : TyOk Tryz.prog 29 ty29_ := Zk
def ty30_ : Ty := ⟨(.func #[] #[] false), 1, 8, .nilFunc⟩
theorem ty30_ok : TyOk Tryz.prog 30 ty30_ := Zk
def ty31_ : Ty := ⟨(.func #[] #[] false), 1, 8, .nilFunc⟩
theorem ty31_ok : TyOk Tryz.prog 31 ty31_ := Zk
def ty32_ : Ty := ⟨(.struct #[fld 24 0, fld 24 1]), 2, 48, (.agg #[(.slice none 0 0), (.slice none 0 0)])⟩
theorem ty32_ok : TyOk Tryz.prog 32 ty32_ := Zk
def ty33_ : Ty := ⟨(.struct #[fld 24 0, fld 24 1]), 2, 48, (.agg #[(.slice none 0 0), (.slice none 0 0)])⟩
theorem ty33_ok : TyOk Tryz.prog 33 ty33_ := Zk
def ty34_ : Ty := ⟨(.func #[] #[] false), 1, 8, .nilFunc⟩
theorem ty34_ok : TyOk Tryz.prog 34 ty34_ := Zk
def ty35_ : Ty := ⟨(.interface #[]), 1, 16, .nilIface⟩
theorem ty35_ok : TyOk Tryz.prog 35 ty35_ := Zk
def ty36_ : Ty := ⟨(.interface #[]), 1, 16, .nilIface⟩
theorem ty36_ok : TyOk Tryz.prog 36 ty36_ := Zk
def ty38_ : Ty := ⟨(.func #[] #[] false), 1, 8, .nilFunc⟩
theorem ty38_ok : TyOk Tryz.prog 38 ty38_ := Zk
def ty39_ : Ty := ⟨(.func #[] #[] false), 1, 8, .nilFunc⟩
theorem ty39_ok : TyOk Tryz.prog 39 ty39_ := Zk
def ty40_ : Ty := ⟨(.slice 123), 1, 24, (.slice none 0 0)⟩
theorem ty40_ok : TyOk Tryz.prog 40 ty40_ := Zk
def ty41_ : Ty := ⟨(.struct #[fld 24 0, fld 24 1, fld 40 2]), 3, 72, (.agg #[(.slice none 0 0), (.slice none 0 0), (.slice none 0 0)])⟩
theorem ty41_ok : TyOk Tryz.prog 41 ty41_ := Zk
def ty42_ : Ty := ⟨(.struct #[fld 24 0, fld 24 1, fld 40 2]), 3, 72, (.agg #[(.slice none 0 0), (.slice none 0 0), (.slice none 0 0)])⟩
theorem ty42_ok : TyOk Tryz.prog 42 ty42_ := Zk
def ty43_ : Ty := ⟨(.slice 48), 1, 24, (.slice none 0 0)⟩
theorem ty43_ok : TyOk Tryz.prog 43 ty43_ := Zk
def ty44_ : Ty := ⟨(.slice 55), 1, 24, (.slice none 0 0)⟩
theorem ty44_ok : TyOk Tryz.prog 44 ty44_ := Zk
def ty45_ : Ty := ⟨(.struct #[fld 9 0, fld 3 1, fld 42 2, fld 43 5, fld 44 6]), 7, 144, (.agg #[(.string ⟨#[]⟩), (.int .i64 0), (.slice none 0 0), (.slice none 0 0), (.slice none 0 0), (.slice none 0 0), (.slice none 0 0)])⟩
theorem ty45_ok : TyOk Tryz.prog 45 ty45_ := Zk
def ty46_ : Ty := ⟨(.struct #[fld 9 0, fld 3 1, fld 42 2, fld 43 5, fld 44 6]), 7, 144, (.agg #[(.string ⟨#[]⟩), (.int .i64 0), (.slice none 0 0), (.slice none 0 0), (.slice none 0 0), (.slice none 0 0), (.slice none 0 0)])⟩
theorem ty46_ok : TyOk Tryz.prog 46 ty46_ := Zk
def ty47_ : Ty := ⟨(.struct #[fld 42 0, fld 3 3, fld 4 4]), 5, 88, (.agg #[(.slice none 0 0), (.slice none 0 0), (.slice none 0 0), (.int .i64 0), (.bool false)])⟩
theorem ty47_ok : TyOk Tryz.prog 47 ty47_ := Zk
def ty48_ : Ty := ⟨(.struct #[fld 42 0, fld 3 3, fld 4 4]), 5, 88, (.agg #[(.slice none 0 0), (.slice none 0 0), (.slice none 0 0), (.int .i64 0), (.bool false)])⟩
theorem ty48_ok : TyOk Tryz.prog 48 ty48_ := Zk
def ty49_ : Ty := ⟨(.func #[] #[] false), 1, 8, .nilFunc⟩
theorem ty49_ok : TyOk Tryz.prog 49 ty49_ := Zk
def ty50_ : Ty := ⟨(.func #[] #[] false), 1, 8, .nilFunc⟩
theorem ty50_ok : TyOk Tryz.prog 50 ty50_ := Zk
def ty51_ : Ty := ⟨(.slice 53), 1, 24, (.slice none 0 0)⟩
theorem ty51_ok : TyOk Tryz.prog 51 ty51_ := Zk
def ty52_ : Ty := ⟨(.struct #[fld 9 0, fld 3 1, fld 51 2]), 3, 48, (.agg #[(.string ⟨#[]⟩), (.int .i64 0), (.slice none 0 0)])⟩
theorem ty52_ok : TyOk Tryz.prog 52 ty52_ := Zk
def ty53_ : Ty := ⟨(.struct #[fld 9 0, fld 3 1, fld 51 2]), 3, 48, (.agg #[(.string ⟨#[]⟩), (.int .i64 0), (.slice none 0 0)])⟩
theorem ty53_ok : TyOk Tryz.prog 53 ty53_ := Zk
def ty54_ : Ty := ⟨(.struct #[fld 3 0, fld 53 1]), 4, 56, (.agg #[(.int .i64 0), (.string ⟨#[]⟩), (.int .i64 0), (.slice none 0 0)])⟩
theorem ty54_ok : TyOk Tryz.prog 54 ty54_ := Zk
def ty55_ : Ty := ⟨(.struct #[fld 3 0, fld 53 1]), 4, 56, (.agg #[(.int .i64 0), (.string ⟨#[]⟩), (.int .i64 0), (.slice none 0 0)])⟩
theorem ty55_ok : TyOk Tryz.prog 55 ty55_ := Zk
def ty56_ : Ty := ⟨(.func #[] #[] false), 1, 8, .nilFunc⟩
theorem ty56_ok : TyOk Tryz.prog 56 ty56_ := Zk
def ty57_ : Ty := ⟨(.func #[] #[] false), 1, 8, .nilFunc⟩
theorem ty57_ok : TyOk Tryz.prog 57 ty57_ := Zk
def ty59_ : Ty := ⟨(.func #[] #[] false), 1, 8, .nilFunc⟩
theorem ty59_ok : TyOk Tryz.prog 59 ty59_ := Zk
def ty60_ : Ty := ⟨(.func #[] #[] false), 1, 8, .nilFunc⟩
theorem ty60_ok : TyOk Tryz.prog 60 ty60_ := Zk
def ty61_ : Ty := ⟨(.struct #[fld 42 0, fld 53 3]), 6, 120, (.agg #[(.slice none 0 0), (.slice none 0 0), (.slice none 0 0), (.string ⟨#[]⟩), (.int .i64 0), (.slice none 0 0)])⟩
theorem ty61_ok : TyOk Tryz.prog 61 ty61_ := Zk
def ty62_ : Ty := ⟨(.struct #[fld 42 0, fld 53 3]), 6, 120, (.agg #[(.slice none 0 0), (.slice none 0 0), (.slice none 0 0), (.string ⟨#[]⟩), (.int .i64 0), (.slice none 0 0)])⟩
theorem ty62_ok : TyOk Tryz.prog 62 ty62_ := Zk
def ty63_ : Ty := ⟨(.func #[] #[] false), 1, 8, .nilFunc⟩
theorem ty63_ok : TyOk Tryz.prog 63 ty63_ := Zk
def ty64_ : Ty := ⟨(.func #[] #[] false), 1, 8, .nilFunc⟩
theorem ty64_ok : TyOk Tryz.prog 64 ty64_ := Zk
def ty65_ : Ty := ⟨(.func #[] #[] false), 1, 8, .nilFunc⟩
theorem ty65_ok : TyOk Tryz.prog 65 ty65_ := Zk
def ty66_ : Ty := ⟨(.func #[] #[] false), 1, 8, .nilFunc⟩
theorem ty66_ok : TyOk Tryz.prog 66 ty66_ := Zk
def ty68_ : Ty := ⟨(.func #[] #[] false), 1, 8, .nilFunc⟩
theorem ty68_ok : TyOk Tryz.prog 68 ty68_ := Zk
def ty69_ : Ty := ⟨(.func #[] #[] false), 1, 8, .nilFunc⟩
theorem ty69_ok : TyOk Tryz.prog 69 ty69_ := Zk
def ty70_ : Ty := ⟨(.func #[] #[] false), 1, 8, .nilFunc⟩
theorem ty70_ok : TyOk Tryz.prog 70 ty70_ := Zk
def ty71_ : Ty := ⟨(.int .i64), 1, 8, (.int .i64 0)⟩
theorem ty71_ok : TyOk Tryz.prog 71 ty71_ := Zk
def ty73_ : Ty := ⟨(.func #[] #[] false), 1, 8, .nilFunc⟩
theorem ty73_ok : TyOk Tryz.prog 73 ty73_ := Zk
def ty74_ : Ty := ⟨(.func #[] #[] false), 1, 8, .nilFunc⟩
theorem ty74_ok : TyOk Tryz.prog 74 ty74_ := Zk
def ty75_ : Ty := ⟨(.func #[] #[] false), 1, 8, .nilFunc⟩
theorem ty75_ok : TyOk Tryz.prog 75 ty75_ := Zk
def ty76_ : Ty := ⟨(.slice 194), 1, 24, (.slice none 0 0)⟩
theorem ty76_ok : TyOk Tryz.prog 76 ty76_ := Zk
def ty77_ : Ty := ⟨(.struct #[fld 9 0, fld 76 1]), 2, 40, (.agg #[(.string ⟨#[]⟩), (.slice none 0 0)])⟩
theorem ty77_ok : TyOk Tryz.prog 77 ty77_ := Zk
def ty78_ : Ty := ⟨(.struct #[fld 9 0, fld 76 1]), 2, 40, (.agg #[(.string ⟨#[]⟩), (.slice none 0 0)])⟩
theorem ty78_ok : TyOk Tryz.prog 78 ty78_ := Zk
def ty79_ : Ty := ⟨(.slice 78), 1, 24, (.slice none 0 0)⟩
theorem ty79_ok : TyOk Tryz.prog 79 ty79_ := Zk
def ty80_ : Ty := ⟨(.slice 9), 1, 24, (.slice none 0 0)⟩
theorem ty80_ok : TyOk Tryz.prog 80 ty80_ := Zk
def ty81_ : Ty := ⟨(.slice 86), 1, 24, (.slice none 0 0)⟩
theorem ty81_ok : TyOk Tryz.prog 81 ty81_ := Zk
def ty82_ : Ty := ⟨(.slice 84), 1, 24, (.slice none 0 0)⟩
theorem ty82_ok : TyOk Tryz.prog 82 ty82_ := Zk
def ty83_ : Ty := ⟨(.struct #[fld 9 0, fld 9 1, fld 80 2, fld 76 3, fld 81 4, fld 82 5]), 6, 128, (.agg #[(.string ⟨#[]⟩), (.string ⟨#[]⟩), (.slice none 0 0), (.slice none 0 0), (.slice none 0 0), (.slice none 0 0)])⟩
theorem ty83_ok : TyOk Tryz.prog 83 ty83_ := Zk
def ty84_ : Ty := ⟨(.struct #[fld 9 0, fld 9 1, fld 80 2, fld 76 3, fld 81 4, fld 82 5]), 6, 128, (.agg #[(.string ⟨#[]⟩), (.string ⟨#[]⟩), (.slice none 0 0), (.slice none 0 0), (.slice none 0 0), (.slice none 0 0)])⟩
theorem ty84_ok : TyOk Tryz.prog 84 ty84_ := Zk
def ty85_ : Ty := ⟨(.struct #[fld 9 0, fld 9 1, fld 3 2, fld 80 3, fld 81 4]), 5, 88, (.agg #[(.string ⟨#[]⟩), (.string ⟨#[]⟩), (.int .i64 0), (.slice none 0 0), (.slice none 0 0)])⟩
theorem ty85_ok : TyOk Tryz.prog 85 ty85_ := Zk
def ty86_ : Ty := ⟨(.struct #[fld 9 0, fld 9 1, fld 3 2, fld 80 3, fld 81 4]), 5, 88, (.agg #[(.string ⟨#[]⟩), (.string ⟨#[]⟩), (.int .i64 0), (.slice none 0 0), (.slice none 0 0)])⟩
theorem ty86_ok : TyOk Tryz.prog 86 ty86_ := Zk
def ty87_ : Ty := ⟨(.struct #[fld 3 0, fld 76 1, fld 84 2, fld 9 8, fld 80 9, fld 86 10]), 15, 288, (.agg #[(.int .i64 0), (.slice none 0 0), (.string ⟨#[]⟩), (.string ⟨#[]⟩), (.slice none 0 0), (.slice none 0 0), (.slice none 0 0), (.slice none 0 0), (.string ⟨#[]⟩), (.slice none 0 0), (.string ⟨#[]⟩), (.string ⟨#[]⟩), (.int .i64 0), (.slice none 0 0), (.slice none 0 0)])⟩
theorem ty87_ok : TyOk Tryz.prog 87 ty87_ := Zk
def ty88_ : Ty := ⟨(.struct #[fld 3 0, fld 76 1, fld 84 2, fld 9 8, fld 80 9, fld 86 10]), 15, 288, (.agg #[(.int .i64 0), (.slice none 0 0), (.string ⟨#[]⟩), (.string ⟨#[]⟩), (.slice none 0 0), (.slice none 0 0), (.slice none 0 0), (.slice none 0 0), (.string ⟨#[]⟩), (.slice none 0 0), (.string ⟨#[]⟩), (.string ⟨#[]⟩), (.int .i64 0), (.slice none 0 0), (.slice none 0 0)])⟩
theorem ty88_ok : TyOk Tryz.prog 88 ty88_ := Zk
def ty89_ : Ty := ⟨(.slice 88), 1, 24, (.slice none 0 0)⟩
theorem ty89_ok : TyOk Tryz.prog 89 ty89_ := Zk
def ty90_ : Ty := ⟨(.struct #[fld 9 0, fld 76 1, fld 3 2, fld 84 3, fld 89 9]), 10, 200, (.agg #[(.string ⟨#[]⟩), (.slice none 0 0), (.int .i64 0), (.string ⟨#[]⟩), (.string ⟨#[]⟩), (.slice none 0 0), (.slice none 0 0), (.slice none 0 0), (.slice none 0 0), (.slice none 0 0)])⟩
theorem ty90_ok : TyOk Tryz.prog 90 ty90_ := Zk
def ty91_ : Ty := ⟨(.struct #[fld 9 0, fld 76 1, fld 3 2, fld 84 3, fld 89 9]), 10, 200, (.agg #[(.string ⟨#[]⟩), (.slice none 0 0), (.int .i64 0), (.string ⟨#[]⟩), (.string ⟨#[]⟩), (.slice none 0 0), (.slice none 0 0), (.slice none 0 0), (.slice none 0 0), (.slice none 0 0)])⟩
theorem ty91_ok : TyOk Tryz.prog 91 ty91_ := Zk
def ty92_ : Ty := ⟨(.slice 91), 1, 24, (.slice none 0 0)⟩
theorem ty92_ok : TyOk Tryz.prog 92 ty92_ := Zk
def ty93_ : Ty := ⟨(.slice 209), 1, 24, (.slice none 0 0)⟩
theorem ty93_ok : TyOk Tryz.prog 93 ty93_ := Zk
def ty94_ : Ty := ⟨(.slice 233), 1, 24, (.slice none 0 0)⟩
theorem ty94_ok : TyOk Tryz.prog 94 ty94_ := Zk
def ty95_ : Ty := ⟨(.struct #[fld 9 0, fld 76 1, fld 76 2, fld 79 3, fld 93 4, fld 92 5, fld 94 6]), 7, 160, (.agg #[(.string ⟨#[]⟩), (.slice none 0 0), (.slice none 0 0), (.slice none 0 0), (.slice none 0 0), (.slice none 0 0), (.slice none 0 0)])⟩
theorem ty95_ok : TyOk Tryz.prog 95 ty95_ := Zk
def ty96_ : Ty := ⟨(.struct #[fld 9 0, fld 76 1, fld 76 2, fld 79 3, fld 93 4, fld 92 5, fld 94 6]), 7, 160, (.agg #[(.string ⟨#[]⟩), (.slice none 0 0), (.slice none 0 0), (.slice none 0 0), (.slice none 0 0), (.slice none 0 0), (.slice none 0 0)])⟩
theorem ty96_ok : TyOk Tryz.prog 96 ty96_ := Zk
def ty98_ : Ty := ⟨(.func #[] #[] false), 1, 8, .nilFunc⟩
theorem ty98_ok : TyOk Tryz.prog 98 ty98_ := Zk
def ty99_ : Ty := ⟨(.slice 202), 1, 24, (.slice none 0 0)⟩
theorem ty99_ok : TyOk Tryz.prog 99 ty99_ := Zk
def ty100_ : Ty := ⟨(.struct #[fld 9 0, fld 9 1, fld 76 2, fld 22 3, fld 99 4, fld 84 5]), 11, 232, (.agg #[(.string ⟨#[]⟩), (.string ⟨#[]⟩), (.slice none 0 0), (.slice none 0 0), (.slice none 0 0), (.string ⟨#[]⟩), (.string ⟨#[]⟩), (.slice none 0 0), (.slice none 0 0), (.slice none 0 0), (.slice none 0 0)])⟩
theorem ty100_ok : TyOk Tryz.prog 100 ty100_ := Zk
def ty101_ : Ty := ⟨(.struct #[fld 9 0, fld 9 1, fld 76 2, fld 22 3, fld 99 4, fld 84 5]), 11, 232, (.agg #[(.string ⟨#[]⟩), (.string ⟨#[]⟩), (.slice none 0 0), (.slice none 0 0), (.slice none 0 0), (.string ⟨#[]⟩), (.string ⟨#[]⟩), (.slice none 0 0), (.slice none 0 0), (.slice none 0 0), (.slice none 0 0)])⟩
theorem ty101_ok : TyOk Tryz.prog 101 ty101_ := Zk
def ty102_ : Ty := ⟨(.struct #[fld 9 0, fld 80 1]), 2, 40, (.agg #[(.string ⟨#[]⟩), (.slice none 0 0)])⟩
theorem ty102_ok : TyOk Tryz.prog 102 ty102_ := Zk
def ty103_ : Ty := ⟨(.struct #[fld 9 0, fld 80 1]), 2, 40, (.agg #[(.string ⟨#[]⟩), (.slice none 0 0)])⟩
theorem ty103_ok : TyOk Tryz.prog 103 ty103_ := Zk
def ty104_ : Ty := ⟨(.struct #[fld 103 0, fld 3 2, fld 3 3, fld 3 4]), 5, 64, (.agg #[(.string ⟨#[]⟩), (.slice none 0 0), (.int .i64 0), (.int .i64 0), (.int .i64 0)])⟩
theorem ty104_ok : TyOk Tryz.prog 104 ty104_ := Zk
def ty105_ : Ty := ⟨(.struct #[fld 103 0, fld 3 2, fld 3 3, fld 3 4]), 5, 64, (.agg #[(.string ⟨#[]⟩), (.slice none 0 0), (.int .i64 0), (.int .i64 0), (.int .i64 0)])⟩
theorem ty105_ok : TyOk Tryz.prog 105 ty105_ := Zk
def ty106_ : Ty := ⟨(.func #[] #[] false), 1, 8, .nilFunc⟩
theorem ty106_ok : TyOk Tryz.prog 106 ty106_ := Zk
def ty107_ : Ty := ⟨(.func #[] #[] false), 1, 8, .nilFunc⟩
theorem ty107_ok : TyOk Tryz.prog 107 ty107_ := Zk
def ty108_ : Ty := ⟨(.func #[] #[] false), 1, 8, .nilFunc⟩
theorem ty108_ok : TyOk Tryz.prog 108 ty108_ := Zk
def ty109_ : Ty := ⟨(.func #[] #[] false), 1, 8, .nilFunc⟩
theorem ty109_ok : TyOk Tryz.prog 109 ty109_ := Zk
def ty110_ : Ty := ⟨(.func #[] #[] false), 1, 8, .nilFunc⟩
theorem ty110_ok : TyOk Tryz.prog 110 ty110_ := Zk
def ty111_ : Ty := ⟨(.func #[] #[] false), 1, 8, .nilFunc⟩
theorem ty111_ok : TyOk Tryz.prog 111 ty111_ := Zk
def ty112_ : Ty := ⟨(.func #[] #[] false), 1, 8, .nilFunc⟩
theorem ty112_ok : TyOk Tryz.prog 112 ty112_ := Zk
def ty113_ : Ty := ⟨(.func #[] #[] false), 1, 8, .nilFunc⟩
theorem ty113_ok : TyOk Tryz.prog 113 ty113_ := Zk
def ty114_ : Ty := ⟨(.func #[] #[] false), 1, 8, .nilFunc⟩
theorem ty114_ok : TyOk Tryz.prog 114 ty114_ := Zk
def ty116_ : Ty := ⟨(.func #[] #[] false), 1, 8, .nilFunc⟩
theorem ty116_ok : TyOk Tryz.prog 116 ty116_ := Zk
def ty117_ : Ty := ⟨(.map 3 4), 1, 8, (.map none)⟩
theorem ty117_ok : TyOk Tryz.prog 117 ty117_ := Zk
def ty118_ : Ty := ⟨(.func #[] #[] false), 1, 8, .nilFunc⟩
theorem ty118_ok : TyOk Tryz.prog 118 ty118_ := Zk
def ty119_ : Ty := ⟨(.func #[] #[] false), 1, 8, .nilFunc⟩
theorem ty119_ok : TyOk Tryz.prog 119 ty119_ := Zk
def ty120_ : Ty := ⟨(.func #[] #[] false), 1, 8, .nilFunc⟩
theorem ty120_ok : TyOk Tryz.prog 120 ty120_ := Zk
def ty122_ : Ty := ⟨(.struct #[fld 9 0, fld 53 1, fld 53 4]), 7, 112, (.agg #[(.string ⟨#[]⟩), (.string ⟨#[]⟩), (.int .i64 0), (.slice none 0 0), (.string ⟨#[]⟩), (.int .i64 0), (.slice none 0 0)])⟩
theorem ty122_ok : TyOk Tryz.prog 122 ty122_ := Zk
def ty123_ : Ty := ⟨(.struct #[fld 9 0, fld 53 1, fld 53 4]), 7, 112, (.agg #[(.string ⟨#[]⟩), (.string ⟨#[]⟩), (.int .i64 0), (.slice none 0 0), (.string ⟨#[]⟩), (.int .i64 0), (.slice none 0 0)])⟩
theorem ty123_ok : TyOk Tryz.prog 123 ty123_ := Zk
def ty124_ : Ty := ⟨(.func #[] #[] false), 1, 8, .nilFunc⟩
theorem ty124_ok : TyOk Tryz.prog 124 ty124_ := Zk
def ty125_ : Ty := ⟨(.func #[] #[] false), 1, 8, .nilFunc⟩
theorem ty125_ok : TyOk Tryz.prog 125 ty125_ := Zk
def ty126_ : Ty := ⟨(.func #[] #[] false), 1, 8, .nilFunc⟩
theorem ty126_ok : TyOk Tryz.prog 126 ty126_ := Zk
def ty128_ : Ty := ⟨(.func #[] #[] false), 1, 8, .nilFunc⟩
theorem ty128_ok : TyOk Tryz.prog 128 ty128_ := Zk
def ty130_ : Ty := ⟨(.func #[] #[] false), 1, 8, .nilFunc⟩
theorem ty130_ok : TyOk Tryz.prog 130 ty130_ := Zk
def ty131_ : Ty := ⟨(.slice 147), 1, 24, (.slice none 0 0)⟩
theorem ty131_ok : TyOk Tryz.prog 131 ty131_ := Zk
def ty133_ : Ty := ⟨(.func #[] #[] false), 1, 8, .nilFunc⟩
theorem ty133_ok : TyOk Tryz.prog 133 ty133_ := Zk
def ty134_ : Ty := ⟨(.pointer 260), 1, 8, (.pointer none)⟩
theorem ty134_ok : TyOk Tryz.prog 134 ty134_ := Zk
def ty136_ : Ty := ⟨(.func #[] #[] false), 1, 8, .nilFunc⟩
theorem ty136_ok : TyOk Tryz.prog 136 ty136_ := Zk
def ty137_ : Ty := ⟨(.pointer 142), 1, 8, (.pointer none)⟩
theorem ty137_ok : TyOk Tryz.prog 137 ty137_ := Zk
def ty138_ : Ty := ⟨(.func #[] #[] false), 1, 8, .nilFunc⟩
theorem ty138_ok : TyOk Tryz.prog 138 ty138_ := Zk
def ty139_ : Ty := ⟨(.map 9 4), 1, 8, (.map none)⟩
theorem ty139_ok : TyOk Tryz.prog 139 ty139_ := Zk
def ty140_ : Ty := ⟨(.map 9 3), 1, 8, (.map none)⟩
theorem ty140_ok : TyOk Tryz.prog 140 ty140_ := Zk
def ty141_ : Ty := ⟨(.struct #[fld 96 0, fld 134 7, fld 76 8, fld 139 9, fld 140 10, fld 140 11, fld 28 12]), 17, 336, (.agg #[(.string ⟨#[]⟩), (.slice none 0 0), (.slice none 0 0), (.slice none 0 0), (.slice none 0 0), (.slice none 0 0), (.slice none 0 0), (.pointer none), (.slice none 0 0), (.map none), (.map none), (.map none), (.slice none 0 0), (.slice none 0 0), (.slice none 0 0), (.slice none 0 0), (.slice none 0 0)])⟩
theorem ty141_ok : TyOk Tryz.prog 141 ty141_ := Zk
def ty142_ : Ty := ⟨(.struct #[fld 96 0, fld 134 7, fld 76 8, fld 139 9, fld 140 10, fld 140 11, fld 28 12]), 17, 336, (.agg #[(.string ⟨#[]⟩), (.slice none 0 0), (.slice none 0 0), (.slice none 0 0), (.slice none 0 0), (.slice none 0 0), (.slice none 0 0), (.pointer none), (.slice none 0 0), (.map none), (.map none), (.map none), (.slice none 0 0), (.slice none 0 0), (.slice none 0 0), (.slice none 0 0), (.slice none 0 0)])⟩
theorem ty142_ok : TyOk Tryz.prog 142 ty142_ := Zk
def ty143_ : Ty := ⟨(.func #[] #[] false), 1, 8, .nilFunc⟩
theorem ty143_ok : TyOk Tryz.prog 143 ty143_ := Zk
def ty144_ : Ty := ⟨(.func #[] #[] false), 1, 8, .nilFunc⟩
theorem ty144_ok : TyOk Tryz.prog 144 ty144_ := Zk
def ty145_ : Ty := ⟨(.func #[] #[] false), 1, 8, .nilFunc⟩
theorem ty145_ok : TyOk Tryz.prog 145 ty145_ := Zk
def ty146_ : Ty := ⟨(.struct #[fld 3 0, fld 9 1, fld 80 2]), 3, 48, (.agg #[(.int .i64 0), (.string ⟨#[]⟩), (.slice none 0 0)])⟩
theorem ty146_ok : TyOk Tryz.prog 146 ty146_ := Zk
def ty147_ : Ty := ⟨(.struct #[fld 3 0, fld 9 1, fld 80 2]), 3, 48, (.agg #[(.int .i64 0), (.string ⟨#[]⟩), (.slice none 0 0)])⟩
theorem ty147_ok : TyOk Tryz.prog 147 ty147_ := Zk
def ty148_ : Ty := ⟨(.func #[] #[] false), 1, 8, .nilFunc⟩
theorem ty148_ok : TyOk Tryz.prog 148 ty148_ := Zk
def ty149_ : Ty := ⟨(.func #[] #[] false), 1, 8, .nilFunc⟩
theorem ty149_ok : TyOk Tryz.prog 149 ty149_ := Zk
def ty150_ : Ty := ⟨(.func #[] #[] false), 1, 8, .nilFunc⟩
theorem ty150_ok : TyOk Tryz.prog 150 ty150_ := Zk
def ty151_ : Ty := ⟨(.func #[] #[] false), 1, 8, .nilFunc⟩
theorem ty151_ok : TyOk Tryz.prog 151 ty151_ := Zk
def ty152_ : Ty := ⟨(.func #[] #[] false), 1, 8, .nilFunc⟩
theorem ty152_ok : TyOk Tryz.prog 152 ty152_ := Zk
def ty153_ : Ty := ⟨(.func #[] #[] false), 1, 8, .nilFunc⟩
theorem ty153_ok : TyOk Tryz.prog 153 ty153_ := Zk
def ty154_ : Ty := ⟨(.func #[] #[] false), 1, 8, .nilFunc⟩
theorem ty154_ok : TyOk Tryz.prog 154 ty154_ := Zk
def ty155_ : Ty := ⟨(.func #[] #[] false), 1, 8, .nilFunc⟩
theorem ty155_ok : TyOk Tryz.prog 155 ty155_ := Zk
def ty156_ : Ty := ⟨(.func #[] #[] false), 1, 8, .nilFunc⟩
theorem ty156_ok : TyOk Tryz.prog 156 ty156_ := Zk
def ty157_ : Ty := ⟨(.int .u64), 1, 8, (.int .u64 0)⟩
theorem ty157_ok : TyOk Tryz.prog 157 ty157_ := Zk
def ty158_ : Ty := ⟨(.func #[] #[] false), 1, 8, .nilFunc⟩
theorem ty158_ok : TyOk Tryz.prog 158 ty158_ := Zk
def ty159_ : Ty := ⟨(.slice 161), 1, 24, (.slice none 0 0)⟩
theorem ty159_ok : TyOk Tryz.prog 159 ty159_ := Zk
def ty160_ : Ty := ⟨(.struct #[fld 3 0, fld 3 1, fld 3 2, fld 3 3, fld 9 4, fld 159 5]), 6, 72, (.agg #[(.int .i64 0), (.int .i64 0), (.int .i64 0), (.int .i64 0), (.string ⟨#[]⟩), (.slice none 0 0)])⟩
theorem ty160_ok : TyOk Tryz.prog 160 ty160_ := Zk
def ty161_ : Ty := ⟨(.struct #[fld 3 0, fld 3 1, fld 3 2, fld 3 3, fld 9 4, fld 159 5]), 6, 72, (.agg #[(.int .i64 0), (.int .i64 0), (.int .i64 0), (.int .i64 0), (.string ⟨#[]⟩), (.slice none 0 0)])⟩
theorem ty161_ok : TyOk Tryz.prog 161 ty161_ := Zk
def ty163_ : Ty := ⟨(.func #[] #[] false), 1, 8, .nilFunc⟩
theorem ty163_ok : TyOk Tryz.prog 163 ty163_ := Zk
def ty164_ : Ty := ⟨(.func #[] #[] false), 1, 8, .nilFunc⟩
theorem ty164_ok : TyOk Tryz.prog 164 ty164_ := Zk
def ty165_ : Ty := ⟨(.pointer 170), 1, 8, (.pointer none)⟩
theorem ty165_ok : TyOk Tryz.prog 165 ty165_ := Zk
def ty166_ : Ty := ⟨(.map 9 76), 1, 8, (.map none)⟩
theorem ty166_ok : TyOk Tryz.prog 166 ty166_ := Zk
def ty167_ : Ty := ⟨(.map 9 209), 1, 8, (.map none)⟩
theorem ty167_ok : TyOk Tryz.prog 167 ty167_ := Zk
def ty168_ : Ty := ⟨(.map 9 9), 1, 8, (.map none)⟩
theorem ty168_ok : TyOk Tryz.prog 168 ty168_ := Zk
def ty169_ : Ty := ⟨(.struct #[fld 96 0, fld 101 7, fld 134 18, fld 166 19, fld 167 20, fld 168 21, fld 76 22]), 23, 448, (.agg #[(.string ⟨#[]⟩), (.slice none 0 0), (.slice none 0 0), (.slice none 0 0), (.slice none 0 0), (.slice none 0 0), (.slice none 0 0), (.string ⟨#[]⟩), (.string ⟨#[]⟩), (.slice none 0 0), (.slice none 0 0), (.slice none 0 0), (.string ⟨#[]⟩), (.string ⟨#[]⟩), (.slice none 0 0), (.slice none 0 0), (.slice none 0 0), (.slice none 0 0), (.pointer none), (.map none), (.map none), (.map none), (.slice none 0 0)])⟩
theorem ty169_ok : TyOk Tryz.prog 169 ty169_ := Zk
def ty170_ : Ty := ⟨(.struct #[fld 96 0, fld 101 7, fld 134 18, fld 166 19, fld 167 20, fld 168 21, fld 76 22]), 23, 448, (.agg #[(.string ⟨#[]⟩), (.slice none 0 0), (.slice none 0 0), (.slice none 0 0), (.slice none 0 0), (.slice none 0 0), (.slice none 0 0), (.string ⟨#[]⟩), (.string ⟨#[]⟩), (.slice none 0 0), (.slice none 0 0), (.slice none 0 0), (.string ⟨#[]⟩), (.string ⟨#[]⟩), (.slice none 0 0), (.slice none 0 0), (.slice none 0 0), (.slice none 0 0), (.pointer none), (.map none), (.map none), (.map none), (.slice none 0 0)])⟩
theorem ty170_ok : TyOk Tryz.prog 170 ty170_ := Zk
def ty171_ : Ty := ⟨(.func #[] #[] false), 1, 8, .nilFunc⟩
theorem ty171_ok : TyOk Tryz.prog 171 ty171_ := Zk
def ty172_ : Ty := ⟨(.pointer 254), 1, 8, (.pointer none)⟩
theorem ty172_ok : TyOk Tryz.prog 172 ty172_ := Zk
def ty174_ : Ty := ⟨(.func #[] #[] false), 1, 8, .nilFunc⟩
theorem ty174_ok : TyOk Tryz.prog 174 ty174_ := Zk
def ty175_ : Ty := ⟨(.pointer 183), 1, 8, (.pointer none)⟩
theorem ty175_ok : TyOk Tryz.prog 175 ty175_ := Zk
def ty177_ : Ty := ⟨(.func #[] #[] false), 1, 8, .nilFunc⟩
theorem ty177_ok : TyOk Tryz.prog 177 ty177_ := Zk
def ty178_ : Ty := ⟨(.slice 187), 1, 24, (.slice none 0 0)⟩
theorem ty178_ok : TyOk Tryz.prog 178 ty178_ := Zk
def ty179_ : Ty := ⟨(.map 9 103), 1, 8, (.map none)⟩
theorem ty179_ok : TyOk Tryz.prog 179 ty179_ := Zk
def ty180_ : Ty := ⟨(.map 9 103), 1, 8, (.map none)⟩
theorem ty180_ok : TyOk Tryz.prog 180 ty180_ := Zk
def ty181_ : Ty := ⟨(.slice 188), 1, 24, (.slice none 0 0)⟩
theorem ty181_ok : TyOk Tryz.prog 181 ty181_ := Zk
def ty182_ : Ty := ⟨(.struct #[fld 172 0, fld 178 1, fld 180 2, fld 181 3, fld 181 4]), 5, 88, (.agg #[(.pointer none), (.slice none 0 0), (.map none), (.slice none 0 0), (.slice none 0 0)])⟩
theorem ty182_ok : TyOk Tryz.prog 182 ty182_ := Zk
def ty183_ : Ty := ⟨(.struct #[fld 172 0, fld 178 1, fld 180 2, fld 181 3, fld 181 4]), 5, 88, (.agg #[(.pointer none), (.slice none 0 0), (.map none), (.slice none 0 0), (.slice none 0 0)])⟩
theorem ty183_ok : TyOk Tryz.prog 183 ty183_ := Zk
def ty184_ : Ty := ⟨(.func #[] #[] false), 1, 8, .nilFunc⟩
theorem ty184_ok : TyOk Tryz.prog 184 ty184_ := Zk
def ty185_ : Ty := ⟨(.slice 80), 1, 24, (.slice none 0 0)⟩
theorem ty185_ok : TyOk Tryz.prog 185 ty185_ := Zk
def ty186_ : Ty := ⟨(.struct #[fld 9 0, fld 76 1, fld 84 2, fld 84 8, fld 84 14, fld 84 20, fld 89 26, fld 89 27, fld 4 28, fld 185 29]), 30, 632, (.agg #[(.string ⟨#[]⟩), (.slice none 0 0), (.string ⟨#[]⟩), (.string ⟨#[]⟩), (.slice none 0 0), (.slice none 0 0), (.slice none 0 0), (.slice none 0 0), (.string ⟨#[]⟩), (.string ⟨#[]⟩), (.slice none 0 0), (.slice none 0 0), (.slice none 0 0), (.slice none 0 0), (.string ⟨#[]⟩), (.string ⟨#[]⟩), (.slice none 0 0), (.slice none 0 0), (.slice none 0 0), (.slice none 0 0), (.string ⟨#[]⟩), (.string ⟨#[]⟩), (.slice none 0 0), (.slice none 0 0), (.slice none 0 0), (.slice none 0 0), (.slice none 0 0), (.slice none 0 0), (.bool false), (.slice none 0 0)])⟩
theorem ty186_ok : TyOk Tryz.prog 186 ty186_ := Zk
def ty187_ : Ty := ⟨(.struct #[fld 9 0, fld 76 1, fld 84 2, fld 84 8, fld 84 14, fld 84 20, fld 89 26, fld 89 27, fld 4 28, fld 185 29]), 30, 632, (.agg #[(.string ⟨#[]⟩), (.slice none 0 0), (.string ⟨#[]⟩), (.string ⟨#[]⟩), (.slice none 0 0), (.slice none 0 0), (.slice none 0 0), (.slice none 0 0), (.string ⟨#[]⟩), (.string ⟨#[]⟩), (.slice none 0 0), (.slice none 0 0), (.slice none 0 0), (.slice none 0 0), (.string ⟨#[]⟩), (.string ⟨#[]⟩), (.slice none 0 0), (.slice none 0 0), (.slice none 0 0), (.slice none 0 0), (.string ⟨#[]⟩), (.string ⟨#[]⟩), (.slice none 0 0), (.slice none 0 0), (.slice none 0 0), (.slice none 0 0), (.slice none 0 0), (.slice none 0 0), (.bool false), (.slice none 0 0)])⟩
theorem ty187_ok : TyOk Tryz.prog 187 ty187_ := Zk
def ty188_ : Ty := ⟨(.slice 4), 1, 24, (.slice none 0 0)⟩
theorem ty188_ok : TyOk Tryz.prog 188 ty188_ := Zk
def ty189_ : Ty := ⟨(.func #[] #[] false), 1, 8, .nilFunc⟩
theorem ty189_ok : TyOk Tryz.prog 189 ty189_ := Zk
def ty191_ : Ty := ⟨(.func #[] #[] false), 1, 8, .nilFunc⟩
theorem ty191_ok : TyOk Tryz.prog 191 ty191_ := Zk
def ty192_ : Ty := ⟨(.func #[] #[] false), 1, 8, .nilFunc⟩
theorem ty192_ok : TyOk Tryz.prog 192 ty192_ := Zk
def ty193_ : Ty := ⟨(.struct #[fld 9 0, fld 9 1]), 2, 32, (.agg #[(.string ⟨#[]⟩), (.string ⟨#[]⟩)])⟩
theorem ty193_ok : TyOk Tryz.prog 193 ty193_ := Zk
def ty194_ : Ty := ⟨(.struct #[fld 9 0, fld 9 1]), 2, 32, (.agg #[(.string ⟨#[]⟩), (.string ⟨#[]⟩)])⟩
theorem ty194_ok : TyOk Tryz.prog 194 ty194_ := Zk
def ty195_ : Ty := ⟨(.func #[] #[] false), 1, 8, .nilFunc⟩
theorem ty195_ok : TyOk Tryz.prog 195 ty195_ := Zk
def ty196_ : Ty := ⟨(.func #[] #[] false), 1, 8, .nilFunc⟩
theorem ty196_ok : TyOk Tryz.prog 196 ty196_ := Zk
def ty197_ : Ty := ⟨(.func #[] #[] false), 1, 8, .nilFunc⟩
theorem ty197_ok : TyOk Tryz.prog 197 ty197_ := Zk
def ty198_ : Ty := ⟨(.func #[] #[] false), 1, 8, .nilFunc⟩
theorem ty198_ok : TyOk Tryz.prog 198 ty198_ := Zk
def ty199_ : Ty := ⟨(.func #[] #[] false), 1, 8, .nilFunc⟩
theorem ty199_ok : TyOk Tryz.prog 199 ty199_ := Zk
def ty200_ : Ty := ⟨(.func #[] #[] false), 1, 8, .nilFunc⟩
theorem ty200_ok : TyOk Tryz.prog 200 ty200_ := Zk
def ty201_ : Ty := ⟨(.struct #[fld 103 0, fld 3 2]), 3, 48, (.agg #[(.string ⟨#[]⟩), (.slice none 0 0), (.int .i64 0)])⟩
theorem ty201_ok : TyOk Tryz.prog 201 ty201_ := Zk
def ty202_ : Ty := ⟨(.struct #[fld 103 0, fld 3 2]), 3, 48, (.agg #[(.string ⟨#[]⟩), (.slice none 0 0), (.int .i64 0)])⟩
theorem ty202_ok : TyOk Tryz.prog 202 ty202_ := Zk
def ty203_ : Ty := ⟨(.func #[] #[] false), 1, 8, .nilFunc⟩
theorem ty203_ok : TyOk Tryz.prog 203 ty203_ := Zk
def ty204_ : Ty := ⟨(.func #[] #[] false), 1, 8, .nilFunc⟩
theorem ty204_ok : TyOk Tryz.prog 204 ty204_ := Zk
def ty205_ : Ty := ⟨(.func #[] #[] false), 1, 8, .nilFunc⟩
theorem ty205_ok : TyOk Tryz.prog 205 ty205_ := Zk
def ty206_ : Ty := ⟨(.func #[] #[] false), 1, 8, .nilFunc⟩
theorem ty206_ok : TyOk Tryz.prog 206 ty206_ := Zk
def ty207_ : Ty := ⟨(.func #[] #[] false), 1, 8, .nilFunc⟩
theorem ty207_ok : TyOk Tryz.prog 207 ty207_ := Zk
def ty208_ : Ty := ⟨(.struct #[fld 9 0, fld 76 1, fld 3 2, fld 3 3]), 4, 56, (.agg #[(.string ⟨#[]⟩), (.slice none 0 0), (.int .i64 0), (.int .i64 0)])⟩
theorem ty208_ok : TyOk Tryz.prog 208 ty208_ := Zk
def ty209_ : Ty := ⟨(.struct #[fld 9 0, fld 76 1, fld 3 2, fld 3 3]), 4, 56, (.agg #[(.string ⟨#[]⟩), (.slice none 0 0), (.int .i64 0), (.int .i64 0)])⟩
theorem ty209_ok : TyOk Tryz.prog 209 ty209_ := Zk
def ty210_ : Ty := ⟨(.func #[] #[] false), 1, 8, .nilFunc⟩
theorem ty210_ok : TyOk Tryz.prog 210 ty210_ := Zk
def ty211_ : Ty := ⟨(.func #[] #[] false), 1, 8, .nilFunc⟩
theorem ty211_ok : TyOk Tryz.prog 211 ty211_ := Zk
def ty212_ : Ty := ⟨(.func #[] #[] false), 1, 8, .nilFunc⟩
theorem ty212_ok : TyOk Tryz.prog 212 ty212_ := Zk
def ty214_ : Ty := ⟨(.func #[] #[] false), 1, 8, .nilFunc⟩
theorem ty214_ok : TyOk Tryz.prog 214 ty214_ := Zk
def ty215_ : Ty := ⟨(.func #[] #[] false), 1, 8, .nilFunc⟩
theorem ty215_ok : TyOk Tryz.prog 215 ty215_ := Zk
def ty216_ : Ty := ⟨(.func #[] #[] false), 1, 8, .nilFunc⟩
theorem ty216_ok : TyOk Tryz.prog 216 ty216_ := Zk
def ty218_ : Ty := ⟨(.func #[] #[] false), 1, 8, .nilFunc⟩
theorem ty218_ok : TyOk Tryz.prog 218 ty218_ := Zk
def ty219_ : Ty := ⟨(.func #[] #[] false), 1, 8, .nilFunc⟩
theorem ty219_ok : TyOk Tryz.prog 219 ty219_ := Zk
def ty220_ : Ty := ⟨(.func #[] #[] false), 1, 8, .nilFunc⟩
theorem ty220_ok : TyOk Tryz.prog 220 ty220_ := Zk
def ty221_ : Ty := ⟨(.func #[] #[] false), 1, 8, .nilFunc⟩
theorem ty221_ok : TyOk Tryz.prog 221 ty221_ := Zk
def ty222_ : Ty := ⟨(.pointer 224), 1, 8, (.pointer none)⟩
theorem ty222_ok : TyOk Tryz.prog 222 ty222_ := Zk
def ty223_ : Ty := ⟨(.struct #[fld 4 0]), 1, 1, (.agg #[(.bool false)])⟩
theorem ty223_ok : TyOk Tryz.prog 223 ty223_ := Zk
def ty224_ : Ty := ⟨(.struct #[fld 4 0]), 1, 1, (.agg #[(.bool false)])⟩
theorem ty224_ok : TyOk Tryz.prog 224 ty224_ := Zk
def ty225_ : Ty := ⟨(.func #[] #[] false), 1, 8, .nilFunc⟩
theorem ty225_ok : TyOk Tryz.prog 225 ty225_ := Zk
def ty226_ : Ty := ⟨(.func #[] #[] false), 1, 8, .nilFunc⟩
theorem ty226_ok : TyOk Tryz.prog 226 ty226_ := Zk
def ty227_ : Ty := ⟨(.func #[] #[] false), 1, 8, .nilFunc⟩
theorem ty227_ok : TyOk Tryz.prog 227 ty227_ := Zk
def ty228_ : Ty := ⟨(.pointer 161), 1, 8, (.pointer none)⟩
theorem ty228_ok : TyOk Tryz.prog 228 ty228_ := Zk
def ty229_ : Ty := ⟨(.func #[] #[] false), 1, 8, .nilFunc⟩
theorem ty229_ok : TyOk Tryz.prog 229 ty229_ := Zk
def ty230_ : Ty := ⟨(.func #[] #[] false), 1, 8, .nilFunc⟩
theorem ty230_ok : TyOk Tryz.prog 230 ty230_ := Zk
def ty231_ : Ty := ⟨(.func #[] #[] false), 1, 8, .nilFunc⟩
theorem ty231_ok : TyOk Tryz.prog 231 ty231_ := Zk
def ty232_ : Ty := ⟨(.struct #[fld 9 0, fld 76 1, fld 3 2, fld 84 3, fld 84 9, fld 84 15, fld 89 21, fld 89 22]), 23, 480, (.agg #[(.string ⟨#[]⟩), (.slice none 0 0), (.int .i64 0), (.string ⟨#[]⟩), (.string ⟨#[]⟩), (.slice none 0 0), (.slice none 0 0), (.slice none 0 0), (.slice none 0 0), (.string ⟨#[]⟩), (.string ⟨#[]⟩), (.slice none 0 0), (.slice none 0 0), (.slice none 0 0), (.slice none 0 0), (.string ⟨#[]⟩), (.string ⟨#[]⟩), (.slice none 0 0), (.slice none 0 0), (.slice none 0 0), (.slice none 0 0), (.slice none 0 0), (.slice none 0 0)])⟩
theorem ty232_ok : TyOk Tryz.prog 232 ty232_ := Zk
def ty233_ : Ty := ⟨(.struct #[fld 9 0, fld 76 1, fld 3 2, fld 84 3, fld 84 9, fld 84 15, fld 89 21, fld 89 22]), 23, 480, (.agg #[(.string ⟨#[]⟩), (.slice none 0 0), (.int .i64 0), (.string ⟨#[]⟩), (.string ⟨#[]⟩), (.slice none 0 0), (.slice none 0 0), (.slice none 0 0), (.slice none 0 0), (.string ⟨#[]⟩), (.string ⟨#[]⟩), (.slice none 0 0), (.slice none 0 0), (.slice none 0 0), (.slice none 0 0), (.string ⟨#[]⟩), (.string ⟨#[]⟩), (.slice none 0 0), (.slice none 0 0), (.slice none 0 0), (.slice none 0 0), (.slice none 0 0), (.slice none 0 0)])⟩
theorem ty233_ok : TyOk Tryz.prog 233 ty233_ := Zk
def ty234_ : Ty := ⟨(.func #[] #[] false), 1, 8, .nilFunc⟩
theorem ty234_ok : TyOk Tryz.prog 234 ty234_ := Zk
def ty235_ : Ty := ⟨(.func #[] #[] false), 1, 8, .nilFunc⟩
theorem ty235_ok : TyOk Tryz.prog 235 ty235_ := Zk
def ty236_ : Ty := ⟨(.func #[] #[] false), 1, 8, .nilFunc⟩
theorem ty236_ok : TyOk Tryz.prog 236 ty236_ := Zk
def ty237_ : Ty := ⟨(.func #[] #[] false), 1, 8, .nilFunc⟩
theorem ty237_ok : TyOk Tryz.prog 237 ty237_ := Zk
def ty238_ : Ty := ⟨(.func #[] #[] false), 1, 8, .nilFunc⟩
theorem ty238_ok : TyOk Tryz.prog 238 ty238_ := Zk
def ty239_ : Ty := ⟨(.func #[] #[] false), 1, 8, .nilFunc⟩
theorem ty239_ok : TyOk Tryz.prog 239 ty239_ := Zk
def ty240_ : Ty := ⟨(.func #[] #[] false), 1, 8, .nilFunc⟩
theorem ty240_ok : TyOk Tryz.prog 240 ty240_ := Zk
def ty241_ : Ty := ⟨(.func #[] #[] false), 1, 8, .nilFunc⟩
theorem ty241_ok : TyOk Tryz.prog 241 ty241_ := Zk
def ty242_ : Ty := ⟨(.func #[] #[] false), 1, 8, .nilFunc⟩
theorem ty242_ok : TyOk Tryz.prog 242 ty242_ := Zk
def ty243_ : Ty := ⟨(.func #[] #[] false), 1, 8, .nilFunc⟩
theorem ty243_ok : TyOk Tryz.prog 243 ty243_ := Zk
def ty244_ : Ty := ⟨(.func #[] #[] false), 1, 8, .nilFunc⟩
theorem ty244_ok : TyOk Tryz.prog 244 ty244_ := Zk
def ty245_ : Ty := ⟨(.func #[] #[] false), 1, 8, .nilFunc⟩
theorem ty245_ok : TyOk Tryz.prog 245 ty245_ := Zk
def ty246_ : Ty := ⟨(.func #[] #[] false), 1, 8, .nilFunc⟩
theorem ty246_ok : TyOk Tryz.prog 246 ty246_ := Zk
def ty247_ : Ty := ⟨(.func #[] #[] false), 1, 8, .nilFunc⟩
theorem ty247_ok : TyOk Tryz.prog 247 ty247_ := Zk
def ty248_ : Ty := ⟨(.func #[] #[] false), 1, 8, .nilFunc⟩
theorem ty248_ok : TyOk Tryz.prog 248 ty248_ := Zk
def ty249_ : Ty := ⟨(.func #[] #[] false), 1, 8, .nilFunc⟩
theorem ty249_ok : TyOk Tryz.prog 249 ty249_ := Zk
def ty250_ : Ty := ⟨(.func #[] #[] false), 1, 8, .nilFunc⟩
theorem ty250_ok : TyOk Tryz.prog 250 ty250_ := Zk
def ty251_ : Ty := ⟨(.func #[] #[] false), 1, 8, .nilFunc⟩
theorem ty251_ok : TyOk Tryz.prog 251 ty251_ := Zk
def ty252_ : Ty := ⟨(.func #[] #[] false), 1, 8, .nilFunc⟩
theorem ty252_ok : TyOk Tryz.prog 252 ty252_ := Zk
def ty253_ : Ty := ⟨(.struct #[fld 96 0, fld 101 7, fld 134 18, fld 76 19, fld 139 20, fld 180 21]), 22, 440, (.agg #[(.string ⟨#[]⟩), (.slice none 0 0), (.slice none 0 0), (.slice none 0 0), (.slice none 0 0), (.slice none 0 0), (.slice none 0 0), (.string ⟨#[]⟩), (.string ⟨#[]⟩), (.slice none 0 0), (.slice none 0 0), (.slice none 0 0), (.string ⟨#[]⟩), (.string ⟨#[]⟩), (.slice none 0 0), (.slice none 0 0), (.slice none 0 0), (.slice none 0 0), (.pointer none), (.slice none 0 0), (.map none), (.map none)])⟩
theorem ty253_ok : TyOk Tryz.prog 253 ty253_ := Zk
def ty254_ : Ty := ⟨(.struct #[fld 96 0, fld 101 7, fld 134 18, fld 76 19, fld 139 20, fld 180 21]), 22, 440, (.agg #[(.string ⟨#[]⟩), (.slice none 0 0), (.slice none 0 0), (.slice none 0 0), (.slice none 0 0), (.slice none 0 0), (.slice none 0 0), (.string ⟨#[]⟩), (.string ⟨#[]⟩), (.slice none 0 0), (.slice none 0 0), (.slice none 0 0), (.string ⟨#[]⟩), (.string ⟨#[]⟩), (.slice none 0 0), (.slice none 0 0), (.slice none 0 0), (.slice none 0 0), (.pointer none), (.slice none 0 0), (.map none), (.map none)])⟩
theorem ty254_ok : TyOk Tryz.prog 254 ty254_ := Zk
def ty255_ : Ty := ⟨(.func #[] #[] false), 1, 8, .nilFunc⟩
theorem ty255_ok : TyOk Tryz.prog 255 ty255_ := Zk
def ty257_ : Ty := ⟨(.func #[] #[] false), 1, 8, .nilFunc⟩
theorem ty257_ok : TyOk Tryz.prog 257 ty257_ := Zk
def ty258_ : Ty := ⟨(.func #[] #[] false), 1, 8, .nilFunc⟩
theorem ty258_ok : TyOk Tryz.prog 258 ty258_ := Zk
def ty259_ : Ty := ⟨(.struct #[fld 168 0]), 1, 8, (.agg #[(.map none)])⟩
theorem ty259_ok : TyOk Tryz.prog 259 ty259_ := Zk
def ty260_ : Ty := ⟨(.struct #[fld 168 0]), 1, 8, (.agg #[(.map none)])⟩
theorem ty260_ok : TyOk Tryz.prog 260 ty260_ := Zk
def ty262_ : Ty := ⟨(.func #[] #[] false), 1, 8, .nilFunc⟩
theorem ty262_ok : TyOk Tryz.prog 262 ty262_ := Zk
def ty263_ : Ty := ⟨(.func #[] #[] false), 1, 8, .nilFunc⟩
theorem ty263_ok : TyOk Tryz.prog 263 ty263_ := Zk
def ty264_ : Ty := ⟨(.func #[] #[] false), 1, 8, .nilFunc⟩
theorem ty264_ok : TyOk Tryz.prog 264 ty264_ := Zk
def ty265_ : Ty := ⟨(.func #[] #[] false), 1, 8, .nilFunc⟩
theorem ty265_ok : TyOk Tryz.prog 265 ty265_ := Zk
def ty266_ : Ty := ⟨(.func #[] #[] false), 1, 8, .nilFunc⟩
theorem ty266_ok : TyOk Tryz.prog 266 ty266_ := Zk
def ty267_ : Ty := ⟨(.func #[] #[] false), 1, 8, .nilFunc⟩
theorem ty267_ok : TyOk Tryz.prog 267 ty267_ := Zk
def ty268_ : Ty := ⟨(.func #[] #[] false), 1, 8, .nilFunc⟩
theorem ty268_ok : TyOk Tryz.prog 268 ty268_ := Zk
def ty269_ : Ty := ⟨(.func #[] #[] false), 1, 8, .nilFunc⟩
theorem ty269_ok : TyOk Tryz.prog 269 ty269_ := Zk
def ty270_ : Ty := ⟨(.func #[] #[] false), 1, 8, .nilFunc⟩
theorem ty270_ok : TyOk Tryz.prog 270 ty270_ := Zk
def ty271_ : Ty := ⟨(.func #[] #[] false), 1, 8, .nilFunc⟩
theorem ty271_ok : TyOk Tryz.prog 271 ty271_ := Zk
def ty272_ : Ty := ⟨(.func #[] #[] false), 1, 8, .nilFunc⟩
theorem ty272_ok : TyOk Tryz.prog 272 ty272_ := Zk
def ty273_ : Ty := ⟨(.func #[] #[] false), 1, 8, .nilFunc⟩
theorem ty273_ok : TyOk Tryz.prog 273 ty273_ := Zk
def ty274_ : Ty := ⟨(.func #[] #[] false), 1, 8, .nilFunc⟩
theorem ty274_ok : TyOk Tryz.prog 274 ty274_ := Zk
def ty275_ : Ty := ⟨(.func #[] #[] false), 1, 8, .nilFunc⟩
theorem ty275_ok : TyOk Tryz.prog 275 ty275_ := Zk
def ty276_ : Ty := ⟨(.func #[] #[] false), 1, 8, .nilFunc⟩
theorem ty276_ok : TyOk Tryz.prog 276 ty276_ := Zk
def ty277_ : Ty := ⟨(.func #[] #[] false), 1, 8, .nilFunc⟩
theorem ty277_ok : TyOk Tryz.prog 277 ty277_ := Zk
def ty278_ : Ty := ⟨(.func #[] #[] false), 1, 8, .nilFunc⟩
theorem ty278_ok : TyOk Tryz.prog 278 ty278_ := Zk
def ty279_ : Ty := ⟨(.func #[] #[] false), 1, 8, .nilFunc⟩
theorem ty279_ok : TyOk Tryz.prog 279 ty279_ := Zk
def ty280_ : Ty := ⟨(.func #[] #[] false), 1, 8, .nilFunc⟩
theorem ty280_ok : TyOk Tryz.prog 280 ty280_ := Zk
def ty281_ : Ty := ⟨(.func #[] #[] false), 1, 8, .nilFunc⟩
theorem ty281_ok : TyOk Tryz.prog 281 ty281_ := Zk
def ty282_ : Ty := ⟨(.func #[] #[] false), 1, 8, .nilFunc⟩
theorem ty282_ok : TyOk Tryz.prog 282 ty282_ := Zk
def ty283_ : Ty := ⟨(.func #[] #[] false), 1, 8, .nilFunc⟩
theorem ty283_ok : TyOk Tryz.prog 283 ty283_ := Zk
def ty284_ : Ty := ⟨(.func #[] #[] false), 1, 8, .nilFunc⟩
theorem ty284_ok : TyOk Tryz.prog 284 ty284_ := Zk
def ty285_ : Ty := ⟨(.func #[] #[] false), 1, 8, .nilFunc⟩
theorem ty285_ok : TyOk Tryz.prog 285 ty285_ := Zk
def ty286_ : Ty := ⟨(.func #[] #[] false), 1, 8, .nilFunc⟩
theorem ty286_ok : TyOk Tryz.prog 286 ty286_ := Zk
def ty288_ : Ty := ⟨(.func #[] #[] false), 1, 8, .nilFunc⟩
theorem ty288_ok : TyOk Tryz.prog 288 ty288_ := Zk
def ty289_ : Ty := ⟨(.func #[] #[] false), 1, 8, .nilFunc⟩
theorem ty289_ok : TyOk Tryz.prog 289 ty289_ := Zk
def ty290_ : Ty := ⟨(.func #[] #[] false), 1, 8, .nilFunc⟩
theorem ty290_ok : TyOk Tryz.prog 290 ty290_ := Zk
def ty291_ : Ty := ⟨(.func #[] #[] false), 1, 8, .nilFunc⟩
theorem ty291_ok : TyOk Tryz.prog 291 ty291_ := Zk
def ty292_ : Ty := ⟨(.func #[] #[] false), 1, 8, .nilFunc⟩
theorem ty292_ok : TyOk Tryz.prog 292 ty292_ := Zk
def ty293_ : Ty := ⟨(.func #[] #[] false), 1, 8, .nilFunc⟩
theorem ty293_ok : TyOk Tryz.prog 293 ty293_ := Zk
def ty294_ : Ty := ⟨(.func #[] #[] false), 1, 8, .nilFunc⟩
theorem ty294_ok : TyOk Tryz.prog 294 ty294_ := Zk
def ty295_ : Ty := ⟨(.func #[] #[] false), 1, 8, .nilFunc⟩
theorem ty295_ok : TyOk Tryz.prog 295 ty295_ := Zk
def ty296_ : Ty := ⟨(.func #[] #[] false), 1, 8, .nilFunc⟩
theorem ty296_ok : TyOk Tryz.prog 296 ty296_ := Zk
def ty297_ : Ty := ⟨(.func #[] #[] false), 1, 8, .nilFunc⟩
theorem ty297_ok : TyOk Tryz.prog 297 ty297_ := Zk
def ty298_ : Ty := ⟨(.func #[] #[] false), 1, 8, .nilFunc⟩
theorem ty298_ok : TyOk Tryz.prog 298 ty298_ := Zk
def ty299_ : Ty := ⟨(.func #[] #[] false), 1, 8, .nilFunc⟩
theorem ty299_ok : TyOk Tryz.prog 299 ty299_ := Zk
def ty300_ : Ty := ⟨(.func #[] #[] false), 1, 8, .nilFunc⟩
theorem ty300_ok : TyOk Tryz.prog 300 ty300_ := Zk
def ty301_ : Ty := ⟨(.func #[] #[] false), 1, 8, .nilFunc⟩
theorem ty301_ok : TyOk Tryz.prog 301 ty301_ := Zk
def ty302_ : Ty := ⟨(.pointer 3), 1, 8, (.pointer none)⟩
theorem ty302_ok : TyOk Tryz.prog 302 ty302_ := Zk
def ty303_ : Ty := ⟨(.func #[] #[] false), 1, 8, .nilFunc⟩
theorem ty303_ok : TyOk Tryz.prog 303 ty303_ := Zk
def ty304_ : Ty := ⟨(.func #[] #[] false), 1, 8, .nilFunc⟩
theorem ty304_ok : TyOk Tryz.prog 304 ty304_ := Zk
def ty305_ : Ty := ⟨(.func #[] #[] false), 1, 8, .nilFunc⟩
theorem ty305_ok : TyOk Tryz.prog 305 ty305_ := Zk
def ty306_ : Ty := ⟨(.func #[] #[] false), 1, 8, .nilFunc⟩
theorem ty306_ok : TyOk Tryz.prog 306 ty306_ := Zk
def ty307_ : Ty := ⟨(.func #[] #[] false), 1, 8, .nilFunc⟩
theorem ty307_ok : TyOk Tryz.prog 307 ty307_ := Zk
def ty308_ : Ty := ⟨(.slice 311), 1, 24, (.slice none 0 0)⟩
theorem ty308_ok : TyOk Tryz.prog 308 ty308_ := Zk
def ty309_ : Ty := ⟨(.array 3 308), 3, 72, (.agg #[(.slice none 0 0), (.slice none 0 0), (.slice none 0 0)])⟩
theorem ty309_ok : TyOk Tryz.prog 309 ty309_ := Zk
def ty310_ : Ty := ⟨(.struct #[fld 9 0, fld 9 1]), 2, 32, (.agg #[(.string ⟨#[]⟩), (.string ⟨#[]⟩)])⟩
theorem ty310_ok : TyOk Tryz.prog 310 ty310_ := Zk
def ty311_ : Ty := ⟨(.struct #[fld 9 0, fld 9 1]), 2, 32, (.agg #[(.string ⟨#[]⟩), (.string ⟨#[]⟩)])⟩
theorem ty311_ok : TyOk Tryz.prog 311 ty311_ := Zk
def ty312_ : Ty := ⟨(.func #[] #[] false), 1, 8, .nilFunc⟩
theorem ty312_ok : TyOk Tryz.prog 312 ty312_ := Zk
def ty313_ : Ty := ⟨(.func #[] #[] false), 1, 8, .nilFunc⟩
theorem ty313_ok : TyOk Tryz.prog 313 ty313_ := Zk
def ty314_ : Ty := ⟨(.func #[] #[] false), 1, 8, .nilFunc⟩
theorem ty314_ok : TyOk Tryz.prog 314 ty314_ := Zk
def ty315_ : Ty := ⟨(.slice 89), 1, 24, (.slice none 0 0)⟩
theorem ty315_ok : TyOk Tryz.prog 315 ty315_ := Zk
def ty316_ : Ty := ⟨(.func #[] #[] false), 1, 8, .nilFunc⟩
theorem ty316_ok : TyOk Tryz.prog 316 ty316_ := Zk
def ty317_ : Ty := ⟨(.func #[] #[] false), 1, 8, .nilFunc⟩
theorem ty317_ok : TyOk Tryz.prog 317 ty317_ := Zk
def ty318_ : Ty := ⟨(.func #[] #[] false), 1, 8, .nilFunc⟩
theorem ty318_ok : TyOk Tryz.prog 318 ty318_ := Zk
def ty320_ : Ty := ⟨(.func #[] #[] false), 1, 8, .nilFunc⟩
theorem ty320_ok : TyOk Tryz.prog 320 ty320_ := Zk
def ty321_ : Ty := ⟨(.func #[] #[] false), 1, 8, .nilFunc⟩
theorem ty321_ok : TyOk Tryz.prog 321 ty321_ := Zk
def ty322_ : Ty := ⟨(.func #[] #[] false), 1, 8, .nilFunc⟩
theorem ty322_ok : TyOk Tryz.prog 322 ty322_ := Zk
def ty323_ : Ty := ⟨(.func #[] #[] false), 1, 8, .nilFunc⟩
theorem ty323_ok : TyOk Tryz.prog 323 ty323_ := Zk
def ty324_ : Ty := ⟨(.func #[] #[] false), 1, 8, .nilFunc⟩
theorem ty324_ok : TyOk Tryz.prog 324 ty324_ := Zk
def ty325_ : Ty := ⟨(.func #[] #[] false), 1, 8, .nilFunc⟩
theorem ty325_ok : TyOk Tryz.prog 325 ty325_ := Zk
def ty326_ : Ty := ⟨(.func #[] #[] false), 1, 8, .nilFunc⟩
theorem ty326_ok : TyOk Tryz.prog 326 ty326_ := Zk
def ty327_ : Ty := ⟨(.func #[] #[] false), 1, 8, .nilFunc⟩
theorem ty327_ok : TyOk Tryz.prog 327 ty327_ := Zk
def ty328_ : Ty := ⟨(.func #[] #[] false), 1, 8, .nilFunc⟩
theorem ty328_ok : TyOk Tryz.prog 328 ty328_ := Zk
def ty329_ : Ty := ⟨(.func #[] #[] false), 1, 8, .nilFunc⟩
theorem ty329_ok : TyOk Tryz.prog 329 ty329_ := Zk
def ty330_ : Ty := ⟨(.func #[] #[] false), 1, 8, .nilFunc⟩
theorem ty330_ok : TyOk Tryz.prog 330 ty330_ := Zk
def ty331_ : Ty := ⟨(.pointer 333), 1, 8, (.pointer none)⟩
theorem ty331_ok : TyOk Tryz.prog 331 ty331_ := Zk
def ty332_ : Ty := ⟨(.struct #[fld 3 0]), 1, 8, (.agg #[(.int .i64 0)])⟩
theorem ty332_ok : TyOk Tryz.prog 332 ty332_ := Zk
def ty333_ : Ty := ⟨(.struct #[fld 3 0]), 1, 8, (.agg #[(.int .i64 0)])⟩
theorem ty333_ok : TyOk Tryz.prog 333 ty333_ := Zk
def ty334_ : Ty := ⟨(.func #[] #[] false), 1, 8, .nilFunc⟩
theorem ty334_ok : TyOk Tryz.prog 334 ty334_ := Zk
def ty335_ : Ty := ⟨(.func #[] #[] false), 1, 8, .nilFunc⟩
theorem ty335_ok : TyOk Tryz.prog 335 ty335_ := Zk
def ty336_ : Ty := ⟨(.func #[] #[] false), 1, 8, .nilFunc⟩
theorem ty336_ok : TyOk Tryz.prog 336 ty336_ := Zk
def ty337_ : Ty := ⟨(.pointer 340), 1, 8, (.pointer none)⟩
theorem ty337_ok : TyOk Tryz.prog 337 ty337_ := Zk
def ty338_ : Ty := ⟨(.slice 5), 1, 24, (.slice none 0 0)⟩
theorem ty338_ok : TyOk Tryz.prog 338 ty338_ := Zk
def ty339_ : Ty := ⟨(.struct #[fld 337 0, fld 338 1]), 2, 32, (.agg #[(.pointer none), (.slice none 0 0)])⟩
theorem ty339_ok : TyOk Tryz.prog 339 ty339_ := Zk
def ty340_ : Ty := ⟨(.struct #[fld 337 0, fld 338 1]), 2, 32, (.agg #[(.pointer none), (.slice none 0 0)])⟩
theorem ty340_ok : TyOk Tryz.prog 340 ty340_ := Zk
def ty341_ : Ty := ⟨(.func #[] #[] false), 1, 8, .nilFunc⟩
theorem ty341_ok : TyOk Tryz.prog 341 ty341_ := Zk
def ty342_ : Ty := ⟨(.func #[] #[] false), 1, 8, .nilFunc⟩
theorem ty342_ok : TyOk Tryz.prog 342 ty342_ := Zk
def ty343_ : Ty := ⟨(.func #[] #[] false), 1, 8, .nilFunc⟩
theorem ty343_ok : TyOk Tryz.prog 343 ty343_ := Zk
def ty344_ : Ty := ⟨(.func #[] #[] false), 1, 8, .nilFunc⟩
theorem ty344_ok : TyOk Tryz.prog 344 ty344_ := Zk
def ty345_ : Ty := ⟨(.func #[] #[] false), 1, 8, .nilFunc⟩
theorem ty345_ok : TyOk Tryz.prog 345 ty345_ := Zk
def ty346_ : Ty := ⟨(.func #[] #[] false), 1, 8, .nilFunc⟩
theorem ty346_ok : TyOk Tryz.prog 346 ty346_ := Zk
def ty347_ : Ty := ⟨(.func #[] #[] false), 1, 8, .nilFunc⟩
theorem ty347_ok : TyOk Tryz.prog 347 ty347_ := Zk
def ty348_ : Ty := ⟨(.func #[] #[] false), 1, 8, .nilFunc⟩
theorem ty348_ok : TyOk Tryz.prog 348 ty348_ := Zk
def ty349_ : Ty := ⟨(.func #[] #[] false), 1, 8, .nilFunc⟩
theorem ty349_ok : TyOk Tryz.prog 349 ty349_ := Zk
def ty350_ : Ty := ⟨(.func #[] #[] false), 1, 8, .nilFunc⟩
theorem ty350_ok : TyOk Tryz.prog 350 ty350_ := Zk
def ty351_ : Ty := ⟨(.func #[] #[] false), 1, 8, .nilFunc⟩
theorem ty351_ok : TyOk Tryz.prog 351 ty351_ := Zk
def ty352_ : Ty := ⟨(.func #[] #[] false), 1, 8, .nilFunc⟩
theorem ty352_ok : TyOk Tryz.prog 352 ty352_ := Zk
def ty353_ : Ty := ⟨(.func #[] #[] false), 1, 8, .nilFunc⟩
theorem ty353_ok : TyOk Tryz.prog 353 ty353_ := Zk
def ty354_ : Ty := ⟨(.func #[] #[] false), 1, 8, .nilFunc⟩
theorem ty354_ok : TyOk Tryz.prog 354 ty354_ := Zk
def ty355_ : Ty := ⟨(.func #[] #[] false), 1, 8, .nilFunc⟩
theorem ty355_ok : TyOk Tryz.prog 355 ty355_ := Zk
def ty356_ : Ty := ⟨(.func #[] #[] false), 1, 8, .nilFunc⟩
theorem ty356_ok : TyOk Tryz.prog 356 ty356_ := Zk
def ty357_ : Ty := ⟨(.func #[] #[] false), 1, 8, .nilFunc⟩
theorem ty357_ok : TyOk Tryz.prog 357 ty357_ := Zk
def ty358_ : Ty := ⟨(.func #[] #[] false), 1, 8, .nilFunc⟩
theorem ty358_ok : TyOk Tryz.prog 358 ty358_ := Zk
def ty359_ : Ty := ⟨(.func #[] #[] false), 1, 8, .nilFunc⟩
theorem ty359_ok : TyOk Tryz.prog 359 ty359_ := Zk
def ty360_ : Ty := ⟨(.func #[] #[] false), 1, 8, .nilFunc⟩
theorem ty360_ok : TyOk Tryz.prog 360 ty360_ := Zk
def ty361_ : Ty := ⟨(.func #[] #[] false), 1, 8, .nilFunc⟩
theorem ty361_ok : TyOk Tryz.prog 361 ty361_ := Zk
def ty362_ : Ty := ⟨(.func #[] #[] false), 1, 8, .nilFunc⟩
theorem ty362_ok : TyOk Tryz.prog 362 ty362_ := Zk
def ty363_ : Ty := ⟨(.func #[] #[] false), 1, 8, .nilFunc⟩
theorem ty363_ok : TyOk Tryz.prog 363 ty363_ := Zk
def ty364_ : Ty := ⟨(.func #[] #[] false), 1, 8, .nilFunc⟩
theorem ty364_ok : TyOk Tryz.prog 364 ty364_ := Zk
def ty365_ : Ty := ⟨(.func #[] #[] false), 1, 8, .nilFunc⟩
theorem ty365_ok : TyOk Tryz.prog 365 ty365_ := Zk
def ty366_ : Ty := ⟨(.func #[] #[] false), 1, 8, .nilFunc⟩
theorem ty366_ok : TyOk Tryz.prog 366 ty366_ := Zk
def ty367_ : Ty := ⟨(.func #[] #[] false), 1, 8, .nilFunc⟩
theorem ty367_ok : TyOk Tryz.prog 367 ty367_ := Zk
def ty368_ : Ty := ⟨(.func #[] #[] false), 1, 8, .nilFunc⟩
theorem ty368_ok : TyOk Tryz.prog 368 ty368_ := Zk
def ty369_ : Ty := ⟨(.func #[] #[] false), 1, 8, .nilFunc⟩
theorem ty369_ok : TyOk Tryz.prog 369 ty369_ := Zk
def ty370_ : Ty := ⟨(.func #[] #[] false), 1, 8, .nilFunc⟩
theorem ty370_ok : TyOk Tryz.prog 370 ty370_ := Zk
def ty371_ : Ty := ⟨(.func #[] #[] false), 1, 8, .nilFunc⟩
theorem ty371_ok : TyOk Tryz.prog 371 ty371_ := Zk
def ty372_ : Ty := ⟨(.func #[] #[] false), 1, 8, .nilFunc⟩
theorem ty372_ok : TyOk Tryz.prog 372 ty372_ := Zk
def ty373_ : Ty := ⟨(.func #[] #[] false), 1, 8, .nilFunc⟩
theorem ty373_ok : TyOk Tryz.prog 373 ty373_ := Zk
def ty374_ : Ty := ⟨(.func #[] #[] false), 1, 8, .nilFunc⟩
theorem ty374_ok : TyOk Tryz.prog 374 ty374_ := Zk
def ty375_ : Ty := ⟨(.func #[] #[] false), 1, 8, .nilFunc⟩
theorem ty375_ok : TyOk Tryz.prog 375 ty375_ := Zk
def ty377_ : Ty := ⟨(.func #[] #[] false), 1, 8, .nilFunc⟩
theorem ty377_ok : TyOk Tryz.prog 377 ty377_ := Zk
def ty379_ : Ty := ⟨(.func #[] #[] false), 1, 8, .nilFunc⟩
theorem ty379_ok : TyOk Tryz.prog 379 ty379_ := Zk
def ty380_ : Ty := ⟨(.func #[] #[] false), 1, 8, .nilFunc⟩
theorem ty380_ok : TyOk Tryz.prog 380 ty380_ := Zk
def ty381_ : Ty := ⟨(.func #[] #[] false), 1, 8, .nilFunc⟩
theorem ty381_ok : TyOk Tryz.prog 381 ty381_ := Zk
def ty382_ : Ty := ⟨(.func #[] #[] false), 1, 8, .nilFunc⟩
theorem ty382_ok : TyOk Tryz.prog 382 ty382_ := Zk
def ty383_ : Ty := ⟨(.func #[] #[] false), 1, 8, .nilFunc⟩
theorem ty383_ok : TyOk Tryz.prog 383 ty383_ := Zk
def ty384_ : Ty := ⟨(.func #[] #[] false), 1, 8, .nilFunc⟩
theorem ty384_ok : TyOk Tryz.prog 384 ty384_ := Zk
def ty385_ : Ty := ⟨(.func #[] #[] false), 1, 8, .nilFunc⟩
theorem ty385_ok : TyOk Tryz.prog 385 ty385_ := Zk
def ty386_ : Ty := ⟨(.int .i64), 1, 8, (.int .i64 0)⟩
theorem ty386_ok : TyOk Tryz.prog 386 ty386_ := Zk
def ty388_ : Ty := ⟨(.func #[] #[] false), 1, 8, .nilFunc⟩
theorem ty388_ok : TyOk Tryz.prog 388 ty388_ := Zk
def ty389_ : Ty := ⟨(.func #[] #[] false), 1, 8, .nilFunc⟩
theorem ty389_ok : TyOk Tryz.prog 389 ty389_ := Zk
def ty390_ : Ty := ⟨(.func #[] #[] false), 1, 8, .nilFunc⟩
theorem ty390_ok : TyOk Tryz.prog 390 ty390_ := Zk
def ty391_ : Ty := ⟨(.func #[] #[] false), 1, 8, .nilFunc⟩
theorem ty391_ok : TyOk Tryz.prog 391 ty391_ := Zk
def ty392_ : Ty := ⟨(.func #[] #[] false), 1, 8, .nilFunc⟩
theorem ty392_ok : TyOk Tryz.prog 392 ty392_ := Zk
def ty393_ : Ty := ⟨(.int .u32), 1, 4, (.int .u32 0)⟩
theorem ty393_ok : TyOk Tryz.prog 393 ty393_ := Zk
def ty394_ : Ty := ⟨(.func #[] #[] false), 1, 8, .nilFunc⟩
theorem ty394_ok : TyOk Tryz.prog 394 ty394_ := Zk
def ty395_ : Ty := ⟨(.int .u64), 1, 8, (.int .u64 0)⟩
theorem ty395_ok : TyOk Tryz.prog 395 ty395_ := Zk
def ty396_ : Ty := ⟨(.func #[] #[] false), 1, 8, .nilFunc⟩
theorem ty396_ok : TyOk Tryz.prog 396 ty396_ := Zk
def ty397_ : Ty := ⟨(.pointer 5), 1, 8, (.pointer none)⟩
theorem ty397_ok : TyOk Tryz.prog 397 ty397_ := Zk
def ty398_ : Ty := ⟨(.func #[] #[] false), 1, 8, .nilFunc⟩
theorem ty398_ok : TyOk Tryz.prog 398 ty398_ := Zk
def ty399_ : Ty := ⟨(.func #[] #[] false), 1, 8, .nilFunc⟩
theorem ty399_ok : TyOk Tryz.prog 399 ty399_ := Zk
def ty400_ : Ty := ⟨(.func #[] #[] false), 1, 8, .nilFunc⟩
theorem ty400_ok : TyOk Tryz.prog 400 ty400_ := Zk
def ty401_ : Ty := ⟨(.func #[] #[] false), 1, 8, .nilFunc⟩
theorem ty401_ok : TyOk Tryz.prog 401 ty401_ := Zk
def ty402_ : Ty := ⟨(.func #[] #[] false), 1, 8, .nilFunc⟩
theorem ty402_ok : TyOk Tryz.prog 402 ty402_ := Zk
def ty403_ : Ty := ⟨(.func #[] #[] false), 1, 8, .nilFunc⟩
theorem ty403_ok : TyOk Tryz.prog 403 ty403_ := Zk
def ty404_ : Ty := ⟨(.func #[] #[] false), 1, 8, .nilFunc⟩
theorem ty404_ok : TyOk Tryz.prog 404 ty404_ := Zk
def ty405_ : Ty := ⟨(.func #[] #[] false), 1, 8, .nilFunc⟩
theorem ty405_ok : TyOk Tryz.prog 405 ty405_ := Zk
def ty406_ : Ty := ⟨(.func #[] #[] false), 1, 8, .nilFunc⟩
theorem ty406_ok : TyOk Tryz.prog 406 ty406_ := Zk
def ty407_ : Ty := ⟨(.func #[] #[] false), 1, 8, .nilFunc⟩
theorem ty407_ok : TyOk Tryz.prog 407 ty407_ := Zk
def ty408_ : Ty := ⟨(.func #[] #[] false), 1, 8, .nilFunc⟩
theorem ty408_ok : TyOk Tryz.prog 408 ty408_ := Zk
def ty409_ : Ty := ⟨(.func #[] #[] false), 1, 8, .nilFunc⟩
theorem ty409_ok : TyOk Tryz.prog 409 ty409_ := Zk
def ty410_ : Ty := ⟨(.func #[] #[] false), 1, 8, .nilFunc⟩
theorem ty410_ok : TyOk Tryz.prog 410 ty410_ := Zk
def ty411_ : Ty := ⟨(.int .u64), 1, 8, (.int .u64 0)⟩
theorem ty411_ok : TyOk Tryz.prog 411 ty411_ := Zk
def ty412_ : Ty := ⟨(.func #[] #[] false), 1, 8, .nilFunc⟩
theorem ty412_ok : TyOk Tryz.prog 412 ty412_ := Zk
def ty413_ : Ty := ⟨(.func #[] #[] false), 1, 8, .nilFunc⟩
theorem ty413_ok : TyOk Tryz.prog 413 ty413_ := Zk
def ty414_ : Ty := ⟨(.func #[] #[] false), 1, 8, .nilFunc⟩
theorem ty414_ok : TyOk Tryz.prog 414 ty414_ := Zk
def ty415_ : Ty := ⟨(.func #[] #[] false), 1, 8, .nilFunc⟩
theorem ty415_ok : TyOk Tryz.prog 415 ty415_ := Zk
def ty417_ : Ty := ⟨(.func #[] #[] false), 1, 8, .nilFunc⟩
theorem ty417_ok : TyOk Tryz.prog 417 ty417_ := Zk
def ty418_ : Ty := ⟨(.func #[] #[] false), 1, 8, .nilFunc⟩
theorem ty418_ok : TyOk Tryz.prog 418 ty418_ := Zk
def ty419_ : Ty := ⟨(.func #[] #[] false), 1, 8, .nilFunc⟩
theorem ty419_ok : TyOk Tryz.prog 419 ty419_ := Zk
def ty420_ : Ty := ⟨(.func #[] #[] false), 1, 8, .nilFunc⟩
theorem ty420_ok : TyOk Tryz.prog 420 ty420_ := Zk
def ty421_ : Ty := ⟨(.slice 24), 1, 24, (.slice none 0 0)⟩
theorem ty421_ok : TyOk Tryz.prog 421 ty421_ := Zk
def ty422_ : Ty := ⟨(.func #[] #[] false), 1, 8, .nilFunc⟩
theorem ty422_ok : TyOk Tryz.prog 422 ty422_ := Zk
def ty423_ : Ty := ⟨(.func #[] #[] false), 1, 8, .nilFunc⟩
theorem ty423_ok : TyOk Tryz.prog 423 ty423_ := Zk
def ty424_ : Ty := ⟨(.func #[] #[] false), 1, 8, .nilFunc⟩
theorem ty424_ok : TyOk Tryz.prog 424 ty424_ := Zk
def ty425_ : Ty := ⟨(.pointer 411), 1, 8, (.pointer none)⟩
theorem ty425_ok : TyOk Tryz.prog 425 ty425_ := Zk
def ty427_ : Ty := ⟨(.func #[] #[] false), 1, 8, .nilFunc⟩
theorem ty427_ok : TyOk Tryz.prog 427 ty427_ := Zk
def ty428_ : Ty := ⟨(.func #[] #[] false), 1, 8, .nilFunc⟩
theorem ty428_ok : TyOk Tryz.prog 428 ty428_ := Zk
def ty429_ : Ty := ⟨(.func #[] #[] false), 1, 8, .nilFunc⟩
theorem ty429_ok : TyOk Tryz.prog 429 ty429_ := Zk
def ty430_ : Ty := ⟨(.func #[] #[] false), 1, 8, .nilFunc⟩
theorem ty430_ok : TyOk Tryz.prog 430 ty430_ := Zk
def ty431_ : Ty := ⟨(.func #[] #[] false), 1, 8, .nilFunc⟩
theorem ty431_ok : TyOk Tryz.prog 431 ty431_ := Zk
def ty432_ : Ty := ⟨(.func #[] #[] false), 1, 8, .nilFunc⟩
theorem ty432_ok : TyOk Tryz.prog 432 ty432_ := Zk
def ty433_ : Ty := ⟨(.func #[] #[] false), 1, 8, .nilFunc⟩
theorem ty433_ok : TyOk Tryz.prog 433 ty433_ := Zk
def ty435_ : Ty := ⟨(.func #[] #[] false), 1, 8, .nilFunc⟩
theorem ty435_ok : TyOk Tryz.prog 435 ty435_ := Zk
def ty436_ : Ty := ⟨(.func #[] #[] false), 1, 8, .nilFunc⟩
theorem ty436_ok : TyOk Tryz.prog 436 ty436_ := Zk
def ty437_ : Ty := ⟨(.func #[] #[] false), 1, 8, .nilFunc⟩
theorem ty437_ok : TyOk Tryz.prog 437 ty437_ := Zk
def ty438_ : Ty := ⟨(.func #[] #[] false), 1, 8, .nilFunc⟩
theorem ty438_ok : TyOk Tryz.prog 438 ty438_ := Zk
def ty439_ : Ty := ⟨(.func #[] #[] false), 1, 8, .nilFunc⟩
theorem ty439_ok : TyOk Tryz.prog 439 ty439_ := Zk
def ty440_ : Ty := ⟨(.func #[] #[] false), 1, 8, .nilFunc⟩
theorem ty440_ok : TyOk Tryz.prog 440 ty440_ := Zk
def ty441_ : Ty := ⟨(.func #[] #[] false), 1, 8, .nilFunc⟩
theorem ty441_ok : TyOk Tryz.prog 441 ty441_ := Zk
def ty443_ : Ty := ⟨(.func #[] #[] false), 1, 8, .nilFunc⟩
theorem ty443_ok : TyOk Tryz.prog 443 ty443_ := Zk
def ty444_ : Ty := ⟨(.func #[] #[] false), 1, 8, .nilFunc⟩
theorem ty444_ok : TyOk Tryz.prog 444 ty444_ := Zk
def ty445_ : Ty := ⟨(.array 256 5), 256, 256, (.agg #[(.int .u8 0), (.int .u8 0), (.int .u8 0), (.int .u8 0), (.int .u8 0), (.int .u8 0), (.int .u8 0), (.int .u8 0), (.int .u8 0), (.int .u8 0), (.int .u8 0), (.int .u8 0), (.int .u8 0), (.int .u8 0), (.int .u8 0), (.int .u8 0), (.int .u8 0), (.int .u8 0), (.int .u8 0), (.int .u8 0), (.int .u8 0), (.int .u8 0), (.int .u8 0), (.int .u8 0), (.int .u8 0), (.int .u8 0), (.int .u8 0), (.int .u8 0), (.int .u8 0), (.int .u8 0), (.int .u8 0), (.int .u8 0), (.int .u8 0), (.int .u8 0), (.int .u8 0), (.int .u8 0), (.int .u8 0), (.int .u8 0), (.int .u8 0), (.int .u8 0), (.int .u8 0), (.int .u8 0), (.int .u8 0), (.int .u8 0), (.int .u8 0), (.int .u8 0), (.int .u8 0), (.int .u8 0), (.int .u8 0), (.int .u8 0), (.int .u8 0), (.int .u8 0), (.int .u8 0), (.int .u8 0), (.int .u8 0), (.int .u8 0), (.int .u8 0), (.int .u8 0), (.int .u8 0), (.int .u8 0), (.int .u8 0), (.int .u8 0), (.int .u8 0), (.int .u8 0), (.int .u8 0), (.int .u8 0), (.int .u8 0), (.int .u8 0), (.int .u8 0), (.int .u8 0), (.int .u8 0), (.int .u8 0), (.int .u8 0), (.int .u8 0), (.int .u8 0), (.int .u8 0), (.int .u8 0), (.int .u8 0), (.int .u8 0), (.int .u8 0), (.int .u8 0), (.int .u8 0), (.int .u8 0), (.int .u8 0), (.int .u8 0), (.int .u8 0), (.int .u8 0), (.int .u8 0), (.int .u8 0), (.int .u8 0), (.int .u8 0), (.int .u8 0), (.int .u8 0), (.int .u8 0), (.int .u8 0), (.int .u8 0), (.int .u8 0), (.int .u8 0), (.int .u8 0), (.int .u8 0), (.int .u8 0), (.int .u8 0), (.int .u8 0), (.int .u8 0), (.int .u8 0), (.int .u8 0), (.int .u8 0), (.int .u8 0), (.int .u8 0), (.int .u8 0), (.int .u8 0), (.int .u8 0), (.int .u8 0), (.int .u8 0), (.int .u8 0), (.int .u8 0), (.int .u8 0), (.int .u8 0), (.int .u8 0), (.int .u8 0), (.int .u8 0), (.int .u8 0), (.int .u8 0), (.int .u8 0), (.int .u8 0), (.int .u8 0), (.int .u8 0), (.int .u8 0), (.int .u8 0), (.int .u8 0), (.int .u8 0), (.int .u8 0), (.int .u8 0), (.int .u8 0), (.int .u8 0), (.int .u8 0), (.int .u8 0), (.int .u8 0), (.int .u8 0), (.int .u8 0), (.int .u8 0), (.int .u8 0), (.int .u8 0), (.int .u8 0), (.int .u8 0), (.int .u8 0), (.int .u8 0), (.int .u8 0), (.int .u8 0), (.int .u8 0), (.int .u8 0), (.int .u8 0), (.int .u8 0), (.int .u8 0), (.int .u8 0), (.int .u8 0), (.int .u8 0), (.int .u8 0), (.int .u8 0), (.int .u8 0), (.int .u8 0), (.int .u8 0), (.int .u8 0), (.int .u8 0), (.int .u8 0), (.int .u8 0), (.int .u8 0), (.int .u8 0), (.int .u8 0), (.int .u8 0), (.int .u8 0), (.int .u8 0), (.int .u8 0), (.int .u8 0), (.int .u8 0), (.int .u8 0), (.int .u8 0), (.int .u8 0), (.int .u8 0), (.int .u8 0), (.int .u8 0), (.int .u8 0), (.int .u8 0), (.int .u8 0), (.int .u8 0), (.int .u8 0), (.int .u8 0), (.int .u8 0), (.int .u8 0), (.int .u8 0), (.int .u8 0), (.int .u8 0), (.int .u8 0), (.int .u8 0), (.int .u8 0), (.int .u8 0), (.int .u8 0), (.int .u8 0), (.int .u8 0), (.int .u8 0), (.int .u8 0), (.int .u8 0), (.int .u8 0), (.int .u8 0), (.int .u8 0), (.int .u8 0), (.int .u8 0), (.int .u8 0), (.int .u8 0), (.int .u8 0), (.int .u8 0), (.int .u8 0), (.int .u8 0), (.int .u8 0), (.int .u8 0), (.int .u8 0), (.int .u8 0), (.int .u8 0), (.int .u8 0), (.int .u8 0), (.int .u8 0), (.int .u8 0), (.int .u8 0), (.int .u8 0), (.int .u8 0), (.int .u8 0), (.int .u8 0), (.int .u8 0), (.int .u8 0), (.int .u8 0), (.int .u8 0), (.int .u8 0), (.int .u8 0), (.int .u8 0), (.int .u8 0), (.int .u8 0), (.int .u8 0), (.int .u8 0), (.int .u8 0), (.int .u8 0), (.int .u8 0), (.int .u8 0), (.int .u8 0), (.int .u8 0), (.int .u8 0), (.int .u8 0), (.int .u8 0), (.int .u8 0), (.int .u8 0), (.int .u8 0), (.int .u8 0), (.int .u8 0), (.int .u8 0), (.int .u8 0), (.int .u8 0), (.int .u8 0)])⟩
theorem ty445_ok : TyOk Tryz.prog 445 ty445_ := Zk
def ty446_ : Ty := ⟨(.struct #[fld 5 0, fld 5 1]), 2, 2, (.agg #[(.int .u8 0), (.int .u8 0)])⟩
theorem ty446_ok : TyOk Tryz.prog 446 ty446_ := Zk
def ty447_ : Ty := ⟨(.struct #[fld 5 0, fld 5 1]), 2, 2, (.agg #[(.int .u8 0), (.int .u8 0)])⟩
theorem ty447_ok : TyOk Tryz.prog 447 ty447_ := Zk
def ty448_ : Ty := ⟨(.array 16 447), 32, 32, (.agg #[(.int .u8 0), (.int .u8 0), (.int .u8 0), (.int .u8 0), (.int .u8 0), (.int .u8 0), (.int .u8 0), (.int .u8 0), (.int .u8 0), (.int .u8 0), (.int .u8 0), (.int .u8 0), (.int .u8 0), (.int .u8 0), (.int .u8 0), (.int .u8 0), (.int .u8 0), (.int .u8 0), (.int .u8 0), (.int .u8 0), (.int .u8 0), (.int .u8 0), (.int .u8 0), (.int .u8 0), (.int .u8 0), (.int .u8 0), (.int .u8 0), (.int .u8 0), (.int .u8 0), (.int .u8 0), (.int .u8 0), (.int .u8 0)])⟩
theorem ty448_ok : TyOk Tryz.prog 448 ty448_ := Zk
def ty449_ : Ty := ⟨(.int .u16), 1, 2, (.int .u16 0)⟩
theorem ty449_ok : TyOk Tryz.prog 449 ty449_ := Zk
def ty450_ : Ty := ⟨(.slice 449), 1, 24, (.slice none 0 0)⟩
theorem ty450_ok : TyOk Tryz.prog 450 ty450_ := Zk
def ty451_ : Ty := ⟨(.func #[] #[] false), 1, 8, .nilFunc⟩
theorem ty451_ok : TyOk Tryz.prog 451 ty451_ := Zk
def ty452_ : Ty := ⟨(.slice 393), 1, 24, (.slice none 0 0)⟩
theorem ty452_ok : TyOk Tryz.prog 452 ty452_ := Zk
def ty453_ : Ty := ⟨(.func #[] #[] false), 1, 8, .nilFunc⟩
theorem ty453_ok : TyOk Tryz.prog 453 ty453_ := Zk
def ty454_ : Ty := ⟨(.struct #[fld 17 0, fld 17 1, fld 17 2, fld 9 3]), 4, 40, (.agg #[(.pointer none), (.pointer none), (.pointer none), (.string ⟨#[]⟩)])⟩
theorem ty454_ok : TyOk Tryz.prog 454 ty454_ := Zk
def ty455_ : Ty := ⟨(.struct #[fld 17 0, fld 17 1, fld 17 2, fld 9 3]), 4, 40, (.agg #[(.pointer none), (.pointer none), (.pointer none), (.string ⟨#[]⟩)])⟩
theorem ty455_ok : TyOk Tryz.prog 455 ty455_ := Zk
def ty456_ : Ty := ⟨(.array 0 16), 0, 0, (.agg #[])⟩
theorem ty456_ok : TyOk Tryz.prog 456 ty456_ := Zk
def ty457_ : Ty := ⟨(.struct #[fld 456 0]), 0, 0, (.agg #[])⟩
theorem ty457_ok : TyOk Tryz.prog 457 ty457_ := Zk
def ty458_ : Ty := ⟨(.struct #[fld 456 0]), 0, 0, (.agg #[])⟩
theorem ty458_ok : TyOk Tryz.prog 458 ty458_ := Zk
def ty459_ : Ty := ⟨(.func #[] #[] false), 1, 8, .nilFunc⟩
theorem ty459_ok : TyOk Tryz.prog 459 ty459_ := Zk
def ty460_ : Ty := ⟨(.int .u8), 1, 1, (.int .u8 0)⟩
theorem ty460_ok : TyOk Tryz.prog 460 ty460_ := Zk
def ty461_ : Ty := ⟨(.int .u8), 1, 1, (.int .u8 0)⟩
theorem ty461_ok : TyOk Tryz.prog 461 ty461_ := Zk
def ty462_ : Ty := ⟨(.func #[] #[] false), 1, 8, .nilFunc⟩
theorem ty462_ok : TyOk Tryz.prog 462 ty462_ := Zk
def ty463_ : Ty := ⟨(.int .i32), 1, 4, (.int .i32 0)⟩
theorem ty463_ok : TyOk Tryz.prog 463 ty463_ := Zk
def ty464_ : Ty := ⟨(.int .i32), 1, 4, (.int .i32 0)⟩
theorem ty464_ok : TyOk Tryz.prog 464 ty464_ := Zk
def ty465_ : Ty := ⟨(.struct #[fld 12 0, fld 12 1, fld 393 2, fld 460 3, fld 5 4, fld 5 5, fld 461 6, fld 462 7, fld 397 8, fld 463 9, fld 464 10]), 11, 48, (.agg #[(.int .u64 0), (.int .u64 0), (.int .u32 0), (.int .u8 0), (.int .u8 0), (.int .u8 0), (.int .u8 0), .nilFunc, (.pointer none), (.int .i32 0), (.int .i32 0)])⟩
theorem ty465_ok : TyOk Tryz.prog 465 ty465_ := Zk
def ty466_ : Ty := ⟨(.struct #[fld 12 0, fld 12 1, fld 393 2, fld 460 3, fld 5 4, fld 5 5, fld 461 6, fld 462 7, fld 397 8, fld 463 9, fld 464 10]), 11, 48, (.agg #[(.int .u64 0), (.int .u64 0), (.int .u32 0), (.int .u8 0), (.int .u8 0), (.int .u8 0), (.int .u8 0), .nilFunc, (.pointer none), (.int .i32 0), (.int .i32 0)])⟩
theorem ty466_ok : TyOk Tryz.prog 466 ty466_ := Zk
def tabL : List (Nat × Ty) := [(1, ty1_), (2, ty2_), (3, ty3_), (4, ty4_), (5, ty5_), (6, ty6_), (7, ty7_), (8, ty8_), (9, ty9_), (10, ty10_), (11, ty11_), (12, ty12_), (13, ty13_), (14, ty14_), (15, ty15_), (16, ty16_), (17, ty17_), (18, ty18_), (19, ty19_), (20, ty20_), (21, ty21_), (22, ty22_), (23, ty23_), (24, ty24_), (25, ty25_), (26, ty26_), (27, ty27_), (28, ty28_), (29, ty29_), (30, ty30_), (31, ty31_), (32, ty32_), (33, ty33_), (34, ty34_), (35, ty35_), (36, ty36_), (38, ty38_), (39, ty39_), (40, ty40_), (41, ty41_), (42, ty42_), (43, ty43_), (44, ty44_), (45, ty45_), (46, ty46_), (47, ty47_), (48, ty48_), (49, ty49_), (50, ty50_), (51, ty51_), (52, ty52_), (53, ty53_), (54, ty54_), (55, ty55_), (56, ty56_), (57, ty57_), (59, ty59_), (60, ty60_), (61, ty61_), (62, ty62_), (63, ty63_), (64, ty64_), (65, ty65_), (66, ty66_), (68, ty68_), (69, ty69_), (70, ty70_), (71, ty71_), (73, ty73_), (74, ty74_), (75, ty75_), (76, ty76_), (77, ty77_), (78, ty78_), (79, ty79_), (80, ty80_), (81, ty81_), (82, ty82_), (83, ty83_), (84, ty84_), (85, ty85_), (86, ty86_), (87, ty87_), (88, ty88_), (89, ty89_), (90, ty90_), (91, ty91_), (92, ty92_), (93, ty93_), (94, ty94_), (95, ty95_), (96, ty96_), (98, ty98_), (99, ty99_), (100, ty100_), (101, ty101_), (102, ty102_), (103, ty103_), (104, ty104_), (105, ty105_), (106, ty106_), (107, ty107_), (108, ty108_), (109, ty109_), (110, ty110_), (111, ty111_), (112, ty112_), (113, ty113_), (114, ty114_), (116, ty116_), (117, ty117_), (118, ty118_), (119, ty119_), (120, ty120_), (122, ty122_), (123, ty123_), (124, ty124_), (125, ty125_), (126, ty126_), (128, ty128_), (130, ty130_), (131, ty131_), (133, ty133_), (134, ty134_), (136, ty136_), (137, ty137_), (138, ty138_), (139, ty139_), (140, ty140_), (141, ty141_), (142, ty142_), (143, ty143_), (144, ty144_), (145, ty145_), (146, ty146_), (147, ty147_), (148, ty148_), (149, ty149_), (150, ty150_), (151, ty151_), (152, ty152_), (153, ty153_), (154, ty154_), (155, ty155_), (156, ty156_), (157, ty157_), (158, ty158_), (159, ty159_), (160, ty160_), (161, ty161_), (163, ty163_), (164, ty164_), (165, ty165_), (166, ty166_), (167, ty167_), (168, ty168_), (169, ty169_), (170, ty170_), (171, ty171_), (172, ty172_), (174, ty174_), (175, ty175_), (177, ty177_), (178, ty178_), (179, ty179_), (180, ty180_), (181, ty181_), (182, ty182_), (183, ty183_), (184, ty184_), (185, ty185_), (186, ty186_), (187, ty187_), (188, ty188_), (189, ty189_), (191, ty191_), (192, ty192_), (193, ty193_), (194, ty194_), (195, ty195_), (196, ty196_), (197, ty197_), (198, ty198_), (199, ty199_), (200, ty200_), (201, ty201_), (202, ty202_), (203, ty203_), (204, ty204_), (205, ty205_), (206, ty206_), (207, ty207_), (208, ty208_), (209, ty209_), (210, ty210_), (211, ty211_), (212, ty212_), (214, ty214_), (215, ty215_), (216, ty216_), (218, ty218_), (219, ty219_), (220, ty220_), (221, ty221_), (222, ty222_), (223, ty223_), (224, ty224_), (225, ty225_), (226, ty226_), (227, ty227_), (228, ty228_), (229, ty229_), (230, ty230_), (231, ty231_), (232, ty232_), (233, ty233_), (234, ty234_), (235, ty235_), (236, ty236_), (237, ty237_), (238, ty238_), (239, ty239_), (240, ty240_), (241, ty241_), (242, ty242_), (243, ty243_), (244, ty244_), (245, ty245_), (246, ty246_), (247, ty247_), (248, ty248_), (249, ty249_), (250, ty250_), (251, ty251_), (252, ty252_), (253, ty253_), (254, ty254_), (255, ty255_), (257, ty257_), (258, ty258_), (259, ty259_), (260, ty260_), (262, ty262_), (263, ty263_), (264, ty264_), (265, ty265_), (266, ty266_), (267, ty267_), (268, ty268_), (269, ty269_), (270, ty270_), (271, ty271_), (272, ty272_), (273, ty273_), (274, ty274_), (275, ty275_), (276, ty276_), (277, ty277_), (278, ty278_), (279, ty279_), (280, ty280_), (281, ty281_), (282, ty282_), (283, ty283_), (284, ty284_), (285, ty285_), (286, ty286_), (288, ty288_), (289, ty289_), (290, ty290_), (291, ty291_), (292, ty292_), (293, ty293_), (294, ty294_), (295, ty295_), (296, ty296_), (297, ty297_), (298, ty298_), (299, ty299_), (300, ty300_), (301, ty301_), (302, ty302_), (303, ty303_), (304, ty304_), (305, ty305_), (306, ty306_), (307, ty307_), (308, ty308_), (309, ty309_), (310, ty310_), (311, ty311_), (312, ty312_), (313, ty313_), (314, ty314_), (315, ty315_), (316, ty316_), (317, ty317_), (318, ty318_), (320, ty320_), (321, ty321_), (322, ty322_), (323, ty323_), (324, ty324_), (325, ty325_), (326, ty326_), (327, ty327_), (328, ty328_), (329, ty329_), (330, ty330_), (331, ty331_), (332, ty332_), (333, ty333_), (334, ty334_), (335, ty335_), (336, ty336_), (337, ty337_), (338, ty338_), (339, ty339_), (340, ty340_), (341, ty341_), (342, ty342_), (343, ty343_), (344, ty344_), (345, ty345_), (346, ty346_), (347, ty347_), (348, ty348_), (349, ty349_), (350, ty350_), (351, ty351_), (352, ty352_), (353, ty353_), (354, ty354_), (355, ty355_), (356, ty356_), (357, ty357_), (358, ty358_), (359, ty359_), (360, ty360_), (361, ty361_), (362, ty362_), (363, ty363_), (364, ty364_), (365, ty365_), (366, ty366_), (367, ty367_), (368, ty368_), (369, ty369_), (370, ty370_), (371, ty371_), (372, ty372_), (373, ty373_), (374, ty374_), (375, ty375_), (377, ty377_), (379, ty379_), (380, ty380_), (381, ty381_), (382, ty382_), (383, ty383_), (384, ty384_), (385, ty385_), (386, ty386_), (388, ty388_), (389, ty389_), (390, ty390_), (391, ty391_), (392, ty392_), (393, ty393_), (394, ty394_), (395, ty395_), (396, ty396_), (397, ty397_), (398, ty398_), (399, ty399_), (400, ty400_), (401, ty401_), (402, ty402_), (403, ty403_), (404, ty404_), (405, ty405_), (406, ty406_), (407, ty407_), (408, ty408_), (409, ty409_), (410, ty410_), (411, ty411_), (412, ty412_), (413, ty413_), (414, ty414_), (415, ty415_), (417, ty417_), (418, ty418_), (419, ty419_), (420, ty420_), (421, ty421_), (422, ty422_), (423, ty423_), (424, ty424_), (425, ty425_), (427, ty427_), (428, ty428_), (429, ty429_), (430, ty430_), (431, ty431_), (432, ty432_), (433, ty433_), (435, ty435_), (436, ty436_), (437, ty437_), (438, ty438_), (439, ty439_), (440, ty440_), (441, ty441_), (443, ty443_), (444, ty444_), (445, ty445_), (446, ty446_), (447, ty447_), (448, ty448_), (449, ty449_), (450, ty450_), (451, ty451_), (452, ty452_), (453, ty453_), (454, ty454_), (455, ty455_), (456, ty456_), (457, ty457_), (458, ty458_), (459, ty459_), (460, ty460_), (461, ty461_), (462, ty462_), (463, ty463_), (464, ty464_), (465, ty465_), (466, ty466_)]
theorem tabL_ok : AllTy Tryz.prog tabL := ⟨ty1_ok, ty2_ok, ty3_ok, ty4_ok, ty5_ok, ty6_ok, ty7_ok, ty8_ok, ty9_ok, ty10_ok, ty11_ok, ty12_ok, ty13_ok, ty14_ok, ty15_ok, ty16_ok, ty17_ok, ty18_ok, ty19_ok, ty20_ok, ty21_ok, ty22_ok, ty23_ok, ty24_ok, ty25_ok, ty26_ok, ty27_ok, ty28_ok, ty29_ok, ty30_ok, ty31_ok, ty32_ok, ty33_ok, ty34_ok, ty35_ok, ty36_ok, ty38_ok, ty39_ok, ty40_ok, ty41_ok, ty42_ok, ty43_ok, ty44_ok, ty45_ok, ty46_ok, ty47_ok, ty48_ok, ty49_ok, ty50_ok, ty51_ok, ty52_ok, ty53_ok, ty54_ok, ty55_ok, ty56_ok, ty57_ok, ty59_ok, ty60_ok, ty61_ok, ty62_ok, ty63_ok, ty64_ok, ty65_ok, ty66_ok, ty68_ok, ty69_ok, ty70_ok, ty71_ok, ty73_ok, ty74_ok, ty75_ok, ty76_ok, ty77_ok, ty78_ok, ty79_ok, ty80_ok, ty81_ok, ty82_ok, ty83_ok, ty84_ok, ty85_ok, ty86_ok, ty87_ok, ty88_ok, ty89_ok, ty90_ok, ty91_ok, ty92_ok, ty93_ok, ty94_ok, ty95_ok, ty96_ok, ty98_ok, ty99_ok, ty100_ok, ty101_ok, ty102_ok, ty103_ok, ty104_ok, ty105_ok, ty106_ok, ty107_ok, ty108_ok, ty109_ok, ty110_ok, ty111_ok, ty112_ok, ty113_ok, ty114_ok, ty116_ok, ty117_ok, ty118_ok, ty119_ok, ty120_ok, ty122_ok, ty123_ok, ty124_ok, ty125_ok, ty126_ok, ty128_ok, ty130_ok, ty131_ok, ty133_ok, ty134_ok, ty136_ok, ty137_ok, ty138_ok, ty139_ok, ty140_ok, ty141_ok, ty142_ok, ty143_ok, ty144_ok, ty145_ok, ty146_ok, ty147_ok, ty148_ok, ty149_ok, ty150_ok, ty151_ok, ty152_ok, ty153_ok, ty154_ok, ty155_ok, ty156_ok, ty157_ok, ty158_ok, ty159_ok, ty160_ok, ty161_ok, ty163_ok, ty164_ok, ty165_ok, ty166_ok, ty167_ok, ty168_ok, ty169_ok, ty170_ok, ty171_ok, ty172_ok, ty174_ok, ty175_ok, ty177_ok, ty178_ok, ty179_ok, ty180_ok, ty181_ok, ty182_ok, ty183_ok, ty184_ok, ty185_ok, ty186_ok, ty187_ok, ty188_ok, ty189_ok, ty191_ok, ty192_ok, ty193_ok, ty194_ok, ty195_ok, ty196_ok, ty197_ok, ty198_ok, ty199_ok, ty200_ok, ty201_ok, ty202_ok, ty203_ok, ty204_ok, ty205_ok, ty206_ok, ty207_ok, ty208_ok, ty209_ok, ty210_ok, ty211_ok, ty212_ok, ty214_ok, ty215_ok, ty216_ok, ty218_ok, ty219_ok, ty220_ok, ty221_ok, ty222_ok, ty223_ok, ty224_ok, ty225_ok, ty226_ok, ty227_ok, ty228_ok, ty229_ok, ty230_ok, ty231_ok, ty232_ok, ty233_ok, ty234_ok, ty235_ok, ty236_ok, ty237_ok, ty238_ok, ty239_ok, ty240_ok, ty241_ok, ty242_ok, ty243_ok, ty244_ok, ty245_ok, ty246_ok, ty247_ok, ty248_ok, ty249_ok, ty250_ok, ty251_ok, ty252_ok, ty253_ok, ty254_ok, ty255_ok, ty257_ok, ty258_ok, ty259_ok, ty260_ok, ty262_ok, ty263_ok, ty264_ok, ty265_ok, ty266_ok, ty267_ok, ty268_ok, ty269_ok, ty270_ok, ty271_ok, ty272_ok, ty273_ok, ty274_ok, ty275_ok, ty276_ok, ty277_ok, ty278_ok, ty279_ok, ty280_ok, ty281_ok, ty282_ok, ty283_ok, ty284_ok, ty285_ok, ty286_ok, ty288_ok, ty289_ok, ty290_ok, ty291_ok, ty292_ok, ty293_ok, ty294_ok, ty295_ok, ty296_ok, ty297_ok, ty298_ok, ty299_ok, ty300_ok, ty301_ok, ty302_ok, ty303_ok, ty304_ok, ty305_ok, ty306_ok, ty307_ok, ty308_ok, ty309_ok, ty310_ok, ty311_ok, ty312_ok, ty313_ok, ty314_ok, ty315_ok, ty316_ok, ty317_ok, ty318_ok, ty320_ok, ty321_ok, ty322_ok, ty323_ok, ty324_ok, ty325_ok, ty326_ok, ty327_ok, ty328_ok, ty329_ok, ty330_ok, ty331_ok, ty332_ok, ty333_ok, ty334_ok, ty335_ok, ty336_ok, ty337_ok, ty338_ok, ty339_ok, ty340_ok, ty341_ok, ty342_ok, ty343_ok, ty344_ok, ty345_ok, ty346_ok, ty347_ok, ty348_ok, ty349_ok, ty350_ok, ty351_ok, ty352_ok, ty353_ok, ty354_ok, ty355_ok, ty356_ok, ty357_ok, ty358_ok, ty359_ok, ty360_ok, ty361_ok, ty362_ok, ty363_ok, ty364_ok, ty365_ok, ty366_ok, ty367_ok, ty368_ok, ty369_ok, ty370_ok, ty371_ok, ty372_ok, ty373_ok, ty374_ok, ty375_ok, ty377_ok, ty379_ok, ty380_ok, ty381_ok, ty382_ok, ty383_ok, ty384_ok, ty385_ok, ty386_ok, ty388_ok, ty389_ok, ty390_ok, ty391_ok, ty392_ok, ty393_ok, ty394_ok, ty395_ok, ty396_ok, ty397_ok, ty398_ok, ty399_ok, ty400_ok, ty401_ok, ty402_ok, ty403_ok, ty404_ok, ty405_ok, ty406_ok, ty407_ok, ty408_ok, ty409_ok, ty410_ok, ty411_ok, ty412_ok, ty413_ok, ty414_ok, ty415_ok, ty417_ok, ty418_ok, ty419_ok, ty420_ok, ty421_ok, ty422_ok, ty423_ok, ty424_ok, ty425_ok, ty427_ok, ty428_ok, ty429_ok, ty430_ok, ty431_ok, ty432_ok, ty433_ok, ty435_ok, ty436_ok, ty437_ok, ty438_ok, ty439_ok, ty440_ok, ty441_ok, ty443_ok, ty444_ok, ty445_ok, ty446_ok, ty447_ok, ty448_ok, ty449_ok, ty450_ok, ty451_ok, ty452_ok, ty453_ok, ty454_ok, ty455_ok, ty456_ok, ty457_ok, ty458_ok, ty459_ok, ty460_ok, ty461_ok, ty462_ok, ty463_ok, ty464_ok, ty465_ok, ty466_ok, trivial⟩
def T : Tab Tryz.prog := ⟨tabL, tabL_ok, by kernel_rfl⟩
end Go.Proofs.YtegmololhnipiaaGreatDoor
namespace Go.Proofs.YtegmololhnipiaaGreatDoor
open Go.Lx Go.Gr Go.RowKit
attribute [local instance 10] Classical.propDecidable
def AscAt (n : Int) (l : List Int) (i : Nat) : Prop := ∀ x, l[i]? = some x → 0 ≤ x ∧ x < n ∧ ∀ y, 0 < i → l[i - 1]? = some y → y < x
theorem asc_of {n : Int} {l : List Int} {k : Nat} (h : ∀ i, i < k → AscAt n l i) (hk : l.length ≤ k) : AscP n l :=
  fun i x hx => h i (by have := lt_of_get hx; omega) x hx
theorem asc_bad {n : Int} {l : List Int} {k : Nat} {x : Int} (hx : l[k]? = some x) (h : 0 ≤ x → x < n → ∃ y, 0 < k ∧ l[k - 1]? = some y ∧ x ≤ y) : ¬ AscP n l := fun hc => by
  obtain ⟨h1, h2, h3⟩ := hc k x hx
  obtain ⟨y, h4, h5, h6⟩ := h h1 h2
  have := h3 y h4 h5
  omega
theorem asc_next {n : Int} {l : List Int} {k : Nat} {x : Int} (h : ∀ i, i < k → AscAt n l i) (hx : l[k]? = some x) (h0 : 0 ≤ x) (h1 : x < n) (h2 : ∀ y, 0 < k → l[k - 1]? = some y → y < x) : ∀ i, i < k + 1 → AscAt n l i :=
  lt_succ_cases h (fun z hz => by rw [hx] at hz; injection hz with hz; subst hz; exact ⟨h0, h1, h2⟩)
theorem indices_q {fz : FZ} {A : Option Addr} {n c : Nat} {l : List Int} {m : Int} (h1 : Sl intL fz A n c l) :
    QFn Tryz.prog 38 [.slice A n c, .int .i64 m] fz (.bool (decide (AscP m l))) := by
  refine GFn.quiet ?_
  (refine GFn.of_wp Tryz.func38 rfl Tryz.ntmps38 rfl rfl (fun w0 => ?_))
  have l1 := h1.len
  have hm := h1.short
  ((refine Wp.seq ?_; refine Wp.region ?_; refine Zq ?_; refine Za ?_; refine Seq.done ?_; refine Wp.seq ?_; refine Wp.seq ?_; refine Wp.region ?_; refine Zq ?_; refine Zm ?_; refine Zq ?_; refine Zs T ?_; refine Zq ?_; refine Zm ?_; refine Seq.done ?_; refine Wp.block ?_))
  (refine Wp.loop (fun q σ fz' H' => ∃ k : Nat, k ≤ n ∧ q = n - k ∧ σ = [(9, .int .i64 k), (8, .int .i64 n), (7, .slice A n c), (0, .slice A n c), (1, .int .i64 m)] ∧ fz = fz' ∧ H' = [] ∧ (∀ i, i < k → AscAt m l i)) ⟨0, Nat.zero_le _, rfl, rfl, rfl, rfl, (fun i hi => absurd hi (by omega))⟩ (by repeat (first | exact trivial | refine ⟨by exact rfl, ?_⟩)) (by repeat (first | exact List.Sublist.refl _ | exact List.nil_sublist _ | refine List.Sublist.cons_cons _ ?_ | refine List.Sublist.cons _ ?_)) ?_; rintro q σ fz' H' ⟨k, hk, rfl, rfl, rfl, rfl, hh⟩)
  ((refine Wp.seq ?_; refine Wp.region ?_))
  (((refine Zq ?_)); (refine q_lssD (by exact rfl) (by exact rfl) (fun hlt => ?_) (fun hge => ?_)))
  · ((refine Seq.done ?_; refine Wp.seq ?_; refine Zc ?_; refine Wp.skip ?_; refine thenN ?_; refine Wp.seq ?_; refine Wp.block ?_; refine Wp.seq ?_; refine Wp.region ?_; refine Zq ?_; refine Zm ?_))
    obtain ⟨x, hx⟩ := get_some (l := l) (k := k) (by omega)
    (((refine Zq ?_)); refine q_index T k (by exact rfl) (by exact rfl) (by exact rfl) (by exact rfl) (by exact rfl) (by exact rfl) h1 (by first | rfl | omega) hx (fun p hp => ?_))
    (((refine Zq ?_)); refine q_load_int T (by exact rfl) (by exact rfl) (by exact rfl) hp (fun ix => ?_))
    ((refine Zq ?_; refine Za ?_; refine Zq ?_; refine Za ?_; refine Seq.done ?_; refine Wp.seq ?_; refine Wp.region ?_; refine Zq ?_; refine Zm ?_))
    (((refine Zq ?_)); (refine q_lssD (by exact rfl) (by exact rfl) (fun c1 => ?_) (fun c1 => ?_)))
    · ((refine Zq ?_; refine Zm ?_; refine Zn ?_; refine Zn ?_; refine Zn ?_; refine Zq ?_; refine Zt ?_; refine Zq ?_; refine Zm ?_; refine Zn ?_; refine Zn ?_; refine Zn ?_; refine Zo ?_; refine Zo ?_; refine Zo ?_; refine Zo ?_; refine Zo ?_; refine Zo ?_; refine Zo ?_; refine Zn ?_; refine Zq ?_; refine Zt ?_; refine Seq.done ?_; refine Zc ?_; refine Wp.seq ?_; refine Wp.region ?_; refine Zq ?_; refine Za ?_; refine Seq.done ?_; refine Wp.ret ?_; refine blkR ?_; refine thenR ?_; refine loopR ?_; refine blkR ?_; refine thenR ?_))
      (exact ret1 rfl rfl (by repeat (first | exact List.Sublist.refl _ | exact List.nil_sublist _ | refine List.Sublist.cons_cons _ ?_ | refine List.Sublist.cons _ ?_)) (bool_false (asc_bad hx (fun _ => by omega))))
    · ((refine Zq ?_; refine Zm ?_; refine Zy ?_; refine Zm ?_; refine Zy ?_; refine Zm ?_))
      (((refine Zy ?_)); (refine q_geqD (by exact rfl) (by exact rfl) (fun c2 => ?_) (fun c2 => ?_)))
      · ((refine Zq ?_; refine Zu ?_; refine Zq ?_; refine Zm ?_; refine Zn ?_; refine Zn ?_; refine Zn ?_; refine Zo ?_; refine Zo ?_; refine Zo ?_; refine Zo ?_; refine Zo ?_; refine Zo ?_; refine Zo ?_; refine Zn ?_; refine Zq ?_; refine Zt ?_; refine Seq.done ?_; refine Zc ?_; refine Wp.seq ?_; refine Wp.region ?_; refine Zq ?_; refine Za ?_; refine Seq.done ?_; refine Wp.ret ?_; refine blkR ?_; refine thenR ?_; refine loopR ?_; refine blkR ?_; refine thenR ?_))
        (exact ret1 rfl rfl (by repeat (first | exact List.Sublist.refl _ | exact List.nil_sublist _ | refine List.Sublist.cons_cons _ ?_ | refine List.Sublist.cons _ ?_)) (bool_false (asc_bad hx (fun _ _ => by omega))))
      · ((refine Zq ?_; refine Zu ?_; refine Zq ?_; refine Zm ?_; refine Zy ?_; refine Zm ?_))
        (((refine Zy ?_)); (refine q_gtrD (by exact rfl) (by exact rfl) (fun c3 => ?_) (fun c3 => ?_)))
        · ((refine Zy ?_; refine Zm ?_; refine Zy ?_; refine Zm ?_; refine Zy ?_; refine Zm ?_; refine Zy ?_; refine q_sub (by exact rfl) (by exact rfl) (wrap_in (by omega)) ?_))
          obtain ⟨y, hy⟩ := get_some (l := l) (k := k - 1) (by omega)
          (((refine Zy ?_)); refine q_index T (k - 1) (by exact rfl) (by exact rfl) (by exact rfl) (by exact rfl) (by exact rfl) (by exact rfl) h1 (by first | rfl | omega) hy (fun p2 hp2 => ?_))
          (((refine Zy ?_)); refine q_load_int T (by exact rfl) (by exact rfl) (by exact rfl) hp2 (fun iy => ?_))
          ((refine Zy ?_; refine Zm ?_))
          (((refine Zy ?_)); (refine q_geqD (by exact rfl) (by exact rfl) (fun c4 => ?_) (fun c4 => ?_)))
          · ((refine Zy ?_; refine Zt ?_; refine Zq ?_; refine Zu ?_; refine Seq.done ?_; refine Zc ?_; refine Wp.seq ?_; refine Wp.region ?_; refine Zq ?_; refine Za ?_; refine Seq.done ?_; refine Wp.ret ?_; refine blkR ?_; refine thenR ?_; refine loopR ?_; refine blkR ?_; refine thenR ?_))
            (exact ret1 rfl rfl (by repeat (first | exact List.Sublist.refl _ | exact List.nil_sublist _ | refine List.Sublist.cons_cons _ ?_ | refine List.Sublist.cons _ ?_)) (bool_false (asc_bad hx (fun _ _ => ⟨y, by omega, hy, c4⟩))))
          · ((refine Zy ?_; refine Zt ?_; refine Zq ?_; refine Zu ?_; refine Seq.done ?_; refine Zd ?_; refine Wp.skip ?_; refine blkN ?_; refine thenN ?_; refine Wp.region ?_; refine Zq ?_; refine q_add (by exact rfl) (by exact rfl) (wrap_in (by omega)) ?_; refine Zq ?_; refine Zm ?_; refine Seq.end_ ?_))
            (exact loopN ⟨k + 1, by omega, rfl, rfl, rfl, rfl, (asc_next hh hx (by omega) (by omega) (fun z _ hz => by rw [hy] at hz; injection hz with hz; omega))⟩ (by omega) (by repeat (first | exact trivial | refine ⟨by exact rfl, ?_⟩)) (by repeat (first | exact List.Sublist.refl _ | exact List.nil_sublist _ | refine List.Sublist.cons_cons _ ?_ | refine List.Sublist.cons _ ?_)))
        · ((refine Zy ?_; refine Zm ?_; refine Zn ?_; refine Zn ?_; refine Zn ?_; refine Zn ?_; refine Zn ?_; refine Zn ?_; refine Zn ?_; refine Zy ?_; refine Zu ?_; refine Zq ?_; refine Zu ?_; refine Seq.done ?_; refine Zd ?_; refine Wp.skip ?_; refine blkN ?_; refine thenN ?_; refine Wp.region ?_; refine Zq ?_; refine q_add (by exact rfl) (by exact rfl) (wrap_in (by omega)) ?_; refine Zq ?_; refine Zm ?_; refine Seq.end_ ?_))
          (exact loopN ⟨k + 1, by omega, rfl, rfl, rfl, rfl, (asc_next hh hx (by omega) (by omega) (fun z hz _ => by omega))⟩ (by omega) (by repeat (first | exact trivial | refine ⟨by exact rfl, ?_⟩)) (by repeat (first | exact List.Sublist.refl _ | exact List.nil_sublist _ | refine List.Sublist.cons_cons _ ?_ | refine List.Sublist.cons _ ?_)))
  · ((refine Seq.done ?_; refine Wp.seq ?_; refine Zd ?_; refine Wp.exit ?_; refine thenX ?_; refine loopX ?_; refine blkX (by exact rfl) ?_; refine thenN ?_; refine Wp.seq ?_; refine Wp.region ?_; refine Zq ?_; refine Za ?_; refine Seq.done ?_; refine Wp.ret ?_))
    (exact ret1 rfl rfl (by repeat (first | exact List.Sublist.refl _ | exact List.nil_sublist _ | refine List.Sublist.cons_cons _ ?_ | refine List.Sublist.cons _ ?_)) (bool_true (asc_of hh (by omega))))
theorem ascending_q {fz : FZ} {A : Option Addr} {n c : Nat} {l : List Int} {m : Int} (h1 : Sl intL fz A n c l) :
    QFn Tryz.prog 33 [.slice A n c, .int .i64 m] fz (.bool (decide (AscP m l))) := by
  refine GFn.quiet ?_
  (refine GFn.of_wp Tryz.func33 rfl Tryz.ntmps33 rfl rfl (fun w0 => ?_))
  have l1 := h1.len
  have hm := h1.short
  ((refine Wp.seq ?_; refine Wp.region ?_; refine Zq ?_; refine Za ?_; refine Seq.done ?_; refine Wp.seq ?_; refine Wp.seq ?_; refine Wp.region ?_; refine Zq ?_; refine Za ?_; refine Seq.done ?_; refine Wp.block ?_))
  (refine Wp.loop (fun q σ fz' H' => ∃ k : Nat, k ≤ n ∧ q = n - k ∧ σ = [(5, .int .i64 k), (0, .slice A n c), (1, .int .i64 m)] ∧ fz = fz' ∧ H' = [] ∧ (∀ i, i < k → AscAt m l i)) ⟨0, Nat.zero_le _, rfl, rfl, rfl, rfl, (fun i hi => absurd hi (by omega))⟩ (by repeat (first | exact trivial | refine ⟨by exact rfl, ?_⟩)) (by repeat (first | exact List.Sublist.refl _ | exact List.nil_sublist _ | refine List.Sublist.cons_cons _ ?_ | refine List.Sublist.cons _ ?_)) ?_; rintro q σ fz' H' ⟨k, hk, rfl, rfl, rfl, rfl, hh⟩)
  ((refine Wp.seq ?_; refine Wp.seq ?_; refine Wp.region ?_; refine Zq ?_; refine Zm ?_; refine Zq ?_; refine Zm ?_; refine Zq ?_; refine Zs T ?_))
  (((refine Zq ?_)); (refine q_lssD (by exact rfl) (by exact rfl) (fun hlt => ?_) (fun hge => ?_)))
  · ((refine Seq.done ?_; refine Zc ?_; refine Wp.skip ?_; refine thenN ?_; refine Wp.seq ?_; refine Wp.block ?_; refine Wp.seq ?_; refine Wp.draw (by decide +kernel) T.mixed (by kernel_rfl) (by kernel_rfl) ?_; refine QL.q ?_; refine Zm ?_; refine QL.q ?_; refine Zm ?_))
    obtain ⟨x, hx⟩ := get_some (l := l) (k := k) (by omega)
    (((refine QL.q ?_)); refine q_index T k (by exact rfl) (by exact rfl) (by exact rfl) (by exact rfl) (by exact rfl) (by exact rfl) h1 (by first | rfl | omega) hx (fun p hp => ?_))
    (((refine QL.q ?_)); refine q_load_int T (by exact rfl) (by exact rfl) (by exact rfl) hp (fun ix => ?_))
    (skip)
    (((refine QL.q ?_)); (refine q_lssD (by exact rfl) (by exact rfl) (fun c1 => ?_) (fun c1 => ?_)))
    · ((refine QL.q ?_; refine Zm ?_; refine QL.no (by exact rfl) ?_; refine QL.no (by exact rfl) ?_; refine QL.no (by exact rfl) ?_; refine QL.no (by exact rfl) ?_; refine QL.no (by exact rfl) ?_; refine QL.no (by exact rfl) ?_; refine QL.q ?_; refine Zt ?_; refine QL.q ?_; refine Zm ?_; refine QL.no (by exact rfl) ?_; refine QL.no (by exact rfl) ?_; refine QL.no (by exact rfl) ?_; refine QL.no (by exact rfl) ?_; refine QL.no (by exact rfl) ?_; refine QL.no (by exact rfl) ?_; refine QL.no (by exact rfl) ?_; refine QL.no (by exact rfl) ?_; refine QL.no (by exact rfl) ?_; refine QL.no (by exact rfl) ?_; refine QL.no (by exact rfl) ?_; refine QL.no (by exact rfl) ?_; refine QL.no (by exact rfl) ?_; refine QL.no (by exact rfl) ?_; refine QL.q ?_; refine Zt ?_; refine QL.done ?_; refine thenN ?_; refine Zc ?_; refine Wp.seq ?_; refine Wp.region ?_; refine Zq ?_; refine Za ?_; refine Seq.done ?_; refine Wp.ret ?_; refine blkR ?_; refine thenR ?_; refine loopR ?_; refine blkR ?_; refine thenR ?_))
      (exact ret1 rfl rfl (by repeat (first | exact List.Sublist.refl _ | exact List.nil_sublist _ | refine List.Sublist.cons_cons _ ?_ | refine List.Sublist.cons _ ?_)) (bool_false (asc_bad hx (fun _ => by omega))))
    · ((refine QL.q ?_; refine Zm ?_; refine QL.yes (by exact rfl) ?_; refine Zm ?_; refine QL.yes (by exact rfl) ?_; refine Zm ?_))
      (((refine QL.yes (by exact rfl) ?_)); refine q_index T k (by exact rfl) (by exact rfl) (by exact rfl) (by exact rfl) (by exact rfl) (by exact rfl) h1 (by first | rfl | omega) hx (fun p3 hp3 => ?_))
      (((refine QL.yes (by exact rfl) ?_)); refine q_load_int T (by exact rfl) (by exact rfl) (by exact rfl) hp3 (fun ix3 => ?_))
      ((refine QL.yes (by exact rfl) ?_; refine Zm ?_))
      (((refine QL.yes (by exact rfl) ?_)); (refine q_geqD (by exact rfl) (by exact rfl) (fun c2 => ?_) (fun c2 => ?_)))
      · ((refine QL.q ?_; refine Zu ?_; refine QL.q ?_; refine Zm ?_; refine QL.no (by exact rfl) ?_; refine QL.no (by exact rfl) ?_; refine QL.no (by exact rfl) ?_; refine QL.no (by exact rfl) ?_; refine QL.no (by exact rfl) ?_; refine QL.no (by exact rfl) ?_; refine QL.no (by exact rfl) ?_; refine QL.no (by exact rfl) ?_; refine QL.no (by exact rfl) ?_; refine QL.no (by exact rfl) ?_; refine QL.no (by exact rfl) ?_; refine QL.no (by exact rfl) ?_; refine QL.no (by exact rfl) ?_; refine QL.no (by exact rfl) ?_; refine QL.q ?_; refine Zt ?_; refine QL.done ?_; refine thenN ?_; refine Zc ?_; refine Wp.seq ?_; refine Wp.region ?_; refine Zq ?_; refine Za ?_; refine Seq.done ?_; refine Wp.ret ?_; refine blkR ?_; refine thenR ?_; refine loopR ?_; refine blkR ?_; refine thenR ?_))
        (exact ret1 rfl rfl (by repeat (first | exact List.Sublist.refl _ | exact List.nil_sublist _ | refine List.Sublist.cons_cons _ ?_ | refine List.Sublist.cons _ ?_)) (bool_false (asc_bad hx (fun _ _ => by omega))))
      · ((refine QL.q ?_; refine Zu ?_; refine QL.q ?_; refine Zm ?_; refine QL.yes (by exact rfl) ?_; refine Zm ?_))
        (((refine QL.yes (by exact rfl) ?_)); (refine q_gtrD (by exact rfl) (by exact rfl) (fun c3 => ?_) (fun c3 => ?_)))
        · ((refine QL.yes (by exact rfl) ?_; refine Zm ?_; refine QL.yes (by exact rfl) ?_; refine Zm ?_; refine QL.yes (by exact rfl) ?_; refine Zm ?_; refine QL.yes (by exact rfl) ?_; refine q_sub (by exact rfl) (by exact rfl) (wrap_in (by omega)) ?_))
          obtain ⟨y, hy⟩ := get_some (l := l) (k := k - 1) (by omega)
          (((refine QL.yes (by exact rfl) ?_)); refine q_index T (k - 1) (by exact rfl) (by exact rfl) (by exact rfl) (by exact rfl) (by exact rfl) (by exact rfl) h1 (by first | rfl | omega) hy (fun p2 hp2 => ?_))
          (((refine QL.yes (by exact rfl) ?_)); refine q_load_int T (by exact rfl) (by exact rfl) (by exact rfl) hp2 (fun iy => ?_))
          ((refine QL.yes (by exact rfl) ?_; refine Zm ?_; refine QL.yes (by exact rfl) ?_; refine Zm ?_))
          (((refine QL.yes (by exact rfl) ?_)); refine q_index T k (by exact rfl) (by exact rfl) (by exact rfl) (by exact rfl) (by exact rfl) (by exact rfl) h1 (by first | rfl | omega) hx (fun p4 hp4 => ?_))
          (((refine QL.yes (by exact rfl) ?_)); refine q_load_int T (by exact rfl) (by exact rfl) (by exact rfl) hp4 (fun ix4 => ?_))
          (skip)
          (((refine QL.yes (by exact rfl) ?_)); (refine q_geqD (by exact rfl) (by exact rfl) (fun c4 => ?_) (fun c4 => ?_)))
          · ((refine QL.yes (by exact rfl) ?_; refine Zt ?_; refine QL.q ?_; refine Zu ?_; refine QL.done ?_; refine thenN ?_; refine Zc ?_; refine Wp.seq ?_; refine Wp.region ?_; refine Zq ?_; refine Za ?_; refine Seq.done ?_; refine Wp.ret ?_; refine blkR ?_; refine thenR ?_; refine loopR ?_; refine blkR ?_; refine thenR ?_))
            (exact ret1 rfl rfl (by repeat (first | exact List.Sublist.refl _ | exact List.nil_sublist _ | refine List.Sublist.cons_cons _ ?_ | refine List.Sublist.cons _ ?_)) (bool_false (asc_bad hx (fun _ _ => ⟨y, by omega, hy, c4⟩))))
          · ((refine QL.yes (by exact rfl) ?_; refine Zt ?_; refine QL.q ?_; refine Zu ?_; refine QL.done ?_; refine thenN ?_; refine Zd ?_; refine Wp.skip ?_; refine blkN ?_; refine thenN ?_; refine Wp.region ?_; refine Zq ?_; refine Zm ?_; refine Zq ?_; refine q_add (by exact rfl) (by exact rfl) (wrap_in (by omega)) ?_; refine Zq ?_; refine Za ?_; refine Seq.end_ ?_))
            (exact loopN ⟨k + 1, by omega, rfl, rfl, rfl, rfl, (asc_next hh hx (by omega) (by omega) (fun z _ hz => by rw [hy] at hz; injection hz with hz; omega))⟩ (by omega) (by repeat (first | exact trivial | refine ⟨by exact rfl, ?_⟩)) (by repeat (first | exact List.Sublist.refl _ | exact List.nil_sublist _ | refine List.Sublist.cons_cons _ ?_ | refine List.Sublist.cons _ ?_)))
        · ((refine QL.yes (by exact rfl) ?_; refine Zm ?_; refine QL.no (by exact rfl) ?_; refine QL.no (by exact rfl) ?_; refine QL.no (by exact rfl) ?_; refine QL.no (by exact rfl) ?_; refine QL.no (by exact rfl) ?_; refine QL.no (by exact rfl) ?_; refine QL.no (by exact rfl) ?_; refine QL.no (by exact rfl) ?_; refine QL.no (by exact rfl) ?_; refine QL.no (by exact rfl) ?_; refine QL.yes (by exact rfl) ?_; refine Zu ?_; refine QL.q ?_; refine Zu ?_; refine QL.done ?_; refine thenN ?_; refine Zd ?_; refine Wp.skip ?_; refine blkN ?_; refine thenN ?_; refine Wp.region ?_; refine Zq ?_; refine Zm ?_; refine Zq ?_; refine q_add (by exact rfl) (by exact rfl) (wrap_in (by omega)) ?_; refine Zq ?_; refine Za ?_; refine Seq.end_ ?_))
          (exact loopN ⟨k + 1, by omega, rfl, rfl, rfl, rfl, (asc_next hh hx (by omega) (by omega) (fun z hz _ => by omega))⟩ (by omega) (by repeat (first | exact trivial | refine ⟨by exact rfl, ?_⟩)) (by repeat (first | exact List.Sublist.refl _ | exact List.nil_sublist _ | refine List.Sublist.cons_cons _ ?_ | refine List.Sublist.cons _ ?_)))
  · ((refine Seq.done ?_; refine Zd ?_; refine Wp.exit ?_; refine thenX ?_; refine loopX ?_; refine blkX (by exact rfl) ?_; refine thenN ?_; refine Wp.seq ?_; refine Wp.region ?_; refine Zq ?_; refine Za ?_; refine Seq.done ?_; refine Wp.ret ?_))
    (exact ret1 rfl rfl (by repeat (first | exact List.Sublist.refl _ | exact List.nil_sublist _ | refine List.Sublist.cons_cons _ ?_ | refine List.Sublist.cons _ ?_)) (bool_true (asc_of hh (by omega))))
theorem in_q {fz : FZ} {A : Option Addr} {n c : Nat} {l : List Int} {m : Int} (h1 : Sl intL fz A n c l) :
    QFn Tryz.prog 17 [.slice A n c, .int .i64 m] fz (.bool (decide (m ∈ l))) := by
  refine GFn.quiet ?_
  (refine GFn.of_wp Tryz.func17 rfl Tryz.ntmps17 rfl rfl (fun w0 => ?_))
  have l1 := h1.len
  have hm := h1.short
  ((refine Wp.seq ?_; refine Wp.region ?_; refine Zq ?_; refine Za ?_; refine Seq.done ?_; refine Wp.seq ?_; refine Wp.seq ?_; refine Wp.region ?_; refine Zq ?_; refine Za ?_; refine Seq.done ?_; refine Wp.block ?_))
  (refine Wp.loop (fun q σ fz' H' => ∃ k : Nat, k ≤ n ∧ q = n - k ∧ σ = [(5, .int .i64 k), (0, .slice A n c), (1, .int .i64 m)] ∧ fz = fz' ∧ H' = [] ∧ (∀ i, i < k → ∀ x, l[i]? = some x → x ≠ m)) ⟨0, Nat.zero_le _, rfl, rfl, rfl, rfl, (fun i hi => absurd hi (by omega))⟩ (by repeat (first | exact trivial | refine ⟨by exact rfl, ?_⟩)) (by repeat (first | exact List.Sublist.refl _ | exact List.nil_sublist _ | refine List.Sublist.cons_cons _ ?_ | refine List.Sublist.cons _ ?_)) ?_; rintro q σ fz' H' ⟨k, hk, rfl, rfl, rfl, rfl, hh⟩)
  ((refine Wp.seq ?_; refine Wp.seq ?_; refine Wp.region ?_; refine Zq ?_; refine Zm ?_; refine Zq ?_; refine Zm ?_; refine Zq ?_; refine Zs T ?_))
  (((refine Zq ?_)); (refine q_lssD (by exact rfl) (by exact rfl) (fun hlt => ?_) (fun hge => ?_)))
  · ((refine Seq.done ?_; refine Zc ?_; refine Wp.skip ?_; refine thenN ?_; refine Wp.seq ?_; refine Wp.block ?_; refine Wp.seq ?_; refine Wp.region ?_; refine Zq ?_; refine Zm ?_; refine Zq ?_; refine Zm ?_))
    obtain ⟨x, hx⟩ := get_some (l := l) (k := k) (by omega)
    (((refine Zq ?_)); refine q_index T k (by exact rfl) (by exact rfl) (by exact rfl) (by exact rfl) (by exact rfl) (by exact rfl) h1 (by first | rfl | omega) hx (fun p hp => ?_))
    (((refine Zq ?_)); refine q_load_int T (by exact rfl) (by exact rfl) (by exact rfl) hp (fun ix => ?_))
    ((refine Zq ?_; refine Zm ?_))
    (((refine Zq ?_)); (refine q_eqlD (by exact rfl) (by exact rfl) (fun c1 => ?_) (fun c1 => ?_)))
    · ((refine Seq.done ?_; refine Zc ?_; refine Wp.seq ?_; refine Wp.region ?_; refine Zq ?_; refine Za ?_; refine Seq.done ?_; refine Wp.ret ?_; refine blkR ?_; refine thenR ?_; refine loopR ?_; refine blkR ?_; refine thenR ?_))
      (exact ret1 rfl rfl (by repeat (first | exact List.Sublist.refl _ | exact List.nil_sublist _ | refine List.Sublist.cons_cons _ ?_ | refine List.Sublist.cons _ ?_)) (bool_true (by subst c1; exact List.mem_of_getElem? hx)))
    · ((refine Seq.done ?_; refine Zd ?_; refine Wp.skip ?_; refine blkN ?_; refine thenN ?_; refine Wp.region ?_; refine Zq ?_; refine Zm ?_; refine Zq ?_; refine q_add (by exact rfl) (by exact rfl) (wrap_in (by omega)) ?_; refine Zq ?_; refine Za ?_; refine Seq.end_ ?_))
      (exact loopN ⟨k + 1, by omega, rfl, rfl, rfl, rfl, (all_next hh hx c1)⟩ (by omega) (by repeat (first | exact trivial | refine ⟨by exact rfl, ?_⟩)) (by repeat (first | exact List.Sublist.refl _ | exact List.nil_sublist _ | refine List.Sublist.cons_cons _ ?_ | refine List.Sublist.cons _ ?_)))
  · ((refine Seq.done ?_; refine Zd ?_; refine Wp.exit ?_; refine thenX ?_; refine loopX ?_; refine blkX (by exact rfl) ?_; refine thenN ?_; refine Wp.seq ?_; refine Wp.region ?_; refine Zq ?_; refine Za ?_; refine Seq.done ?_; refine Wp.ret ?_))
    (exact ret1 rfl rfl (by repeat (first | exact List.Sublist.refl _ | exact List.nil_sublist _ | refine List.Sublist.cons_cons _ ?_ | refine List.Sublist.cons _ ?_)) (bool_false (fun hc => all_of hh (by omega) m hc rfl)))
end Go.Proofs.YtegmololhnipiaaGreatDoor
namespace Go.Proofs.YtegmololhnipiaaGreatDoor
open Go.Lx Go.Gr Go.RowKit
attribute [local instance 10] Classical.propDecidable
abbrev eV (e : GExpr) (v : Value) : Value := .agg #[.string e.op, .int .i64 e.n, v]
theorem right_number {m : Int} {e : GExpr} (h : e.op = kNumber) : RightP m e ↔ e.kids = [] ∧ -maxN ≤ e.n ∧ e.n ≤ maxN := by
  constructor
  · intro hr
    cases hr with
    | number _ h2 h3 h4 => exact ⟨h2, h3, h4⟩
    | fluent h1 _ _ _ => rw [h] at h1; exact absurd h1 (bytes_ne (by decide))
    | bin h1 _ _ _ _ => rw [h] at h1; rcases h1 with h1 | h1 | h1 <;> exact absurd h1 (bytes_ne (by decide))
  · rintro ⟨h2, h3, h4⟩; exact .number h h2 h3 h4
theorem right_fluent {m : Int} {e : GExpr} (h : e.op = kFluent) : RightP m e ↔ e.kids = [] ∧ 0 ≤ e.n ∧ e.n < m := by
  constructor
  · intro hr
    cases hr with
    | number h1 _ _ _ => rw [h] at h1; exact absurd h1 (bytes_ne (by decide))
    | fluent _ h2 h3 h4 => exact ⟨h2, h3, h4⟩
    | bin h1 _ _ _ _ => rw [h] at h1; rcases h1 with h1 | h1 | h1 <;> exact absurd h1 (bytes_ne (by decide))
  · rintro ⟨h2, h3, h4⟩; exact .fluent h h2 h3 h4
theorem right_bin {m : Int} {e : GExpr} (h : e.op = kPlus ∨ e.op = kMinus ∨ e.op = kTimes) : RightP m e ↔ e.n = 0 ∧ ∃ a b, e.kids = [a, b] ∧ RightP m a ∧ RightP m b := by
  constructor
  · intro hr
    cases hr with
    | number h1 _ _ _ => rw [h1] at h; rcases h with h | h | h <;> exact absurd h (bytes_ne (by decide))
    | fluent h1 _ _ _ => rw [h1] at h; rcases h with h | h | h <;> exact absurd h (bytes_ne (by decide))
    | bin _ h2 h3 h4 h5 => exact ⟨h2, _, _, h3, h4, h5⟩
  · rintro ⟨h2, a, b, h3, h4, h5⟩; exact .bin h h2 h3 h4 h5
theorem right_two {m : Int} {e a b : GExpr} (h : e.op = kPlus ∨ e.op = kMinus ∨ e.op = kTimes) (h0 : e.n = 0) (hk : e.kids = [a, b]) : RightP m e ↔ RightP m a ∧ RightP m b := by
  rw [right_bin h]
  constructor
  · rintro ⟨_, a', b', h1, h2⟩
    rw [hk] at h1; injection h1 with e1 e2; injection e2 with e2; subst e1 e2; exact h2
  · intro h2; exact ⟨h0, a, b, hk, h2⟩
theorem right_none {m : Int} {e : GExpr} (h1 : ¬ e.op = kNumber) (h2 : ¬ e.op = kFluent) (h3 : ¬ e.op = kPlus) (h4 : ¬ e.op = kMinus) (h5 : ¬ e.op = kTimes) : ¬ RightP m e := by
  intro hr
  cases hr with
  | number h _ _ _ => exact h1 h
  | fluent h _ _ _ => exact h2 h
  | bin h _ _ _ _ => rcases h with h | h | h <;> contradiction
theorem two_of {α : Type} : ∀ {l : List α}, l.length = 2 → ∃ a b, l = [a, b]
  | [a, b], _ => ⟨a, b, rfl⟩
theorem nil_of {α : Type} {l : List α} (h : l.length = 0) : l = [] := List.length_eq_zero_iff.1 h
theorem right_aux : ∀ (s : Nat) {fz : FZ} {e : GExpr} {v : Value} {m : Int}, SizeOf.sizeOf e ≤ s → GExprR fz e v →
    QFn Tryz.prog 55 [eV e v, .int .i64 m] fz (.bool (decide (RightP m e)))
  | 0, _, e, _, _, hs, _ => by cases e; simp at hs
  | s + 1, fz, e, v, m, hs, h => by
    obtain ⟨A, n, c, rfl, hk⟩ := h.kids
    have l1 := hk.len
    refine GFn.quiet ?_
    (refine GFn.of_wp Tryz.func55 rfl Tryz.ntmps55 rfl rfl (fun w0 => ?_))
    ((refine Wp.seq ?_; refine Wp.region ?_; refine Seq.stepK (by exact rfl) (k_box _ (by exact rfl) (by exact rfl) (fun _ => ?_)); refine Zq ?_; refine Za ?_; refine Seq.done ?_; refine Wp.seq ?_; refine Wp.seq ?_; refine Wp.region ?_; refine Zq ?_; refine Zf T ?_; refine Zq ?_; refine Zl T 0 ?_; refine Seq.done ?_; refine Wp.block ?_; refine Wp.seq ?_; refine Wp.region ?_))
    (((refine Zq ?_)); (refine q_eql_strD (by exact rfl) (by exact rfl) (fun e1 => ?_) (fun x1 => ?_)))
    · ((refine Zq ?_; refine Za ?_; refine Seq.done ?_; refine Zc ?_; refine Wp.seq ?_; refine Wp.region ?_; refine Zq ?_; refine Zf T ?_; refine Zq ?_; refine Zl T 0 ?_; refine Zq ?_; refine Zs T ?_))
      (((refine Zq ?_)); (refine q_eqlD (by exact rfl) (by exact rfl) (fun c1 => ?_) (fun c1 => ?_)))
      · have hn : e.kids = [] := nil_of (by omega)
        ((refine Zq ?_; refine Zm ?_; refine Zy ?_; refine Zf T ?_; refine Zy ?_; refine Zl T 0 ?_))
        (((refine Zy ?_)); (refine q_geqD (by exact rfl) (by exact rfl) (fun c2 => ?_) (fun c2 => ?_)))
        · ((refine Zq ?_; refine Zt ?_; refine Zq ?_; refine Zm ?_; refine Zy ?_; refine Zf T ?_; refine Zy ?_; refine Zl T 0 ?_))
          (((refine Zy ?_)); (refine q_leqD (by exact rfl) (by exact rfl) (fun c3 => ?_) (fun c3 => ?_)))
          · ((refine Zq ?_; refine Zt ?_; refine Zq ?_; refine Za ?_; refine Seq.done ?_; refine Wp.ret ?_; refine blkR ?_; refine thenR ?_))
            (exact ret1 rfl rfl (by repeat (first | exact List.Sublist.refl _ | exact List.nil_sublist _ | refine List.Sublist.cons_cons _ ?_ | refine List.Sublist.cons _ ?_)) (bool_true ((right_number e1).2 ⟨hn, c2, c3⟩)))
          · ((refine Zq ?_; refine Zt ?_; refine Zq ?_; refine Za ?_; refine Seq.done ?_; refine Wp.ret ?_; refine blkR ?_; refine thenR ?_))
            (exact ret1 rfl rfl (by repeat (first | exact List.Sublist.refl _ | exact List.nil_sublist _ | refine List.Sublist.cons_cons _ ?_ | refine List.Sublist.cons _ ?_)) (bool_false (fun hc => c3 ((right_number e1).1 hc).2.2)))
        · ((refine Zq ?_; refine Zt ?_; refine Zq ?_; refine Zm ?_; refine Zn ?_; refine Zn ?_; refine Zn ?_; refine Zq ?_; refine Zu ?_; refine Zq ?_; refine Za ?_; refine Seq.done ?_; refine Wp.ret ?_; refine blkR ?_; refine thenR ?_))
          (exact ret1 rfl rfl (by repeat (first | exact List.Sublist.refl _ | exact List.nil_sublist _ | refine List.Sublist.cons_cons _ ?_ | refine List.Sublist.cons _ ?_)) (bool_false (fun hc => c2 ((right_number e1).1 hc).2.1)))
      · ((refine Zq ?_; refine Zm ?_; refine Zn ?_; refine Zn ?_; refine Zn ?_; refine Zq ?_; refine Zu ?_; refine Zq ?_; refine Zm ?_; refine Zn ?_; refine Zn ?_; refine Zn ?_; refine Zq ?_; refine Zu ?_; refine Zq ?_; refine Za ?_; refine Seq.done ?_; refine Wp.ret ?_; refine blkR ?_; refine thenR ?_))
        (exact ret1 rfl rfl (by repeat (first | exact List.Sublist.refl _ | exact List.nil_sublist _ | refine List.Sublist.cons_cons _ ?_ | refine List.Sublist.cons _ ?_)) (bool_false (fun hc => by have := ((right_number e1).1 hc).1; rw [this] at l1; simp at l1; omega)))
    · ((refine Zq ?_; refine Za ?_; refine Seq.done ?_; refine Zd ?_; refine Wp.seq ?_; refine Wp.region ?_))
      (((refine Zq ?_)); (refine q_eql_strD (by exact rfl) (by exact rfl) (fun e2 => ?_) (fun x2 => ?_)))
      · ((refine Zq ?_; refine Za ?_; refine Seq.done ?_; refine Zc ?_; refine Wp.seq ?_; refine Wp.region ?_; refine Zq ?_; refine Zf T ?_; refine Zq ?_; refine Zl T 0 ?_; refine Zq ?_; refine Zs T ?_))
        (((refine Zq ?_)); (refine q_eqlD (by exact rfl) (by exact rfl) (fun c1 => ?_) (fun c1 => ?_)))
        · have hn : e.kids = [] := nil_of (by omega)
          ((refine Zq ?_; refine Zm ?_; refine Zy ?_; refine Zf T ?_; refine Zy ?_; refine Zl T 0 ?_))
          (((refine Zy ?_)); (refine q_geqD (by exact rfl) (by exact rfl) (fun c2 => ?_) (fun c2 => ?_)))
          · ((refine Zq ?_; refine Zt ?_; refine Zq ?_; refine Zm ?_; refine Zy ?_; refine Zf T ?_; refine Zy ?_; refine Zl T 0 ?_; refine Zy ?_; refine Zm ?_))
            (((refine Zy ?_)); (refine q_lssD (by exact rfl) (by exact rfl) (fun c3 => ?_) (fun c3 => ?_)))
            · ((refine Zq ?_; refine Zt ?_; refine Zq ?_; refine Za ?_; refine Seq.done ?_; refine Wp.ret ?_; refine blkR ?_; refine thenR ?_))
              (exact ret1 rfl rfl (by repeat (first | exact List.Sublist.refl _ | exact List.nil_sublist _ | refine List.Sublist.cons_cons _ ?_ | refine List.Sublist.cons _ ?_)) (bool_true ((right_fluent e2).2 ⟨hn, c2, c3⟩)))
            · ((refine Zq ?_; refine Zt ?_; refine Zq ?_; refine Za ?_; refine Seq.done ?_; refine Wp.ret ?_; refine blkR ?_; refine thenR ?_))
              (exact ret1 rfl rfl (by repeat (first | exact List.Sublist.refl _ | exact List.nil_sublist _ | refine List.Sublist.cons_cons _ ?_ | refine List.Sublist.cons _ ?_)) (bool_false (fun hc => by have := (right_fluent e2).1 hc; omega)))
          · ((refine Zq ?_; refine Zt ?_; refine Zq ?_; refine Zm ?_; refine Zn ?_; refine Zn ?_; refine Zn ?_; refine Zn ?_; refine Zq ?_; refine Zu ?_; refine Zq ?_; refine Za ?_; refine Seq.done ?_; refine Wp.ret ?_; refine blkR ?_; refine thenR ?_))
            (exact ret1 rfl rfl (by repeat (first | exact List.Sublist.refl _ | exact List.nil_sublist _ | refine List.Sublist.cons_cons _ ?_ | refine List.Sublist.cons _ ?_)) (bool_false (fun hc => by have := (right_fluent e2).1 hc; omega)))
        · ((refine Zq ?_; refine Zm ?_; refine Zn ?_; refine Zn ?_; refine Zn ?_; refine Zq ?_; refine Zu ?_; refine Zq ?_; refine Zm ?_; refine Zn ?_; refine Zn ?_; refine Zn ?_; refine Zn ?_; refine Zq ?_; refine Zu ?_; refine Zq ?_; refine Za ?_; refine Seq.done ?_; refine Wp.ret ?_; refine blkR ?_; refine thenR ?_))
          (exact ret1 rfl rfl (by repeat (first | exact List.Sublist.refl _ | exact List.nil_sublist _ | refine List.Sublist.cons_cons _ ?_ | refine List.Sublist.cons _ ?_)) (bool_false (fun hc => by have := ((right_fluent e2).1 hc).1; rw [this] at l1; simp at l1; omega)))
      · ((refine Zq ?_; refine Za ?_; refine Seq.done ?_; refine Zd ?_; refine Wp.seq ?_; refine Wp.seq ?_; refine Wp.region ?_))
        (((refine Zq ?_)); (refine q_eql_strD (by exact rfl) (by exact rfl) (fun e3 => ?_) (fun x3 => ?_)))
        rotate_left
        ((refine Zq ?_; refine Za ?_; refine Seq.done ?_; refine Zd ?_; refine Wp.seq ?_; refine Wp.region ?_))
        (((refine Zq ?_)); (refine q_eql_strD (by exact rfl) (by exact rfl) (fun e4 => ?_) (fun x4 => ?_)))
        rotate_left
        ((refine Zq ?_; refine Za ?_; refine Seq.done ?_; refine Zd ?_; refine Wp.region ?_))
        (((refine Zq ?_)); (refine q_eql_strD (by exact rfl) (by exact rfl) (fun e5 => ?_) (fun x5 => ?_)))
        rotate_left
        ((refine Zq ?_; refine Za ?_; refine Seq.done ?_; refine Zd ?_; refine Wp.skip ?_; refine blkN ?_; refine thenN ?_; refine Wp.seq ?_; refine Wp.region ?_; refine Zq ?_; refine Za ?_; refine Seq.done ?_; refine Wp.ret ?_))
        (exact ret1 rfl rfl (by repeat (first | exact List.Sublist.refl _ | exact List.nil_sublist _ | refine List.Sublist.cons_cons _ ?_ | refine List.Sublist.cons _ ?_)) (bool_false (right_none x1 x2 x3 x4 x5)))
        · have hb : e.op = kPlus ∨ e.op = kMinus ∨ e.op = kTimes := by
            first
            | exact .inl e3
            | exact .inr (.inl e4)
            | exact .inr (.inr e5)
          ((refine Zq ?_; refine Za ?_; refine Seq.done ?_; refine Zc ?_; refine Wp.skip ?_; refine thenN ?_; refine Zc ?_; refine Wp.seq ?_; refine Wp.region ?_; refine Zq ?_; refine Zf T ?_; refine Zq ?_; refine Zl T 0 ?_))
          (((refine Zq ?_)); (refine q_eqlD (by exact rfl) (by exact rfl) (fun d1 => ?_) (fun d1 => ?_)))
          · ((refine Zq ?_; refine Zm ?_; refine Zy ?_; refine Zf T ?_; refine Zy ?_; refine Zl T 0 ?_; refine Zy ?_; refine Zs T ?_))
            (((refine Zy ?_)); (refine q_eqlD (by exact rfl) (by exact rfl) (fun d2 => ?_) (fun d2 => ?_)))
            · obtain ⟨a, b, hab⟩ := two_of (l := e.kids) (by omega)
              have sa := GExpr.kids_lt (x := e) (k := a) (by rw [hab]; simp)
              have sb := GExpr.kids_lt (x := e) (k := b) (by rw [hab]; simp)
              ((refine Zq ?_; refine Zt ?_; refine Zq ?_; refine Zm ?_; refine Zy ?_; refine Zf T ?_; refine Zy ?_; refine Zl T 0 ?_))
              (((refine Zy ?_)); refine q_index T 0 (by exact rfl) (by exact rfl) (by exact rfl) (by exact rfl) (by exact rfl) (by exact rfl) hk (by first | rfl | omega) (by rw [hab]; rfl : e.kids[0]? = some a) (fun p hp => ?_))
              (((refine Zy ?_)); refine q_load_at T (by exact rfl) (by exact rfl) (by exact rfl) hp (by exact rfl) ?_)
              intro cs hcs
              obtain ⟨va, rfl, ha⟩ := gExprL_open hcs
              ((refine Zy ?_; refine Zm ?_))
              (((refine Zy ?_)); refine q_callB (by exact rfl) (by exact rfl) (right_aux s (e := a) (m := m) (by omega) ha) (fun f1 => ?_) (fun f1 => ?_))
              · ((refine Zq ?_; refine Zt ?_; refine Zq ?_; refine Zm ?_; refine Zy ?_; refine Zf T ?_; refine Zy ?_; refine Zl T 0 ?_))
                (((refine Zy ?_)); refine q_index T 1 (by exact rfl) (by exact rfl) (by exact rfl) (by exact rfl) (by exact rfl) (by exact rfl) hk (by first | rfl | omega) (by rw [hab]; rfl : e.kids[1]? = some b) (fun p2 hp2 => ?_))
                (((refine Zy ?_)); refine q_load_at T (by exact rfl) (by exact rfl) (by exact rfl) hp2 (by exact rfl) ?_)
                intro cs2 hcs2
                obtain ⟨vb, rfl, hb2⟩ := gExprL_open hcs2
                ((refine Zy ?_; refine Zm ?_))
                (((refine Zy ?_)); refine q_call (by exact rfl) (by exact rfl) (right_aux s (e := b) (m := m) (by omega) hb2) ?_)
                ((refine Zq ?_; refine Zt ?_; refine Zq ?_; refine Za ?_; refine Seq.done ?_; refine Wp.ret ?_; refine blkR ?_; refine thenR ?_))
                (exact ret1 rfl rfl (by repeat (first | exact List.Sublist.refl _ | exact List.nil_sublist _ | refine List.Sublist.cons_cons _ ?_ | refine List.Sublist.cons _ ?_)) (bool_same (by rw [right_two hb d1 hab]; exact (and_iff_right (of_decide_eq_true f1)).symm)))
              · ((refine Zq ?_; refine Zt ?_; refine Zq ?_; refine Zm ?_; refine Zn ?_; refine Zn ?_; refine Zn ?_; refine Zn ?_; refine Zn ?_; refine Zn ?_; refine Zq ?_; refine Zu ?_; refine Zq ?_; refine Za ?_; refine Seq.done ?_; refine Wp.ret ?_; refine blkR ?_; refine thenR ?_))
                (exact ret1 rfl rfl (by repeat (first | exact List.Sublist.refl _ | exact List.nil_sublist _ | refine List.Sublist.cons_cons _ ?_ | refine List.Sublist.cons _ ?_)) (bool_false (fun hc => of_decide_eq_false f1 ((right_two hb d1 hab).1 hc).1)))
            · ((refine Zq ?_; refine Zt ?_; refine Zq ?_; refine Zm ?_; refine Zn ?_; refine Zn ?_; refine Zn ?_; refine Zn ?_; refine Zn ?_; refine Zn ?_; refine Zq ?_; refine Zu ?_; refine Zq ?_; refine Zm ?_; refine Zn ?_; refine Zn ?_; refine Zn ?_; refine Zn ?_; refine Zn ?_; refine Zn ?_; refine Zq ?_; refine Zu ?_; refine Zq ?_; refine Za ?_; refine Seq.done ?_; refine Wp.ret ?_; refine blkR ?_; refine thenR ?_))
              (exact ret1 rfl rfl (by repeat (first | exact List.Sublist.refl _ | exact List.nil_sublist _ | refine List.Sublist.cons_cons _ ?_ | refine List.Sublist.cons _ ?_)) (bool_false (fun hc => by obtain ⟨_, a, b, h1, _⟩ := (right_bin hb).1 hc; rw [h1] at l1; simp at l1; omega)))
          · ((refine Zq ?_; refine Zm ?_; refine Zn ?_; refine Zn ?_; refine Zn ?_; refine Zn ?_; refine Zq ?_; refine Zu ?_; refine Zq ?_; refine Zm ?_; refine Zn ?_; refine Zn ?_; refine Zn ?_; refine Zn ?_; refine Zn ?_; refine Zn ?_; refine Zq ?_; refine Zu ?_; refine Zq ?_; refine Zm ?_; refine Zn ?_; refine Zn ?_; refine Zn ?_; refine Zn ?_; refine Zn ?_; refine Zn ?_; refine Zq ?_; refine Zu ?_; refine Zq ?_; refine Za ?_; refine Seq.done ?_; refine Wp.ret ?_; refine blkR ?_; refine thenR ?_))
            (exact ret1 rfl rfl (by repeat (first | exact List.Sublist.refl _ | exact List.nil_sublist _ | refine List.Sublist.cons_cons _ ?_ | refine List.Sublist.cons _ ?_)) (bool_false (fun hc => d1 ((right_bin hb).1 hc).1)))
        · have hb : e.op = kPlus ∨ e.op = kMinus ∨ e.op = kTimes := by
            first
            | exact .inl e3
            | exact .inr (.inl e4)
            | exact .inr (.inr e5)
          ((refine Zq ?_; refine Za ?_; refine Seq.done ?_; refine Zc ?_; refine Wp.skip ?_; refine thenN ?_; refine Zc ?_; refine Wp.seq ?_; refine Wp.region ?_; refine Zq ?_; refine Zf T ?_; refine Zq ?_; refine Zl T 0 ?_))
          (((refine Zq ?_)); (refine q_eqlD (by exact rfl) (by exact rfl) (fun d1 => ?_) (fun d1 => ?_)))
          · ((refine Zq ?_; refine Zm ?_; refine Zy ?_; refine Zf T ?_; refine Zy ?_; refine Zl T 0 ?_; refine Zy ?_; refine Zs T ?_))
            (((refine Zy ?_)); (refine q_eqlD (by exact rfl) (by exact rfl) (fun d2 => ?_) (fun d2 => ?_)))
            · obtain ⟨a, b, hab⟩ := two_of (l := e.kids) (by omega)
              have sa := GExpr.kids_lt (x := e) (k := a) (by rw [hab]; simp)
              have sb := GExpr.kids_lt (x := e) (k := b) (by rw [hab]; simp)
              ((refine Zq ?_; refine Zt ?_; refine Zq ?_; refine Zm ?_; refine Zy ?_; refine Zf T ?_; refine Zy ?_; refine Zl T 0 ?_))
              (((refine Zy ?_)); refine q_index T 0 (by exact rfl) (by exact rfl) (by exact rfl) (by exact rfl) (by exact rfl) (by exact rfl) hk (by first | rfl | omega) (by rw [hab]; rfl : e.kids[0]? = some a) (fun p hp => ?_))
              (((refine Zy ?_)); refine q_load_at T (by exact rfl) (by exact rfl) (by exact rfl) hp (by exact rfl) ?_)
              intro cs hcs
              obtain ⟨va, rfl, ha⟩ := gExprL_open hcs
              ((refine Zy ?_; refine Zm ?_))
              (((refine Zy ?_)); refine q_callB (by exact rfl) (by exact rfl) (right_aux s (e := a) (m := m) (by omega) ha) (fun f1 => ?_) (fun f1 => ?_))
              · ((refine Zq ?_; refine Zt ?_; refine Zq ?_; refine Zm ?_; refine Zy ?_; refine Zf T ?_; refine Zy ?_; refine Zl T 0 ?_))
                (((refine Zy ?_)); refine q_index T 1 (by exact rfl) (by exact rfl) (by exact rfl) (by exact rfl) (by exact rfl) (by exact rfl) hk (by first | rfl | omega) (by rw [hab]; rfl : e.kids[1]? = some b) (fun p2 hp2 => ?_))
                (((refine Zy ?_)); refine q_load_at T (by exact rfl) (by exact rfl) (by exact rfl) hp2 (by exact rfl) ?_)
                intro cs2 hcs2
                obtain ⟨vb, rfl, hb2⟩ := gExprL_open hcs2
                ((refine Zy ?_; refine Zm ?_))
                (((refine Zy ?_)); refine q_call (by exact rfl) (by exact rfl) (right_aux s (e := b) (m := m) (by omega) hb2) ?_)
                ((refine Zq ?_; refine Zt ?_; refine Zq ?_; refine Za ?_; refine Seq.done ?_; refine Wp.ret ?_; refine blkR ?_; refine thenR ?_))
                (exact ret1 rfl rfl (by repeat (first | exact List.Sublist.refl _ | exact List.nil_sublist _ | refine List.Sublist.cons_cons _ ?_ | refine List.Sublist.cons _ ?_)) (bool_same (by rw [right_two hb d1 hab]; exact (and_iff_right (of_decide_eq_true f1)).symm)))
              · ((refine Zq ?_; refine Zt ?_; refine Zq ?_; refine Zm ?_; refine Zn ?_; refine Zn ?_; refine Zn ?_; refine Zn ?_; refine Zn ?_; refine Zn ?_; refine Zq ?_; refine Zu ?_; refine Zq ?_; refine Za ?_; refine Seq.done ?_; refine Wp.ret ?_; refine blkR ?_; refine thenR ?_))
                (exact ret1 rfl rfl (by repeat (first | exact List.Sublist.refl _ | exact List.nil_sublist _ | refine List.Sublist.cons_cons _ ?_ | refine List.Sublist.cons _ ?_)) (bool_false (fun hc => of_decide_eq_false f1 ((right_two hb d1 hab).1 hc).1)))
            · ((refine Zq ?_; refine Zt ?_; refine Zq ?_; refine Zm ?_; refine Zn ?_; refine Zn ?_; refine Zn ?_; refine Zn ?_; refine Zn ?_; refine Zn ?_; refine Zq ?_; refine Zu ?_; refine Zq ?_; refine Zm ?_; refine Zn ?_; refine Zn ?_; refine Zn ?_; refine Zn ?_; refine Zn ?_; refine Zn ?_; refine Zq ?_; refine Zu ?_; refine Zq ?_; refine Za ?_; refine Seq.done ?_; refine Wp.ret ?_; refine blkR ?_; refine thenR ?_))
              (exact ret1 rfl rfl (by repeat (first | exact List.Sublist.refl _ | exact List.nil_sublist _ | refine List.Sublist.cons_cons _ ?_ | refine List.Sublist.cons _ ?_)) (bool_false (fun hc => by obtain ⟨_, a, b, h1, _⟩ := (right_bin hb).1 hc; rw [h1] at l1; simp at l1; omega)))
          · ((refine Zq ?_; refine Zm ?_; refine Zn ?_; refine Zn ?_; refine Zn ?_; refine Zn ?_; refine Zq ?_; refine Zu ?_; refine Zq ?_; refine Zm ?_; refine Zn ?_; refine Zn ?_; refine Zn ?_; refine Zn ?_; refine Zn ?_; refine Zn ?_; refine Zq ?_; refine Zu ?_; refine Zq ?_; refine Zm ?_; refine Zn ?_; refine Zn ?_; refine Zn ?_; refine Zn ?_; refine Zn ?_; refine Zn ?_; refine Zq ?_; refine Zu ?_; refine Zq ?_; refine Za ?_; refine Seq.done ?_; refine Wp.ret ?_; refine blkR ?_; refine thenR ?_))
            (exact ret1 rfl rfl (by repeat (first | exact List.Sublist.refl _ | exact List.nil_sublist _ | refine List.Sublist.cons_cons _ ?_ | refine List.Sublist.cons _ ?_)) (bool_false (fun hc => d1 ((right_bin hb).1 hc).1)))
        · have hb : e.op = kPlus ∨ e.op = kMinus ∨ e.op = kTimes := by
            first
            | exact .inl e3
            | exact .inr (.inl e4)
            | exact .inr (.inr e5)
          ((refine Zq ?_; refine Za ?_; refine Seq.done ?_; refine Zc ?_; refine Wp.seq ?_; refine Wp.region ?_; refine Zq ?_; refine Zf T ?_; refine Zq ?_; refine Zl T 0 ?_))
          (((refine Zq ?_)); (refine q_eqlD (by exact rfl) (by exact rfl) (fun d1 => ?_) (fun d1 => ?_)))
          · ((refine Zq ?_; refine Zm ?_; refine Zy ?_; refine Zf T ?_; refine Zy ?_; refine Zl T 0 ?_; refine Zy ?_; refine Zs T ?_))
            (((refine Zy ?_)); (refine q_eqlD (by exact rfl) (by exact rfl) (fun d2 => ?_) (fun d2 => ?_)))
            · obtain ⟨a, b, hab⟩ := two_of (l := e.kids) (by omega)
              have sa := GExpr.kids_lt (x := e) (k := a) (by rw [hab]; simp)
              have sb := GExpr.kids_lt (x := e) (k := b) (by rw [hab]; simp)
              ((refine Zq ?_; refine Zt ?_; refine Zq ?_; refine Zm ?_; refine Zy ?_; refine Zf T ?_; refine Zy ?_; refine Zl T 0 ?_))
              (((refine Zy ?_)); refine q_index T 0 (by exact rfl) (by exact rfl) (by exact rfl) (by exact rfl) (by exact rfl) (by exact rfl) hk (by first | rfl | omega) (by rw [hab]; rfl : e.kids[0]? = some a) (fun p hp => ?_))
              (((refine Zy ?_)); refine q_load_at T (by exact rfl) (by exact rfl) (by exact rfl) hp (by exact rfl) ?_)
              intro cs hcs
              obtain ⟨va, rfl, ha⟩ := gExprL_open hcs
              ((refine Zy ?_; refine Zm ?_))
              (((refine Zy ?_)); refine q_callB (by exact rfl) (by exact rfl) (right_aux s (e := a) (m := m) (by omega) ha) (fun f1 => ?_) (fun f1 => ?_))
              · ((refine Zq ?_; refine Zt ?_; refine Zq ?_; refine Zm ?_; refine Zy ?_; refine Zf T ?_; refine Zy ?_; refine Zl T 0 ?_))
                (((refine Zy ?_)); refine q_index T 1 (by exact rfl) (by exact rfl) (by exact rfl) (by exact rfl) (by exact rfl) (by exact rfl) hk (by first | rfl | omega) (by rw [hab]; rfl : e.kids[1]? = some b) (fun p2 hp2 => ?_))
                (((refine Zy ?_)); refine q_load_at T (by exact rfl) (by exact rfl) (by exact rfl) hp2 (by exact rfl) ?_)
                intro cs2 hcs2
                obtain ⟨vb, rfl, hb2⟩ := gExprL_open hcs2
                ((refine Zy ?_; refine Zm ?_))
                (((refine Zy ?_)); refine q_call (by exact rfl) (by exact rfl) (right_aux s (e := b) (m := m) (by omega) hb2) ?_)
                ((refine Zq ?_; refine Zt ?_; refine Zq ?_; refine Za ?_; refine Seq.done ?_; refine Wp.ret ?_; refine blkR ?_; refine thenR ?_))
                (exact ret1 rfl rfl (by repeat (first | exact List.Sublist.refl _ | exact List.nil_sublist _ | refine List.Sublist.cons_cons _ ?_ | refine List.Sublist.cons _ ?_)) (bool_same (by rw [right_two hb d1 hab]; exact (and_iff_right (of_decide_eq_true f1)).symm)))
              · ((refine Zq ?_; refine Zt ?_; refine Zq ?_; refine Zm ?_; refine Zn ?_; refine Zn ?_; refine Zn ?_; refine Zn ?_; refine Zn ?_; refine Zn ?_; refine Zq ?_; refine Zu ?_; refine Zq ?_; refine Za ?_; refine Seq.done ?_; refine Wp.ret ?_; refine blkR ?_; refine thenR ?_))
                (exact ret1 rfl rfl (by repeat (first | exact List.Sublist.refl _ | exact List.nil_sublist _ | refine List.Sublist.cons_cons _ ?_ | refine List.Sublist.cons _ ?_)) (bool_false (fun hc => of_decide_eq_false f1 ((right_two hb d1 hab).1 hc).1)))
            · ((refine Zq ?_; refine Zt ?_; refine Zq ?_; refine Zm ?_; refine Zn ?_; refine Zn ?_; refine Zn ?_; refine Zn ?_; refine Zn ?_; refine Zn ?_; refine Zq ?_; refine Zu ?_; refine Zq ?_; refine Zm ?_; refine Zn ?_; refine Zn ?_; refine Zn ?_; refine Zn ?_; refine Zn ?_; refine Zn ?_; refine Zq ?_; refine Zu ?_; refine Zq ?_; refine Za ?_; refine Seq.done ?_; refine Wp.ret ?_; refine blkR ?_; refine thenR ?_))
              (exact ret1 rfl rfl (by repeat (first | exact List.Sublist.refl _ | exact List.nil_sublist _ | refine List.Sublist.cons_cons _ ?_ | refine List.Sublist.cons _ ?_)) (bool_false (fun hc => by obtain ⟨_, a, b, h1, _⟩ := (right_bin hb).1 hc; rw [h1] at l1; simp at l1; omega)))
          · ((refine Zq ?_; refine Zm ?_; refine Zn ?_; refine Zn ?_; refine Zn ?_; refine Zn ?_; refine Zq ?_; refine Zu ?_; refine Zq ?_; refine Zm ?_; refine Zn ?_; refine Zn ?_; refine Zn ?_; refine Zn ?_; refine Zn ?_; refine Zn ?_; refine Zq ?_; refine Zu ?_; refine Zq ?_; refine Zm ?_; refine Zn ?_; refine Zn ?_; refine Zn ?_; refine Zn ?_; refine Zn ?_; refine Zn ?_; refine Zq ?_; refine Zu ?_; refine Zq ?_; refine Za ?_; refine Seq.done ?_; refine Wp.ret ?_; refine blkR ?_; refine thenR ?_))
            (exact ret1 rfl rfl (by repeat (first | exact List.Sublist.refl _ | exact List.nil_sublist _ | refine List.Sublist.cons_cons _ ?_ | refine List.Sublist.cons _ ?_)) (bool_false (fun hc => d1 ((right_bin hb).1 hc).1)))
theorem right_q {fz : FZ} {e : GExpr} {v : Value} {m : Int} (h : GExprR fz e v) : QFn Tryz.prog 55 [eV e v, .int .i64 m] fz (.bool (decide (RightP m e))) := right_aux _ (Nat.le_refl _) h
abbrev gV (v1 v2 v3 v4 v5 : Value) : Value := .agg #[v1, v2, v3, v4, v5]
abbrev cV (v1 v2 v3 : Value) : Value := .agg #[v1, v2, v3]
abbrev sV (v1 v2 : Value) : Value := .agg #[v1, v2]
end Go.Proofs.YtegmololhnipiaaGreatDoor
namespace Go.Proofs.YtegmololhnipiaaGreatDoor
open Go.Lx Go.Gr Go.RowKit
attribute [local instance 10] Classical.propDecidable
theorem condition_q {fz : FZ} {g : GTask} {v1 v2 v3 v4 v5 : Value} {c : Cond} {u1 u2 u3 : Value} (hg : GTaskR fz g v1 v2 v3 v4 v5) (hc : CondR fz c u1 u2 u3) :
    QFn Tryz.prog 41 [gV v1 v2 v3 v4 v5, cV u1 u2 u3] fz (.bool (decide (CondOk g.atoms.length g.fluents.length c))) := by
  (obtain ⟨A1, n1, cap1, rfl, ga⟩ := hg.atoms; obtain ⟨A2, n2, cap2, rfl, gf⟩ := hg.fluents; obtain ⟨A3, n3, cap3, rfl, gi⟩ := hg.init; obtain ⟨A4, n4, cap4, rfl, gg⟩ := hg.goal; obtain ⟨A5, n5, cap5, rfl, go⟩ := hg.ops; have e1 := ga.len; subst e1; have e2 := gf.len; subst e2)
  (obtain ⟨B1, m1, d1, rfl, cp⟩ := hc.pos; obtain ⟨B2, m2, d2, rfl, cn⟩ := hc.neg; obtain ⟨B3, m3, d3, rfl, ct⟩ := hc.tests)
  have l3 := ct.len
  have hm := ct.short
  refine GFn.quiet ?_
  (refine GFn.of_wp Tryz.func41 rfl Tryz.ntmps41 rfl rfl (fun w0 => ?_))
  (refine Wp.seq (Wp.region (Seq.stepK (by exact rfl) (k_box _ (by exact rfl) (by exact rfl) (fun g0 => ?_)))))
  (refine Seq.stepK (by exact rfl) (k_box _ (by exact rfl) (by exact rfl) (fun g1 => ?_)))
  ((refine Zq ?_; refine Za ?_; refine Seq.done ?_; refine Wp.seq ?_; refine Wp.seq ?_; refine Wp.region ?_; refine Zq ?_; refine Zf T ?_; refine Zq ?_; refine Zl T 0 ?_; refine Zq ?_; refine Zs T ?_; refine Zq ?_; refine Zm ?_; refine Seq.done ?_; refine Wp.block ?_))
  (refine Wp.loop (fun q σ fz' H' => ∃ k : Nat, k ≤ m3 ∧ q = m3 - k ∧ σ = [(10, .int .i64 k), (9, .int .i64 m3), (8, .slice B3 m3 d3), (2, .pointer (some ⟨g0, 0, none⟩)), (3, .pointer (some ⟨g1, 0, none⟩))] ∧ fz = fz' ∧ H' = [((g1, .cells #[.slice B1 m1 d1, .slice B2 m2 d2, .slice B3 m3 d3] 42 (0, 0))), ((g0, .cells #[.slice A1 g.atoms.length cap1, .slice A2 g.fluents.length cap2, .slice A3 n3 cap3, .slice A4 n4 cap4, .slice A5 n5 cap5] 28 (0, 0)))] ∧ (∀ i, i < k → ∀ t, c.tests[i]? = some t → TestOk g.fluents.length t)) ⟨0, Nat.zero_le _, rfl, rfl, rfl, rfl, (fun i hi => absurd hi (by omega))⟩ (by repeat (first | exact trivial | refine ⟨by exact rfl, ?_⟩)) (by repeat (first | exact List.Sublist.refl _ | exact List.nil_sublist _ | refine List.Sublist.cons_cons _ ?_ | refine List.Sublist.cons _ ?_)) ?_; rintro q σ fz' H' ⟨k, hk, rfl, rfl, rfl, rfl, hh⟩)
  ((refine Wp.seq ?_; refine Wp.region ?_))
  (((refine Zq ?_)); (refine q_lssD (by exact rfl) (by exact rfl) (fun hlt => ?_) (fun hge => ?_)))
  · ((refine Seq.done ?_; refine Wp.seq ?_; refine Zc ?_; refine Wp.skip ?_; refine thenN ?_; refine Wp.seq ?_; refine Wp.block ?_; refine Wp.seq ?_; refine Wp.region ?_))
    obtain ⟨t, ht⟩ := get_some (l := c.tests) (k := k) (by omega)
    (((refine Zq ?_)); refine q_index T k (by exact rfl) (by exact rfl) (by exact rfl) (by exact rfl) (by exact rfl) (by exact rfl) ct (by first | rfl | omega) ht (fun p hp => ?_))
    (((refine Zq ?_)); refine q_load_at T (by exact rfl) (by exact rfl) (by exact rfl) hp (by exact rfl) ?_)
    intro cs hcs
    obtain ⟨w1, w2, rfl, hR⟩ := gTestL_open hcs
    obtain ⟨Ea, na, ca, rfl, _⟩ := hR.a.kids
    obtain ⟨Eb, nb, cb, rfl, _⟩ := hR.b.kids
    have bad : ¬ TestOk g.fluents.length t → ¬ CondOk g.atoms.length g.fluents.length c := fun h hc => h (hc.2.2 t (List.mem_of_getElem? ht))
    ((refine Seq.stepK (by exact rfl) (k_alloc T (by exact rfl) (by exact rfl) (fun _ => ?_)); refine Seq.stepK0 (k_store0 T (by exact rfl) (by exact rfl) (by exact rfl) (by exact rfl) (by exact rfl) (by exact rfl) ?_); refine Seq.done ?_; refine Wp.seq ?_; refine Wp.region ?_; refine Zq ?_; refine Zf T ?_; refine Zq ?_; refine Zl T 0 ?_))
    (((refine Zq ?_)); (refine q_neq_strD (by exact rfl) (by exact rfl) (fun x1 => ?_) (fun o1 => ?_)))
    ((refine Zq ?_; refine Zm ?_; refine Zy ?_; refine Zf T ?_; refine Zy ?_; refine Zl T 0 ?_))
    (((refine Zy ?_)); (refine q_neq_strD (by exact rfl) (by exact rfl) (fun x2 => ?_) (fun o2 => ?_)))
    ((refine Zq ?_; refine Zt ?_; refine Zq ?_; refine Zm ?_; refine Zy ?_; refine Zf T ?_; refine Zy ?_; refine Zl T 0 ?_))
    (((refine Zy ?_)); (refine q_neq_strD (by exact rfl) (by exact rfl) (fun x3 => ?_) (fun o3 => ?_)))
    ((refine Zq ?_; refine Zt ?_; refine Zq ?_; refine Zm ?_; refine Zn ?_; refine Zn ?_; refine Zn ?_; refine Zn ?_; refine Zn ?_; refine Zn ?_; refine Zn ?_; refine Zq ?_; refine Zt ?_; refine Zq ?_; refine Zm ?_; refine Zn ?_; refine Zn ?_; refine Zn ?_; refine Zn ?_; refine Zn ?_; refine Zn ?_; refine Zn ?_; refine Zq ?_; refine Zt ?_; refine Seq.done ?_; refine Zc ?_; refine Wp.seq ?_; refine Wp.region ?_; refine Zq ?_; refine Za ?_; refine Seq.done ?_; refine Wp.ret ?_; refine blkR ?_; refine thenR ?_; refine loopR ?_; refine blkR ?_; refine thenR ?_))
    (exact ret1 rfl rfl (by repeat (first | exact List.Sublist.refl _ | exact List.nil_sublist _ | refine List.Sublist.cons_cons _ ?_ | refine List.Sublist.cons _ ?_)) (bool_false (bad (fun h => by rcases h.1 with h | h | h <;> contradiction))))
    · have hop : t.op = kLt ∨ t.op = kLe ∨ t.op = kEq := by
        first
        | exact .inl o1
        | exact .inr (.inl o2)
        | exact .inr (.inr o3)
      ((refine Zq ?_; refine Zt ?_; refine Zq ?_; refine Zm ?_; refine Zy ?_; refine Zf T ?_))
      (((refine Zy ?_)); refine q_load_own_sub (vs := [.string t.a.op, .int .i64 t.a.n, .slice Ea na ca]) T 0 (by exact rfl) (by exact rfl) (by exact rfl) (by exact rfl) (by exact rfl) (by exact rfl) ?_)
      ((refine Zy ?_; refine Zf T ?_; refine Zy ?_; refine Zl T 2 ?_; refine Zy ?_; refine Zs T ?_))
      (((refine Zy ?_)); refine q_callB (by exact rfl) (by exact rfl) (right_q (m := g.fluents.length) hR.a) (fun f1 => ?_) (fun f1 => ?_))
      · ((refine Zy ?_; refine q_not (by exact rfl) ?_; refine Zq ?_; refine Zu ?_; refine Zq ?_; refine Zm ?_; refine Zy ?_; refine Zf T ?_))
        (((refine Zy ?_)); refine q_load_own_sub (vs := [.string t.b.op, .int .i64 t.b.n, .slice Eb nb cb]) T 0 (by exact rfl) (by exact rfl) (by exact rfl) (by exact rfl) (by exact rfl) (by exact rfl) ?_)
        ((refine Zy ?_; refine Zf T ?_; refine Zy ?_; refine Zl T 2 ?_; refine Zy ?_; refine Zs T ?_))
        (((refine Zy ?_)); refine q_callB (by exact rfl) (by exact rfl) (right_q (m := g.fluents.length) hR.b) (fun f2 => ?_) (fun f2 => ?_))
        · ((refine Zy ?_; refine q_not (by exact rfl) ?_; refine Zq ?_; refine Zu ?_; refine Seq.done ?_; refine Zd ?_; refine Wp.skip ?_; refine blkN ?_; refine thenN ?_; refine Wp.region ?_; refine Zq ?_; refine q_add (by exact rfl) (by exact rfl) (wrap_in (by omega)) ?_; refine Zq ?_; refine Zm ?_; refine Seq.end_ ?_))
          (exact loopN ⟨k + 1, by omega, rfl, rfl, rfl, rfl, (all_next hh ht ⟨hop, of_decide_eq_true f1, of_decide_eq_true f2⟩)⟩ (by omega) (by repeat (first | exact trivial | refine ⟨by exact rfl, ?_⟩)) (by repeat (first | exact List.Sublist.refl _ | exact List.nil_sublist _ | refine List.Sublist.cons_cons _ ?_ | refine List.Sublist.cons _ ?_)))
        · ((refine Zy ?_; refine q_not (by exact rfl) ?_; refine Zq ?_; refine Zu ?_; refine Seq.done ?_; refine Zc ?_; refine Wp.seq ?_; refine Wp.region ?_; refine Zq ?_; refine Za ?_; refine Seq.done ?_; refine Wp.ret ?_; refine blkR ?_; refine thenR ?_; refine loopR ?_; refine blkR ?_; refine thenR ?_))
          (exact ret1 rfl rfl (by repeat (first | exact List.Sublist.refl _ | exact List.nil_sublist _ | refine List.Sublist.cons_cons _ ?_ | refine List.Sublist.cons _ ?_)) (bool_false (bad (fun h => of_decide_eq_false f2 h.2.2))))
      · ((refine Zy ?_; refine q_not (by exact rfl) ?_; refine Zq ?_; refine Zu ?_; refine Zq ?_; refine Zm ?_; refine Zn ?_; refine Zn ?_; refine Zn ?_; refine Zn ?_; refine Zn ?_; refine Zn ?_; refine Zn ?_; refine Zq ?_; refine Zt ?_; refine Seq.done ?_; refine Zc ?_; refine Wp.seq ?_; refine Wp.region ?_; refine Zq ?_; refine Za ?_; refine Seq.done ?_; refine Wp.ret ?_; refine blkR ?_; refine thenR ?_; refine loopR ?_; refine blkR ?_; refine thenR ?_))
        (exact ret1 rfl rfl (by repeat (first | exact List.Sublist.refl _ | exact List.nil_sublist _ | refine List.Sublist.cons_cons _ ?_ | refine List.Sublist.cons _ ?_)) (bool_false (bad (fun h => of_decide_eq_false f1 h.2.1))))
    · have hop : t.op = kLt ∨ t.op = kLe ∨ t.op = kEq := by
        first
        | exact .inl o1
        | exact .inr (.inl o2)
        | exact .inr (.inr o3)
      ((refine Zq ?_; refine Zt ?_; refine Zq ?_; refine Zm ?_; refine Zn ?_; refine Zn ?_; refine Zn ?_; refine Zq ?_; refine Zu ?_; refine Zq ?_; refine Zm ?_; refine Zy ?_; refine Zf T ?_))
      (((refine Zy ?_)); refine q_load_own_sub (vs := [.string t.a.op, .int .i64 t.a.n, .slice Ea na ca]) T 0 (by exact rfl) (by exact rfl) (by exact rfl) (by exact rfl) (by exact rfl) (by exact rfl) ?_)
      ((refine Zy ?_; refine Zf T ?_; refine Zy ?_; refine Zl T 2 ?_; refine Zy ?_; refine Zs T ?_))
      (((refine Zy ?_)); refine q_callB (by exact rfl) (by exact rfl) (right_q (m := g.fluents.length) hR.a) (fun f1 => ?_) (fun f1 => ?_))
      · ((refine Zy ?_; refine q_not (by exact rfl) ?_; refine Zq ?_; refine Zu ?_; refine Zq ?_; refine Zm ?_; refine Zy ?_; refine Zf T ?_))
        (((refine Zy ?_)); refine q_load_own_sub (vs := [.string t.b.op, .int .i64 t.b.n, .slice Eb nb cb]) T 0 (by exact rfl) (by exact rfl) (by exact rfl) (by exact rfl) (by exact rfl) (by exact rfl) ?_)
        ((refine Zy ?_; refine Zf T ?_; refine Zy ?_; refine Zl T 2 ?_; refine Zy ?_; refine Zs T ?_))
        (((refine Zy ?_)); refine q_callB (by exact rfl) (by exact rfl) (right_q (m := g.fluents.length) hR.b) (fun f2 => ?_) (fun f2 => ?_))
        · ((refine Zy ?_; refine q_not (by exact rfl) ?_; refine Zq ?_; refine Zu ?_; refine Seq.done ?_; refine Zd ?_; refine Wp.skip ?_; refine blkN ?_; refine thenN ?_; refine Wp.region ?_; refine Zq ?_; refine q_add (by exact rfl) (by exact rfl) (wrap_in (by omega)) ?_; refine Zq ?_; refine Zm ?_; refine Seq.end_ ?_))
          (exact loopN ⟨k + 1, by omega, rfl, rfl, rfl, rfl, (all_next hh ht ⟨hop, of_decide_eq_true f1, of_decide_eq_true f2⟩)⟩ (by omega) (by repeat (first | exact trivial | refine ⟨by exact rfl, ?_⟩)) (by repeat (first | exact List.Sublist.refl _ | exact List.nil_sublist _ | refine List.Sublist.cons_cons _ ?_ | refine List.Sublist.cons _ ?_)))
        · ((refine Zy ?_; refine q_not (by exact rfl) ?_; refine Zq ?_; refine Zu ?_; refine Seq.done ?_; refine Zc ?_; refine Wp.seq ?_; refine Wp.region ?_; refine Zq ?_; refine Za ?_; refine Seq.done ?_; refine Wp.ret ?_; refine blkR ?_; refine thenR ?_; refine loopR ?_; refine blkR ?_; refine thenR ?_))
          (exact ret1 rfl rfl (by repeat (first | exact List.Sublist.refl _ | exact List.nil_sublist _ | refine List.Sublist.cons_cons _ ?_ | refine List.Sublist.cons _ ?_)) (bool_false (bad (fun h => of_decide_eq_false f2 h.2.2))))
      · ((refine Zy ?_; refine q_not (by exact rfl) ?_; refine Zq ?_; refine Zu ?_; refine Zq ?_; refine Zm ?_; refine Zn ?_; refine Zn ?_; refine Zn ?_; refine Zn ?_; refine Zn ?_; refine Zn ?_; refine Zn ?_; refine Zq ?_; refine Zt ?_; refine Seq.done ?_; refine Zc ?_; refine Wp.seq ?_; refine Wp.region ?_; refine Zq ?_; refine Za ?_; refine Seq.done ?_; refine Wp.ret ?_; refine blkR ?_; refine thenR ?_; refine loopR ?_; refine blkR ?_; refine thenR ?_))
        (exact ret1 rfl rfl (by repeat (first | exact List.Sublist.refl _ | exact List.nil_sublist _ | refine List.Sublist.cons_cons _ ?_ | refine List.Sublist.cons _ ?_)) (bool_false (bad (fun h => of_decide_eq_false f1 h.2.1))))
    · have hop : t.op = kLt ∨ t.op = kLe ∨ t.op = kEq := by
        first
        | exact .inl o1
        | exact .inr (.inl o2)
        | exact .inr (.inr o3)
      ((refine Zq ?_; refine Zm ?_; refine Zn ?_; refine Zn ?_; refine Zn ?_; refine Zq ?_; refine Zu ?_; refine Zq ?_; refine Zm ?_; refine Zn ?_; refine Zn ?_; refine Zn ?_; refine Zq ?_; refine Zu ?_; refine Zq ?_; refine Zm ?_; refine Zy ?_; refine Zf T ?_))
      (((refine Zy ?_)); refine q_load_own_sub (vs := [.string t.a.op, .int .i64 t.a.n, .slice Ea na ca]) T 0 (by exact rfl) (by exact rfl) (by exact rfl) (by exact rfl) (by exact rfl) (by exact rfl) ?_)
      ((refine Zy ?_; refine Zf T ?_; refine Zy ?_; refine Zl T 2 ?_; refine Zy ?_; refine Zs T ?_))
      (((refine Zy ?_)); refine q_callB (by exact rfl) (by exact rfl) (right_q (m := g.fluents.length) hR.a) (fun f1 => ?_) (fun f1 => ?_))
      · ((refine Zy ?_; refine q_not (by exact rfl) ?_; refine Zq ?_; refine Zu ?_; refine Zq ?_; refine Zm ?_; refine Zy ?_; refine Zf T ?_))
        (((refine Zy ?_)); refine q_load_own_sub (vs := [.string t.b.op, .int .i64 t.b.n, .slice Eb nb cb]) T 0 (by exact rfl) (by exact rfl) (by exact rfl) (by exact rfl) (by exact rfl) (by exact rfl) ?_)
        ((refine Zy ?_; refine Zf T ?_; refine Zy ?_; refine Zl T 2 ?_; refine Zy ?_; refine Zs T ?_))
        (((refine Zy ?_)); refine q_callB (by exact rfl) (by exact rfl) (right_q (m := g.fluents.length) hR.b) (fun f2 => ?_) (fun f2 => ?_))
        · ((refine Zy ?_; refine q_not (by exact rfl) ?_; refine Zq ?_; refine Zu ?_; refine Seq.done ?_; refine Zd ?_; refine Wp.skip ?_; refine blkN ?_; refine thenN ?_; refine Wp.region ?_; refine Zq ?_; refine q_add (by exact rfl) (by exact rfl) (wrap_in (by omega)) ?_; refine Zq ?_; refine Zm ?_; refine Seq.end_ ?_))
          (exact loopN ⟨k + 1, by omega, rfl, rfl, rfl, rfl, (all_next hh ht ⟨hop, of_decide_eq_true f1, of_decide_eq_true f2⟩)⟩ (by omega) (by repeat (first | exact trivial | refine ⟨by exact rfl, ?_⟩)) (by repeat (first | exact List.Sublist.refl _ | exact List.nil_sublist _ | refine List.Sublist.cons_cons _ ?_ | refine List.Sublist.cons _ ?_)))
        · ((refine Zy ?_; refine q_not (by exact rfl) ?_; refine Zq ?_; refine Zu ?_; refine Seq.done ?_; refine Zc ?_; refine Wp.seq ?_; refine Wp.region ?_; refine Zq ?_; refine Za ?_; refine Seq.done ?_; refine Wp.ret ?_; refine blkR ?_; refine thenR ?_; refine loopR ?_; refine blkR ?_; refine thenR ?_))
          (exact ret1 rfl rfl (by repeat (first | exact List.Sublist.refl _ | exact List.nil_sublist _ | refine List.Sublist.cons_cons _ ?_ | refine List.Sublist.cons _ ?_)) (bool_false (bad (fun h => of_decide_eq_false f2 h.2.2))))
      · ((refine Zy ?_; refine q_not (by exact rfl) ?_; refine Zq ?_; refine Zu ?_; refine Zq ?_; refine Zm ?_; refine Zn ?_; refine Zn ?_; refine Zn ?_; refine Zn ?_; refine Zn ?_; refine Zn ?_; refine Zn ?_; refine Zq ?_; refine Zt ?_; refine Seq.done ?_; refine Zc ?_; refine Wp.seq ?_; refine Wp.region ?_; refine Zq ?_; refine Za ?_; refine Seq.done ?_; refine Wp.ret ?_; refine blkR ?_; refine thenR ?_; refine loopR ?_; refine blkR ?_; refine thenR ?_))
        (exact ret1 rfl rfl (by repeat (first | exact List.Sublist.refl _ | exact List.nil_sublist _ | refine List.Sublist.cons_cons _ ?_ | refine List.Sublist.cons _ ?_)) (bool_false (bad (fun h => of_decide_eq_false f1 h.2.1))))
  · have hall := all_of hh (by omega)
    ((refine Seq.done ?_; refine Wp.seq ?_; refine Zd ?_; refine Wp.exit ?_; refine thenX ?_; refine loopX ?_; refine blkX (by exact rfl) ?_; refine thenN ?_; refine Wp.seq ?_; refine Wp.region ?_; refine Zq ?_; refine Zf T ?_; refine Zq ?_; refine Zl T 0 ?_; refine Zq ?_; refine Zf T ?_; refine Zq ?_; refine Zl T 1 ?_; refine Zq ?_; refine Zs T ?_))
    (((refine Zq ?_)); refine q_callB (by exact rfl) (by exact rfl) (indices_q (m := g.atoms.length) cp) (fun f1 => ?_) (fun f1 => ?_))
    · ((refine Zq ?_; refine Zm ?_; refine Zy ?_; refine Zf T ?_; refine Zy ?_; refine Zl T 0 ?_; refine Zy ?_; refine Zf T ?_; refine Zy ?_; refine Zl T 1 ?_; refine Zy ?_; refine Zs T ?_))
      (((refine Zy ?_)); refine q_call (by exact rfl) (by exact rfl) (indices_q (m := g.atoms.length) cn) ?_)
      ((refine Zq ?_; refine Zt ?_; refine Zq ?_; refine Za ?_; refine Seq.done ?_; refine Wp.ret ?_))
      (exact ret1 rfl rfl (by repeat (first | exact List.Sublist.refl _ | exact List.nil_sublist _ | refine List.Sublist.cons_cons _ ?_ | refine List.Sublist.cons _ ?_)) (bool_same ⟨fun h => ⟨of_decide_eq_true f1, h, hall⟩, fun h => h.2.1⟩))
    · ((refine Zq ?_; refine Zm ?_; refine Zn ?_; refine Zn ?_; refine Zn ?_; refine Zn ?_; refine Zn ?_; refine Zn ?_; refine Zq ?_; refine Zu ?_; refine Zq ?_; refine Za ?_; refine Seq.done ?_; refine Wp.ret ?_))
      (exact ret1 rfl rfl (by repeat (first | exact List.Sublist.refl _ | exact List.nil_sublist _ | refine List.Sublist.cons_cons _ ?_ | refine List.Sublist.cons _ ?_)) (bool_false (fun h => of_decide_eq_false f1 h.1)))
end Go.Proofs.YtegmololhnipiaaGreatDoor
namespace Go.Proofs.YtegmololhnipiaaGreatDoor
open Go.Lx Go.Gr Go.RowKit
attribute [local instance 10] Classical.propDecidable
theorem named_q {fz : FZ} {s : ByteArray} (hs : s.size ≤ 9223372036854775807) : QFn Tryz.prog 70 [.string s] fz (.bool (decide (NameOk s))) := by
  refine GFn.quiet ?_
  (refine GFn.of_wp Tryz.func70 rfl Tryz.ntmps70 rfl rfl (fun w0 => ?_))
  ((refine Wp.seq ?_; refine Wp.region ?_; refine Zq ?_; refine Za ?_; refine Seq.done ?_; refine Wp.seq ?_; refine Wp.seq ?_; refine Wp.region ?_; refine Zq ?_; refine Zm ?_; refine Zq ?_; refine q_len_string T (by exact rfl) (by exact rfl) (by exact rfl) ?_; refine Zq ?_; refine Zm ?_; refine Seq.done ?_; refine Wp.block ?_))
  (refine Wp.loop (fun q σ fz' H' => ∃ k : Nat, k ≤ s.size ∧ q = s.size - k ∧ σ = [(6, .int .i64 k), (5, .int .i64 s.size), (0, .string s)] ∧ fz = fz' ∧ H' = [] ∧ (∀ i, i < k → NameAt s i)) ⟨0, Nat.zero_le _, rfl, rfl, rfl, rfl, (fun i hi => absurd hi (by omega))⟩ (by repeat (first | exact trivial | refine ⟨by exact rfl, ?_⟩)) (by repeat (first | exact List.Sublist.refl _ | exact List.nil_sublist _ | refine List.Sublist.cons_cons _ ?_ | refine List.Sublist.cons _ ?_)) ?_; rintro q σ fz' H' ⟨k, hk, rfl, rfl, rfl, rfl, hh⟩)
  ((refine Wp.seq ?_; refine Wp.region ?_))
  (((refine Zq ?_)); (refine q_lssD (by exact rfl) (by exact rfl) (fun hlt => ?_) (fun hge => ?_)))
  · ((refine Seq.done ?_; refine Wp.seq ?_; refine Zc ?_; refine Wp.skip ?_; refine thenN ?_; refine Wp.seq ?_; refine Wp.block ?_; refine Wp.seq ?_; refine Wp.region ?_; refine Zq ?_; refine Zm ?_; refine Zq ?_; refine Za ?_; refine Seq.done ?_; refine Wp.seq ?_; refine Wp.region ?_; refine Zq ?_; refine Zm ?_; refine Zq ?_; refine Zm ?_))
    obtain ⟨b, hb, hb2⟩ := byte_some (s := s) (k := k) (by omega)
    (((refine Zq ?_)); refine q_index_string T (by exact rfl) (by exact rfl) (by exact rfl) (by exact rfl) (by omega) (by rw [Int.toNat_natCast]; exact hb) ?_)
    have bad : ¬ NameAt s k → ¬ NameOk s := fun h hc => h (hc.2 k (by omega))
    unfold NameAt at bad
    (((refine Zq ?_)); (refine q_lssD (by exact rfl) (by exact rfl) (fun c1 => ?_) (fun c1 => ?_)))
    · ((refine Zq ?_; refine Zm ?_; refine Zn ?_; refine Zn ?_; refine Zn ?_; refine Zn ?_; refine Zq ?_; refine Zt ?_; refine Seq.done ?_; refine Zc ?_; refine Wp.seq ?_; refine Wp.region ?_; refine Zq ?_; refine Za ?_; refine Seq.done ?_; refine Wp.ret ?_; refine blkR ?_; refine thenR ?_; refine loopR ?_; refine blkR ?_; refine thenR ?_))
      (exact ret1 rfl rfl (by repeat (first | exact List.Sublist.refl _ | exact List.nil_sublist _ | refine List.Sublist.cons_cons _ ?_ | refine List.Sublist.cons _ ?_)) (bool_false (bad (fun h => by have := h.1; omega))))
    · ((refine Zq ?_; refine Zm ?_; refine Zy ?_; refine Zm ?_; refine Zy ?_; refine Zm ?_))
      (((refine Zy ?_)); refine q_index_string T (by exact rfl) (by exact rfl) (by exact rfl) (by exact rfl) (by omega) (by rw [Int.toNat_natCast]; exact hb) ?_)
      (((refine Zy ?_)); (refine q_gtrD (by exact rfl) (by exact rfl) (fun c2 => ?_) (fun c2 => ?_)))
      · ((refine Zq ?_; refine Zu ?_; refine Seq.done ?_; refine Zc ?_; refine Wp.seq ?_; refine Wp.region ?_; refine Zq ?_; refine Za ?_; refine Seq.done ?_; refine Wp.ret ?_; refine blkR ?_; refine thenR ?_; refine loopR ?_; refine blkR ?_; refine thenR ?_))
        (exact ret1 rfl rfl (by repeat (first | exact List.Sublist.refl _ | exact List.nil_sublist _ | refine List.Sublist.cons_cons _ ?_ | refine List.Sublist.cons _ ?_)) (bool_false (bad (fun h => by have := h.2; omega))))
      · ((refine Zq ?_; refine Zu ?_; refine Seq.done ?_; refine Zd ?_; refine Wp.skip ?_; refine blkN ?_; refine thenN ?_; refine Wp.region ?_; refine Zq ?_; refine q_add (by exact rfl) (by exact rfl) (wrap_in (by omega)) ?_; refine Zq ?_; refine Zm ?_; refine Seq.end_ ?_))
        (exact loopN ⟨k + 1, by omega, rfl, rfl, rfl, rfl, (lt_succ_cases hh ⟨by omega, by omega⟩)⟩ (by omega) (by repeat (first | exact trivial | refine ⟨by exact rfl, ?_⟩)) (by repeat (first | exact List.Sublist.refl _ | exact List.nil_sublist _ | refine List.Sublist.cons_cons _ ?_ | refine List.Sublist.cons _ ?_)))
  · ((refine Seq.done ?_; refine Wp.seq ?_; refine Zd ?_; refine Wp.exit ?_; refine thenX ?_; refine loopX ?_; refine blkX (by exact rfl) ?_; refine thenN ?_; refine Wp.seq ?_; refine Wp.region ?_; refine Zq ?_; refine Zm ?_; refine Zq ?_; refine q_len_string T (by exact rfl) (by exact rfl) (by exact rfl) ?_))
    (((refine Zq ?_)); (refine q_leqD (by exact rfl) (by exact rfl) (fun c3 => ?_) (fun c3 => ?_)))
    · ((refine Zq ?_; refine Za ?_; refine Seq.done ?_; refine Wp.ret ?_))
      (exact ret1 rfl rfl (by repeat (first | exact List.Sublist.refl _ | exact List.nil_sublist _ | refine List.Sublist.cons_cons _ ?_ | refine List.Sublist.cons _ ?_)) (bool_true ⟨by omega, fun i hi => hh i (by omega)⟩))
    · ((refine Zq ?_; refine Za ?_; refine Seq.done ?_; refine Wp.ret ?_))
      (exact ret1 rfl rfl (by repeat (first | exact List.Sublist.refl _ | exact List.nil_sublist _ | refine List.Sublist.cons_cons _ ?_ | refine List.Sublist.cons _ ?_)) (bool_false (fun h => by have := h.1; omega)))
abbrev fV (f : GFluent) (v : Value) : Value := .agg #[.string f.fluent.name, v, .int .i64 f.lo, .int .i64 f.hi, .int .i64 f.init]
theorem fluent_q {fz : FZ} {f : GFluent} {v : Value} (hf : GFluentR fz f v) : QFn Tryz.prog 37 [fV f v] fz (.bool (decide (FluentOk f))) := by
  obtain ⟨A, n, c, rfl, ha⟩ := hf.fluent.args
  have h1 := hf.lo
  have h2 := hf.hi
  unfold I64 at h1 h2
  refine GFn.quiet ?_
  (refine GFn.of_wp Tryz.func37 rfl Tryz.ntmps37 rfl rfl (fun w0 => ?_))
  ((refine Wp.seq ?_; refine Wp.region ?_; refine Seq.stepK (by exact rfl) (k_box _ (by exact rfl) (by exact rfl) (fun _ => ?_)); refine Zq ?_; refine Za ?_; refine Seq.done ?_; refine Wp.seq ?_; refine Wp.region ?_; refine Zq ?_; refine Zf T ?_; refine Zq ?_; refine Zl T 0 ?_))
  (((refine Zq ?_)); (refine q_leqD (by exact rfl) (by exact rfl) (fun c1 => ?_) (fun c1 => ?_)))
  · ((refine Zq ?_; refine Zm ?_; refine Zy ?_; refine Zf T ?_; refine Zy ?_; refine Zl T 0 ?_; refine Zy ?_; refine Zf T ?_; refine Zy ?_; refine Zl T 0 ?_))
    (((refine Zy ?_)); (refine q_leqD (by exact rfl) (by exact rfl) (fun c2 => ?_) (fun c2 => ?_)))
    · ((refine Zq ?_; refine Zt ?_; refine Zq ?_; refine Zm ?_; refine Zy ?_; refine Zf T ?_; refine Zy ?_; refine Zl T 0 ?_; refine Zy ?_; refine Zf T ?_; refine Zy ?_; refine Zl T 0 ?_))
      (((refine Zy ?_)); (refine q_leqD (by exact rfl) (by exact rfl) (fun c3 => ?_) (fun c3 => ?_)))
      · ((refine Zq ?_; refine Zt ?_; refine Zq ?_; refine Zm ?_; refine Zy ?_; refine Zf T ?_; refine Zy ?_; refine Zl T 0 ?_))
        (((refine Zy ?_)); (refine q_leqD (by exact rfl) (by exact rfl) (fun c4 => ?_) (fun c4 => ?_)))
        · ((refine Zq ?_; refine Zt ?_; refine Zq ?_; refine Zm ?_; refine Zy ?_; refine Zf T ?_; refine Zy ?_; refine Zl T 0 ?_; refine Zy ?_; refine Zf T ?_; refine Zy ?_; refine Zl T 0 ?_; refine Zy ?_; refine q_sub (by exact rfl) (by exact rfl) (wrap_in (by omega)) ?_))
          (((refine Zy ?_)); (refine q_lssD (by exact rfl) (by exact rfl) (fun c5 => ?_) (fun c5 => ?_)))
          · ((refine Zq ?_; refine Zt ?_; refine Zq ?_; refine Za ?_; refine Seq.done ?_; refine Wp.ret ?_))
            (exact ret1 rfl rfl (by repeat (first | exact List.Sublist.refl _ | exact List.nil_sublist _ | refine List.Sublist.cons_cons _ ?_ | refine List.Sublist.cons _ ?_)) (bool_true ⟨c1, c2, c3, c4, c5⟩))
          · ((refine Zq ?_; refine Zt ?_; refine Zq ?_; refine Za ?_; refine Seq.done ?_; refine Wp.ret ?_))
            (exact ret1 rfl rfl (by repeat (first | exact List.Sublist.refl _ | exact List.nil_sublist _ | refine List.Sublist.cons_cons _ ?_ | refine List.Sublist.cons _ ?_)) (bool_false (fun h => c5 h.2.2.2.2)))
        · ((refine Zq ?_; refine Zt ?_; refine Zq ?_; refine Zm ?_; refine Zn ?_; refine Zn ?_; refine Zn ?_; refine Zn ?_; refine Zn ?_; refine Zn ?_; refine Zq ?_; refine Zu ?_; refine Zq ?_; refine Za ?_; refine Seq.done ?_; refine Wp.ret ?_))
          (exact ret1 rfl rfl (by repeat (first | exact List.Sublist.refl _ | exact List.nil_sublist _ | refine List.Sublist.cons_cons _ ?_ | refine List.Sublist.cons _ ?_)) (bool_false (fun h => c4 h.2.2.2.1)))
      · ((refine Zq ?_; refine Zt ?_; refine Zq ?_; refine Zm ?_; refine Zn ?_; refine Zn ?_; refine Zn ?_; refine Zq ?_; refine Zu ?_; refine Zq ?_; refine Zm ?_; refine Zn ?_; refine Zn ?_; refine Zn ?_; refine Zn ?_; refine Zn ?_; refine Zn ?_; refine Zq ?_; refine Zu ?_; refine Zq ?_; refine Za ?_; refine Seq.done ?_; refine Wp.ret ?_))
        (exact ret1 rfl rfl (by repeat (first | exact List.Sublist.refl _ | exact List.nil_sublist _ | refine List.Sublist.cons_cons _ ?_ | refine List.Sublist.cons _ ?_)) (bool_false (fun h => c3 h.2.2.1)))
    · ((refine Zq ?_; refine Zt ?_; refine Zq ?_; refine Zm ?_; refine Zn ?_; refine Zn ?_; refine Zn ?_; refine Zn ?_; refine Zn ?_; refine Zq ?_; refine Zu ?_; refine Zq ?_; refine Zm ?_; refine Zn ?_; refine Zn ?_; refine Zn ?_; refine Zq ?_; refine Zu ?_; refine Zq ?_; refine Zm ?_; refine Zn ?_; refine Zn ?_; refine Zn ?_; refine Zn ?_; refine Zn ?_; refine Zn ?_; refine Zq ?_; refine Zu ?_; refine Zq ?_; refine Za ?_; refine Seq.done ?_; refine Wp.ret ?_))
      (exact ret1 rfl rfl (by repeat (first | exact List.Sublist.refl _ | exact List.nil_sublist _ | refine List.Sublist.cons_cons _ ?_ | refine List.Sublist.cons _ ?_)) (bool_false (fun h => c2 h.2.1)))
  · ((refine Zq ?_; refine Zm ?_; refine Zn ?_; refine Zn ?_; refine Zn ?_; refine Zn ?_; refine Zn ?_; refine Zq ?_; refine Zu ?_; refine Zq ?_; refine Zm ?_; refine Zn ?_; refine Zn ?_; refine Zn ?_; refine Zn ?_; refine Zn ?_; refine Zq ?_; refine Zu ?_; refine Zq ?_; refine Zm ?_; refine Zn ?_; refine Zn ?_; refine Zn ?_; refine Zq ?_; refine Zu ?_; refine Zq ?_; refine Zm ?_; refine Zn ?_; refine Zn ?_; refine Zn ?_; refine Zn ?_; refine Zn ?_; refine Zn ?_; refine Zq ?_; refine Zu ?_; refine Zq ?_; refine Za ?_; refine Seq.done ?_; refine Wp.ret ?_))
    (exact ret1 rfl rfl (by repeat (first | exact List.Sublist.refl _ | exact List.nil_sublist _ | refine List.Sublist.cons_cons _ ?_ | refine List.Sublist.cons _ ?_)) (bool_false (fun h => c1 h.1)))
def ProperAt (g : GTask) (s : GState) (i : Nat) : Prop := ∀ n f, s.values[i]? = some n → g.fluents[i]? = some f → f.lo ≤ n ∧ n ≤ f.hi
theorem proper_of {g : GTask} {s : GState} {k : Nat} (h0 : s.values.length = g.fluents.length) (h1 : AscP g.atoms.length s.tru) (h : ∀ i, i < k → ProperAt g s i) (hk : s.values.length ≤ k) : ProperP g s :=
  ⟨h0, h1, fun i n f hn hf => h i (by have := lt_of_get hn; omega) n f hn hf⟩
theorem proper_bad {g : GTask} {s : GState} {k : Nat} {n : Int} {f : GFluent} (hn : s.values[k]? = some n) (hf : g.fluents[k]? = some f) (h : f.lo ≤ n → ¬ n ≤ f.hi) : ¬ ProperP g s := fun hc => by
  have := hc.2.2 k n f hn hf
  exact h this.1 this.2
theorem proper_next {g : GTask} {s : GState} {k : Nat} {n : Int} {f : GFluent} (h : ∀ i, i < k → ProperAt g s i) (hn : s.values[k]? = some n) (hf : g.fluents[k]? = some f) (h1 : f.lo ≤ n) (h2 : n ≤ f.hi) : ∀ i, i < k + 1 → ProperAt g s i :=
  lt_succ_cases h (fun n' f' hn' hf' => by rw [hn] at hn'; rw [hf] at hf'; injection hn' with hn'; injection hf' with hf'; subst hn' hf'; exact ⟨h1, h2⟩)
theorem proper_q {fz : FZ} {g : GTask} {v1 v2 v3 v4 v5 : Value} {s : GState} {u1 u2 : Value} (hg : GTaskR fz g v1 v2 v3 v4 v5) (hs : GStateR fz s u1 u2) :
    QFn Tryz.prog 50 [gV v1 v2 v3 v4 v5, sV u1 u2] fz (.bool (decide (ProperP g s))) := by
  (obtain ⟨A1, n1, cap1, rfl, ga⟩ := hg.atoms; obtain ⟨A2, n2, cap2, rfl, gf⟩ := hg.fluents; obtain ⟨A3, n3, cap3, rfl, gi⟩ := hg.init; obtain ⟨A4, n4, cap4, rfl, gg⟩ := hg.goal; obtain ⟨A5, n5, cap5, rfl, go⟩ := hg.ops; have e1 := ga.len; subst e1; have e2 := gf.len; subst e2)
  (obtain ⟨B1, m1, d1, rfl, st⟩ := hs.tru; obtain ⟨B2, m2, d2, rfl, sv⟩ := hs.values)
  have l2 := sv.len
  have hm := sv.short
  refine GFn.quiet ?_
  (refine GFn.of_wp Tryz.func50 rfl Tryz.ntmps50 rfl rfl (fun w0 => ?_))
  (refine Wp.seq (Wp.region (Seq.stepK (by exact rfl) (k_box _ (by exact rfl) (by exact rfl) (fun g0 => ?_)))))
  (refine Seq.stepK (by exact rfl) (k_box _ (by exact rfl) (by exact rfl) (fun g1 => ?_)))
  ((refine Zq ?_; refine Za ?_; refine Seq.done ?_; refine Wp.seq ?_; refine Wp.seq ?_; refine Wp.region ?_; refine Zq ?_; refine Zf T ?_; refine Zq ?_; refine Zl T 0 ?_; refine Zq ?_; refine Zs T ?_; refine Zq ?_; refine Zf T ?_; refine Zq ?_; refine Zl T 1 ?_; refine Zq ?_; refine Zs T ?_))
  (((refine Zq ?_)); (refine q_neqD (by exact rfl) (by exact rfl) (fun c0 => ?_) (fun c0 => ?_)))
  · ((refine Zq ?_; refine Zm ?_; refine Zn ?_; refine Zn ?_; refine Zn ?_; refine Zn ?_; refine Zn ?_; refine Zn ?_; refine Zn ?_; refine Zq ?_; refine Zt ?_; refine Seq.done ?_; refine Zc ?_; refine Wp.seq ?_; refine Wp.region ?_; refine Zq ?_; refine Za ?_; refine Seq.done ?_; refine Wp.ret ?_; refine thenR ?_))
    (exact ret1 rfl rfl (by repeat (first | exact List.Sublist.refl _ | exact List.nil_sublist _ | refine List.Sublist.cons_cons _ ?_ | refine List.Sublist.cons _ ?_)) (bool_false (fun h => by have := h.1; omega)))
  · ((refine Zq ?_; refine Zm ?_; refine Zy ?_; refine Zf T ?_; refine Zy ?_; refine Zl T 0 ?_; refine Zy ?_; refine Zf T ?_; refine Zy ?_; refine Zl T 1 ?_; refine Zy ?_; refine Zs T ?_))
    (((refine Zy ?_)); refine q_callB (by exact rfl) (by exact rfl) (indices_q (m := g.atoms.length) st) (fun f1 => ?_) (fun f1 => ?_))
    · ((refine Zy ?_; refine q_not (by exact rfl) ?_; refine Zq ?_; refine Zu ?_; refine Seq.done ?_; refine Zd ?_; refine Wp.skip ?_; refine thenN ?_; refine Wp.seq ?_; refine Wp.seq ?_; refine Wp.region ?_; refine Zq ?_; refine Zf T ?_; refine Zq ?_; refine Zl T 0 ?_; refine Zq ?_; refine Zs T ?_; refine Zq ?_; refine Zm ?_; refine Seq.done ?_; refine Wp.block ?_))
      (refine Wp.loop (fun q σ fz' H' => ∃ k : Nat, k ≤ m2 ∧ q = m2 - k ∧ σ = [(26, .int .i64 k), (25, .int .i64 m2), (24, .slice B2 m2 d2), (2, .pointer (some ⟨g0, 0, none⟩))] ∧ fz = fz' ∧ H' = [((g1, .cells #[.slice B1 m1 d1, .slice B2 m2 d2] 33 (0, 0))), ((g0, .cells #[.slice A1 g.atoms.length cap1, .slice A2 g.fluents.length cap2, .slice A3 n3 cap3, .slice A4 n4 cap4, .slice A5 n5 cap5] 28 (0, 0)))] ∧ (∀ i, i < k → ProperAt g s i)) ⟨0, Nat.zero_le _, rfl, rfl, rfl, rfl, (fun i hi => absurd hi (by omega))⟩ (by repeat (first | exact trivial | refine ⟨by exact rfl, ?_⟩)) (by repeat (first | exact List.Sublist.refl _ | exact List.nil_sublist _ | refine List.Sublist.cons_cons _ ?_ | refine List.Sublist.cons _ ?_)) ?_; rintro q σ fz' H' ⟨k, hk, rfl, rfl, rfl, rfl, hh⟩)
      ((refine Wp.seq ?_; refine Wp.region ?_))
      (((refine Zq ?_)); (refine q_lssD (by exact rfl) (by exact rfl) (fun hlt => ?_) (fun hge => ?_)))
      · ((refine Seq.done ?_; refine Wp.seq ?_; refine Zc ?_; refine Wp.skip ?_; refine thenN ?_; refine Wp.seq ?_; refine Wp.block ?_; refine Wp.seq ?_; refine Wp.region ?_; refine Zq ?_; refine Zm ?_))
        obtain ⟨n, hn⟩ := get_some (l := s.values) (k := k) (by omega)
        obtain ⟨f, hf⟩ := get_some (l := g.fluents) (k := k) (by omega)
        (((refine Zq ?_)); refine q_index T k (by exact rfl) (by exact rfl) (by exact rfl) (by exact rfl) (by exact rfl) (by exact rfl) sv (by first | rfl | omega) hn (fun p hp => ?_))
        (((refine Zq ?_)); refine q_load_int T (by exact rfl) (by exact rfl) (by exact rfl) hp (fun ix => ?_))
        ((refine Zq ?_; refine Za ?_; refine Zq ?_; refine Za ?_; refine Seq.done ?_; refine Wp.seq ?_; refine Wp.region ?_; refine Zq ?_; refine Zm ?_; refine Zq ?_; refine Zf T ?_; refine Zq ?_; refine Zl T 1 ?_; refine Zq ?_; refine Zm ?_))
        (((refine Zq ?_)); refine q_index T k (by exact rfl) (by exact rfl) (by exact rfl) (by exact rfl) (by exact rfl) (by exact rfl) gf (by first | rfl | omega) hf (fun p2 hp2 => ?_))
        ((refine Zq ?_; refine Zf T ?_))
        (((refine Zq ?_)); refine q_load_int T (by exact rfl) (by exact rfl) (by exact rfl) hp2.GFluent_lo (fun ix2 => ?_))
        (((refine Zq ?_)); (refine q_lssD (by exact rfl) (by exact rfl) (fun c1 => ?_) (fun c1 => ?_)))
        · ((refine Zq ?_; refine Zm ?_; refine Zn ?_; refine Zn ?_; refine Zn ?_; refine Zn ?_; refine Zn ?_; refine Zn ?_; refine Zn ?_; refine Zn ?_; refine Zq ?_; refine Zt ?_; refine Seq.done ?_; refine Zc ?_; refine Wp.seq ?_; refine Wp.region ?_; refine Zq ?_; refine Za ?_; refine Seq.done ?_; refine Wp.ret ?_; refine blkR ?_; refine thenR ?_; refine loopR ?_; refine blkR ?_; refine thenR ?_))
          (exact ret1 rfl rfl (by repeat (first | exact List.Sublist.refl _ | exact List.nil_sublist _ | refine List.Sublist.cons_cons _ ?_ | refine List.Sublist.cons _ ?_)) (bool_false (proper_bad hn hf (by omega))))
        · ((refine Zq ?_; refine Zm ?_; refine Zy ?_; refine Zm ?_; refine Zy ?_; refine Zf T ?_; refine Zy ?_; refine Zl T 1 ?_; refine Zy ?_; refine Zm ?_))
          (((refine Zy ?_)); refine q_index T k (by exact rfl) (by exact rfl) (by exact rfl) (by exact rfl) (by exact rfl) (by exact rfl) gf (by first | rfl | omega) hf (fun p3 hp3 => ?_))
          ((refine Zy ?_; refine Zf T ?_))
          (((refine Zy ?_)); refine q_load_int T (by exact rfl) (by exact rfl) (by exact rfl) hp3.GFluent_hi (fun ix3 => ?_))
          (((refine Zy ?_)); (refine q_gtrD (by exact rfl) (by exact rfl) (fun c2 => ?_) (fun c2 => ?_)))
          · ((refine Zq ?_; refine Zu ?_; refine Seq.done ?_; refine Zc ?_; refine Wp.seq ?_; refine Wp.region ?_; refine Zq ?_; refine Za ?_; refine Seq.done ?_; refine Wp.ret ?_; refine blkR ?_; refine thenR ?_; refine loopR ?_; refine blkR ?_; refine thenR ?_))
            (exact ret1 rfl rfl (by repeat (first | exact List.Sublist.refl _ | exact List.nil_sublist _ | refine List.Sublist.cons_cons _ ?_ | refine List.Sublist.cons _ ?_)) (bool_false (proper_bad hn hf (by omega))))
          · ((refine Zq ?_; refine Zu ?_; refine Seq.done ?_; refine Zd ?_; refine Wp.skip ?_; refine blkN ?_; refine thenN ?_; refine Wp.region ?_; refine Zq ?_; refine q_add (by exact rfl) (by exact rfl) (wrap_in (by omega)) ?_; refine Zq ?_; refine Zm ?_; refine Seq.end_ ?_))
            (exact loopN ⟨k + 1, by omega, rfl, rfl, rfl, rfl, (proper_next hh hn hf (by omega) (by omega))⟩ (by omega) (by repeat (first | exact trivial | refine ⟨by exact rfl, ?_⟩)) (by repeat (first | exact List.Sublist.refl _ | exact List.nil_sublist _ | refine List.Sublist.cons_cons _ ?_ | refine List.Sublist.cons _ ?_)))
      · ((refine Seq.done ?_; refine Wp.seq ?_; refine Zd ?_; refine Wp.exit ?_; refine thenX ?_; refine loopX ?_; refine blkX (by exact rfl) ?_; refine thenN ?_; refine Wp.seq ?_; refine Wp.region ?_; refine Zq ?_; refine Za ?_; refine Seq.done ?_; refine Wp.ret ?_))
        (exact ret1 rfl rfl (by repeat (first | exact List.Sublist.refl _ | exact List.nil_sublist _ | refine List.Sublist.cons_cons _ ?_ | refine List.Sublist.cons _ ?_)) (bool_true (proper_of (by omega) (of_decide_eq_true f1) hh (by omega))))
    · ((refine Zy ?_; refine q_not (by exact rfl) ?_; refine Zq ?_; refine Zu ?_; refine Seq.done ?_; refine Zc ?_; refine Wp.seq ?_; refine Wp.region ?_; refine Zq ?_; refine Za ?_; refine Seq.done ?_; refine Wp.ret ?_; refine thenR ?_))
      (exact ret1 rfl rfl (by repeat (first | exact List.Sublist.refl _ | exact List.nil_sublist _ | refine List.Sublist.cons_cons _ ?_ | refine List.Sublist.cons _ ?_)) (bool_false (fun h => of_decide_eq_false f1 h.2.1)))
theorem rproper_q {fz : FZ} {g : GTask} {v1 v2 v3 v4 v5 : Value} {s : GState} {u1 u2 : Value} (hg : GTaskR fz g v1 v2 v3 v4 v5) (hs : GStateR fz s u1 u2) :
    QFn Tryz.prog 15 [gV v1 v2 v3 v4 v5, sV u1 u2] fz (.bool (decide (ProperP g s))) := by
  (obtain ⟨A1, n1, cap1, rfl, ga⟩ := hg.atoms; obtain ⟨A2, n2, cap2, rfl, gf⟩ := hg.fluents; obtain ⟨A3, n3, cap3, rfl, gi⟩ := hg.init; obtain ⟨A4, n4, cap4, rfl, gg⟩ := hg.goal; obtain ⟨A5, n5, cap5, rfl, go⟩ := hg.ops; have e1 := ga.len; subst e1; have e2 := gf.len; subst e2)
  (obtain ⟨B1, m1, d1, rfl, st⟩ := hs.tru; obtain ⟨B2, m2, d2, rfl, sv⟩ := hs.values)
  have l2 := sv.len
  have hm := sv.short
  refine GFn.quiet ?_
  (refine GFn.of_wp Tryz.func15 rfl Tryz.ntmps15 rfl rfl (fun w0 => ?_))
  (refine Wp.seq (Wp.region (Seq.stepK (by exact rfl) (k_box _ (by exact rfl) (by exact rfl) (fun g0 => ?_)))))
  (refine Seq.stepK (by exact rfl) (k_box _ (by exact rfl) (by exact rfl) (fun g1 => ?_)))
  ((refine Zq ?_; refine Za ?_; refine Seq.done ?_; refine Wp.seq ?_; refine Wp.seq ?_; refine Wp.region ?_; refine Zq ?_; refine Zf T ?_; refine Zq ?_; refine Zl T 0 ?_; refine Zq ?_; refine Zf T ?_; refine Zq ?_; refine Zl T 1 ?_; refine Zq ?_; refine Zs T ?_))
  (((refine Zq ?_)); refine q_callB (by exact rfl) (by exact rfl) (ascending_q (m := g.atoms.length) st) (fun f1 => ?_) (fun f1 => ?_))
  · ((refine Zq ?_; refine q_not (by exact rfl) ?_; refine Zq ?_; refine Zm ?_; refine Zy ?_; refine Zf T ?_; refine Zy ?_; refine Zl T 0 ?_; refine Zy ?_; refine Zs T ?_; refine Zy ?_; refine Zf T ?_; refine Zy ?_; refine Zl T 1 ?_; refine Zy ?_; refine Zs T ?_))
    (((refine Zy ?_)); (refine q_neqD (by exact rfl) (by exact rfl) (fun c0 => ?_) (fun c0 => ?_)))
    · ((refine Zq ?_; refine Zu ?_; refine Seq.done ?_; refine Zc ?_; refine Wp.seq ?_; refine Wp.region ?_; refine Zq ?_; refine Za ?_; refine Seq.done ?_; refine Wp.ret ?_; refine thenR ?_))
      (exact ret1 rfl rfl (by repeat (first | exact List.Sublist.refl _ | exact List.nil_sublist _ | refine List.Sublist.cons_cons _ ?_ | refine List.Sublist.cons _ ?_)) (bool_false (fun h => by have := h.1; omega)))
    · ((refine Zq ?_; refine Zu ?_; refine Seq.done ?_; refine Zd ?_; refine Wp.skip ?_; refine thenN ?_; refine Wp.seq ?_; refine Wp.seq ?_; refine Wp.region ?_; refine Zq ?_; refine Za ?_; refine Seq.done ?_; refine Wp.block ?_))
      (refine Wp.loop (fun q σ fz' H' => ∃ k : Nat, k ≤ m2 ∧ q = m2 - k ∧ σ = [(5, .int .i64 k), (3, .pointer (some ⟨g1, 0, none⟩)), (2, .pointer (some ⟨g0, 0, none⟩))] ∧ fz = fz' ∧ H' = [((g1, .cells #[.slice B1 m1 d1, .slice B2 m2 d2] 33 (0, 0))), ((g0, .cells #[.slice A1 g.atoms.length cap1, .slice A2 g.fluents.length cap2, .slice A3 n3 cap3, .slice A4 n4 cap4, .slice A5 n5 cap5] 28 (0, 0)))] ∧ (∀ i, i < k → ProperAt g s i)) ⟨0, Nat.zero_le _, rfl, rfl, rfl, rfl, (fun i hi => absurd hi (by omega))⟩ (by repeat (first | exact trivial | refine ⟨by exact rfl, ?_⟩)) (by repeat (first | exact List.Sublist.refl _ | exact List.nil_sublist _ | refine List.Sublist.cons_cons _ ?_ | refine List.Sublist.cons _ ?_)) ?_; rintro q σ fz' H' ⟨k, hk, rfl, rfl, rfl, rfl, hh⟩)
      ((refine Wp.seq ?_; refine Wp.seq ?_; refine Wp.region ?_; refine Zq ?_; refine Zm ?_; refine Zq ?_; refine Zf T ?_; refine Zq ?_; refine Zl T 0 ?_; refine Zq ?_; refine Zs T ?_))
      (((refine Zq ?_)); (refine q_lssD (by exact rfl) (by exact rfl) (fun hlt => ?_) (fun hge => ?_)))
      · ((refine Seq.done ?_; refine Zc ?_; refine Wp.skip ?_; refine thenN ?_; refine Wp.seq ?_; refine Wp.block ?_; refine Wp.seq ?_; refine Wp.draw (by decide +kernel) T.mixed (by kernel_rfl) (by kernel_rfl) ?_; refine QL.q ?_; refine Zf T ?_; refine QL.q ?_; refine Zl T 0 ?_; refine QL.q ?_; refine Zm ?_))
        obtain ⟨n, hn⟩ := get_some (l := s.values) (k := k) (by omega)
        obtain ⟨f, hf⟩ := get_some (l := g.fluents) (k := k) (by omega)
        (((refine QL.q ?_)); refine q_index T k (by exact rfl) (by exact rfl) (by exact rfl) (by exact rfl) (by exact rfl) (by exact rfl) sv (by first | rfl | omega) hn (fun p hp => ?_))
        (((refine QL.q ?_)); refine q_load_int T (by exact rfl) (by exact rfl) (by exact rfl) hp (fun ix => ?_))
        ((refine QL.q ?_; refine Zf T ?_; refine QL.q ?_; refine Zl T 1 ?_; refine QL.q ?_; refine Zm ?_))
        (((refine QL.q ?_)); refine q_index T k (by exact rfl) (by exact rfl) (by exact rfl) (by exact rfl) (by exact rfl) (by exact rfl) gf (by first | rfl | omega) hf (fun p2 hp2 => ?_))
        ((refine QL.q ?_; refine Zf T ?_))
        (((refine QL.q ?_)); refine q_load_int T (by exact rfl) (by exact rfl) (by exact rfl) hp2.GFluent_lo (fun ix2 => ?_))
        (((refine QL.q ?_)); (refine q_lssD (by exact rfl) (by exact rfl) (fun c1 => ?_) (fun c1 => ?_)))
        · ((refine QL.q ?_; refine Zm ?_; refine QL.no (by exact rfl) ?_; refine QL.no (by exact rfl) ?_; refine QL.no (by exact rfl) ?_; refine QL.no (by exact rfl) ?_; refine QL.no (by exact rfl) ?_; refine QL.no (by exact rfl) ?_; refine QL.no (by exact rfl) ?_; refine QL.no (by exact rfl) ?_; refine QL.no (by exact rfl) ?_; refine QL.no (by exact rfl) ?_; refine QL.no (by exact rfl) ?_; refine QL.no (by exact rfl) ?_; refine QL.q ?_; refine Zt ?_; refine QL.done ?_; refine thenN ?_; refine Zc ?_; refine Wp.seq ?_; refine Wp.region ?_; refine Zq ?_; refine Za ?_; refine Seq.done ?_; refine Wp.ret ?_; refine blkR ?_; refine thenR ?_; refine loopR ?_; refine blkR ?_; refine thenR ?_))
          (exact ret1 rfl rfl (by repeat (first | exact List.Sublist.refl _ | exact List.nil_sublist _ | refine List.Sublist.cons_cons _ ?_ | refine List.Sublist.cons _ ?_)) (bool_false (proper_bad hn hf (by omega))))
        · ((refine QL.q ?_; refine Zm ?_; refine QL.yes (by exact rfl) ?_; refine Zf T ?_; refine QL.yes (by exact rfl) ?_; refine Zl T 0 ?_; refine QL.yes (by exact rfl) ?_; refine Zm ?_))
          (((refine QL.yes (by exact rfl) ?_)); refine q_index T k (by exact rfl) (by exact rfl) (by exact rfl) (by exact rfl) (by exact rfl) (by exact rfl) sv (by first | rfl | omega) hn (fun p4 hp4 => ?_))
          (((refine QL.yes (by exact rfl) ?_)); refine q_load_int T (by exact rfl) (by exact rfl) (by exact rfl) hp4 (fun ix4 => ?_))
          ((refine QL.yes (by exact rfl) ?_; refine Zf T ?_; refine QL.yes (by exact rfl) ?_; refine Zl T 1 ?_; refine QL.yes (by exact rfl) ?_; refine Zm ?_))
          (((refine QL.yes (by exact rfl) ?_)); refine q_index T k (by exact rfl) (by exact rfl) (by exact rfl) (by exact rfl) (by exact rfl) (by exact rfl) gf (by first | rfl | omega) hf (fun p3 hp3 => ?_))
          ((refine QL.yes (by exact rfl) ?_; refine Zf T ?_))
          (((refine QL.yes (by exact rfl) ?_)); refine q_load_int T (by exact rfl) (by exact rfl) (by exact rfl) hp3.GFluent_hi (fun ix3 => ?_))
          (((refine QL.yes (by exact rfl) ?_)); (refine q_gtrD (by exact rfl) (by exact rfl) (fun c2 => ?_) (fun c2 => ?_)))
          · ((refine QL.q ?_; refine Zu ?_; refine QL.done ?_; refine thenN ?_; refine Zc ?_; refine Wp.seq ?_; refine Wp.region ?_; refine Zq ?_; refine Za ?_; refine Seq.done ?_; refine Wp.ret ?_; refine blkR ?_; refine thenR ?_; refine loopR ?_; refine blkR ?_; refine thenR ?_))
            (exact ret1 rfl rfl (by repeat (first | exact List.Sublist.refl _ | exact List.nil_sublist _ | refine List.Sublist.cons_cons _ ?_ | refine List.Sublist.cons _ ?_)) (bool_false (proper_bad hn hf (by omega))))
          · ((refine QL.q ?_; refine Zu ?_; refine QL.done ?_; refine thenN ?_; refine Zd ?_; refine Wp.skip ?_; refine blkN ?_; refine thenN ?_; refine Wp.region ?_; refine Zq ?_; refine Zm ?_; refine Zq ?_; refine q_add (by exact rfl) (by exact rfl) (wrap_in (by omega)) ?_; refine Zq ?_; refine Za ?_; refine Seq.end_ ?_))
            (exact loopN ⟨k + 1, by omega, rfl, rfl, rfl, rfl, (proper_next hh hn hf (by omega) (by omega))⟩ (by omega) (by repeat (first | exact trivial | refine ⟨by exact rfl, ?_⟩)) (by repeat (first | exact List.Sublist.refl _ | exact List.nil_sublist _ | refine List.Sublist.cons_cons _ ?_ | refine List.Sublist.cons _ ?_)))
      · ((refine Seq.done ?_; refine Zd ?_; refine Wp.exit ?_; refine thenX ?_; refine loopX ?_; refine blkX (by exact rfl) ?_; refine thenN ?_; refine Wp.seq ?_; refine Wp.region ?_; refine Zq ?_; refine Za ?_; refine Seq.done ?_; refine Wp.ret ?_))
        (exact ret1 rfl rfl (by repeat (first | exact List.Sublist.refl _ | exact List.nil_sublist _ | refine List.Sublist.cons_cons _ ?_ | refine List.Sublist.cons _ ?_)) (bool_true (proper_of (by omega) (of_decide_eq_true f1) hh (by omega))))
  · ((refine Zq ?_; refine q_not (by exact rfl) ?_; refine Zq ?_; refine Zm ?_; refine Zn ?_; refine Zn ?_; refine Zn ?_; refine Zn ?_; refine Zn ?_; refine Zn ?_; refine Zn ?_; refine Zq ?_; refine Zt ?_; refine Seq.done ?_; refine Zc ?_; refine Wp.seq ?_; refine Wp.region ?_; refine Zq ?_; refine Za ?_; refine Seq.done ?_; refine Wp.ret ?_; refine thenR ?_))
    (exact ret1 rfl rfl (by repeat (first | exact List.Sublist.refl _ | exact List.nil_sublist _ | refine List.Sublist.cons_cons _ ?_ | refine List.Sublist.cons _ ?_)) (bool_false (fun h => of_decide_eq_false f1 h.2.1)))
end Go.Proofs.YtegmololhnipiaaGreatDoor
namespace Go.Lx
open Go.RowKit
def setB (ks : List Int) : List (Int × Value) := ks.map fun k => (k, .bool true)
noncomputable def insK (ks : List Int) (x : Int) : List Int := open Classical in if x ∈ ks then ks else ks ++ [x]
theorem mem_insK {ks : List Int} {x y : Int} : y ∈ insK ks x ↔ y ∈ ks ∨ y = x := by
  unfold insK
  split
  · rename_i h
    exact ⟨.inl, fun hc => hc.elim id (fun e => by rw [e]; exact h)⟩
  · simp
theorem fnd_set : ∀ (ks : List Int) (x : Int) (i : Nat), (x ∈ ks ∧ ∃ j, fndM (setB ks) x i = some (i + j, .bool true) ∧ ks[j]? = some x) ∨ (x ∉ ks ∧ fndM (setB ks) x i = none)
  | [], x, i => .inr ⟨by simp, rfl⟩
  | k :: r, x, i => by
    by_cases h : x = k
    · subst h
      exact .inl ⟨by simp, 0, by simp [setB, fndM], by simp⟩
    · rcases fnd_set r x (i + 1) with ⟨h1, j, h2, h3⟩ | ⟨h1, h2⟩
      · exact .inl ⟨by simp [h1], j + 1, by simp only [setB, List.map_cons, fndM, if_neg h]; rw [show i + (j + 1) = i + 1 + j from by omega]; exact h2, by simpa using h3⟩
      · exact .inr ⟨by simp [h, h1], by simp only [setB, List.map_cons, fndM, if_neg h]; exact h2⟩
theorem upd_set (ks : List Int) (x : Int) : updM (setB ks) x (.bool true) = setB (insK ks x) := by
  unfold updM insK
  rcases fnd_set ks x 0 with ⟨h1, j, h2, h3⟩ | ⟨h1, h2⟩
  · rw [h2, if_pos h1]
    simp only [Nat.zero_add]
    apply List.ext_getElem?
    intro i
    rw [List.getElem?_set]
    split
    · rename_i he
      subst he
      split
      · simp [setB, h3]
      · rename_i hl
        exact absurd (List.getElem?_eq_some_iff.1 h3).1 (by simpa [setB] using hl)
    · rfl
  · rw [h2, if_neg h1]
    simp [setB]
theorem look_set (ks : List Int) (x : Int) {P : Value → Prop} (ht : x ∈ ks → P (.bool true)) (hf : x ∉ ks → P (.bool false)) : P ((fndM (setB ks) x 0).elim (.bool false) (·.2)) := by
  rcases fnd_set ks x 0 with ⟨h1, j, h2, h3⟩ | ⟨h1, h2⟩
  · rw [h2]; exact ht h1
  · rw [h2]; exact hf h1
section
variable {P : Program} {cx : Cx} {r : Operand → Option Value} {fz : FZ} {H : HP} {V : Value → Prop} {dst : Option Nat} {ty : TypeId} {pos : String} {af : Array Edge} {gd : Option (Nat × Bool)} {t : TypeId} {y z : Operand}
theorem q_lookup_set (T : Tab P) {k e : TypeId} {X K E : Ty} {d : IntKind} {g : Nat} {ks : List Int} {x : Int} (i : Nat) (hT : T.inf t = some X) (hd : X.desc = .map k e) (hK : T.inf k = some K) (hkd : K.desc = .int d) (hE : T.inf e = some E) (hz0 : E.zero = .bool false)
    (hy : r y = some (.map (some g))) (hz : r z = some (.int .i64 x)) (hH : H[i]? = some (g, mapB (setB ks))) (ht : x ∈ ks → V (.bool true)) (hf : x ∉ ks → V (.bool false)) : DoesQ P cx ⟨dst, .lookup t y z false, ty, pos, af, gd⟩ r fz H V :=
  q_lookup_own T i hT hd hK hkd hE hy hz hH (by rw [hz0]; exact look_set ks x ht hf)
end
end Go.Lx
namespace Go.Proofs.YtegmololhnipiaaGreatDoor
open Go.Lx Go.Gr Go.RowKit
attribute [local instance 10] Classical.propDecidable
abbrev oV (o : GOp) (p1 p2 p3 v4 v5 : Value) : Value := .agg #[.string o.name, .int .i64 o.cost, p1, p2, p3, v4, v5]
def AssignAt (m : Int) (l : List GAssign) (i : Nat) : Prop := ∀ a, l[i]? = some a → 0 ≤ a.fluent ∧ a.fluent < m ∧ RightP m a.value ∧ ∀ (j : Nat) (b : GAssign), j < i → l[j]? = some b → b.fluent ≠ a.fluent
theorem assigns_of {m : Int} {l : List GAssign} {k : Nat} (h : ∀ i, i < k → AssignAt m l i) (hk : l.length ≤ k) : AssignsOk m l := fun i a ha => h i (by have := lt_of_get ha; omega) a ha
theorem seen_next {m : Int} {l : List GAssign} {k : Nat} {ks : List Int} {x : GAssign} (hh : ∀ i, i < k → AssignAt m l i) (hks : ∀ x, x ∈ ks ↔ ∃ j b, j < k ∧ l[j]? = some b ∧ b.fluent = x) (hx : l[k]? = some x) (h0 : 0 ≤ x.fluent) (h1 : x.fluent < m) (h2 : RightP m x.value) (h3 : x.fluent ∉ ks) :
    (∀ i, i < k + 1 → AssignAt m l i) ∧ ∀ y, y ∈ insK ks x.fluent ↔ ∃ j b, j < k + 1 ∧ l[j]? = some b ∧ b.fluent = y := by
  refine ⟨lt_succ_cases hh (fun y hy => ?_), fun y => ?_⟩
  · rw [hx] at hy; injection hy with hy; subst hy
    exact ⟨h0, h1, h2, fun j b h4 h5 h6 => h3 ((hks _).2 ⟨j, b, h4, h5, h6⟩)⟩
  · rw [mem_insK, hks]
    constructor
    · rintro (⟨j, b, h4, h5⟩ | rfl)
      · exact ⟨j, b, by omega, h5⟩
      · exact ⟨k, x, by omega, hx, rfl⟩
    · rintro ⟨j, b, h4, h5, h6⟩
      by_cases hj : j < k
      · exact .inl ⟨j, b, hj, h5, h6⟩
      · have e : j = k := by omega
        subst e
        rw [hx] at h5; injection h5 with h5; subst h5
        exact .inr h6.symm
theorem operator_q {fz : FZ} {g : GTask} {v1 v2 v3 v4 v5 : Value} {o : GOp} {u1 u2 u3 u4 u5 : Value} (hg : GTaskR fz g v1 v2 v3 v4 v5) (ho : GOpR fz o u1 u2 u3 u4 u5) :
    QFn Tryz.prog 44 [gV v1 v2 v3 v4 v5, oV o u1 u2 u3 u4 u5] fz (.bool (decide (OpOk g.atoms.length g.fluents.length o))) := by
  (obtain ⟨A1, n1, cap1, rfl, ga⟩ := hg.atoms; obtain ⟨A2, n2, cap2, rfl, gf⟩ := hg.fluents; obtain ⟨A3, n3, cap3, rfl, gi⟩ := hg.init; obtain ⟨A4, n4, cap4, rfl, gg⟩ := hg.goal; obtain ⟨A5, n5, cap5, rfl, go⟩ := hg.ops; have e1 := ga.len; subst e1; have e2 := gf.len; subst e2)
  have hc := ho.pre
  (obtain ⟨B1, m1, d1, rfl, cp⟩ := hc.pos; obtain ⟨B2, m2, d2, rfl, cn⟩ := hc.neg; obtain ⟨B3, m3, d3, rfl, ct⟩ := hc.tests)
  obtain ⟨B4, m4, d4, rfl, oc⟩ := ho.changes
  obtain ⟨B5, m5, d5, rfl, oa⟩ := ho.assigns
  have l4 := oc.len
  have l5 := oa.len
  have s4 := oc.short
  have s5 := oa.short
  refine GFn.quiet ?_
  (refine GFn.of_wp Tryz.func44 rfl Tryz.ntmps44 rfl rfl (fun w0 => ?_))
  (refine Wp.seq (Wp.region (Seq.stepK (by exact rfl) (k_box _ (by exact rfl) (by exact rfl) (fun g0 => ?_)))))
  (refine Seq.stepK (by exact rfl) (k_box _ (by exact rfl) (by exact rfl) (fun g1 => ?_)))
  ((refine Zq ?_; refine Za ?_; refine Seq.done ?_; refine Wp.seq ?_; refine Wp.seq ?_; refine Wp.region ?_; refine Zq ?_; refine Zf T ?_; refine Zq ?_; refine Zl T 0 ?_; refine Zq ?_; refine Zs T ?_))
  (((refine Zq ?_)); (refine q_gtrD (by exact rfl) (by exact rfl) (fun c1 => ?_) (fun c1 => ?_)))
  · ((refine Zq ?_; refine Zm ?_; refine Zn ?_; refine Zn ?_; refine Zn ?_; refine Zq ?_; refine Zt ?_; refine Zq ?_; refine Zm ?_; refine Zn ?_; refine Zn ?_; refine Zn ?_; refine Zq ?_; refine Zt ?_; refine Zq ?_; refine Zm ?_; refine Zn ?_; refine Zn ?_; refine Zn ?_; refine Zn ?_; refine Zq ?_; refine Zt ?_; refine Zq ?_; refine Zm ?_; refine Zn ?_; refine Zn ?_; refine Zn ?_; refine Zn ?_; refine Zn ?_; refine Zq ?_; refine Zt ?_; refine Seq.done ?_; refine Zc ?_; refine Wp.seq ?_; refine Wp.region ?_; refine Zq ?_; refine Za ?_; refine Seq.done ?_; refine Wp.ret ?_; refine thenR ?_))
    (exact ret1 rfl rfl (by repeat (first | exact List.Sublist.refl _ | exact List.nil_sublist _ | refine List.Sublist.cons_cons _ ?_ | refine List.Sublist.cons _ ?_)) (bool_false (fun h => by have := h.2.2.2.1; omega)))
  · ((refine Zq ?_; refine Zm ?_; refine Zy ?_; refine Zf T ?_; refine Zy ?_; refine Zl T 0 ?_))
    (((refine Zy ?_)); (refine q_lssD (by exact rfl) (by exact rfl) (fun c2 => ?_) (fun c2 => ?_)))
    · ((refine Zq ?_; refine Zu ?_; refine Zq ?_; refine Zm ?_; refine Zn ?_; refine Zn ?_; refine Zn ?_; refine Zq ?_; refine Zt ?_; refine Zq ?_; refine Zm ?_; refine Zn ?_; refine Zn ?_; refine Zn ?_; refine Zn ?_; refine Zq ?_; refine Zt ?_; refine Zq ?_; refine Zm ?_; refine Zn ?_; refine Zn ?_; refine Zn ?_; refine Zn ?_; refine Zn ?_; refine Zq ?_; refine Zt ?_; refine Seq.done ?_; refine Zc ?_; refine Wp.seq ?_; refine Wp.region ?_; refine Zq ?_; refine Za ?_; refine Seq.done ?_; refine Wp.ret ?_; refine thenR ?_))
      (exact ret1 rfl rfl (by repeat (first | exact List.Sublist.refl _ | exact List.nil_sublist _ | refine List.Sublist.cons_cons _ ?_ | refine List.Sublist.cons _ ?_)) (bool_false (fun h => by have := h.1; omega)))
    · ((refine Zq ?_; refine Zu ?_; refine Zq ?_; refine Zm ?_; refine Zy ?_; refine Zf T ?_; refine Zy ?_; refine Zl T 0 ?_))
      (((refine Zy ?_)); (refine q_gtrD (by exact rfl) (by exact rfl) (fun c3 => ?_) (fun c3 => ?_)))
      · ((refine Zq ?_; refine Zu ?_; refine Zq ?_; refine Zm ?_; refine Zn ?_; refine Zn ?_; refine Zn ?_; refine Zn ?_; refine Zq ?_; refine Zt ?_; refine Zq ?_; refine Zm ?_; refine Zn ?_; refine Zn ?_; refine Zn ?_; refine Zn ?_; refine Zn ?_; refine Zq ?_; refine Zt ?_; refine Seq.done ?_; refine Zc ?_; refine Wp.seq ?_; refine Wp.region ?_; refine Zq ?_; refine Za ?_; refine Seq.done ?_; refine Wp.ret ?_; refine thenR ?_))
        (exact ret1 rfl rfl (by repeat (first | exact List.Sublist.refl _ | exact List.nil_sublist _ | refine List.Sublist.cons_cons _ ?_ | refine List.Sublist.cons _ ?_)) (bool_false (fun h => by have := h.2.1; omega)))
      · ((refine Zq ?_; refine Zu ?_; refine Zq ?_; refine Zm ?_; refine Zy ?_; refine Zf T ?_; refine Zy ?_; refine Zl T 0 ?_))
        (((refine Zy ?_)); refine q_callB (by exact rfl) (by exact rfl) (named_q ho.name) (fun f1 => ?_) (fun f1 => ?_))
        · ((refine Zy ?_; refine q_not (by exact rfl) ?_; refine Zq ?_; refine Zu ?_; refine Zq ?_; refine Zm ?_; refine Zy ?_; refine ZL T 1 ?_; refine Zy ?_; refine Zf T ?_))
          (((refine Zy ?_)); refine q_load_own_sub (vs := [.slice B1 m1 d1, .slice B2 m2 d2, .slice B3 m3 d3]) T 0 (by exact rfl) (by exact rfl) (by exact rfl) (by exact rfl) (by exact rfl) (by exact rfl) ?_)
          (skip)
          (((refine Zy ?_)); refine q_callB (by exact rfl) (by exact rfl) (condition_q hg hc) (fun f2 => ?_) (fun f2 => ?_))
          · ((refine Zy ?_; refine q_not (by exact rfl) ?_; refine Zq ?_; refine Zu ?_; refine Seq.done ?_; refine Zd ?_; refine Wp.skip ?_; refine thenN ?_; refine Wp.seq ?_; refine Wp.seq ?_; refine Wp.region ?_; refine Zq ?_; refine Zf T ?_; refine Zq ?_; refine Zl T 0 ?_; refine Zq ?_; refine Zs T ?_; refine Zq ?_; refine Zm ?_; refine Seq.done ?_; refine Wp.block ?_))
            (refine Wp.loop (fun q σ fz' H' => ∃ k : Nat, k ≤ m4 ∧ q = m4 - k ∧ σ = [(40, .int .i64 k), (39, .int .i64 m4), (38, .slice B4 m4 d4), (2, .pointer (some ⟨g0, 0, none⟩)), (3, .pointer (some ⟨g1, 0, none⟩))] ∧ fz = fz' ∧ H' = [((g1, .cells #[.string o.name, .int .i64 o.cost, .slice B1 m1 d1, .slice B2 m2 d2, .slice B3 m3 d3, .slice B4 m4 d4, .slice B5 m5 d5] 46 (0, 0))), ((g0, .cells #[.slice A1 g.atoms.length cap1, .slice A2 g.fluents.length cap2, .slice A3 n3 cap3, .slice A4 n4 cap4, .slice A5 n5 cap5] 28 (0, 0)))] ∧ (∀ i, i < k → ∀ x, o.changes[i]? = some x → ChangeOk g.atoms.length g.fluents.length x)) ⟨0, Nat.zero_le _, rfl, rfl, rfl, rfl, (fun i hi => absurd hi (by omega))⟩ (by repeat (first | exact trivial | refine ⟨by exact rfl, ?_⟩)) (by repeat (first | exact List.Sublist.refl _ | exact List.nil_sublist _ | refine List.Sublist.cons_cons _ ?_ | refine List.Sublist.cons _ ?_)) ?_; rintro q σ fz' H' ⟨k, hk, rfl, rfl, rfl, rfl, hh⟩)
            ((refine Wp.seq ?_; refine Wp.region ?_))
            (((refine Zq ?_)); (refine q_lssD (by exact rfl) (by exact rfl) (fun hlt => ?_) (fun hge => ?_)))
            · ((refine Seq.done ?_; refine Wp.seq ?_; refine Zc ?_; refine Wp.skip ?_; refine thenN ?_; refine Wp.seq ?_; refine Wp.block ?_; refine Wp.seq ?_; refine Wp.region ?_))
              obtain ⟨x, hx⟩ := get_some (l := o.changes) (k := k) (by omega)
              (((refine Zq ?_)); refine q_index T k (by exact rfl) (by exact rfl) (by exact rfl) (by exact rfl) (by exact rfl) (by exact rfl) oc (by first | rfl | omega) hx (fun p hp => ?_))
              (((refine Zq ?_)); refine q_load_at T (by exact rfl) (by exact rfl) (by exact rfl) hp (by exact rfl) ?_)
              intro cs hcs
              obtain ⟨w1, w2, w3, rfl, hR⟩ := gChangeL_open hcs
              obtain ⟨E1, r1, q1, rfl, _⟩ := hR.when_.pos
              obtain ⟨E2, r2, q2, rfl, _⟩ := hR.when_.neg
              obtain ⟨E3, r3, q3, rfl, _⟩ := hR.when_.tests
              have bad : ¬ ChangeOk g.atoms.length g.fluents.length x → ¬ OpOk g.atoms.length g.fluents.length o := fun h hc => h (hc.2.2.2.2.2.1 x (List.mem_of_getElem? hx))
              ((refine Seq.stepK (by exact rfl) (k_alloc T (by exact rfl) (by exact rfl) (fun _ => ?_)); refine Seq.stepK0 (k_store0 T (by exact rfl) (by exact rfl) (by exact rfl) (by exact rfl) (by exact rfl) (by exact rfl) ?_); refine Seq.done ?_; refine Wp.seq ?_; refine Wp.region ?_; refine Zq ?_; refine Zf T ?_; refine Zq ?_; refine Zl T 0 ?_))
              (((refine Zq ?_)); (refine q_lssD (by exact rfl) (by exact rfl) (fun b1 => ?_) (fun b1 => ?_)))
              · ((refine Zq ?_; refine Zm ?_; refine Zn ?_; refine Zn ?_; refine Zn ?_; refine Zn ?_; refine Zn ?_; refine Zn ?_; refine Zq ?_; refine Zt ?_; refine Zq ?_; refine Zm ?_; refine Zn ?_; refine Zn ?_; refine Zn ?_; refine Zn ?_; refine Zn ?_; refine Zq ?_; refine Zt ?_; refine Seq.done ?_; refine Zc ?_; refine Wp.seq ?_; refine Wp.region ?_; refine Zq ?_; refine Za ?_; refine Seq.done ?_; refine Wp.ret ?_; refine blkR ?_; refine thenR ?_; refine loopR ?_; refine blkR ?_; refine thenR ?_))
                (exact ret1 rfl rfl (by repeat (first | exact List.Sublist.refl _ | exact List.nil_sublist _ | refine List.Sublist.cons_cons _ ?_ | refine List.Sublist.cons _ ?_)) (bool_false (bad (fun h => by have := h.1; omega))))
              · ((refine Zq ?_; refine Zm ?_; refine Zy ?_; refine Zf T ?_; refine Zy ?_; refine Zl T 0 ?_; refine Zy ?_; refine Zf T ?_; refine Zy ?_; refine Zl T 2 ?_; refine Zy ?_; refine Zs T ?_))
                (((refine Zy ?_)); (refine q_geqD (by exact rfl) (by exact rfl) (fun b2 => ?_) (fun b2 => ?_)))
                · ((refine Zq ?_; refine Zu ?_; refine Zq ?_; refine Zm ?_; refine Zn ?_; refine Zn ?_; refine Zn ?_; refine Zn ?_; refine Zn ?_; refine Zq ?_; refine Zt ?_; refine Seq.done ?_; refine Zc ?_; refine Wp.seq ?_; refine Wp.region ?_; refine Zq ?_; refine Za ?_; refine Seq.done ?_; refine Wp.ret ?_; refine blkR ?_; refine thenR ?_; refine loopR ?_; refine blkR ?_; refine thenR ?_))
                  (exact ret1 rfl rfl (by repeat (first | exact List.Sublist.refl _ | exact List.nil_sublist _ | refine List.Sublist.cons_cons _ ?_ | refine List.Sublist.cons _ ?_)) (bool_false (bad (fun h => by have := h.2.1; omega))))
                · ((refine Zq ?_; refine Zu ?_; refine Zq ?_; refine Zm ?_; refine Zy ?_; refine ZL T 2 ?_; refine Zy ?_; refine Zf T ?_))
                  (((refine Zy ?_)); refine q_load_own_sub (vs := [.slice E1 r1 q1, .slice E2 r2 q2, .slice E3 r3 q3]) T 0 (by exact rfl) (by exact rfl) (by exact rfl) (by exact rfl) (by exact rfl) (by exact rfl) ?_)
                  (skip)
                  (((refine Zy ?_)); refine q_callB (by exact rfl) (by exact rfl) (condition_q hg hR.when_) (fun f3 => ?_) (fun f3 => ?_))
                  · ((refine Zy ?_; refine q_not (by exact rfl) ?_; refine Zq ?_; refine Zu ?_; refine Seq.done ?_; refine Zd ?_; refine Wp.skip ?_; refine blkN ?_; refine thenN ?_; refine Wp.region ?_; refine Zq ?_; refine q_add (by exact rfl) (by exact rfl) (wrap_in (by omega)) ?_; refine Zq ?_; refine Zm ?_; refine Seq.end_ ?_))
                    (exact loopN ⟨k + 1, by omega, rfl, rfl, rfl, rfl, (all_next hh hx ⟨by omega, by omega, of_decide_eq_true f3⟩)⟩ (by omega) (by repeat (first | exact trivial | refine ⟨by exact rfl, ?_⟩)) (by repeat (first | exact List.Sublist.refl _ | exact List.nil_sublist _ | refine List.Sublist.cons_cons _ ?_ | refine List.Sublist.cons _ ?_)))
                  · ((refine Zy ?_; refine q_not (by exact rfl) ?_; refine Zq ?_; refine Zu ?_; refine Seq.done ?_; refine Zc ?_; refine Wp.seq ?_; refine Wp.region ?_; refine Zq ?_; refine Za ?_; refine Seq.done ?_; refine Wp.ret ?_; refine blkR ?_; refine thenR ?_; refine loopR ?_; refine blkR ?_; refine thenR ?_))
                    (exact ret1 rfl rfl (by repeat (first | exact List.Sublist.refl _ | exact List.nil_sublist _ | refine List.Sublist.cons_cons _ ?_ | refine List.Sublist.cons _ ?_)) (bool_false (bad (fun h => of_decide_eq_false f3 h.2.2))))
            · have hch := all_of hh (by omega)
              ((refine Seq.done ?_; refine Wp.seq ?_; refine Zd ?_; refine Wp.exit ?_; refine thenX ?_; refine loopX ?_; refine blkX (by exact rfl) ?_; refine thenN ?_; refine Wp.seq ?_; refine Wp.region ?_))
              refine Seq.stepK (by exact rfl) (k_makeMap (fun gm => ?_))
              ((refine Zq ?_; refine Za ?_; refine Seq.done ?_; refine Wp.seq ?_; refine Wp.seq ?_; refine Wp.region ?_; refine Zq ?_; refine Zf T ?_; refine Zq ?_; refine Zl T 1 ?_; refine Zq ?_; refine Zs T ?_; refine Zq ?_; refine Zm ?_; refine Seq.done ?_; refine Wp.block ?_))
              (refine Wp.loop (fun q σ fz' H' => ∃ (k : Nat) (ks : List Int), k ≤ m5 ∧ q = m5 - k ∧ σ = [(67, .int .i64 k), (66, .int .i64 m5), (65, .slice B5 m5 d5), (7, .map (some gm)), (2, .pointer (some ⟨g0, 0, none⟩)), (3, .pointer (some ⟨g1, 0, none⟩))] ∧ fz = fz' ∧ H' = [(gm, mapB (setB ks)), ((g1, .cells #[.string o.name, .int .i64 o.cost, .slice B1 m1 d1, .slice B2 m2 d2, .slice B3 m3 d3, .slice B4 m4 d4, .slice B5 m5 d5] 46 (0, 0))), ((g0, .cells #[.slice A1 g.atoms.length cap1, .slice A2 g.fluents.length cap2, .slice A3 n3 cap3, .slice A4 n4 cap4, .slice A5 n5 cap5] 28 (0, 0)))] ∧ ((∀ i, i < k → AssignAt g.fluents.length o.assigns i) ∧ ∀ x, x ∈ ks ↔ ∃ j b, j < k ∧ o.assigns[j]? = some b ∧ b.fluent = x)) ⟨0, [], Nat.zero_le _, rfl, rfl, rfl, rfl, ⟨(fun i hi => absurd hi (by omega)), fun x => by simp⟩⟩ (by repeat (first | exact trivial | refine ⟨by exact rfl, ?_⟩)) (by repeat (first | exact List.Sublist.refl _ | exact List.nil_sublist _ | refine List.Sublist.cons_cons _ ?_ | refine List.Sublist.cons _ ?_)) ?_; rintro q σ fz' H' ⟨k, ks, hk, rfl, rfl, rfl, rfl, hh⟩)
              obtain ⟨hh, hks⟩ := hh
              ((refine Wp.seq ?_; refine Wp.region ?_))
              (((refine Zq ?_)); (refine q_lssD (by exact rfl) (by exact rfl) (fun hlt => ?_) (fun hge => ?_)))
              · ((refine Seq.done ?_; refine Wp.seq ?_; refine Zc ?_; refine Wp.skip ?_; refine thenN ?_; refine Wp.seq ?_; refine Wp.block ?_; refine Wp.seq ?_; refine Wp.region ?_))
                obtain ⟨x, hx⟩ := get_some (l := o.assigns) (k := k) (by omega)
                (((refine Zq ?_)); refine q_index T k (by exact rfl) (by exact rfl) (by exact rfl) (by exact rfl) (by exact rfl) (by exact rfl) oa (by first | rfl | omega) hx (fun p hp => ?_))
                (((refine Zq ?_)); refine q_load_at T (by exact rfl) (by exact rfl) (by exact rfl) hp (by exact rfl) ?_)
                intro cs hcs
                obtain ⟨w1, rfl, hR⟩ := gAssignL_open hcs
                obtain ⟨E1, r1, q1, rfl, _⟩ := hR.value.kids
                have bad : (0 ≤ x.fluent → x.fluent < g.fluents.length → (∀ (j : Nat) (b : GAssign), j < k → o.assigns[j]? = some b → b.fluent ≠ x.fluent) → ¬ RightP g.fluents.length x.value) → ¬ OpOk g.atoms.length g.fluents.length o := fun h hc => by
                  have := hc.2.2.2.2.2.2 k x hx
                  exact h this.1 this.2.1 this.2.2.2 this.2.2.1
                ((refine Seq.stepK (by exact rfl) (k_alloc T (by exact rfl) (by exact rfl) (fun _ => ?_)); refine Seq.stepK0 (k_store0 T (by exact rfl) (by exact rfl) (by exact rfl) (by exact rfl) (by exact rfl) (by exact rfl) ?_); refine Seq.done ?_; refine Wp.seq ?_; refine Wp.seq ?_; refine Wp.region ?_; refine Zq ?_; refine Zf T ?_; refine Zq ?_; refine Zl T 0 ?_))
                (((refine Zq ?_)); (refine q_lssD (by exact rfl) (by exact rfl) (fun b1 => ?_) (fun b1 => ?_)))
                · ((refine Zq ?_; refine Zm ?_; refine Zn ?_; refine Zn ?_; refine Zn ?_; refine Zn ?_; refine Zn ?_; refine Zn ?_; refine Zq ?_; refine Zt ?_; refine Zq ?_; refine Zm ?_; refine Zn ?_; refine Zn ?_; refine Zn ?_; refine Zn ?_; refine Zq ?_; refine Zt ?_; refine Zq ?_; refine Zm ?_; refine Zn ?_; refine Zn ?_; refine Zn ?_; refine Zn ?_; refine Zn ?_; refine Zn ?_; refine Zn ?_; refine Zq ?_; refine Zt ?_; refine Seq.done ?_; refine Zc ?_; refine Wp.seq ?_; refine Wp.region ?_; refine Zq ?_; refine Za ?_; refine Seq.done ?_; refine Wp.ret ?_; refine thenR ?_; refine blkR ?_; refine thenR ?_; refine loopR ?_; refine blkR ?_; refine thenR ?_))
                  (exact ret1 rfl rfl (by repeat (first | exact List.Sublist.refl _ | exact List.nil_sublist _ | refine List.Sublist.cons_cons _ ?_ | refine List.Sublist.cons _ ?_)) (bool_false (bad (fun h => by omega))))
                · ((refine Zq ?_; refine Zm ?_; refine Zy ?_; refine Zf T ?_; refine Zy ?_; refine Zl T 0 ?_; refine Zy ?_; refine Zf T ?_; refine Zy ?_; refine Zl T 3 ?_; refine Zy ?_; refine Zs T ?_))
                  (((refine Zy ?_)); (refine q_geqD (by exact rfl) (by exact rfl) (fun b2 => ?_) (fun b2 => ?_)))
                  · ((refine Zq ?_; refine Zu ?_; refine Zq ?_; refine Zm ?_; refine Zn ?_; refine Zn ?_; refine Zn ?_; refine Zn ?_; refine Zq ?_; refine Zt ?_; refine Zq ?_; refine Zm ?_; refine Zn ?_; refine Zn ?_; refine Zn ?_; refine Zn ?_; refine Zn ?_; refine Zn ?_; refine Zn ?_; refine Zq ?_; refine Zt ?_; refine Seq.done ?_; refine Zc ?_; refine Wp.seq ?_; refine Wp.region ?_; refine Zq ?_; refine Za ?_; refine Seq.done ?_; refine Wp.ret ?_; refine thenR ?_; refine blkR ?_; refine thenR ?_; refine loopR ?_; refine blkR ?_; refine thenR ?_))
                    (exact ret1 rfl rfl (by repeat (first | exact List.Sublist.refl _ | exact List.nil_sublist _ | refine List.Sublist.cons_cons _ ?_ | refine List.Sublist.cons _ ?_)) (bool_false (bad (fun _ h => by omega))))
                  · ((refine Zq ?_; refine Zu ?_; refine Zq ?_; refine Zm ?_; refine Zy ?_; refine Zm ?_; refine Zy ?_; refine Zf T ?_; refine Zy ?_; refine Zl T 0 ?_))
                    ((refine Zy ?_)); refine q_lookup_set T 1 (by exact rfl) (by exact rfl) (by exact rfl) (by exact rfl) (by exact rfl) (by exact rfl) (by exact rfl) (by exact rfl) (by exact rfl) (fun b3 => ?_) (fun b3 => ?_)
                    · ((refine Zq ?_; refine Zu ?_; refine Zq ?_; refine Zm ?_; refine Zn ?_; refine Zn ?_; refine Zn ?_; refine Zn ?_; refine Zn ?_; refine Zn ?_; refine Zn ?_; refine Zq ?_; refine Zt ?_; refine Seq.done ?_; refine Zc ?_; refine Wp.seq ?_; refine Wp.region ?_; refine Zq ?_; refine Za ?_; refine Seq.done ?_; refine Wp.ret ?_; refine thenR ?_; refine blkR ?_; refine thenR ?_; refine loopR ?_; refine blkR ?_; refine thenR ?_))
                      (exact ret1 rfl rfl (by repeat (first | exact List.Sublist.refl _ | exact List.nil_sublist _ | refine List.Sublist.cons_cons _ ?_ | refine List.Sublist.cons _ ?_)) (bool_false (bad (fun _ _ h => by obtain ⟨j, b, h1, h2, h3⟩ := (hks _).1 b3; exact absurd h3 (h j b h1 h2)))))
                    · ((refine Zq ?_; refine Zu ?_; refine Zq ?_; refine Zm ?_; refine Zy ?_; refine Zf T ?_))
                      (((refine Zy ?_)); refine q_load_own_sub (vs := [.string x.value.op, .int .i64 x.value.n, .slice E1 r1 q1]) T 0 (by exact rfl) (by exact rfl) (by exact rfl) (by exact rfl) (by exact rfl) (by exact rfl) ?_)
                      ((refine Zy ?_; refine Zf T ?_; refine Zy ?_; refine Zl T 3 ?_; refine Zy ?_; refine Zs T ?_))
                      (((refine Zy ?_)); refine q_callB (by exact rfl) (by exact rfl) (right_q (m := g.fluents.length) hR.value) (fun f3 => ?_) (fun f3 => ?_))
                      · ((refine Zy ?_; refine q_not (by exact rfl) ?_; refine Zq ?_; refine Zu ?_; refine Seq.done ?_; refine Zd ?_; refine Wp.skip ?_; refine thenN ?_; refine Wp.region ?_; refine Zq ?_; refine Zm ?_; refine Zq ?_; refine Zf T ?_; refine Zq ?_; refine Zl T 0 ?_))
                        refine Seq.stepK0 (k_mapUpdate T (pre := [_]) (by exact rfl) (by exact rfl) (by exact rfl) (by exact rfl) (by exact rfl) (by exact rfl) (by exact rfl) (List.Perm.refl _) ?_)
                        rw [upd_set]
                        ((refine Seq.end_ ?_; refine blkN ?_; refine thenN ?_; refine Wp.region ?_; refine Zq ?_; refine q_add (by exact rfl) (by exact rfl) (wrap_in (by omega)) ?_; refine Zq ?_; refine Zm ?_; refine Seq.end_ ?_))
                        (exact loopN ⟨k + 1, (insK ks x.fluent), by omega, rfl, rfl, rfl, rfl, (seen_next hh hks hx (by omega) (by omega) (of_decide_eq_true f3) b3)⟩ (by omega) (by repeat (first | exact trivial | refine ⟨by exact rfl, ?_⟩)) (by repeat (first | exact List.Sublist.refl _ | exact List.nil_sublist _ | refine List.Sublist.cons_cons _ ?_ | refine List.Sublist.cons _ ?_)))
                      · ((refine Zy ?_; refine q_not (by exact rfl) ?_; refine Zq ?_; refine Zu ?_; refine Seq.done ?_; refine Zc ?_; refine Wp.seq ?_; refine Wp.region ?_; refine Zq ?_; refine Za ?_; refine Seq.done ?_; refine Wp.ret ?_; refine thenR ?_; refine blkR ?_; refine thenR ?_; refine loopR ?_; refine blkR ?_; refine thenR ?_))
                        (exact ret1 rfl rfl (by repeat (first | exact List.Sublist.refl _ | exact List.nil_sublist _ | refine List.Sublist.cons_cons _ ?_ | refine List.Sublist.cons _ ?_)) (bool_false (bad (fun _ _ _ => of_decide_eq_false f3))))
              · ((refine Seq.done ?_; refine Wp.seq ?_; refine Zd ?_; refine Wp.exit ?_; refine thenX ?_; refine loopX ?_; refine blkX (by exact rfl) ?_; refine thenN ?_; refine Wp.seq ?_; refine Wp.region ?_; refine Zq ?_; refine Za ?_; refine Seq.done ?_; refine Wp.ret ?_))
                (exact ret1 rfl rfl (by repeat (first | exact List.Sublist.refl _ | exact List.nil_sublist _ | refine List.Sublist.cons_cons _ ?_ | refine List.Sublist.cons _ ?_)) (bool_true ⟨by omega, by omega, of_decide_eq_true f1, by omega, of_decide_eq_true f2, hch, assigns_of hh (by omega)⟩))
          · ((refine Zy ?_; refine q_not (by exact rfl) ?_; refine Zq ?_; refine Zu ?_; refine Seq.done ?_; refine Zc ?_; refine Wp.seq ?_; refine Wp.region ?_; refine Zq ?_; refine Za ?_; refine Seq.done ?_; refine Wp.ret ?_; refine thenR ?_))
            (exact ret1 rfl rfl (by repeat (first | exact List.Sublist.refl _ | exact List.nil_sublist _ | refine List.Sublist.cons_cons _ ?_ | refine List.Sublist.cons _ ?_)) (bool_false (fun h => of_decide_eq_false f2 h.2.2.2.2.1)))
        · ((refine Zy ?_; refine q_not (by exact rfl) ?_; refine Zq ?_; refine Zu ?_; refine Zq ?_; refine Zm ?_; refine Zn ?_; refine Zn ?_; refine Zn ?_; refine Zn ?_; refine Zn ?_; refine Zq ?_; refine Zt ?_; refine Seq.done ?_; refine Zc ?_; refine Wp.seq ?_; refine Wp.region ?_; refine Zq ?_; refine Za ?_; refine Seq.done ?_; refine Wp.ret ?_; refine thenR ?_))
          (exact ret1 rfl rfl (by repeat (first | exact List.Sublist.refl _ | exact List.nil_sublist _ | refine List.Sublist.cons_cons _ ?_ | refine List.Sublist.cons _ ?_)) (bool_false (fun h => of_decide_eq_false f1 h.2.2.1)))
end Go.Proofs.YtegmololhnipiaaGreatDoor
namespace Go.Proofs.YtegmololhnipiaaGreatDoor
open Go.Lx Go.Gr Go.RowKit
attribute [local instance 10] Classical.propDecidable
end Go.Proofs.YtegmololhnipiaaGreatDoor
namespace Go.Lx
theorem q_callvD {P : Program} {cx : Cx} {r : Operand → Option Value} {fz : FZ} {H : HP} {V : Value → Prop} {dst : Option Nat} {ty : TypeId} {pos : String} {af : Array Edge} {gd : Option (Nat × Bool)} {f : FuncId} {ff : Operand} {xs : List Operand} {ats : Array TypeId} {us vs first capt : List Value} {p : Prop} [Decidable p] (hf : r ff = some (.func (.func f) first.toArray capt.toArray)) (hx : rds r xs = some us) (hv : first ++ us ++ capt = vs) (hq : QFn P f vs fz (.bool (decide p)))
    (h1 : p → V (.bool true)) (h2 : ¬ p → V (.bool false)) : DoesQ P cx ⟨dst, .call { callee := .value ff, args := xs.toArray, argTypes := ats }, ty, pos, af, gd⟩ r fz H V :=
  q_callv hf hx hv hq (v_dec h1 h2)
end Go.Lx
namespace Go.Proofs.YtegmololhnipiaaGreatDoor
open Go.Lx Go.Gr Go.RowKit
attribute [local instance 10] Classical.propDecidable
noncomputable def firstI {α : Type} (p : α → Prop) : List α → Int → Int
  | [], _ => -1
  | x :: r, k => if p x then k else firstI p r (k + 1)
theorem firstI_iff {α : Type} {p : α → Prop} : ∀ {l : List α} {k : Int}, 0 ≤ k → (0 ≤ firstI p l k ↔ ∃ x ∈ l, p x)
  | [], k, _ => by simp [firstI]
  | x :: r, k, hk => by
    unfold firstI
    split
    · rename_i h; exact ⟨fun _ => ⟨x, by simp, h⟩, fun _ => hk⟩
    · rename_i h
      rw [firstI_iff (l := r) (k := k + 1) (by omega)]
      simp [h]
theorem firstI_at {α : Type} {p : α → Prop} : ∀ {l : List α} {i : Nat} {k : Int} {x : α}, (∀ j, j < i → ∀ y, l[j]? = some y → ¬ p y) → l[i]? = some x → p x → firstI p l k = k + i
  | [], i, k, x, _, hx, _ => by simp at hx
  | y :: r, 0, k, x, _, hx, hp => by
    simp at hx; subst hx
    simp [firstI, hp]
  | y :: r, i + 1, k, x, h, hx, hp => by
    have h0 := h 0 (by omega) y rfl
    have := firstI_at (p := p) (l := r) (i := i) (k := k + 1) (x := x) (fun j hj z hz => h (j + 1) (by omega) z (by simpa using hz)) (by simpa using hx) hp
    unfold firstI
    rw [if_neg h0, this]
    omega
theorem firstI_none {α : Type} {p : α → Prop} : ∀ {l : List α} {k : Int}, (∀ x ∈ l, ¬ p x) → firstI p l k = -1
  | [], k, _ => rfl
  | y :: r, k, h => by
    unfold firstI
    rw [if_neg (h y (by simp)), firstI_none (fun x hx => h x (by simp [hx]))]
theorem indexGFluent_q {fz : FZ} {A : Option Addr} {n c : Nat} {l : List GFluent} {ff : FuncId} {cap : List Value} {p : GFluent → Prop} [DecidablePred p] (h1 : Sl gFluentL fz A n c l) (hq : ∀ x cs, x ∈ l → gFluentL.rep fz x cs → QFn Tryz.prog ff (.agg cs.toArray :: cap) fz (.bool (decide (p x)))) :
    QFn Tryz.prog 67 [.slice A n c, .func (.func ff) #[] cap.toArray] fz (.int .i64 (firstI p l 0)) := by
  refine GFn.quiet ?_
  (refine GFn.of_wp Tryz.func67 rfl Tryz.ntmps67 rfl rfl (fun w0 => ?_))
  have l1 := h1.len
  have hm := h1.short
  ((refine Wp.seq ?_; refine Wp.region ?_; refine Zq ?_; refine Za ?_; refine Seq.done ?_; refine Wp.seq ?_; refine Wp.seq ?_; refine Wp.region ?_; refine Zq ?_; refine Zm ?_; refine Zq ?_; refine Zs T ?_; refine Zq ?_; refine Zm ?_; refine Seq.done ?_; refine Wp.block ?_))
  (refine Wp.loop (fun q σ fz' H' => ∃ k : Nat, k ≤ n ∧ q = n - k ∧ σ = [(8, .int .i64 k), (7, .int .i64 n), (0, .slice A n c), (1, .func (.func ff) #[] cap.toArray)] ∧ fz = fz' ∧ H' = [] ∧ (∀ i, i < k → ∀ x, l[i]? = some x → ¬ p x)) ⟨0, Nat.zero_le _, rfl, rfl, rfl, rfl, (fun i hi => absurd hi (by omega))⟩ (by repeat (first | exact trivial | refine ⟨by exact rfl, ?_⟩)) (by repeat (first | exact List.Sublist.refl _ | exact List.nil_sublist _ | refine List.Sublist.cons_cons _ ?_ | refine List.Sublist.cons _ ?_)) ?_; rintro q σ fz' H' ⟨k, hk, rfl, rfl, rfl, rfl, hh⟩)
  ((refine Wp.seq ?_; refine Wp.region ?_))
  (((refine Zq ?_)); (refine q_lssD (by exact rfl) (by exact rfl) (fun hlt => ?_) (fun hge => ?_)))
  · ((refine Seq.done ?_; refine Wp.seq ?_; refine Zc ?_; refine Wp.skip ?_; refine thenN ?_; refine Wp.seq ?_; refine Wp.block ?_; refine Wp.seq ?_; refine Wp.region ?_; refine Zq ?_; refine Zm ?_; refine Zq ?_; refine Za ?_; refine Seq.done ?_; refine Wp.seq ?_; refine Wp.region ?_; refine Zq ?_; refine Zm ?_; refine Zq ?_; refine Zm ?_; refine Zq ?_; refine Zm ?_))
    obtain ⟨x, hx⟩ := get_some (l := l) (k := k) (by omega)
    (((refine Zq ?_)); refine q_index T k (by exact rfl) (by exact rfl) (by exact rfl) (by exact rfl) (by exact rfl) (by exact rfl) h1 (by first | rfl | omega) hx (fun a ha => ?_))
    (((refine Zq ?_)); refine q_load_at T (by exact rfl) (by exact rfl) (by exact rfl) ha (by exact rfl) ?_)
    intro cs hcs
    (skip)
    (((refine Zq ?_)); refine q_callvD (by exact rfl) (by exact rfl) (by exact rfl) (hq x cs (List.mem_of_getElem? hx) hcs) (fun c1 => ?_) (fun c1 => ?_))
    · ((refine Seq.done ?_; refine Zc ?_; refine Wp.seq ?_; refine Wp.region ?_; refine Zq ?_; refine Zm ?_; refine Zq ?_; refine Za ?_; refine Seq.done ?_; refine Wp.ret ?_; refine blkR ?_; refine thenR ?_; refine loopR ?_; refine blkR ?_; refine thenR ?_))
      (exact ret1 rfl rfl (by repeat (first | exact List.Sublist.refl _ | exact List.nil_sublist _ | refine List.Sublist.cons_cons _ ?_ | refine List.Sublist.cons _ ?_)) (by rw [firstI_at hh hx c1, Int.zero_add]))
    · ((refine Seq.done ?_; refine Zd ?_; refine Wp.skip ?_; refine blkN ?_; refine thenN ?_; refine Wp.region ?_; refine Zq ?_; refine q_add (by exact rfl) (by exact rfl) (wrap_in (by omega)) ?_; refine Zq ?_; refine Zm ?_; refine Seq.end_ ?_))
      (exact loopN ⟨k + 1, by omega, rfl, rfl, rfl, rfl, (all_next hh hx c1)⟩ (by omega) (by repeat (first | exact trivial | refine ⟨by exact rfl, ?_⟩)) (by repeat (first | exact List.Sublist.refl _ | exact List.nil_sublist _ | refine List.Sublist.cons_cons _ ?_ | refine List.Sublist.cons _ ?_)))
  · ((refine Seq.done ?_; refine Wp.seq ?_; refine Zd ?_; refine Wp.exit ?_; refine thenX ?_; refine loopX ?_; refine blkX (by exact rfl) ?_; refine thenN ?_; refine Wp.seq ?_; refine Wp.region ?_; refine Zq ?_; refine Za ?_; refine Seq.done ?_; refine Wp.ret ?_))
    (exact ret1 rfl rfl (by repeat (first | exact List.Sublist.refl _ | exact List.nil_sublist _ | refine List.Sublist.cons_cons _ ?_ | refine List.Sublist.cons _ ?_)) (by rw [firstI_none (all_of hh (by omega))]))
theorem containsGFluent_q {fz : FZ} {A : Option Addr} {n c : Nat} {l : List GFluent} {ff : FuncId} {cap : List Value} {p : GFluent → Prop} [DecidablePred p] (h1 : Sl gFluentL fz A n c l) (hq : ∀ x cs, x ∈ l → gFluentL.rep fz x cs → QFn Tryz.prog ff (.agg cs.toArray :: cap) fz (.bool (decide (p x)))) :
    QFn Tryz.prog 35 [.slice A n c, .func (.func ff) #[] cap.toArray] fz (.bool (decide (∃ x ∈ l, p x))) := by
  refine GFn.quiet ?_
  (refine GFn.of_wp Tryz.func35 rfl Tryz.ntmps35 rfl rfl (fun w0 => ?_))
  ((refine Wp.seq ?_; refine Wp.region ?_; refine Zq ?_; refine Za ?_; refine Seq.done ?_; refine Wp.seq ?_; refine Wp.region ?_; refine Zq ?_; refine Zm ?_; refine Zq ?_; refine Zm ?_))
  (((refine Zq ?_)); refine q_call (by exact rfl) (by exact rfl) (indexGFluent_q h1 hq) ?_)
  (((refine Zq ?_)); (refine q_geqD (by exact rfl) (by exact rfl) (fun c1 => ?_) (fun c1 => ?_)))
  · ((refine Zq ?_; refine Za ?_; refine Seq.done ?_; refine Wp.ret ?_))
    (exact ret1 rfl rfl (by repeat (first | exact List.Sublist.refl _ | exact List.nil_sublist _ | refine List.Sublist.cons_cons _ ?_ | refine List.Sublist.cons _ ?_)) (bool_true ((firstI_iff (Int.le_refl 0)).1 c1)))
  · ((refine Zq ?_; refine Za ?_; refine Seq.done ?_; refine Wp.ret ?_))
    (exact ret1 rfl rfl (by repeat (first | exact List.Sublist.refl _ | exact List.nil_sublist _ | refine List.Sublist.cons_cons _ ?_ | refine List.Sublist.cons _ ?_)) (bool_false (fun h => c1 ((firstI_iff (Int.le_refl 0)).2 h))))
theorem indexCond_q {fz : FZ} {A : Option Addr} {n c : Nat} {l : List Cond} {ff : FuncId} {cap : List Value} {p : Cond → Prop} [DecidablePred p] (h1 : Sl condL fz A n c l) (hq : ∀ x cs, x ∈ l → condL.rep fz x cs → QFn Tryz.prog ff (.agg cs.toArray :: cap) fz (.bool (decide (p x)))) :
    QFn Tryz.prog 68 [.slice A n c, .func (.func ff) #[] cap.toArray] fz (.int .i64 (firstI p l 0)) := by
  refine GFn.quiet ?_
  (refine GFn.of_wp Tryz.func68 rfl Tryz.ntmps68 rfl rfl (fun w0 => ?_))
  have l1 := h1.len
  have hm := h1.short
  ((refine Wp.seq ?_; refine Wp.region ?_; refine Zq ?_; refine Za ?_; refine Seq.done ?_; refine Wp.seq ?_; refine Wp.seq ?_; refine Wp.region ?_; refine Zq ?_; refine Zm ?_; refine Zq ?_; refine Zs T ?_; refine Zq ?_; refine Zm ?_; refine Seq.done ?_; refine Wp.block ?_))
  (refine Wp.loop (fun q σ fz' H' => ∃ k : Nat, k ≤ n ∧ q = n - k ∧ σ = [(8, .int .i64 k), (7, .int .i64 n), (0, .slice A n c), (1, .func (.func ff) #[] cap.toArray)] ∧ fz = fz' ∧ H' = [] ∧ (∀ i, i < k → ∀ x, l[i]? = some x → ¬ p x)) ⟨0, Nat.zero_le _, rfl, rfl, rfl, rfl, (fun i hi => absurd hi (by omega))⟩ (by repeat (first | exact trivial | refine ⟨by exact rfl, ?_⟩)) (by repeat (first | exact List.Sublist.refl _ | exact List.nil_sublist _ | refine List.Sublist.cons_cons _ ?_ | refine List.Sublist.cons _ ?_)) ?_; rintro q σ fz' H' ⟨k, hk, rfl, rfl, rfl, rfl, hh⟩)
  ((refine Wp.seq ?_; refine Wp.region ?_))
  (((refine Zq ?_)); (refine q_lssD (by exact rfl) (by exact rfl) (fun hlt => ?_) (fun hge => ?_)))
  · ((refine Seq.done ?_; refine Wp.seq ?_; refine Zc ?_; refine Wp.skip ?_; refine thenN ?_; refine Wp.seq ?_; refine Wp.block ?_; refine Wp.seq ?_; refine Wp.region ?_; refine Zq ?_; refine Zm ?_; refine Zq ?_; refine Za ?_; refine Seq.done ?_; refine Wp.seq ?_; refine Wp.region ?_; refine Zq ?_; refine Zm ?_; refine Zq ?_; refine Zm ?_; refine Zq ?_; refine Zm ?_))
    obtain ⟨x, hx⟩ := get_some (l := l) (k := k) (by omega)
    (((refine Zq ?_)); refine q_index T k (by exact rfl) (by exact rfl) (by exact rfl) (by exact rfl) (by exact rfl) (by exact rfl) h1 (by first | rfl | omega) hx (fun a ha => ?_))
    (((refine Zq ?_)); refine q_load_at T (by exact rfl) (by exact rfl) (by exact rfl) ha (by exact rfl) ?_)
    intro cs hcs
    (skip)
    (((refine Zq ?_)); refine q_callvD (by exact rfl) (by exact rfl) (by exact rfl) (hq x cs (List.mem_of_getElem? hx) hcs) (fun c1 => ?_) (fun c1 => ?_))
    · ((refine Seq.done ?_; refine Zc ?_; refine Wp.seq ?_; refine Wp.region ?_; refine Zq ?_; refine Zm ?_; refine Zq ?_; refine Za ?_; refine Seq.done ?_; refine Wp.ret ?_; refine blkR ?_; refine thenR ?_; refine loopR ?_; refine blkR ?_; refine thenR ?_))
      (exact ret1 rfl rfl (by repeat (first | exact List.Sublist.refl _ | exact List.nil_sublist _ | refine List.Sublist.cons_cons _ ?_ | refine List.Sublist.cons _ ?_)) (by rw [firstI_at hh hx c1, Int.zero_add]))
    · ((refine Seq.done ?_; refine Zd ?_; refine Wp.skip ?_; refine blkN ?_; refine thenN ?_; refine Wp.region ?_; refine Zq ?_; refine q_add (by exact rfl) (by exact rfl) (wrap_in (by omega)) ?_; refine Zq ?_; refine Zm ?_; refine Seq.end_ ?_))
      (exact loopN ⟨k + 1, by omega, rfl, rfl, rfl, rfl, (all_next hh hx c1)⟩ (by omega) (by repeat (first | exact trivial | refine ⟨by exact rfl, ?_⟩)) (by repeat (first | exact List.Sublist.refl _ | exact List.nil_sublist _ | refine List.Sublist.cons_cons _ ?_ | refine List.Sublist.cons _ ?_)))
  · ((refine Seq.done ?_; refine Wp.seq ?_; refine Zd ?_; refine Wp.exit ?_; refine thenX ?_; refine loopX ?_; refine blkX (by exact rfl) ?_; refine thenN ?_; refine Wp.seq ?_; refine Wp.region ?_; refine Zq ?_; refine Za ?_; refine Seq.done ?_; refine Wp.ret ?_))
    (exact ret1 rfl rfl (by repeat (first | exact List.Sublist.refl _ | exact List.nil_sublist _ | refine List.Sublist.cons_cons _ ?_ | refine List.Sublist.cons _ ?_)) (by rw [firstI_none (all_of hh (by omega))]))
theorem containsCond_q {fz : FZ} {A : Option Addr} {n c : Nat} {l : List Cond} {ff : FuncId} {cap : List Value} {p : Cond → Prop} [DecidablePred p] (h1 : Sl condL fz A n c l) (hq : ∀ x cs, x ∈ l → condL.rep fz x cs → QFn Tryz.prog ff (.agg cs.toArray :: cap) fz (.bool (decide (p x)))) :
    QFn Tryz.prog 39 [.slice A n c, .func (.func ff) #[] cap.toArray] fz (.bool (decide (∃ x ∈ l, p x))) := by
  refine GFn.quiet ?_
  (refine GFn.of_wp Tryz.func39 rfl Tryz.ntmps39 rfl rfl (fun w0 => ?_))
  ((refine Wp.seq ?_; refine Wp.region ?_; refine Zq ?_; refine Za ?_; refine Seq.done ?_; refine Wp.seq ?_; refine Wp.region ?_; refine Zq ?_; refine Zm ?_; refine Zq ?_; refine Zm ?_))
  (((refine Zq ?_)); refine q_call (by exact rfl) (by exact rfl) (indexCond_q h1 hq) ?_)
  (((refine Zq ?_)); (refine q_geqD (by exact rfl) (by exact rfl) (fun c1 => ?_) (fun c1 => ?_)))
  · ((refine Zq ?_; refine Za ?_; refine Seq.done ?_; refine Wp.ret ?_))
    (exact ret1 rfl rfl (by repeat (first | exact List.Sublist.refl _ | exact List.nil_sublist _ | refine List.Sublist.cons_cons _ ?_ | refine List.Sublist.cons _ ?_)) (bool_true ((firstI_iff (Int.le_refl 0)).1 c1)))
  · ((refine Zq ?_; refine Za ?_; refine Seq.done ?_; refine Wp.ret ?_))
    (exact ret1 rfl rfl (by repeat (first | exact List.Sublist.refl _ | exact List.nil_sublist _ | refine List.Sublist.cons_cons _ ?_ | refine List.Sublist.cons _ ?_)) (bool_false (fun h => c1 ((firstI_iff (Int.le_refl 0)).2 h))))
theorem indexGOp_q {fz : FZ} {A : Option Addr} {n c : Nat} {l : List GOp} {ff : FuncId} {cap : List Value} {p : GOp → Prop} [DecidablePred p] (h1 : Sl gOpL fz A n c l) (hq : ∀ x cs, x ∈ l → gOpL.rep fz x cs → QFn Tryz.prog ff (.agg cs.toArray :: cap) fz (.bool (decide (p x)))) :
    QFn Tryz.prog 69 [.slice A n c, .func (.func ff) #[] cap.toArray] fz (.int .i64 (firstI p l 0)) := by
  refine GFn.quiet ?_
  (refine GFn.of_wp Tryz.func69 rfl Tryz.ntmps69 rfl rfl (fun w0 => ?_))
  have l1 := h1.len
  have hm := h1.short
  ((refine Wp.seq ?_; refine Wp.region ?_; refine Zq ?_; refine Za ?_; refine Seq.done ?_; refine Wp.seq ?_; refine Wp.seq ?_; refine Wp.region ?_; refine Zq ?_; refine Zm ?_; refine Zq ?_; refine Zs T ?_; refine Zq ?_; refine Zm ?_; refine Seq.done ?_; refine Wp.block ?_))
  (refine Wp.loop (fun q σ fz' H' => ∃ k : Nat, k ≤ n ∧ q = n - k ∧ σ = [(8, .int .i64 k), (7, .int .i64 n), (0, .slice A n c), (1, .func (.func ff) #[] cap.toArray)] ∧ fz = fz' ∧ H' = [] ∧ (∀ i, i < k → ∀ x, l[i]? = some x → ¬ p x)) ⟨0, Nat.zero_le _, rfl, rfl, rfl, rfl, (fun i hi => absurd hi (by omega))⟩ (by repeat (first | exact trivial | refine ⟨by exact rfl, ?_⟩)) (by repeat (first | exact List.Sublist.refl _ | exact List.nil_sublist _ | refine List.Sublist.cons_cons _ ?_ | refine List.Sublist.cons _ ?_)) ?_; rintro q σ fz' H' ⟨k, hk, rfl, rfl, rfl, rfl, hh⟩)
  ((refine Wp.seq ?_; refine Wp.region ?_))
  (((refine Zq ?_)); (refine q_lssD (by exact rfl) (by exact rfl) (fun hlt => ?_) (fun hge => ?_)))
  · ((refine Seq.done ?_; refine Wp.seq ?_; refine Zc ?_; refine Wp.skip ?_; refine thenN ?_; refine Wp.seq ?_; refine Wp.block ?_; refine Wp.seq ?_; refine Wp.region ?_; refine Zq ?_; refine Zm ?_; refine Zq ?_; refine Za ?_; refine Seq.done ?_; refine Wp.seq ?_; refine Wp.region ?_; refine Zq ?_; refine Zm ?_; refine Zq ?_; refine Zm ?_; refine Zq ?_; refine Zm ?_))
    obtain ⟨x, hx⟩ := get_some (l := l) (k := k) (by omega)
    (((refine Zq ?_)); refine q_index T k (by exact rfl) (by exact rfl) (by exact rfl) (by exact rfl) (by exact rfl) (by exact rfl) h1 (by first | rfl | omega) hx (fun a ha => ?_))
    (((refine Zq ?_)); refine q_load_at T (by exact rfl) (by exact rfl) (by exact rfl) ha (by exact rfl) ?_)
    intro cs hcs
    (skip)
    (((refine Zq ?_)); refine q_callvD (by exact rfl) (by exact rfl) (by exact rfl) (hq x cs (List.mem_of_getElem? hx) hcs) (fun c1 => ?_) (fun c1 => ?_))
    · ((refine Seq.done ?_; refine Zc ?_; refine Wp.seq ?_; refine Wp.region ?_; refine Zq ?_; refine Zm ?_; refine Zq ?_; refine Za ?_; refine Seq.done ?_; refine Wp.ret ?_; refine blkR ?_; refine thenR ?_; refine loopR ?_; refine blkR ?_; refine thenR ?_))
      (exact ret1 rfl rfl (by repeat (first | exact List.Sublist.refl _ | exact List.nil_sublist _ | refine List.Sublist.cons_cons _ ?_ | refine List.Sublist.cons _ ?_)) (by rw [firstI_at hh hx c1, Int.zero_add]))
    · ((refine Seq.done ?_; refine Zd ?_; refine Wp.skip ?_; refine blkN ?_; refine thenN ?_; refine Wp.region ?_; refine Zq ?_; refine q_add (by exact rfl) (by exact rfl) (wrap_in (by omega)) ?_; refine Zq ?_; refine Zm ?_; refine Seq.end_ ?_))
      (exact loopN ⟨k + 1, by omega, rfl, rfl, rfl, rfl, (all_next hh hx c1)⟩ (by omega) (by repeat (first | exact trivial | refine ⟨by exact rfl, ?_⟩)) (by repeat (first | exact List.Sublist.refl _ | exact List.nil_sublist _ | refine List.Sublist.cons_cons _ ?_ | refine List.Sublist.cons _ ?_)))
  · ((refine Seq.done ?_; refine Wp.seq ?_; refine Zd ?_; refine Wp.exit ?_; refine thenX ?_; refine loopX ?_; refine blkX (by exact rfl) ?_; refine thenN ?_; refine Wp.seq ?_; refine Wp.region ?_; refine Zq ?_; refine Za ?_; refine Seq.done ?_; refine Wp.ret ?_))
    (exact ret1 rfl rfl (by repeat (first | exact List.Sublist.refl _ | exact List.nil_sublist _ | refine List.Sublist.cons_cons _ ?_ | refine List.Sublist.cons _ ?_)) (by rw [firstI_none (all_of hh (by omega))]))
theorem containsGOp_q {fz : FZ} {A : Option Addr} {n c : Nat} {l : List GOp} {ff : FuncId} {cap : List Value} {p : GOp → Prop} [DecidablePred p] (h1 : Sl gOpL fz A n c l) (hq : ∀ x cs, x ∈ l → gOpL.rep fz x cs → QFn Tryz.prog ff (.agg cs.toArray :: cap) fz (.bool (decide (p x)))) :
    QFn Tryz.prog 42 [.slice A n c, .func (.func ff) #[] cap.toArray] fz (.bool (decide (∃ x ∈ l, p x))) := by
  refine GFn.quiet ?_
  (refine GFn.of_wp Tryz.func42 rfl Tryz.ntmps42 rfl rfl (fun w0 => ?_))
  ((refine Wp.seq ?_; refine Wp.region ?_; refine Zq ?_; refine Za ?_; refine Seq.done ?_; refine Wp.seq ?_; refine Wp.region ?_; refine Zq ?_; refine Zm ?_; refine Zq ?_; refine Zm ?_))
  (((refine Zq ?_)); refine q_call (by exact rfl) (by exact rfl) (indexGOp_q h1 hq) ?_)
  (((refine Zq ?_)); (refine q_geqD (by exact rfl) (by exact rfl) (fun c1 => ?_) (fun c1 => ?_)))
  · ((refine Zq ?_; refine Za ?_; refine Seq.done ?_; refine Wp.ret ?_))
    (exact ret1 rfl rfl (by repeat (first | exact List.Sublist.refl _ | exact List.nil_sublist _ | refine List.Sublist.cons_cons _ ?_ | refine List.Sublist.cons _ ?_)) (bool_true ((firstI_iff (Int.le_refl 0)).1 c1)))
  · ((refine Zq ?_; refine Za ?_; refine Seq.done ?_; refine Wp.ret ?_))
    (exact ret1 rfl rfl (by repeat (first | exact List.Sublist.refl _ | exact List.nil_sublist _ | refine List.Sublist.cons_cons _ ?_ | refine List.Sublist.cons _ ?_)) (bool_false (fun h => c1 ((firstI_iff (Int.le_refl 0)).2 h))))
theorem indexGTest_q {fz : FZ} {A : Option Addr} {n c : Nat} {l : List GTest} {ff : FuncId} {cap : List Value} {p : GTest → Prop} [DecidablePred p] (h1 : Sl gTestL fz A n c l) (hq : ∀ x cs, x ∈ l → gTestL.rep fz x cs → QFn Tryz.prog ff (.agg cs.toArray :: cap) fz (.bool (decide (p x)))) :
    QFn Tryz.prog 112 [.slice A n c, .func (.func ff) #[] cap.toArray] fz (.int .i64 (firstI p l 0)) := by
  refine GFn.quiet ?_
  (refine GFn.of_wp Tryz.func112 rfl Tryz.ntmps112 rfl rfl (fun w0 => ?_))
  have l1 := h1.len
  have hm := h1.short
  ((refine Wp.seq ?_; refine Wp.region ?_; refine Zq ?_; refine Za ?_; refine Seq.done ?_; refine Wp.seq ?_; refine Wp.seq ?_; refine Wp.region ?_; refine Zq ?_; refine Zm ?_; refine Zq ?_; refine Zs T ?_; refine Zq ?_; refine Zm ?_; refine Seq.done ?_; refine Wp.block ?_))
  (refine Wp.loop (fun q σ fz' H' => ∃ k : Nat, k ≤ n ∧ q = n - k ∧ σ = [(8, .int .i64 k), (7, .int .i64 n), (0, .slice A n c), (1, .func (.func ff) #[] cap.toArray)] ∧ fz = fz' ∧ H' = [] ∧ (∀ i, i < k → ∀ x, l[i]? = some x → ¬ p x)) ⟨0, Nat.zero_le _, rfl, rfl, rfl, rfl, (fun i hi => absurd hi (by omega))⟩ (by repeat (first | exact trivial | refine ⟨by exact rfl, ?_⟩)) (by repeat (first | exact List.Sublist.refl _ | exact List.nil_sublist _ | refine List.Sublist.cons_cons _ ?_ | refine List.Sublist.cons _ ?_)) ?_; rintro q σ fz' H' ⟨k, hk, rfl, rfl, rfl, rfl, hh⟩)
  ((refine Wp.seq ?_; refine Wp.region ?_))
  (((refine Zq ?_)); (refine q_lssD (by exact rfl) (by exact rfl) (fun hlt => ?_) (fun hge => ?_)))
  · ((refine Seq.done ?_; refine Wp.seq ?_; refine Zc ?_; refine Wp.skip ?_; refine thenN ?_; refine Wp.seq ?_; refine Wp.block ?_; refine Wp.seq ?_; refine Wp.region ?_; refine Zq ?_; refine Zm ?_; refine Zq ?_; refine Za ?_; refine Seq.done ?_; refine Wp.seq ?_; refine Wp.region ?_; refine Zq ?_; refine Zm ?_; refine Zq ?_; refine Zm ?_; refine Zq ?_; refine Zm ?_))
    obtain ⟨x, hx⟩ := get_some (l := l) (k := k) (by omega)
    (((refine Zq ?_)); refine q_index T k (by exact rfl) (by exact rfl) (by exact rfl) (by exact rfl) (by exact rfl) (by exact rfl) h1 (by first | rfl | omega) hx (fun a ha => ?_))
    (((refine Zq ?_)); refine q_load_at T (by exact rfl) (by exact rfl) (by exact rfl) ha (by exact rfl) ?_)
    intro cs hcs
    (skip)
    (((refine Zq ?_)); refine q_callvD (by exact rfl) (by exact rfl) (by exact rfl) (hq x cs (List.mem_of_getElem? hx) hcs) (fun c1 => ?_) (fun c1 => ?_))
    · ((refine Seq.done ?_; refine Zc ?_; refine Wp.seq ?_; refine Wp.region ?_; refine Zq ?_; refine Zm ?_; refine Zq ?_; refine Za ?_; refine Seq.done ?_; refine Wp.ret ?_; refine blkR ?_; refine thenR ?_; refine loopR ?_; refine blkR ?_; refine thenR ?_))
      (exact ret1 rfl rfl (by repeat (first | exact List.Sublist.refl _ | exact List.nil_sublist _ | refine List.Sublist.cons_cons _ ?_ | refine List.Sublist.cons _ ?_)) (by rw [firstI_at hh hx c1, Int.zero_add]))
    · ((refine Seq.done ?_; refine Zd ?_; refine Wp.skip ?_; refine blkN ?_; refine thenN ?_; refine Wp.region ?_; refine Zq ?_; refine q_add (by exact rfl) (by exact rfl) (wrap_in (by omega)) ?_; refine Zq ?_; refine Zm ?_; refine Seq.end_ ?_))
      (exact loopN ⟨k + 1, by omega, rfl, rfl, rfl, rfl, (all_next hh hx c1)⟩ (by omega) (by repeat (first | exact trivial | refine ⟨by exact rfl, ?_⟩)) (by repeat (first | exact List.Sublist.refl _ | exact List.nil_sublist _ | refine List.Sublist.cons_cons _ ?_ | refine List.Sublist.cons _ ?_)))
  · ((refine Seq.done ?_; refine Wp.seq ?_; refine Zd ?_; refine Wp.exit ?_; refine thenX ?_; refine loopX ?_; refine blkX (by exact rfl) ?_; refine thenN ?_; refine Wp.seq ?_; refine Wp.region ?_; refine Zq ?_; refine Za ?_; refine Seq.done ?_; refine Wp.ret ?_))
    (exact ret1 rfl rfl (by repeat (first | exact List.Sublist.refl _ | exact List.nil_sublist _ | refine List.Sublist.cons_cons _ ?_ | refine List.Sublist.cons _ ?_)) (by rw [firstI_none (all_of hh (by omega))]))
theorem containsGTest_q {fz : FZ} {A : Option Addr} {n c : Nat} {l : List GTest} {ff : FuncId} {cap : List Value} {p : GTest → Prop} [DecidablePred p] (h1 : Sl gTestL fz A n c l) (hq : ∀ x cs, x ∈ l → gTestL.rep fz x cs → QFn Tryz.prog ff (.agg cs.toArray :: cap) fz (.bool (decide (p x)))) :
    QFn Tryz.prog 74 [.slice A n c, .func (.func ff) #[] cap.toArray] fz (.bool (decide (∃ x ∈ l, p x))) := by
  refine GFn.quiet ?_
  (refine GFn.of_wp Tryz.func74 rfl Tryz.ntmps74 rfl rfl (fun w0 => ?_))
  ((refine Wp.seq ?_; refine Wp.region ?_; refine Zq ?_; refine Za ?_; refine Seq.done ?_; refine Wp.seq ?_; refine Wp.region ?_; refine Zq ?_; refine Zm ?_; refine Zq ?_; refine Zm ?_))
  (((refine Zq ?_)); refine q_call (by exact rfl) (by exact rfl) (indexGTest_q h1 hq) ?_)
  (((refine Zq ?_)); (refine q_geqD (by exact rfl) (by exact rfl) (fun c1 => ?_) (fun c1 => ?_)))
  · ((refine Zq ?_; refine Za ?_; refine Seq.done ?_; refine Wp.ret ?_))
    (exact ret1 rfl rfl (by repeat (first | exact List.Sublist.refl _ | exact List.nil_sublist _ | refine List.Sublist.cons_cons _ ?_ | refine List.Sublist.cons _ ?_)) (bool_true ((firstI_iff (Int.le_refl 0)).1 c1)))
  · ((refine Zq ?_; refine Za ?_; refine Seq.done ?_; refine Wp.ret ?_))
    (exact ret1 rfl rfl (by repeat (first | exact List.Sublist.refl _ | exact List.nil_sublist _ | refine List.Sublist.cons_cons _ ?_ | refine List.Sublist.cons _ ?_)) (bool_false (fun h => c1 ((firstI_iff (Int.le_refl 0)).2 h))))
theorem bool_not {p : Prop} [Decidable p] : Value.bool (!decide p) = Value.bool (decide (¬ p)) := by rw [decide_not]
theorem valid1_q {fz : FZ} (f : GFluent) (cs : List Value) (h : gFluentL.rep fz f cs) : QFn Tryz.prog 36 [.agg cs.toArray] fz (.bool (decide (¬ FluentOk f))) := by
  obtain ⟨v, rfl, hR⟩ := gFluentL_open h
  obtain ⟨A, n, c, rfl, _⟩ := hR.fluent.args
  refine GFn.quiet ?_
  (refine GFn.of_wp Tryz.func36 rfl Tryz.ntmps36 rfl rfl (fun w0 => ?_))
  ((refine Wp.seq ?_; refine Wp.region ?_; refine Seq.stepK (by exact rfl) (k_box _ (by exact rfl) (by exact rfl) (fun _ => ?_)); refine Zq ?_; refine Za ?_; refine Seq.done ?_; refine Wp.seq ?_; refine Wp.region ?_; refine Zq ?_; refine ZL T 0 ?_))
  (((refine Zq ?_)); refine q_call (by exact rfl) (by exact rfl) (fluent_q hR) ?_)
  ((refine Zq ?_; refine q_not (by exact rfl) ?_; refine Zq ?_; refine Za ?_; refine Seq.done ?_; refine Wp.ret ?_))
  (exact ret1 rfl rfl (by repeat (first | exact List.Sublist.refl _ | exact List.nil_sublist _ | refine List.Sublist.cons_cons _ ?_ | refine List.Sublist.cons _ ?_)) bool_not)
theorem valid2_q {fz : FZ} {g : GTask} {v1 v2 v3 v4 v5 : Value} {gb : Nat} (hg : GTaskR fz g v1 v2 v3 v4 v5) (hx : fz gb = some (.cells #[v1, v2, v3, v4, v5] 28 (0, 0))) (c : Cond) (cs : List Value) (h : condL.rep fz c cs) :
    QFn Tryz.prog 40 [.agg cs.toArray, .pointer (some ⟨gb, 0, none⟩)] fz (.bool (decide (¬ CondOk g.atoms.length g.fluents.length c))) := by
  obtain ⟨u1, u2, u3, rfl, hc⟩ := condL_open h
  (obtain ⟨A1, n1, cap1, rfl, ga⟩ := hg.atoms; obtain ⟨A2, n2, cap2, rfl, gf⟩ := hg.fluents; obtain ⟨A3, n3, cap3, rfl, gi⟩ := hg.init; obtain ⟨A4, n4, cap4, rfl, gg⟩ := hg.goal; obtain ⟨A5, n5, cap5, rfl, go⟩ := hg.ops; have e1 := ga.len; subst e1; have e2 := gf.len; subst e2)
  (obtain ⟨B1, m1, d1, rfl, cp⟩ := hc.pos; obtain ⟨B2, m2, d2, rfl, cn⟩ := hc.neg; obtain ⟨B3, m3, d3, rfl, ct⟩ := hc.tests)
  refine GFn.quiet ?_
  (refine GFn.of_wp Tryz.func40 rfl Tryz.ntmps40 rfl rfl (fun w0 => ?_))
  ((refine Wp.seq ?_; refine Wp.region ?_; refine Seq.stepK (by exact rfl) (k_box _ (by exact rfl) (by exact rfl) (fun _ => ?_)); refine Zq ?_; refine Za ?_; refine Seq.done ?_; refine Wp.seq ?_; refine Wp.region ?_; refine Zq ?_; refine q_load_fz_all T (by exact rfl) (by exact rfl) (by exact rfl) (by assumption) (by exact rfl) ?_; refine Zq ?_; refine ZL T 0 ?_))
  (((refine Zq ?_)); refine q_call (by exact rfl) (by exact rfl) (condition_q hg hc) ?_)
  ((refine Zq ?_; refine q_not (by exact rfl) ?_; refine Zq ?_; refine Za ?_; refine Seq.done ?_; refine Wp.ret ?_))
  (exact ret1 rfl rfl (by repeat (first | exact List.Sublist.refl _ | exact List.nil_sublist _ | refine List.Sublist.cons_cons _ ?_ | refine List.Sublist.cons _ ?_)) bool_not)
theorem valid3_q {fz : FZ} {g : GTask} {v1 v2 v3 v4 v5 : Value} {gb : Nat} (hg : GTaskR fz g v1 v2 v3 v4 v5) (hx : fz gb = some (.cells #[v1, v2, v3, v4, v5] 28 (0, 0))) (o : GOp) (cs : List Value) (h : gOpL.rep fz o cs) :
    QFn Tryz.prog 43 [.agg cs.toArray, .pointer (some ⟨gb, 0, none⟩)] fz (.bool (decide (¬ OpOk g.atoms.length g.fluents.length o))) := by
  obtain ⟨u1, u2, u3, u4, u5, rfl, ho⟩ := gOpL_open h
  (obtain ⟨A1, n1, cap1, rfl, ga⟩ := hg.atoms; obtain ⟨A2, n2, cap2, rfl, gf⟩ := hg.fluents; obtain ⟨A3, n3, cap3, rfl, gi⟩ := hg.init; obtain ⟨A4, n4, cap4, rfl, gg⟩ := hg.goal; obtain ⟨A5, n5, cap5, rfl, go⟩ := hg.ops; have e1 := ga.len; subst e1; have e2 := gf.len; subst e2)
  have hc := ho.pre
  (obtain ⟨B1, m1, d1, rfl, cp⟩ := hc.pos; obtain ⟨B2, m2, d2, rfl, cn⟩ := hc.neg; obtain ⟨B3, m3, d3, rfl, ct⟩ := hc.tests)
  obtain ⟨B4, m4, d4, rfl, oc⟩ := ho.changes
  obtain ⟨B5, m5, d5, rfl, oa⟩ := ho.assigns
  refine GFn.quiet ?_
  (refine GFn.of_wp Tryz.func43 rfl Tryz.ntmps43 rfl rfl (fun w0 => ?_))
  ((refine Wp.seq ?_; refine Wp.region ?_; refine Seq.stepK (by exact rfl) (k_box _ (by exact rfl) (by exact rfl) (fun _ => ?_)); refine Zq ?_; refine Za ?_; refine Seq.done ?_; refine Wp.seq ?_; refine Wp.region ?_; refine Zq ?_; refine q_load_fz_all T (by exact rfl) (by exact rfl) (by exact rfl) (by assumption) (by exact rfl) ?_; refine Zq ?_; refine ZL T 0 ?_))
  (((refine Zq ?_)); refine q_call (by exact rfl) (by exact rfl) (operator_q hg ho) ?_)
  ((refine Zq ?_; refine q_not (by exact rfl) ?_; refine Zq ?_; refine Za ?_; refine Seq.done ?_; refine Wp.ret ?_))
  (exact ret1 rfl rfl (by repeat (first | exact List.Sublist.refl _ | exact List.nil_sublist _ | refine List.Sublist.cons_cons _ ?_ | refine List.Sublist.cons _ ?_)) bool_not)
end Go.Proofs.YtegmololhnipiaaGreatDoor
namespace Go.Proofs.YtegmololhnipiaaGreatDoor
open Go.Lx Go.Gr Go.RowKit
attribute [local instance 10] Classical.propDecidable
theorem valid_q {fz : FZ} {g : GTask} {v1 v2 v3 v4 v5 : Value} (hg0 : GTaskR fz g v1 v2 v3 v4 v5) :
    QFn Tryz.prog 10 [gV v1 v2 v3 v4 v5] fz (.bool (decide (ValidP g))) := by
  have hg := hg0
  (obtain ⟨A1, n1, cap1, rfl, ga⟩ := hg.atoms; obtain ⟨A2, n2, cap2, rfl, gf⟩ := hg.fluents; obtain ⟨A3, n3, cap3, rfl, gi⟩ := hg.init; obtain ⟨A4, n4, cap4, rfl, gg⟩ := hg.goal; obtain ⟨A5, n5, cap5, rfl, go⟩ := hg.ops; have e1 := ga.len; subst e1; have e2 := gf.len; subst e2)
  refine GFn.quiet ?_
  (refine GFn.of_wp Tryz.func10 rfl Tryz.ntmps10 rfl rfl (fun w0 => ?_))
  (refine Wp.seq (Wp.region (Seq.stepK (by exact rfl) (k_box _ (by exact rfl) (by exact rfl) (fun g0 => ?_)))))
  (first | refine Wp.freeze (by exact rfl) (fun fz1 hle hx => ?_) | refine Seq.freeze (by exact rfl) (fun fz1 hle hx => ?_))
  replace hg := hg.mono hle
  replace gf := gf.mono hle
  replace gi := gi.mono hle
  replace gg := gg.mono hle
  replace go := go.mono hle
  have l4 := gg.len
  have l5 := go.len
  ((refine Zq ?_; refine Za ?_; refine Seq.done ?_; refine Wp.seq ?_; refine Wp.seq ?_; refine Wp.region ?_; refine Zq ?_; refine Zf T ?_; refine Zq ?_; refine q_load_fz T (by exact rfl) (by exact rfl) (by exact rfl) (by assumption) (by exact rfl) ?_; refine Zq ?_; refine Zs T ?_))
  (((refine Zq ?_)); (refine q_gtrD (by exact rfl) (by exact rfl) (fun c1 => ?_) (fun c1 => ?_)))
  · ((refine Zq ?_; refine Zm ?_; refine Zn ?_; refine Zn ?_; refine Zn ?_; refine Zn ?_; refine Zq ?_; refine Zt ?_; refine Zq ?_; refine Zm ?_; refine Zn ?_; refine Zn ?_; refine Zn ?_; refine Zn ?_; refine Zq ?_; refine Zt ?_; refine Zq ?_; refine Zm ?_; refine Zn ?_; refine Zn ?_; refine Zn ?_; refine Zn ?_; refine Zq ?_; refine Zt ?_; refine Seq.done ?_; refine Zc ?_; refine Wp.seq ?_; refine Wp.region ?_; refine Zq ?_; refine Za ?_; refine Seq.done ?_; refine Wp.ret ?_; refine thenR ?_))
    (exact ret1 rfl rfl (by repeat (first | exact List.Sublist.refl _ | exact List.nil_sublist _ | refine List.Sublist.cons_cons _ ?_ | refine List.Sublist.cons _ ?_)) (bool_false (fun h => by have := h.1; omega)))
  · ((refine Zq ?_; refine Zm ?_; refine Zy ?_; refine Zf T ?_; refine Zy ?_; refine q_load_fz T (by exact rfl) (by exact rfl) (by exact rfl) (by assumption) (by exact rfl) ?_; refine Zy ?_; refine Zs T ?_))
    (((refine Zy ?_)); (refine q_gtrD (by exact rfl) (by exact rfl) (fun c2 => ?_) (fun c2 => ?_)))
    · ((refine Zq ?_; refine Zu ?_; refine Zq ?_; refine Zm ?_; refine Zn ?_; refine Zn ?_; refine Zn ?_; refine Zn ?_; refine Zq ?_; refine Zt ?_; refine Zq ?_; refine Zm ?_; refine Zn ?_; refine Zn ?_; refine Zn ?_; refine Zn ?_; refine Zq ?_; refine Zt ?_; refine Seq.done ?_; refine Zc ?_; refine Wp.seq ?_; refine Wp.region ?_; refine Zq ?_; refine Za ?_; refine Seq.done ?_; refine Wp.ret ?_; refine thenR ?_))
      (exact ret1 rfl rfl (by repeat (first | exact List.Sublist.refl _ | exact List.nil_sublist _ | refine List.Sublist.cons_cons _ ?_ | refine List.Sublist.cons _ ?_)) (bool_false (fun h => by have := h.2.1; omega)))
    · ((refine Zq ?_; refine Zu ?_; refine Zq ?_; refine Zm ?_; refine Zy ?_; refine Zf T ?_; refine Zy ?_; refine q_load_fz T (by exact rfl) (by exact rfl) (by exact rfl) (by assumption) (by exact rfl) ?_; refine Zy ?_; refine Zs T ?_))
      (((refine Zy ?_)); (refine q_gtrD (by exact rfl) (by exact rfl) (fun c3 => ?_) (fun c3 => ?_)))
      · ((refine Zq ?_; refine Zu ?_; refine Zq ?_; refine Zm ?_; refine Zn ?_; refine Zn ?_; refine Zn ?_; refine Zn ?_; refine Zq ?_; refine Zt ?_; refine Seq.done ?_; refine Zc ?_; refine Wp.seq ?_; refine Wp.region ?_; refine Zq ?_; refine Za ?_; refine Seq.done ?_; refine Wp.ret ?_; refine thenR ?_))
        (exact ret1 rfl rfl (by repeat (first | exact List.Sublist.refl _ | exact List.nil_sublist _ | refine List.Sublist.cons_cons _ ?_ | refine List.Sublist.cons _ ?_)) (bool_false (fun h => by have := h.2.2.1; omega)))
      · ((refine Zq ?_; refine Zu ?_; refine Zq ?_; refine Zm ?_; refine Zy ?_; refine Zf T ?_; refine Zy ?_; refine q_load_fz T (by exact rfl) (by exact rfl) (by exact rfl) (by assumption) (by exact rfl) ?_; refine Zy ?_; refine Zs T ?_))
        (((refine Zy ?_)); (refine q_gtrD (by exact rfl) (by exact rfl) (fun c4 => ?_) (fun c4 => ?_)))
        · ((refine Zq ?_; refine Zu ?_; refine Seq.done ?_; refine Zc ?_; refine Wp.seq ?_; refine Wp.region ?_; refine Zq ?_; refine Za ?_; refine Seq.done ?_; refine Wp.ret ?_; refine thenR ?_))
          (exact ret1 rfl rfl (by repeat (first | exact List.Sublist.refl _ | exact List.nil_sublist _ | refine List.Sublist.cons_cons _ ?_ | refine List.Sublist.cons _ ?_)) (bool_false (fun h => by have := h.2.2.2.1; omega)))
        · ((refine Zq ?_; refine Zu ?_; refine Seq.done ?_; refine Zd ?_; refine Wp.skip ?_; refine thenN ?_; refine Wp.seq ?_; refine Wp.region ?_; refine Zq ?_; refine Zf T ?_; refine Zq ?_; refine q_load_fz T (by exact rfl) (by exact rfl) (by exact rfl) (by assumption) (by exact rfl) ?_))
          (((refine Zq ?_)); refine q_callB (by exact rfl) (by exact rfl) (containsGFluent_q (cap := []) gf (fun x cs _ => valid1_q x cs)) (fun f1 => ?_) (fun f1 => ?_))
          · ((refine Zq ?_; refine q_not (by exact rfl) ?_; refine Zq ?_; refine Zm ?_; refine Zn ?_; refine Zn ?_; refine Zn ?_; refine Zn ?_; refine Zn ?_; refine Zn ?_; refine Zq ?_; refine Zu ?_; refine Zq ?_; refine Zm ?_; refine Zn ?_; refine Zn ?_; refine Zn ?_; refine Zn ?_; refine Zn ?_; refine Zq ?_; refine Zu ?_; refine Zq ?_; refine Zm ?_; refine Zn ?_; refine Zn ?_; refine Zn ?_; refine Zn ?_; refine Zn ?_; refine Zq ?_; refine Zu ?_; refine Zq ?_; refine Za ?_; refine Seq.done ?_; refine Wp.ret ?_))
            (exact ret1 rfl rfl (by repeat (first | exact List.Sublist.refl _ | exact List.nil_sublist _ | refine List.Sublist.cons_cons _ ?_ | refine List.Sublist.cons _ ?_)) (bool_false (fun h => by obtain ⟨x, h1, h2⟩ := of_decide_eq_true f1; exact h2 (h.2.2.2.2.2.1 x h1))))
          · have k1 : ∀ x ∈ g.fluents, FluentOk x := fun x hx => Classical.byContradiction fun hc => of_decide_eq_false f1 ⟨x, hx, hc⟩
            ((refine Zq ?_; refine q_not (by exact rfl) ?_; refine Zq ?_; refine Zm ?_; refine Zy ?_; refine Zf T ?_; refine Zy ?_; refine q_load_fz T (by exact rfl) (by exact rfl) (by exact rfl) (by assumption) (by exact rfl) ?_; refine Zy ?_; refine Zf T ?_; refine Zy ?_; refine q_load_fz T (by exact rfl) (by exact rfl) (by exact rfl) (by assumption) (by exact rfl) ?_; refine Zy ?_; refine Zs T ?_))
            (((refine Zy ?_)); refine q_callB (by exact rfl) (by exact rfl) (indices_q (m := g.atoms.length) gi) (fun f2 => ?_) (fun f2 => ?_))
            · ((refine Zq ?_; refine Zt ?_; refine Zq ?_; refine Zm ?_; refine Zy ?_; refine Zf T ?_; refine Zy ?_; refine q_load_fz T (by exact rfl) (by exact rfl) (by exact rfl) (by assumption) (by exact rfl) ?_))
              ((refine Zy ?_)); refine qg_makeFunc (by exact rfl) (by exact rfl) ?_
              (((refine Zy ?_)); refine q_callB (by exact rfl) (by exact rfl) (containsCond_q (cap := [.pointer (some ⟨g0, 0, none⟩)]) gg (fun x cs _ => valid2_q hg hx x cs)) (fun f3 => ?_) (fun f3 => ?_))
              · ((refine Zy ?_; refine q_not (by exact rfl) ?_; refine Zq ?_; refine Zt ?_; refine Zq ?_; refine Zm ?_; refine Zn ?_; refine Zn ?_; refine Zn ?_; refine Zn ?_; refine Zn ?_; refine Zq ?_; refine Zu ?_; refine Zq ?_; refine Za ?_; refine Seq.done ?_; refine Wp.ret ?_))
                (exact ret1 rfl rfl (by repeat (first | exact List.Sublist.refl _ | exact List.nil_sublist _ | refine List.Sublist.cons_cons _ ?_ | refine List.Sublist.cons _ ?_)) (bool_false (fun h => by obtain ⟨x, h1, h2⟩ := of_decide_eq_true f3; exact h2 (h.2.2.2.2.2.2.1 x h1))))
              · have k3 : ∀ x ∈ g.goal, CondOk g.atoms.length g.fluents.length x := fun x hx => Classical.byContradiction fun hc => of_decide_eq_false f3 ⟨x, hx, hc⟩
                ((refine Zy ?_; refine q_not (by exact rfl) ?_; refine Zq ?_; refine Zt ?_; refine Zq ?_; refine Zm ?_; refine Zy ?_; refine Zf T ?_; refine Zy ?_; refine q_load_fz T (by exact rfl) (by exact rfl) (by exact rfl) (by assumption) (by exact rfl) ?_))
                ((refine Zy ?_)); refine qg_makeFunc (by exact rfl) (by exact rfl) ?_
                (((refine Zy ?_)); refine q_callB (by exact rfl) (by exact rfl) (containsGOp_q (cap := [.pointer (some ⟨g0, 0, none⟩)]) go (fun x cs _ => valid3_q hg hx x cs)) (fun f4 => ?_) (fun f4 => ?_))
                · ((refine Zy ?_; refine q_not (by exact rfl) ?_; refine Zq ?_; refine Zt ?_; refine Zq ?_; refine Za ?_; refine Seq.done ?_; refine Wp.ret ?_))
                  (exact ret1 rfl rfl (by repeat (first | exact List.Sublist.refl _ | exact List.nil_sublist _ | refine List.Sublist.cons_cons _ ?_ | refine List.Sublist.cons _ ?_)) (bool_false (fun h => by obtain ⟨x, h1, h2⟩ := of_decide_eq_true f4; exact h2 (h.2.2.2.2.2.2.2 x h1))))
                · have k4 : ∀ x ∈ g.ops, OpOk g.atoms.length g.fluents.length x := fun x hx => Classical.byContradiction fun hc => of_decide_eq_false f4 ⟨x, hx, hc⟩
                  ((refine Zy ?_; refine q_not (by exact rfl) ?_; refine Zq ?_; refine Zt ?_; refine Zq ?_; refine Za ?_; refine Seq.done ?_; refine Wp.ret ?_))
                  (exact ret1 rfl rfl (by repeat (first | exact List.Sublist.refl _ | exact List.nil_sublist _ | refine List.Sublist.cons_cons _ ?_ | refine List.Sublist.cons _ ?_)) (bool_true ⟨by omega, by omega, by omega, by omega, of_decide_eq_true f2, k1, k3, k4⟩))
            · ((refine Zq ?_; refine Zt ?_; refine Zq ?_; refine Zm ?_; refine Zn ?_; refine Zn ?_; refine Zn ?_; refine Zn ?_; refine Zn ?_; refine Zq ?_; refine Zu ?_; refine Zq ?_; refine Zm ?_; refine Zn ?_; refine Zn ?_; refine Zn ?_; refine Zn ?_; refine Zn ?_; refine Zq ?_; refine Zu ?_; refine Zq ?_; refine Za ?_; refine Seq.done ?_; refine Wp.ret ?_))
              (exact ret1 rfl rfl (by repeat (first | exact List.Sublist.refl _ | exact List.nil_sublist _ | refine List.Sublist.cons_cons _ ?_ | refine List.Sublist.cons _ ?_)) (bool_false (fun h => of_decide_eq_false f2 h.2.2.2.2.1)))
end Go.Proofs.YtegmololhnipiaaGreatDoor
