/- The texts Tab, GWalkA, GWalkB, GWalkC, GWalkD, GSet, laid together. Conditions: none. -/
import Derived.Test.YtegmololhnipiaaGreatDoorQhB
import Derived.Test.YtegmololhnipiaaGreatDoorProg
import Derived.KernelRfl
namespace Go.Proofs.YtegmololhnipiaaGreatDoor
open Go.Lx
set_option maxRecDepth 100000
def ty1_ : Ty := ⟨(.func #[] #[] false), 1, 8, .nilFunc⟩
theorem ty1_ok : TyOk Tryz.prog 1 ty1_ := TyOk.mk' (by kernel_rfl) (by kernel_rfl)
def ty2_ : Ty := ⟨(.int .i64), 1, 8, (.int .i64 0)⟩
theorem ty2_ok : TyOk Tryz.prog 2 ty2_ := TyOk.mk' (by kernel_rfl) (by kernel_rfl)
def ty3_ : Ty := ⟨(.int .i64), 1, 8, (.int .i64 0)⟩
theorem ty3_ok : TyOk Tryz.prog 3 ty3_ := TyOk.mk' (by kernel_rfl) (by kernel_rfl)
def ty4_ : Ty := ⟨.bool, 1, 1, (.bool false)⟩
theorem ty4_ok : TyOk Tryz.prog 4 ty4_ := TyOk.mk' (by kernel_rfl) (by kernel_rfl)
def ty5_ : Ty := ⟨(.int .u8), 1, 1, (.int .u8 0)⟩
theorem ty5_ok : TyOk Tryz.prog 5 ty5_ := TyOk.mk' (by kernel_rfl) (by kernel_rfl)
def ty6_ : Ty := ⟨(.int .u8), 1, 1, (.int .u8 0)⟩
theorem ty6_ok : TyOk Tryz.prog 6 ty6_ := TyOk.mk' (by kernel_rfl) (by kernel_rfl)
def ty7_ : Ty := ⟨(.struct #[fld 2 0, fld 3 1, fld 4 2, fld 6 3]), 4, 24, (.agg #[(.int .i64 0), (.int .i64 0), (.bool false), (.int .u8 0)])⟩
theorem ty7_ok : TyOk Tryz.prog 7 ty7_ := TyOk.mk' (by kernel_rfl) (by kernel_rfl)
def ty8_ : Ty := ⟨(.struct #[fld 2 0, fld 3 1, fld 4 2, fld 6 3]), 4, 24, (.agg #[(.int .i64 0), (.int .i64 0), (.bool false), (.int .u8 0)])⟩
theorem ty8_ok : TyOk Tryz.prog 8 ty8_ := TyOk.mk' (by kernel_rfl) (by kernel_rfl)
def ty9_ : Ty := ⟨.string, 1, 16, (.string ⟨#[]⟩)⟩
theorem ty9_ok : TyOk Tryz.prog 9 ty9_ := TyOk.mk' (by kernel_rfl) (by kernel_rfl)
def ty10_ : Ty := ⟨.string, 1, 16, (.string ⟨#[]⟩)⟩
theorem ty10_ok : TyOk Tryz.prog 10 ty10_ := TyOk.mk' (by kernel_rfl) (by kernel_rfl)
def ty11_ : Ty := ⟨.string, 1, 16, (.string ⟨#[]⟩)⟩
theorem ty11_ok : TyOk Tryz.prog 11 ty11_ := TyOk.mk' (by kernel_rfl) (by kernel_rfl)
def ty12_ : Ty := ⟨(.int .u64), 1, 8, (.int .u64 0)⟩
theorem ty12_ok : TyOk Tryz.prog 12 ty12_ := TyOk.mk' (by kernel_rfl) (by kernel_rfl)
def ty13_ : Ty := ⟨(.struct #[fld 9 0, fld 12 1]), 2, 24, (.agg #[(.string ⟨#[]⟩), (.int .u64 0)])⟩
theorem ty13_ok : TyOk Tryz.prog 13 ty13_ := TyOk.mk' (by kernel_rfl) (by kernel_rfl)
def ty14_ : Ty := ⟨(.struct #[fld 9 0, fld 12 1]), 2, 24, (.agg #[(.string ⟨#[]⟩), (.int .u64 0)])⟩
theorem ty14_ok : TyOk Tryz.prog 14 ty14_ := TyOk.mk' (by kernel_rfl) (by kernel_rfl)
def ty15_ : Ty := ⟨(.pointer 455), 1, 8, (.pointer none)⟩
theorem ty15_ok : TyOk Tryz.prog 15 ty15_ := TyOk.mk' (by kernel_rfl) (by kernel_rfl)
def ty16_ : Ty := ⟨(.pointer 458), 1, 8, (.pointer none)⟩
theorem ty16_ok : TyOk Tryz.prog 16 ty16_ := TyOk.mk' (by kernel_rfl) (by kernel_rfl)
def ty17_ : Ty := ⟨(.pointer 466), 1, 8, (.pointer none)⟩
theorem ty17_ok : TyOk Tryz.prog 17 ty17_ := TyOk.mk' (by kernel_rfl) (by kernel_rfl)
def ty18_ : Ty := ⟨(.struct #[fld 17 0]), 1, 8, (.agg #[(.pointer none)])⟩
theorem ty18_ok : TyOk Tryz.prog 18 ty18_ := TyOk.mk' (by kernel_rfl) (by kernel_rfl)
def ty19_ : Ty := ⟨(.struct #[fld 17 0]), 1, 8, (.agg #[(.pointer none)])⟩
theorem ty19_ok : TyOk Tryz.prog 19 ty19_ := TyOk.mk' (by kernel_rfl) (by kernel_rfl)
def ty20_ : Ty := ⟨(.interface #[]), 1, 16, .nilIface⟩
theorem ty20_ok : TyOk Tryz.prog 20 ty20_ := TyOk.mk' (by kernel_rfl) (by kernel_rfl)
def ty21_ : Ty := ⟨(.int .i32), 1, 4, (.int .i32 0)⟩
theorem ty21_ok : TyOk Tryz.prog 21 ty21_ := TyOk.mk' (by kernel_rfl) (by kernel_rfl)
def ty22_ : Ty := ⟨(.slice 103), 1, 24, (.slice none 0 0)⟩
theorem ty22_ok : TyOk Tryz.prog 22 ty22_ := TyOk.mk' (by kernel_rfl) (by kernel_rfl)
def ty23_ : Ty := ⟨(.slice 105), 1, 24, (.slice none 0 0)⟩
theorem ty23_ok : TyOk Tryz.prog 23 ty23_ := TyOk.mk' (by kernel_rfl) (by kernel_rfl)
def ty24_ : Ty := ⟨(.slice 3), 1, 24, (.slice none 0 0)⟩
theorem ty24_ok : TyOk Tryz.prog 24 ty24_ := TyOk.mk' (by kernel_rfl) (by kernel_rfl)
def ty25_ : Ty := ⟨(.slice 42), 1, 24, (.slice none 0 0)⟩
theorem ty25_ok : TyOk Tryz.prog 25 ty25_ := TyOk.mk' (by kernel_rfl) (by kernel_rfl)
def ty26_ : Ty := ⟨(.slice 46), 1, 24, (.slice none 0 0)⟩
theorem ty26_ok : TyOk Tryz.prog 26 ty26_ := TyOk.mk' (by kernel_rfl) (by kernel_rfl)
def ty27_ : Ty := ⟨(.struct #[fld 22 0, fld 23 1, fld 24 2, fld 25 3, fld 26 4]), 5, 120, (.agg #[(.slice none 0 0), (.slice none 0 0), (.slice none 0 0), (.slice none 0 0), (.slice none 0 0)])⟩
theorem ty27_ok : TyOk Tryz.prog 27 ty27_ := TyOk.mk' (by kernel_rfl) (by kernel_rfl)
def ty28_ : Ty := ⟨(.struct #[fld 22 0, fld 23 1, fld 24 2, fld 25 3, fld 26 4]), 5, 120, (.agg #[(.slice none 0 0), (.slice none 0 0), (.slice none 0 0), (.slice none 0 0), (.slice none 0 0)])⟩
theorem ty28_ok : TyOk Tryz.prog 28 ty28_ := TyOk.mk' (by kernel_rfl) (by kernel_rfl)
def ty29_ : Ty := ⟨(.func #[] #[] false), 1, 8, .nilFunc⟩
theorem ty29_ok : TyOk Tryz.prog 29 ty29_ := TyOk.mk' (by kernel_rfl) (by kernel_rfl)
def ty30_ : Ty := ⟨(.func #[] #[] false), 1, 8, .nilFunc⟩
theorem ty30_ok : TyOk Tryz.prog 30 ty30_ := TyOk.mk' (by kernel_rfl) (by kernel_rfl)
def ty31_ : Ty := ⟨(.func #[] #[] false), 1, 8, .nilFunc⟩
theorem ty31_ok : TyOk Tryz.prog 31 ty31_ := TyOk.mk' (by kernel_rfl) (by kernel_rfl)
def ty32_ : Ty := ⟨(.struct #[fld 24 0, fld 24 1]), 2, 48, (.agg #[(.slice none 0 0), (.slice none 0 0)])⟩
theorem ty32_ok : TyOk Tryz.prog 32 ty32_ := TyOk.mk' (by kernel_rfl) (by kernel_rfl)
def ty33_ : Ty := ⟨(.struct #[fld 24 0, fld 24 1]), 2, 48, (.agg #[(.slice none 0 0), (.slice none 0 0)])⟩
theorem ty33_ok : TyOk Tryz.prog 33 ty33_ := TyOk.mk' (by kernel_rfl) (by kernel_rfl)
def ty34_ : Ty := ⟨(.func #[] #[] false), 1, 8, .nilFunc⟩
theorem ty34_ok : TyOk Tryz.prog 34 ty34_ := TyOk.mk' (by kernel_rfl) (by kernel_rfl)
def ty35_ : Ty := ⟨(.interface #[]), 1, 16, .nilIface⟩
theorem ty35_ok : TyOk Tryz.prog 35 ty35_ := TyOk.mk' (by kernel_rfl) (by kernel_rfl)
def ty36_ : Ty := ⟨(.interface #[]), 1, 16, .nilIface⟩
theorem ty36_ok : TyOk Tryz.prog 36 ty36_ := TyOk.mk' (by kernel_rfl) (by kernel_rfl)
def ty38_ : Ty := ⟨(.func #[] #[] false), 1, 8, .nilFunc⟩
theorem ty38_ok : TyOk Tryz.prog 38 ty38_ := TyOk.mk' (by kernel_rfl) (by kernel_rfl)
def ty39_ : Ty := ⟨(.func #[] #[] false), 1, 8, .nilFunc⟩
theorem ty39_ok : TyOk Tryz.prog 39 ty39_ := TyOk.mk' (by kernel_rfl) (by kernel_rfl)
def ty40_ : Ty := ⟨(.slice 123), 1, 24, (.slice none 0 0)⟩
theorem ty40_ok : TyOk Tryz.prog 40 ty40_ := TyOk.mk' (by kernel_rfl) (by kernel_rfl)
def ty41_ : Ty := ⟨(.struct #[fld 24 0, fld 24 1, fld 40 2]), 3, 72, (.agg #[(.slice none 0 0), (.slice none 0 0), (.slice none 0 0)])⟩
theorem ty41_ok : TyOk Tryz.prog 41 ty41_ := TyOk.mk' (by kernel_rfl) (by kernel_rfl)
def ty42_ : Ty := ⟨(.struct #[fld 24 0, fld 24 1, fld 40 2]), 3, 72, (.agg #[(.slice none 0 0), (.slice none 0 0), (.slice none 0 0)])⟩
theorem ty42_ok : TyOk Tryz.prog 42 ty42_ := TyOk.mk' (by kernel_rfl) (by kernel_rfl)
def ty43_ : Ty := ⟨(.slice 48), 1, 24, (.slice none 0 0)⟩
theorem ty43_ok : TyOk Tryz.prog 43 ty43_ := TyOk.mk' (by kernel_rfl) (by kernel_rfl)
def ty44_ : Ty := ⟨(.slice 55), 1, 24, (.slice none 0 0)⟩
theorem ty44_ok : TyOk Tryz.prog 44 ty44_ := TyOk.mk' (by kernel_rfl) (by kernel_rfl)
def ty45_ : Ty := ⟨(.struct #[fld 9 0, fld 3 1, fld 42 2, fld 43 5, fld 44 6]), 7, 144, (.agg #[(.string ⟨#[]⟩), (.int .i64 0), (.slice none 0 0), (.slice none 0 0), (.slice none 0 0), (.slice none 0 0), (.slice none 0 0)])⟩
theorem ty45_ok : TyOk Tryz.prog 45 ty45_ := TyOk.mk' (by kernel_rfl) (by kernel_rfl)
def ty46_ : Ty := ⟨(.struct #[fld 9 0, fld 3 1, fld 42 2, fld 43 5, fld 44 6]), 7, 144, (.agg #[(.string ⟨#[]⟩), (.int .i64 0), (.slice none 0 0), (.slice none 0 0), (.slice none 0 0), (.slice none 0 0), (.slice none 0 0)])⟩
theorem ty46_ok : TyOk Tryz.prog 46 ty46_ := TyOk.mk' (by kernel_rfl) (by kernel_rfl)
def ty47_ : Ty := ⟨(.struct #[fld 42 0, fld 3 3, fld 4 4]), 5, 88, (.agg #[(.slice none 0 0), (.slice none 0 0), (.slice none 0 0), (.int .i64 0), (.bool false)])⟩
theorem ty47_ok : TyOk Tryz.prog 47 ty47_ := TyOk.mk' (by kernel_rfl) (by kernel_rfl)
def ty48_ : Ty := ⟨(.struct #[fld 42 0, fld 3 3, fld 4 4]), 5, 88, (.agg #[(.slice none 0 0), (.slice none 0 0), (.slice none 0 0), (.int .i64 0), (.bool false)])⟩
theorem ty48_ok : TyOk Tryz.prog 48 ty48_ := TyOk.mk' (by kernel_rfl) (by kernel_rfl)
def ty49_ : Ty := ⟨(.func #[] #[] false), 1, 8, .nilFunc⟩
theorem ty49_ok : TyOk Tryz.prog 49 ty49_ := TyOk.mk' (by kernel_rfl) (by kernel_rfl)
def ty50_ : Ty := ⟨(.func #[] #[] false), 1, 8, .nilFunc⟩
theorem ty50_ok : TyOk Tryz.prog 50 ty50_ := TyOk.mk' (by kernel_rfl) (by kernel_rfl)
def ty51_ : Ty := ⟨(.slice 53), 1, 24, (.slice none 0 0)⟩
theorem ty51_ok : TyOk Tryz.prog 51 ty51_ := TyOk.mk' (by kernel_rfl) (by kernel_rfl)
def ty52_ : Ty := ⟨(.struct #[fld 9 0, fld 3 1, fld 51 2]), 3, 48, (.agg #[(.string ⟨#[]⟩), (.int .i64 0), (.slice none 0 0)])⟩
theorem ty52_ok : TyOk Tryz.prog 52 ty52_ := TyOk.mk' (by kernel_rfl) (by kernel_rfl)
def ty53_ : Ty := ⟨(.struct #[fld 9 0, fld 3 1, fld 51 2]), 3, 48, (.agg #[(.string ⟨#[]⟩), (.int .i64 0), (.slice none 0 0)])⟩
theorem ty53_ok : TyOk Tryz.prog 53 ty53_ := TyOk.mk' (by kernel_rfl) (by kernel_rfl)
def ty54_ : Ty := ⟨(.struct #[fld 3 0, fld 53 1]), 4, 56, (.agg #[(.int .i64 0), (.string ⟨#[]⟩), (.int .i64 0), (.slice none 0 0)])⟩
theorem ty54_ok : TyOk Tryz.prog 54 ty54_ := TyOk.mk' (by kernel_rfl) (by kernel_rfl)
def ty55_ : Ty := ⟨(.struct #[fld 3 0, fld 53 1]), 4, 56, (.agg #[(.int .i64 0), (.string ⟨#[]⟩), (.int .i64 0), (.slice none 0 0)])⟩
theorem ty55_ok : TyOk Tryz.prog 55 ty55_ := TyOk.mk' (by kernel_rfl) (by kernel_rfl)
def ty56_ : Ty := ⟨(.func #[] #[] false), 1, 8, .nilFunc⟩
theorem ty56_ok : TyOk Tryz.prog 56 ty56_ := TyOk.mk' (by kernel_rfl) (by kernel_rfl)
def ty57_ : Ty := ⟨(.func #[] #[] false), 1, 8, .nilFunc⟩
theorem ty57_ok : TyOk Tryz.prog 57 ty57_ := TyOk.mk' (by kernel_rfl) (by kernel_rfl)
def ty59_ : Ty := ⟨(.func #[] #[] false), 1, 8, .nilFunc⟩
theorem ty59_ok : TyOk Tryz.prog 59 ty59_ := TyOk.mk' (by kernel_rfl) (by kernel_rfl)
def ty60_ : Ty := ⟨(.func #[] #[] false), 1, 8, .nilFunc⟩
theorem ty60_ok : TyOk Tryz.prog 60 ty60_ := TyOk.mk' (by kernel_rfl) (by kernel_rfl)
def ty61_ : Ty := ⟨(.struct #[fld 42 0, fld 53 3]), 6, 120, (.agg #[(.slice none 0 0), (.slice none 0 0), (.slice none 0 0), (.string ⟨#[]⟩), (.int .i64 0), (.slice none 0 0)])⟩
theorem ty61_ok : TyOk Tryz.prog 61 ty61_ := TyOk.mk' (by kernel_rfl) (by kernel_rfl)
def ty62_ : Ty := ⟨(.struct #[fld 42 0, fld 53 3]), 6, 120, (.agg #[(.slice none 0 0), (.slice none 0 0), (.slice none 0 0), (.string ⟨#[]⟩), (.int .i64 0), (.slice none 0 0)])⟩
theorem ty62_ok : TyOk Tryz.prog 62 ty62_ := TyOk.mk' (by kernel_rfl) (by kernel_rfl)
def ty63_ : Ty := ⟨(.func #[] #[] false), 1, 8, .nilFunc⟩
theorem ty63_ok : TyOk Tryz.prog 63 ty63_ := TyOk.mk' (by kernel_rfl) (by kernel_rfl)
def ty64_ : Ty := ⟨(.func #[] #[] false), 1, 8, .nilFunc⟩
theorem ty64_ok : TyOk Tryz.prog 64 ty64_ := TyOk.mk' (by kernel_rfl) (by kernel_rfl)
def ty65_ : Ty := ⟨(.func #[] #[] false), 1, 8, .nilFunc⟩
theorem ty65_ok : TyOk Tryz.prog 65 ty65_ := TyOk.mk' (by kernel_rfl) (by kernel_rfl)
def ty66_ : Ty := ⟨(.func #[] #[] false), 1, 8, .nilFunc⟩
theorem ty66_ok : TyOk Tryz.prog 66 ty66_ := TyOk.mk' (by kernel_rfl) (by kernel_rfl)
def ty68_ : Ty := ⟨(.func #[] #[] false), 1, 8, .nilFunc⟩
theorem ty68_ok : TyOk Tryz.prog 68 ty68_ := TyOk.mk' (by kernel_rfl) (by kernel_rfl)
def ty69_ : Ty := ⟨(.func #[] #[] false), 1, 8, .nilFunc⟩
theorem ty69_ok : TyOk Tryz.prog 69 ty69_ := TyOk.mk' (by kernel_rfl) (by kernel_rfl)
def ty70_ : Ty := ⟨(.func #[] #[] false), 1, 8, .nilFunc⟩
theorem ty70_ok : TyOk Tryz.prog 70 ty70_ := TyOk.mk' (by kernel_rfl) (by kernel_rfl)
def ty71_ : Ty := ⟨(.int .i64), 1, 8, (.int .i64 0)⟩
theorem ty71_ok : TyOk Tryz.prog 71 ty71_ := TyOk.mk' (by kernel_rfl) (by kernel_rfl)
def ty73_ : Ty := ⟨(.func #[] #[] false), 1, 8, .nilFunc⟩
theorem ty73_ok : TyOk Tryz.prog 73 ty73_ := TyOk.mk' (by kernel_rfl) (by kernel_rfl)
def ty74_ : Ty := ⟨(.func #[] #[] false), 1, 8, .nilFunc⟩
theorem ty74_ok : TyOk Tryz.prog 74 ty74_ := TyOk.mk' (by kernel_rfl) (by kernel_rfl)
def ty75_ : Ty := ⟨(.func #[] #[] false), 1, 8, .nilFunc⟩
theorem ty75_ok : TyOk Tryz.prog 75 ty75_ := TyOk.mk' (by kernel_rfl) (by kernel_rfl)
def ty76_ : Ty := ⟨(.slice 194), 1, 24, (.slice none 0 0)⟩
theorem ty76_ok : TyOk Tryz.prog 76 ty76_ := TyOk.mk' (by kernel_rfl) (by kernel_rfl)
def ty77_ : Ty := ⟨(.struct #[fld 9 0, fld 76 1]), 2, 40, (.agg #[(.string ⟨#[]⟩), (.slice none 0 0)])⟩
theorem ty77_ok : TyOk Tryz.prog 77 ty77_ := TyOk.mk' (by kernel_rfl) (by kernel_rfl)
def ty78_ : Ty := ⟨(.struct #[fld 9 0, fld 76 1]), 2, 40, (.agg #[(.string ⟨#[]⟩), (.slice none 0 0)])⟩
theorem ty78_ok : TyOk Tryz.prog 78 ty78_ := TyOk.mk' (by kernel_rfl) (by kernel_rfl)
def ty79_ : Ty := ⟨(.slice 78), 1, 24, (.slice none 0 0)⟩
theorem ty79_ok : TyOk Tryz.prog 79 ty79_ := TyOk.mk' (by kernel_rfl) (by kernel_rfl)
def ty80_ : Ty := ⟨(.slice 9), 1, 24, (.slice none 0 0)⟩
theorem ty80_ok : TyOk Tryz.prog 80 ty80_ := TyOk.mk' (by kernel_rfl) (by kernel_rfl)
def ty81_ : Ty := ⟨(.slice 86), 1, 24, (.slice none 0 0)⟩
theorem ty81_ok : TyOk Tryz.prog 81 ty81_ := TyOk.mk' (by kernel_rfl) (by kernel_rfl)
def ty82_ : Ty := ⟨(.slice 84), 1, 24, (.slice none 0 0)⟩
theorem ty82_ok : TyOk Tryz.prog 82 ty82_ := TyOk.mk' (by kernel_rfl) (by kernel_rfl)
def ty83_ : Ty := ⟨(.struct #[fld 9 0, fld 9 1, fld 80 2, fld 76 3, fld 81 4, fld 82 5]), 6, 128, (.agg #[(.string ⟨#[]⟩), (.string ⟨#[]⟩), (.slice none 0 0), (.slice none 0 0), (.slice none 0 0), (.slice none 0 0)])⟩
theorem ty83_ok : TyOk Tryz.prog 83 ty83_ := TyOk.mk' (by kernel_rfl) (by kernel_rfl)
def ty84_ : Ty := ⟨(.struct #[fld 9 0, fld 9 1, fld 80 2, fld 76 3, fld 81 4, fld 82 5]), 6, 128, (.agg #[(.string ⟨#[]⟩), (.string ⟨#[]⟩), (.slice none 0 0), (.slice none 0 0), (.slice none 0 0), (.slice none 0 0)])⟩
theorem ty84_ok : TyOk Tryz.prog 84 ty84_ := TyOk.mk' (by kernel_rfl) (by kernel_rfl)
def ty85_ : Ty := ⟨(.struct #[fld 9 0, fld 9 1, fld 3 2, fld 80 3, fld 81 4]), 5, 88, (.agg #[(.string ⟨#[]⟩), (.string ⟨#[]⟩), (.int .i64 0), (.slice none 0 0), (.slice none 0 0)])⟩
theorem ty85_ok : TyOk Tryz.prog 85 ty85_ := TyOk.mk' (by kernel_rfl) (by kernel_rfl)
def ty86_ : Ty := ⟨(.struct #[fld 9 0, fld 9 1, fld 3 2, fld 80 3, fld 81 4]), 5, 88, (.agg #[(.string ⟨#[]⟩), (.string ⟨#[]⟩), (.int .i64 0), (.slice none 0 0), (.slice none 0 0)])⟩
theorem ty86_ok : TyOk Tryz.prog 86 ty86_ := TyOk.mk' (by kernel_rfl) (by kernel_rfl)
def ty87_ : Ty := ⟨(.struct #[fld 3 0, fld 76 1, fld 84 2, fld 9 8, fld 80 9, fld 86 10]), 15, 288, (.agg #[(.int .i64 0), (.slice none 0 0), (.string ⟨#[]⟩), (.string ⟨#[]⟩), (.slice none 0 0), (.slice none 0 0), (.slice none 0 0), (.slice none 0 0), (.string ⟨#[]⟩), (.slice none 0 0), (.string ⟨#[]⟩), (.string ⟨#[]⟩), (.int .i64 0), (.slice none 0 0), (.slice none 0 0)])⟩
theorem ty87_ok : TyOk Tryz.prog 87 ty87_ := TyOk.mk' (by kernel_rfl) (by kernel_rfl)
def ty88_ : Ty := ⟨(.struct #[fld 3 0, fld 76 1, fld 84 2, fld 9 8, fld 80 9, fld 86 10]), 15, 288, (.agg #[(.int .i64 0), (.slice none 0 0), (.string ⟨#[]⟩), (.string ⟨#[]⟩), (.slice none 0 0), (.slice none 0 0), (.slice none 0 0), (.slice none 0 0), (.string ⟨#[]⟩), (.slice none 0 0), (.string ⟨#[]⟩), (.string ⟨#[]⟩), (.int .i64 0), (.slice none 0 0), (.slice none 0 0)])⟩
theorem ty88_ok : TyOk Tryz.prog 88 ty88_ := TyOk.mk' (by kernel_rfl) (by kernel_rfl)
def ty89_ : Ty := ⟨(.slice 88), 1, 24, (.slice none 0 0)⟩
theorem ty89_ok : TyOk Tryz.prog 89 ty89_ := TyOk.mk' (by kernel_rfl) (by kernel_rfl)
def ty90_ : Ty := ⟨(.struct #[fld 9 0, fld 76 1, fld 3 2, fld 84 3, fld 89 9]), 10, 200, (.agg #[(.string ⟨#[]⟩), (.slice none 0 0), (.int .i64 0), (.string ⟨#[]⟩), (.string ⟨#[]⟩), (.slice none 0 0), (.slice none 0 0), (.slice none 0 0), (.slice none 0 0), (.slice none 0 0)])⟩
theorem ty90_ok : TyOk Tryz.prog 90 ty90_ := TyOk.mk' (by kernel_rfl) (by kernel_rfl)
def ty91_ : Ty := ⟨(.struct #[fld 9 0, fld 76 1, fld 3 2, fld 84 3, fld 89 9]), 10, 200, (.agg #[(.string ⟨#[]⟩), (.slice none 0 0), (.int .i64 0), (.string ⟨#[]⟩), (.string ⟨#[]⟩), (.slice none 0 0), (.slice none 0 0), (.slice none 0 0), (.slice none 0 0), (.slice none 0 0)])⟩
theorem ty91_ok : TyOk Tryz.prog 91 ty91_ := TyOk.mk' (by kernel_rfl) (by kernel_rfl)
def ty92_ : Ty := ⟨(.slice 91), 1, 24, (.slice none 0 0)⟩
theorem ty92_ok : TyOk Tryz.prog 92 ty92_ := TyOk.mk' (by kernel_rfl) (by kernel_rfl)
def ty93_ : Ty := ⟨(.slice 209), 1, 24, (.slice none 0 0)⟩
theorem ty93_ok : TyOk Tryz.prog 93 ty93_ := TyOk.mk' (by kernel_rfl) (by kernel_rfl)
def ty94_ : Ty := ⟨(.slice 233), 1, 24, (.slice none 0 0)⟩
theorem ty94_ok : TyOk Tryz.prog 94 ty94_ := TyOk.mk' (by kernel_rfl) (by kernel_rfl)
def ty95_ : Ty := ⟨(.struct #[fld 9 0, fld 76 1, fld 76 2, fld 79 3, fld 93 4, fld 92 5, fld 94 6]), 7, 160, (.agg #[(.string ⟨#[]⟩), (.slice none 0 0), (.slice none 0 0), (.slice none 0 0), (.slice none 0 0), (.slice none 0 0), (.slice none 0 0)])⟩
theorem ty95_ok : TyOk Tryz.prog 95 ty95_ := TyOk.mk' (by kernel_rfl) (by kernel_rfl)
def ty96_ : Ty := ⟨(.struct #[fld 9 0, fld 76 1, fld 76 2, fld 79 3, fld 93 4, fld 92 5, fld 94 6]), 7, 160, (.agg #[(.string ⟨#[]⟩), (.slice none 0 0), (.slice none 0 0), (.slice none 0 0), (.slice none 0 0), (.slice none 0 0), (.slice none 0 0)])⟩
theorem ty96_ok : TyOk Tryz.prog 96 ty96_ := TyOk.mk' (by kernel_rfl) (by kernel_rfl)
def ty98_ : Ty := ⟨(.func #[] #[] false), 1, 8, .nilFunc⟩
theorem ty98_ok : TyOk Tryz.prog 98 ty98_ := TyOk.mk' (by kernel_rfl) (by kernel_rfl)
def ty99_ : Ty := ⟨(.slice 202), 1, 24, (.slice none 0 0)⟩
theorem ty99_ok : TyOk Tryz.prog 99 ty99_ := TyOk.mk' (by kernel_rfl) (by kernel_rfl)
def ty100_ : Ty := ⟨(.struct #[fld 9 0, fld 9 1, fld 76 2, fld 22 3, fld 99 4, fld 84 5]), 11, 232, (.agg #[(.string ⟨#[]⟩), (.string ⟨#[]⟩), (.slice none 0 0), (.slice none 0 0), (.slice none 0 0), (.string ⟨#[]⟩), (.string ⟨#[]⟩), (.slice none 0 0), (.slice none 0 0), (.slice none 0 0), (.slice none 0 0)])⟩
theorem ty100_ok : TyOk Tryz.prog 100 ty100_ := TyOk.mk' (by kernel_rfl) (by kernel_rfl)
def ty101_ : Ty := ⟨(.struct #[fld 9 0, fld 9 1, fld 76 2, fld 22 3, fld 99 4, fld 84 5]), 11, 232, (.agg #[(.string ⟨#[]⟩), (.string ⟨#[]⟩), (.slice none 0 0), (.slice none 0 0), (.slice none 0 0), (.string ⟨#[]⟩), (.string ⟨#[]⟩), (.slice none 0 0), (.slice none 0 0), (.slice none 0 0), (.slice none 0 0)])⟩
theorem ty101_ok : TyOk Tryz.prog 101 ty101_ := TyOk.mk' (by kernel_rfl) (by kernel_rfl)
def ty102_ : Ty := ⟨(.struct #[fld 9 0, fld 80 1]), 2, 40, (.agg #[(.string ⟨#[]⟩), (.slice none 0 0)])⟩
theorem ty102_ok : TyOk Tryz.prog 102 ty102_ := TyOk.mk' (by kernel_rfl) (by kernel_rfl)
def ty103_ : Ty := ⟨(.struct #[fld 9 0, fld 80 1]), 2, 40, (.agg #[(.string ⟨#[]⟩), (.slice none 0 0)])⟩
theorem ty103_ok : TyOk Tryz.prog 103 ty103_ := TyOk.mk' (by kernel_rfl) (by kernel_rfl)
def ty104_ : Ty := ⟨(.struct #[fld 103 0, fld 3 2, fld 3 3, fld 3 4]), 5, 64, (.agg #[(.string ⟨#[]⟩), (.slice none 0 0), (.int .i64 0), (.int .i64 0), (.int .i64 0)])⟩
theorem ty104_ok : TyOk Tryz.prog 104 ty104_ := TyOk.mk' (by kernel_rfl) (by kernel_rfl)
def ty105_ : Ty := ⟨(.struct #[fld 103 0, fld 3 2, fld 3 3, fld 3 4]), 5, 64, (.agg #[(.string ⟨#[]⟩), (.slice none 0 0), (.int .i64 0), (.int .i64 0), (.int .i64 0)])⟩
theorem ty105_ok : TyOk Tryz.prog 105 ty105_ := TyOk.mk' (by kernel_rfl) (by kernel_rfl)
def ty106_ : Ty := ⟨(.func #[] #[] false), 1, 8, .nilFunc⟩
theorem ty106_ok : TyOk Tryz.prog 106 ty106_ := TyOk.mk' (by kernel_rfl) (by kernel_rfl)
def ty107_ : Ty := ⟨(.func #[] #[] false), 1, 8, .nilFunc⟩
theorem ty107_ok : TyOk Tryz.prog 107 ty107_ := TyOk.mk' (by kernel_rfl) (by kernel_rfl)
def ty108_ : Ty := ⟨(.func #[] #[] false), 1, 8, .nilFunc⟩
theorem ty108_ok : TyOk Tryz.prog 108 ty108_ := TyOk.mk' (by kernel_rfl) (by kernel_rfl)
def ty109_ : Ty := ⟨(.func #[] #[] false), 1, 8, .nilFunc⟩
theorem ty109_ok : TyOk Tryz.prog 109 ty109_ := TyOk.mk' (by kernel_rfl) (by kernel_rfl)
def ty110_ : Ty := ⟨(.func #[] #[] false), 1, 8, .nilFunc⟩
theorem ty110_ok : TyOk Tryz.prog 110 ty110_ := TyOk.mk' (by kernel_rfl) (by kernel_rfl)
def ty111_ : Ty := ⟨(.func #[] #[] false), 1, 8, .nilFunc⟩
theorem ty111_ok : TyOk Tryz.prog 111 ty111_ := TyOk.mk' (by kernel_rfl) (by kernel_rfl)
def ty112_ : Ty := ⟨(.func #[] #[] false), 1, 8, .nilFunc⟩
theorem ty112_ok : TyOk Tryz.prog 112 ty112_ := TyOk.mk' (by kernel_rfl) (by kernel_rfl)
def ty113_ : Ty := ⟨(.func #[] #[] false), 1, 8, .nilFunc⟩
theorem ty113_ok : TyOk Tryz.prog 113 ty113_ := TyOk.mk' (by kernel_rfl) (by kernel_rfl)
def ty114_ : Ty := ⟨(.func #[] #[] false), 1, 8, .nilFunc⟩
theorem ty114_ok : TyOk Tryz.prog 114 ty114_ := TyOk.mk' (by kernel_rfl) (by kernel_rfl)
def ty116_ : Ty := ⟨(.func #[] #[] false), 1, 8, .nilFunc⟩
theorem ty116_ok : TyOk Tryz.prog 116 ty116_ := TyOk.mk' (by kernel_rfl) (by kernel_rfl)
def ty117_ : Ty := ⟨(.map 3 4), 1, 8, (.map none)⟩
theorem ty117_ok : TyOk Tryz.prog 117 ty117_ := TyOk.mk' (by kernel_rfl) (by kernel_rfl)
def ty118_ : Ty := ⟨(.func #[] #[] false), 1, 8, .nilFunc⟩
theorem ty118_ok : TyOk Tryz.prog 118 ty118_ := TyOk.mk' (by kernel_rfl) (by kernel_rfl)
def ty119_ : Ty := ⟨(.func #[] #[] false), 1, 8, .nilFunc⟩
theorem ty119_ok : TyOk Tryz.prog 119 ty119_ := TyOk.mk' (by kernel_rfl) (by kernel_rfl)
def ty120_ : Ty := ⟨(.func #[] #[] false), 1, 8, .nilFunc⟩
theorem ty120_ok : TyOk Tryz.prog 120 ty120_ := TyOk.mk' (by kernel_rfl) (by kernel_rfl)
def ty122_ : Ty := ⟨(.struct #[fld 9 0, fld 53 1, fld 53 4]), 7, 112, (.agg #[(.string ⟨#[]⟩), (.string ⟨#[]⟩), (.int .i64 0), (.slice none 0 0), (.string ⟨#[]⟩), (.int .i64 0), (.slice none 0 0)])⟩
theorem ty122_ok : TyOk Tryz.prog 122 ty122_ := TyOk.mk' (by kernel_rfl) (by kernel_rfl)
def ty123_ : Ty := ⟨(.struct #[fld 9 0, fld 53 1, fld 53 4]), 7, 112, (.agg #[(.string ⟨#[]⟩), (.string ⟨#[]⟩), (.int .i64 0), (.slice none 0 0), (.string ⟨#[]⟩), (.int .i64 0), (.slice none 0 0)])⟩
theorem ty123_ok : TyOk Tryz.prog 123 ty123_ := TyOk.mk' (by kernel_rfl) (by kernel_rfl)
def ty124_ : Ty := ⟨(.func #[] #[] false), 1, 8, .nilFunc⟩
theorem ty124_ok : TyOk Tryz.prog 124 ty124_ := TyOk.mk' (by kernel_rfl) (by kernel_rfl)
def ty125_ : Ty := ⟨(.func #[] #[] false), 1, 8, .nilFunc⟩
theorem ty125_ok : TyOk Tryz.prog 125 ty125_ := TyOk.mk' (by kernel_rfl) (by kernel_rfl)
def ty126_ : Ty := ⟨(.func #[] #[] false), 1, 8, .nilFunc⟩
theorem ty126_ok : TyOk Tryz.prog 126 ty126_ := TyOk.mk' (by kernel_rfl) (by kernel_rfl)
def ty128_ : Ty := ⟨(.func #[] #[] false), 1, 8, .nilFunc⟩
theorem ty128_ok : TyOk Tryz.prog 128 ty128_ := TyOk.mk' (by kernel_rfl) (by kernel_rfl)
def ty130_ : Ty := ⟨(.func #[] #[] false), 1, 8, .nilFunc⟩
theorem ty130_ok : TyOk Tryz.prog 130 ty130_ := TyOk.mk' (by kernel_rfl) (by kernel_rfl)
def ty131_ : Ty := ⟨(.slice 147), 1, 24, (.slice none 0 0)⟩
theorem ty131_ok : TyOk Tryz.prog 131 ty131_ := TyOk.mk' (by kernel_rfl) (by kernel_rfl)
def ty133_ : Ty := ⟨(.func #[] #[] false), 1, 8, .nilFunc⟩
theorem ty133_ok : TyOk Tryz.prog 133 ty133_ := TyOk.mk' (by kernel_rfl) (by kernel_rfl)
def ty134_ : Ty := ⟨(.pointer 260), 1, 8, (.pointer none)⟩
theorem ty134_ok : TyOk Tryz.prog 134 ty134_ := TyOk.mk' (by kernel_rfl) (by kernel_rfl)
def ty136_ : Ty := ⟨(.func #[] #[] false), 1, 8, .nilFunc⟩
theorem ty136_ok : TyOk Tryz.prog 136 ty136_ := TyOk.mk' (by kernel_rfl) (by kernel_rfl)
def ty137_ : Ty := ⟨(.pointer 142), 1, 8, (.pointer none)⟩
theorem ty137_ok : TyOk Tryz.prog 137 ty137_ := TyOk.mk' (by kernel_rfl) (by kernel_rfl)
def ty138_ : Ty := ⟨(.func #[] #[] false), 1, 8, .nilFunc⟩
theorem ty138_ok : TyOk Tryz.prog 138 ty138_ := TyOk.mk' (by kernel_rfl) (by kernel_rfl)
def ty139_ : Ty := ⟨(.map 9 4), 1, 8, (.map none)⟩
theorem ty139_ok : TyOk Tryz.prog 139 ty139_ := TyOk.mk' (by kernel_rfl) (by kernel_rfl)
def ty140_ : Ty := ⟨(.map 9 3), 1, 8, (.map none)⟩
theorem ty140_ok : TyOk Tryz.prog 140 ty140_ := TyOk.mk' (by kernel_rfl) (by kernel_rfl)
def ty141_ : Ty := ⟨(.struct #[fld 96 0, fld 134 7, fld 76 8, fld 139 9, fld 140 10, fld 140 11, fld 28 12]), 17, 336, (.agg #[(.string ⟨#[]⟩), (.slice none 0 0), (.slice none 0 0), (.slice none 0 0), (.slice none 0 0), (.slice none 0 0), (.slice none 0 0), (.pointer none), (.slice none 0 0), (.map none), (.map none), (.map none), (.slice none 0 0), (.slice none 0 0), (.slice none 0 0), (.slice none 0 0), (.slice none 0 0)])⟩
theorem ty141_ok : TyOk Tryz.prog 141 ty141_ := TyOk.mk' (by kernel_rfl) (by kernel_rfl)
def ty142_ : Ty := ⟨(.struct #[fld 96 0, fld 134 7, fld 76 8, fld 139 9, fld 140 10, fld 140 11, fld 28 12]), 17, 336, (.agg #[(.string ⟨#[]⟩), (.slice none 0 0), (.slice none 0 0), (.slice none 0 0), (.slice none 0 0), (.slice none 0 0), (.slice none 0 0), (.pointer none), (.slice none 0 0), (.map none), (.map none), (.map none), (.slice none 0 0), (.slice none 0 0), (.slice none 0 0), (.slice none 0 0), (.slice none 0 0)])⟩
theorem ty142_ok : TyOk Tryz.prog 142 ty142_ := TyOk.mk' (by kernel_rfl) (by kernel_rfl)
def ty143_ : Ty := ⟨(.func #[] #[] false), 1, 8, .nilFunc⟩
theorem ty143_ok : TyOk Tryz.prog 143 ty143_ := TyOk.mk' (by kernel_rfl) (by kernel_rfl)
def ty144_ : Ty := ⟨(.func #[] #[] false), 1, 8, .nilFunc⟩
theorem ty144_ok : TyOk Tryz.prog 144 ty144_ := TyOk.mk' (by kernel_rfl) (by kernel_rfl)
def ty145_ : Ty := ⟨(.func #[] #[] false), 1, 8, .nilFunc⟩
theorem ty145_ok : TyOk Tryz.prog 145 ty145_ := TyOk.mk' (by kernel_rfl) (by kernel_rfl)
def ty146_ : Ty := ⟨(.struct #[fld 3 0, fld 9 1, fld 80 2]), 3, 48, (.agg #[(.int .i64 0), (.string ⟨#[]⟩), (.slice none 0 0)])⟩
theorem ty146_ok : TyOk Tryz.prog 146 ty146_ := TyOk.mk' (by kernel_rfl) (by kernel_rfl)
def ty147_ : Ty := ⟨(.struct #[fld 3 0, fld 9 1, fld 80 2]), 3, 48, (.agg #[(.int .i64 0), (.string ⟨#[]⟩), (.slice none 0 0)])⟩
theorem ty147_ok : TyOk Tryz.prog 147 ty147_ := TyOk.mk' (by kernel_rfl) (by kernel_rfl)
def ty148_ : Ty := ⟨(.func #[] #[] false), 1, 8, .nilFunc⟩
theorem ty148_ok : TyOk Tryz.prog 148 ty148_ := TyOk.mk' (by kernel_rfl) (by kernel_rfl)
def ty149_ : Ty := ⟨(.func #[] #[] false), 1, 8, .nilFunc⟩
theorem ty149_ok : TyOk Tryz.prog 149 ty149_ := TyOk.mk' (by kernel_rfl) (by kernel_rfl)
def ty150_ : Ty := ⟨(.func #[] #[] false), 1, 8, .nilFunc⟩
theorem ty150_ok : TyOk Tryz.prog 150 ty150_ := TyOk.mk' (by kernel_rfl) (by kernel_rfl)
def ty151_ : Ty := ⟨(.func #[] #[] false), 1, 8, .nilFunc⟩
theorem ty151_ok : TyOk Tryz.prog 151 ty151_ := TyOk.mk' (by kernel_rfl) (by kernel_rfl)
def ty152_ : Ty := ⟨(.func #[] #[] false), 1, 8, .nilFunc⟩
theorem ty152_ok : TyOk Tryz.prog 152 ty152_ := TyOk.mk' (by kernel_rfl) (by kernel_rfl)
def ty153_ : Ty := ⟨(.func #[] #[] false), 1, 8, .nilFunc⟩
theorem ty153_ok : TyOk Tryz.prog 153 ty153_ := TyOk.mk' (by kernel_rfl) (by kernel_rfl)
def ty154_ : Ty := ⟨(.func #[] #[] false), 1, 8, .nilFunc⟩
theorem ty154_ok : TyOk Tryz.prog 154 ty154_ := TyOk.mk' (by kernel_rfl) (by kernel_rfl)
def ty155_ : Ty := ⟨(.func #[] #[] false), 1, 8, .nilFunc⟩
theorem ty155_ok : TyOk Tryz.prog 155 ty155_ := TyOk.mk' (by kernel_rfl) (by kernel_rfl)
def ty156_ : Ty := ⟨(.func #[] #[] false), 1, 8, .nilFunc⟩
theorem ty156_ok : TyOk Tryz.prog 156 ty156_ := TyOk.mk' (by kernel_rfl) (by kernel_rfl)
def ty157_ : Ty := ⟨(.int .u64), 1, 8, (.int .u64 0)⟩
theorem ty157_ok : TyOk Tryz.prog 157 ty157_ := TyOk.mk' (by kernel_rfl) (by kernel_rfl)
def ty158_ : Ty := ⟨(.func #[] #[] false), 1, 8, .nilFunc⟩
theorem ty158_ok : TyOk Tryz.prog 158 ty158_ := TyOk.mk' (by kernel_rfl) (by kernel_rfl)
def ty159_ : Ty := ⟨(.slice 161), 1, 24, (.slice none 0 0)⟩
theorem ty159_ok : TyOk Tryz.prog 159 ty159_ := TyOk.mk' (by kernel_rfl) (by kernel_rfl)
def ty160_ : Ty := ⟨(.struct #[fld 3 0, fld 3 1, fld 3 2, fld 3 3, fld 9 4, fld 159 5]), 6, 72, (.agg #[(.int .i64 0), (.int .i64 0), (.int .i64 0), (.int .i64 0), (.string ⟨#[]⟩), (.slice none 0 0)])⟩
theorem ty160_ok : TyOk Tryz.prog 160 ty160_ := TyOk.mk' (by kernel_rfl) (by kernel_rfl)
def ty161_ : Ty := ⟨(.struct #[fld 3 0, fld 3 1, fld 3 2, fld 3 3, fld 9 4, fld 159 5]), 6, 72, (.agg #[(.int .i64 0), (.int .i64 0), (.int .i64 0), (.int .i64 0), (.string ⟨#[]⟩), (.slice none 0 0)])⟩
theorem ty161_ok : TyOk Tryz.prog 161 ty161_ := TyOk.mk' (by kernel_rfl) (by kernel_rfl)
def ty163_ : Ty := ⟨(.func #[] #[] false), 1, 8, .nilFunc⟩
theorem ty163_ok : TyOk Tryz.prog 163 ty163_ := TyOk.mk' (by kernel_rfl) (by kernel_rfl)
def ty164_ : Ty := ⟨(.func #[] #[] false), 1, 8, .nilFunc⟩
theorem ty164_ok : TyOk Tryz.prog 164 ty164_ := TyOk.mk' (by kernel_rfl) (by kernel_rfl)
def ty165_ : Ty := ⟨(.pointer 170), 1, 8, (.pointer none)⟩
theorem ty165_ok : TyOk Tryz.prog 165 ty165_ := TyOk.mk' (by kernel_rfl) (by kernel_rfl)
def ty166_ : Ty := ⟨(.map 9 76), 1, 8, (.map none)⟩
theorem ty166_ok : TyOk Tryz.prog 166 ty166_ := TyOk.mk' (by kernel_rfl) (by kernel_rfl)
def ty167_ : Ty := ⟨(.map 9 209), 1, 8, (.map none)⟩
theorem ty167_ok : TyOk Tryz.prog 167 ty167_ := TyOk.mk' (by kernel_rfl) (by kernel_rfl)
def ty168_ : Ty := ⟨(.map 9 9), 1, 8, (.map none)⟩
theorem ty168_ok : TyOk Tryz.prog 168 ty168_ := TyOk.mk' (by kernel_rfl) (by kernel_rfl)
def ty169_ : Ty := ⟨(.struct #[fld 96 0, fld 101 7, fld 134 18, fld 166 19, fld 167 20, fld 168 21, fld 76 22]), 23, 448, (.agg #[(.string ⟨#[]⟩), (.slice none 0 0), (.slice none 0 0), (.slice none 0 0), (.slice none 0 0), (.slice none 0 0), (.slice none 0 0), (.string ⟨#[]⟩), (.string ⟨#[]⟩), (.slice none 0 0), (.slice none 0 0), (.slice none 0 0), (.string ⟨#[]⟩), (.string ⟨#[]⟩), (.slice none 0 0), (.slice none 0 0), (.slice none 0 0), (.slice none 0 0), (.pointer none), (.map none), (.map none), (.map none), (.slice none 0 0)])⟩
theorem ty169_ok : TyOk Tryz.prog 169 ty169_ := TyOk.mk' (by kernel_rfl) (by kernel_rfl)
def ty170_ : Ty := ⟨(.struct #[fld 96 0, fld 101 7, fld 134 18, fld 166 19, fld 167 20, fld 168 21, fld 76 22]), 23, 448, (.agg #[(.string ⟨#[]⟩), (.slice none 0 0), (.slice none 0 0), (.slice none 0 0), (.slice none 0 0), (.slice none 0 0), (.slice none 0 0), (.string ⟨#[]⟩), (.string ⟨#[]⟩), (.slice none 0 0), (.slice none 0 0), (.slice none 0 0), (.string ⟨#[]⟩), (.string ⟨#[]⟩), (.slice none 0 0), (.slice none 0 0), (.slice none 0 0), (.slice none 0 0), (.pointer none), (.map none), (.map none), (.map none), (.slice none 0 0)])⟩
theorem ty170_ok : TyOk Tryz.prog 170 ty170_ := TyOk.mk' (by kernel_rfl) (by kernel_rfl)
def ty171_ : Ty := ⟨(.func #[] #[] false), 1, 8, .nilFunc⟩
theorem ty171_ok : TyOk Tryz.prog 171 ty171_ := TyOk.mk' (by kernel_rfl) (by kernel_rfl)
def ty172_ : Ty := ⟨(.pointer 254), 1, 8, (.pointer none)⟩
theorem ty172_ok : TyOk Tryz.prog 172 ty172_ := TyOk.mk' (by kernel_rfl) (by kernel_rfl)
def ty174_ : Ty := ⟨(.func #[] #[] false), 1, 8, .nilFunc⟩
theorem ty174_ok : TyOk Tryz.prog 174 ty174_ := TyOk.mk' (by kernel_rfl) (by kernel_rfl)
def ty175_ : Ty := ⟨(.pointer 183), 1, 8, (.pointer none)⟩
theorem ty175_ok : TyOk Tryz.prog 175 ty175_ := TyOk.mk' (by kernel_rfl) (by kernel_rfl)
def ty177_ : Ty := ⟨(.func #[] #[] false), 1, 8, .nilFunc⟩
theorem ty177_ok : TyOk Tryz.prog 177 ty177_ := TyOk.mk' (by kernel_rfl) (by kernel_rfl)
def ty178_ : Ty := ⟨(.slice 187), 1, 24, (.slice none 0 0)⟩
theorem ty178_ok : TyOk Tryz.prog 178 ty178_ := TyOk.mk' (by kernel_rfl) (by kernel_rfl)
def ty179_ : Ty := ⟨(.map 9 103), 1, 8, (.map none)⟩
theorem ty179_ok : TyOk Tryz.prog 179 ty179_ := TyOk.mk' (by kernel_rfl) (by kernel_rfl)
def ty180_ : Ty := ⟨(.map 9 103), 1, 8, (.map none)⟩
theorem ty180_ok : TyOk Tryz.prog 180 ty180_ := TyOk.mk' (by kernel_rfl) (by kernel_rfl)
def ty181_ : Ty := ⟨(.slice 188), 1, 24, (.slice none 0 0)⟩
theorem ty181_ok : TyOk Tryz.prog 181 ty181_ := TyOk.mk' (by kernel_rfl) (by kernel_rfl)
def ty182_ : Ty := ⟨(.struct #[fld 172 0, fld 178 1, fld 180 2, fld 181 3, fld 181 4]), 5, 88, (.agg #[(.pointer none), (.slice none 0 0), (.map none), (.slice none 0 0), (.slice none 0 0)])⟩
theorem ty182_ok : TyOk Tryz.prog 182 ty182_ := TyOk.mk' (by kernel_rfl) (by kernel_rfl)
def ty183_ : Ty := ⟨(.struct #[fld 172 0, fld 178 1, fld 180 2, fld 181 3, fld 181 4]), 5, 88, (.agg #[(.pointer none), (.slice none 0 0), (.map none), (.slice none 0 0), (.slice none 0 0)])⟩
theorem ty183_ok : TyOk Tryz.prog 183 ty183_ := TyOk.mk' (by kernel_rfl) (by kernel_rfl)
def ty184_ : Ty := ⟨(.func #[] #[] false), 1, 8, .nilFunc⟩
theorem ty184_ok : TyOk Tryz.prog 184 ty184_ := TyOk.mk' (by kernel_rfl) (by kernel_rfl)
def ty185_ : Ty := ⟨(.slice 80), 1, 24, (.slice none 0 0)⟩
theorem ty185_ok : TyOk Tryz.prog 185 ty185_ := TyOk.mk' (by kernel_rfl) (by kernel_rfl)
def ty186_ : Ty := ⟨(.struct #[fld 9 0, fld 76 1, fld 84 2, fld 84 8, fld 84 14, fld 84 20, fld 89 26, fld 89 27, fld 4 28, fld 185 29]), 30, 632, (.agg #[(.string ⟨#[]⟩), (.slice none 0 0), (.string ⟨#[]⟩), (.string ⟨#[]⟩), (.slice none 0 0), (.slice none 0 0), (.slice none 0 0), (.slice none 0 0), (.string ⟨#[]⟩), (.string ⟨#[]⟩), (.slice none 0 0), (.slice none 0 0), (.slice none 0 0), (.slice none 0 0), (.string ⟨#[]⟩), (.string ⟨#[]⟩), (.slice none 0 0), (.slice none 0 0), (.slice none 0 0), (.slice none 0 0), (.string ⟨#[]⟩), (.string ⟨#[]⟩), (.slice none 0 0), (.slice none 0 0), (.slice none 0 0), (.slice none 0 0), (.slice none 0 0), (.slice none 0 0), (.bool false), (.slice none 0 0)])⟩
theorem ty186_ok : TyOk Tryz.prog 186 ty186_ := TyOk.mk' (by kernel_rfl) (by kernel_rfl)
def ty187_ : Ty := ⟨(.struct #[fld 9 0, fld 76 1, fld 84 2, fld 84 8, fld 84 14, fld 84 20, fld 89 26, fld 89 27, fld 4 28, fld 185 29]), 30, 632, (.agg #[(.string ⟨#[]⟩), (.slice none 0 0), (.string ⟨#[]⟩), (.string ⟨#[]⟩), (.slice none 0 0), (.slice none 0 0), (.slice none 0 0), (.slice none 0 0), (.string ⟨#[]⟩), (.string ⟨#[]⟩), (.slice none 0 0), (.slice none 0 0), (.slice none 0 0), (.slice none 0 0), (.string ⟨#[]⟩), (.string ⟨#[]⟩), (.slice none 0 0), (.slice none 0 0), (.slice none 0 0), (.slice none 0 0), (.string ⟨#[]⟩), (.string ⟨#[]⟩), (.slice none 0 0), (.slice none 0 0), (.slice none 0 0), (.slice none 0 0), (.slice none 0 0), (.slice none 0 0), (.bool false), (.slice none 0 0)])⟩
theorem ty187_ok : TyOk Tryz.prog 187 ty187_ := TyOk.mk' (by kernel_rfl) (by kernel_rfl)
def ty188_ : Ty := ⟨(.slice 4), 1, 24, (.slice none 0 0)⟩
theorem ty188_ok : TyOk Tryz.prog 188 ty188_ := TyOk.mk' (by kernel_rfl) (by kernel_rfl)
def ty189_ : Ty := ⟨(.func #[] #[] false), 1, 8, .nilFunc⟩
theorem ty189_ok : TyOk Tryz.prog 189 ty189_ := TyOk.mk' (by kernel_rfl) (by kernel_rfl)
def ty191_ : Ty := ⟨(.func #[] #[] false), 1, 8, .nilFunc⟩
theorem ty191_ok : TyOk Tryz.prog 191 ty191_ := TyOk.mk' (by kernel_rfl) (by kernel_rfl)
def ty192_ : Ty := ⟨(.func #[] #[] false), 1, 8, .nilFunc⟩
theorem ty192_ok : TyOk Tryz.prog 192 ty192_ := TyOk.mk' (by kernel_rfl) (by kernel_rfl)
def ty193_ : Ty := ⟨(.struct #[fld 9 0, fld 9 1]), 2, 32, (.agg #[(.string ⟨#[]⟩), (.string ⟨#[]⟩)])⟩
theorem ty193_ok : TyOk Tryz.prog 193 ty193_ := TyOk.mk' (by kernel_rfl) (by kernel_rfl)
def ty194_ : Ty := ⟨(.struct #[fld 9 0, fld 9 1]), 2, 32, (.agg #[(.string ⟨#[]⟩), (.string ⟨#[]⟩)])⟩
theorem ty194_ok : TyOk Tryz.prog 194 ty194_ := TyOk.mk' (by kernel_rfl) (by kernel_rfl)
def ty195_ : Ty := ⟨(.func #[] #[] false), 1, 8, .nilFunc⟩
theorem ty195_ok : TyOk Tryz.prog 195 ty195_ := TyOk.mk' (by kernel_rfl) (by kernel_rfl)
def ty196_ : Ty := ⟨(.func #[] #[] false), 1, 8, .nilFunc⟩
theorem ty196_ok : TyOk Tryz.prog 196 ty196_ := TyOk.mk' (by kernel_rfl) (by kernel_rfl)
def ty197_ : Ty := ⟨(.func #[] #[] false), 1, 8, .nilFunc⟩
theorem ty197_ok : TyOk Tryz.prog 197 ty197_ := TyOk.mk' (by kernel_rfl) (by kernel_rfl)
def ty198_ : Ty := ⟨(.func #[] #[] false), 1, 8, .nilFunc⟩
theorem ty198_ok : TyOk Tryz.prog 198 ty198_ := TyOk.mk' (by kernel_rfl) (by kernel_rfl)
def ty199_ : Ty := ⟨(.func #[] #[] false), 1, 8, .nilFunc⟩
theorem ty199_ok : TyOk Tryz.prog 199 ty199_ := TyOk.mk' (by kernel_rfl) (by kernel_rfl)
def ty200_ : Ty := ⟨(.func #[] #[] false), 1, 8, .nilFunc⟩
theorem ty200_ok : TyOk Tryz.prog 200 ty200_ := TyOk.mk' (by kernel_rfl) (by kernel_rfl)
def ty201_ : Ty := ⟨(.struct #[fld 103 0, fld 3 2]), 3, 48, (.agg #[(.string ⟨#[]⟩), (.slice none 0 0), (.int .i64 0)])⟩
theorem ty201_ok : TyOk Tryz.prog 201 ty201_ := TyOk.mk' (by kernel_rfl) (by kernel_rfl)
def ty202_ : Ty := ⟨(.struct #[fld 103 0, fld 3 2]), 3, 48, (.agg #[(.string ⟨#[]⟩), (.slice none 0 0), (.int .i64 0)])⟩
theorem ty202_ok : TyOk Tryz.prog 202 ty202_ := TyOk.mk' (by kernel_rfl) (by kernel_rfl)
def ty203_ : Ty := ⟨(.func #[] #[] false), 1, 8, .nilFunc⟩
theorem ty203_ok : TyOk Tryz.prog 203 ty203_ := TyOk.mk' (by kernel_rfl) (by kernel_rfl)
def ty204_ : Ty := ⟨(.func #[] #[] false), 1, 8, .nilFunc⟩
theorem ty204_ok : TyOk Tryz.prog 204 ty204_ := TyOk.mk' (by kernel_rfl) (by kernel_rfl)
def ty205_ : Ty := ⟨(.func #[] #[] false), 1, 8, .nilFunc⟩
theorem ty205_ok : TyOk Tryz.prog 205 ty205_ := TyOk.mk' (by kernel_rfl) (by kernel_rfl)
def ty206_ : Ty := ⟨(.func #[] #[] false), 1, 8, .nilFunc⟩
theorem ty206_ok : TyOk Tryz.prog 206 ty206_ := TyOk.mk' (by kernel_rfl) (by kernel_rfl)
def ty207_ : Ty := ⟨(.func #[] #[] false), 1, 8, .nilFunc⟩
theorem ty207_ok : TyOk Tryz.prog 207 ty207_ := TyOk.mk' (by kernel_rfl) (by kernel_rfl)
def ty208_ : Ty := ⟨(.struct #[fld 9 0, fld 76 1, fld 3 2, fld 3 3]), 4, 56, (.agg #[(.string ⟨#[]⟩), (.slice none 0 0), (.int .i64 0), (.int .i64 0)])⟩
theorem ty208_ok : TyOk Tryz.prog 208 ty208_ := TyOk.mk' (by kernel_rfl) (by kernel_rfl)
def ty209_ : Ty := ⟨(.struct #[fld 9 0, fld 76 1, fld 3 2, fld 3 3]), 4, 56, (.agg #[(.string ⟨#[]⟩), (.slice none 0 0), (.int .i64 0), (.int .i64 0)])⟩
theorem ty209_ok : TyOk Tryz.prog 209 ty209_ := TyOk.mk' (by kernel_rfl) (by kernel_rfl)
def ty210_ : Ty := ⟨(.func #[] #[] false), 1, 8, .nilFunc⟩
theorem ty210_ok : TyOk Tryz.prog 210 ty210_ := TyOk.mk' (by kernel_rfl) (by kernel_rfl)
def ty211_ : Ty := ⟨(.func #[] #[] false), 1, 8, .nilFunc⟩
theorem ty211_ok : TyOk Tryz.prog 211 ty211_ := TyOk.mk' (by kernel_rfl) (by kernel_rfl)
def ty212_ : Ty := ⟨(.func #[] #[] false), 1, 8, .nilFunc⟩
theorem ty212_ok : TyOk Tryz.prog 212 ty212_ := TyOk.mk' (by kernel_rfl) (by kernel_rfl)
def ty214_ : Ty := ⟨(.func #[] #[] false), 1, 8, .nilFunc⟩
theorem ty214_ok : TyOk Tryz.prog 214 ty214_ := TyOk.mk' (by kernel_rfl) (by kernel_rfl)
def ty215_ : Ty := ⟨(.func #[] #[] false), 1, 8, .nilFunc⟩
theorem ty215_ok : TyOk Tryz.prog 215 ty215_ := TyOk.mk' (by kernel_rfl) (by kernel_rfl)
def ty216_ : Ty := ⟨(.func #[] #[] false), 1, 8, .nilFunc⟩
theorem ty216_ok : TyOk Tryz.prog 216 ty216_ := TyOk.mk' (by kernel_rfl) (by kernel_rfl)
def ty218_ : Ty := ⟨(.func #[] #[] false), 1, 8, .nilFunc⟩
theorem ty218_ok : TyOk Tryz.prog 218 ty218_ := TyOk.mk' (by kernel_rfl) (by kernel_rfl)
def ty219_ : Ty := ⟨(.func #[] #[] false), 1, 8, .nilFunc⟩
theorem ty219_ok : TyOk Tryz.prog 219 ty219_ := TyOk.mk' (by kernel_rfl) (by kernel_rfl)
def ty220_ : Ty := ⟨(.func #[] #[] false), 1, 8, .nilFunc⟩
theorem ty220_ok : TyOk Tryz.prog 220 ty220_ := TyOk.mk' (by kernel_rfl) (by kernel_rfl)
def ty221_ : Ty := ⟨(.func #[] #[] false), 1, 8, .nilFunc⟩
theorem ty221_ok : TyOk Tryz.prog 221 ty221_ := TyOk.mk' (by kernel_rfl) (by kernel_rfl)
def ty222_ : Ty := ⟨(.pointer 224), 1, 8, (.pointer none)⟩
theorem ty222_ok : TyOk Tryz.prog 222 ty222_ := TyOk.mk' (by kernel_rfl) (by kernel_rfl)
def ty223_ : Ty := ⟨(.struct #[fld 4 0]), 1, 1, (.agg #[(.bool false)])⟩
theorem ty223_ok : TyOk Tryz.prog 223 ty223_ := TyOk.mk' (by kernel_rfl) (by kernel_rfl)
def ty224_ : Ty := ⟨(.struct #[fld 4 0]), 1, 1, (.agg #[(.bool false)])⟩
theorem ty224_ok : TyOk Tryz.prog 224 ty224_ := TyOk.mk' (by kernel_rfl) (by kernel_rfl)
def ty225_ : Ty := ⟨(.func #[] #[] false), 1, 8, .nilFunc⟩
theorem ty225_ok : TyOk Tryz.prog 225 ty225_ := TyOk.mk' (by kernel_rfl) (by kernel_rfl)
def ty226_ : Ty := ⟨(.func #[] #[] false), 1, 8, .nilFunc⟩
theorem ty226_ok : TyOk Tryz.prog 226 ty226_ := TyOk.mk' (by kernel_rfl) (by kernel_rfl)
def ty227_ : Ty := ⟨(.func #[] #[] false), 1, 8, .nilFunc⟩
theorem ty227_ok : TyOk Tryz.prog 227 ty227_ := TyOk.mk' (by kernel_rfl) (by kernel_rfl)
def ty228_ : Ty := ⟨(.pointer 161), 1, 8, (.pointer none)⟩
theorem ty228_ok : TyOk Tryz.prog 228 ty228_ := TyOk.mk' (by kernel_rfl) (by kernel_rfl)
def ty229_ : Ty := ⟨(.func #[] #[] false), 1, 8, .nilFunc⟩
theorem ty229_ok : TyOk Tryz.prog 229 ty229_ := TyOk.mk' (by kernel_rfl) (by kernel_rfl)
def ty230_ : Ty := ⟨(.func #[] #[] false), 1, 8, .nilFunc⟩
theorem ty230_ok : TyOk Tryz.prog 230 ty230_ := TyOk.mk' (by kernel_rfl) (by kernel_rfl)
def ty231_ : Ty := ⟨(.func #[] #[] false), 1, 8, .nilFunc⟩
theorem ty231_ok : TyOk Tryz.prog 231 ty231_ := TyOk.mk' (by kernel_rfl) (by kernel_rfl)
def ty232_ : Ty := ⟨(.struct #[fld 9 0, fld 76 1, fld 3 2, fld 84 3, fld 84 9, fld 84 15, fld 89 21, fld 89 22]), 23, 480, (.agg #[(.string ⟨#[]⟩), (.slice none 0 0), (.int .i64 0), (.string ⟨#[]⟩), (.string ⟨#[]⟩), (.slice none 0 0), (.slice none 0 0), (.slice none 0 0), (.slice none 0 0), (.string ⟨#[]⟩), (.string ⟨#[]⟩), (.slice none 0 0), (.slice none 0 0), (.slice none 0 0), (.slice none 0 0), (.string ⟨#[]⟩), (.string ⟨#[]⟩), (.slice none 0 0), (.slice none 0 0), (.slice none 0 0), (.slice none 0 0), (.slice none 0 0), (.slice none 0 0)])⟩
theorem ty232_ok : TyOk Tryz.prog 232 ty232_ := TyOk.mk' (by kernel_rfl) (by kernel_rfl)
def ty233_ : Ty := ⟨(.struct #[fld 9 0, fld 76 1, fld 3 2, fld 84 3, fld 84 9, fld 84 15, fld 89 21, fld 89 22]), 23, 480, (.agg #[(.string ⟨#[]⟩), (.slice none 0 0), (.int .i64 0), (.string ⟨#[]⟩), (.string ⟨#[]⟩), (.slice none 0 0), (.slice none 0 0), (.slice none 0 0), (.slice none 0 0), (.string ⟨#[]⟩), (.string ⟨#[]⟩), (.slice none 0 0), (.slice none 0 0), (.slice none 0 0), (.slice none 0 0), (.string ⟨#[]⟩), (.string ⟨#[]⟩), (.slice none 0 0), (.slice none 0 0), (.slice none 0 0), (.slice none 0 0), (.slice none 0 0), (.slice none 0 0)])⟩
theorem ty233_ok : TyOk Tryz.prog 233 ty233_ := TyOk.mk' (by kernel_rfl) (by kernel_rfl)
def ty234_ : Ty := ⟨(.func #[] #[] false), 1, 8, .nilFunc⟩
theorem ty234_ok : TyOk Tryz.prog 234 ty234_ := TyOk.mk' (by kernel_rfl) (by kernel_rfl)
def ty235_ : Ty := ⟨(.func #[] #[] false), 1, 8, .nilFunc⟩
theorem ty235_ok : TyOk Tryz.prog 235 ty235_ := TyOk.mk' (by kernel_rfl) (by kernel_rfl)
def ty236_ : Ty := ⟨(.func #[] #[] false), 1, 8, .nilFunc⟩
theorem ty236_ok : TyOk Tryz.prog 236 ty236_ := TyOk.mk' (by kernel_rfl) (by kernel_rfl)
def ty237_ : Ty := ⟨(.func #[] #[] false), 1, 8, .nilFunc⟩
theorem ty237_ok : TyOk Tryz.prog 237 ty237_ := TyOk.mk' (by kernel_rfl) (by kernel_rfl)
def ty238_ : Ty := ⟨(.func #[] #[] false), 1, 8, .nilFunc⟩
theorem ty238_ok : TyOk Tryz.prog 238 ty238_ := TyOk.mk' (by kernel_rfl) (by kernel_rfl)
def ty239_ : Ty := ⟨(.func #[] #[] false), 1, 8, .nilFunc⟩
theorem ty239_ok : TyOk Tryz.prog 239 ty239_ := TyOk.mk' (by kernel_rfl) (by kernel_rfl)
def ty240_ : Ty := ⟨(.func #[] #[] false), 1, 8, .nilFunc⟩
theorem ty240_ok : TyOk Tryz.prog 240 ty240_ := TyOk.mk' (by kernel_rfl) (by kernel_rfl)
def ty241_ : Ty := ⟨(.func #[] #[] false), 1, 8, .nilFunc⟩
theorem ty241_ok : TyOk Tryz.prog 241 ty241_ := TyOk.mk' (by kernel_rfl) (by kernel_rfl)
def ty242_ : Ty := ⟨(.func #[] #[] false), 1, 8, .nilFunc⟩
theorem ty242_ok : TyOk Tryz.prog 242 ty242_ := TyOk.mk' (by kernel_rfl) (by kernel_rfl)
def ty243_ : Ty := ⟨(.func #[] #[] false), 1, 8, .nilFunc⟩
theorem ty243_ok : TyOk Tryz.prog 243 ty243_ := TyOk.mk' (by kernel_rfl) (by kernel_rfl)
def ty244_ : Ty := ⟨(.func #[] #[] false), 1, 8, .nilFunc⟩
theorem ty244_ok : TyOk Tryz.prog 244 ty244_ := TyOk.mk' (by kernel_rfl) (by kernel_rfl)
def ty245_ : Ty := ⟨(.func #[] #[] false), 1, 8, .nilFunc⟩
theorem ty245_ok : TyOk Tryz.prog 245 ty245_ := TyOk.mk' (by kernel_rfl) (by kernel_rfl)
def ty246_ : Ty := ⟨(.func #[] #[] false), 1, 8, .nilFunc⟩
theorem ty246_ok : TyOk Tryz.prog 246 ty246_ := TyOk.mk' (by kernel_rfl) (by kernel_rfl)
def ty247_ : Ty := ⟨(.func #[] #[] false), 1, 8, .nilFunc⟩
theorem ty247_ok : TyOk Tryz.prog 247 ty247_ := TyOk.mk' (by kernel_rfl) (by kernel_rfl)
def ty248_ : Ty := ⟨(.func #[] #[] false), 1, 8, .nilFunc⟩
theorem ty248_ok : TyOk Tryz.prog 248 ty248_ := TyOk.mk' (by kernel_rfl) (by kernel_rfl)
def ty249_ : Ty := ⟨(.func #[] #[] false), 1, 8, .nilFunc⟩
theorem ty249_ok : TyOk Tryz.prog 249 ty249_ := TyOk.mk' (by kernel_rfl) (by kernel_rfl)
def ty250_ : Ty := ⟨(.func #[] #[] false), 1, 8, .nilFunc⟩
theorem ty250_ok : TyOk Tryz.prog 250 ty250_ := TyOk.mk' (by kernel_rfl) (by kernel_rfl)
def ty251_ : Ty := ⟨(.func #[] #[] false), 1, 8, .nilFunc⟩
theorem ty251_ok : TyOk Tryz.prog 251 ty251_ := TyOk.mk' (by kernel_rfl) (by kernel_rfl)
def ty252_ : Ty := ⟨(.func #[] #[] false), 1, 8, .nilFunc⟩
theorem ty252_ok : TyOk Tryz.prog 252 ty252_ := TyOk.mk' (by kernel_rfl) (by kernel_rfl)
def ty253_ : Ty := ⟨(.struct #[fld 96 0, fld 101 7, fld 134 18, fld 76 19, fld 139 20, fld 180 21]), 22, 440, (.agg #[(.string ⟨#[]⟩), (.slice none 0 0), (.slice none 0 0), (.slice none 0 0), (.slice none 0 0), (.slice none 0 0), (.slice none 0 0), (.string ⟨#[]⟩), (.string ⟨#[]⟩), (.slice none 0 0), (.slice none 0 0), (.slice none 0 0), (.string ⟨#[]⟩), (.string ⟨#[]⟩), (.slice none 0 0), (.slice none 0 0), (.slice none 0 0), (.slice none 0 0), (.pointer none), (.slice none 0 0), (.map none), (.map none)])⟩
theorem ty253_ok : TyOk Tryz.prog 253 ty253_ := TyOk.mk' (by kernel_rfl) (by kernel_rfl)
def ty254_ : Ty := ⟨(.struct #[fld 96 0, fld 101 7, fld 134 18, fld 76 19, fld 139 20, fld 180 21]), 22, 440, (.agg #[(.string ⟨#[]⟩), (.slice none 0 0), (.slice none 0 0), (.slice none 0 0), (.slice none 0 0), (.slice none 0 0), (.slice none 0 0), (.string ⟨#[]⟩), (.string ⟨#[]⟩), (.slice none 0 0), (.slice none 0 0), (.slice none 0 0), (.string ⟨#[]⟩), (.string ⟨#[]⟩), (.slice none 0 0), (.slice none 0 0), (.slice none 0 0), (.slice none 0 0), (.pointer none), (.slice none 0 0), (.map none), (.map none)])⟩
theorem ty254_ok : TyOk Tryz.prog 254 ty254_ := TyOk.mk' (by kernel_rfl) (by kernel_rfl)
def ty255_ : Ty := ⟨(.func #[] #[] false), 1, 8, .nilFunc⟩
theorem ty255_ok : TyOk Tryz.prog 255 ty255_ := TyOk.mk' (by kernel_rfl) (by kernel_rfl)
def ty257_ : Ty := ⟨(.func #[] #[] false), 1, 8, .nilFunc⟩
theorem ty257_ok : TyOk Tryz.prog 257 ty257_ := TyOk.mk' (by kernel_rfl) (by kernel_rfl)
def ty258_ : Ty := ⟨(.func #[] #[] false), 1, 8, .nilFunc⟩
theorem ty258_ok : TyOk Tryz.prog 258 ty258_ := TyOk.mk' (by kernel_rfl) (by kernel_rfl)
def ty259_ : Ty := ⟨(.struct #[fld 168 0]), 1, 8, (.agg #[(.map none)])⟩
theorem ty259_ok : TyOk Tryz.prog 259 ty259_ := TyOk.mk' (by kernel_rfl) (by kernel_rfl)
def ty260_ : Ty := ⟨(.struct #[fld 168 0]), 1, 8, (.agg #[(.map none)])⟩
theorem ty260_ok : TyOk Tryz.prog 260 ty260_ := TyOk.mk' (by kernel_rfl) (by kernel_rfl)
def ty262_ : Ty := ⟨(.func #[] #[] false), 1, 8, .nilFunc⟩
theorem ty262_ok : TyOk Tryz.prog 262 ty262_ := TyOk.mk' (by kernel_rfl) (by kernel_rfl)
def ty263_ : Ty := ⟨(.func #[] #[] false), 1, 8, .nilFunc⟩
theorem ty263_ok : TyOk Tryz.prog 263 ty263_ := TyOk.mk' (by kernel_rfl) (by kernel_rfl)
def ty264_ : Ty := ⟨(.func #[] #[] false), 1, 8, .nilFunc⟩
theorem ty264_ok : TyOk Tryz.prog 264 ty264_ := TyOk.mk' (by kernel_rfl) (by kernel_rfl)
def ty265_ : Ty := ⟨(.func #[] #[] false), 1, 8, .nilFunc⟩
theorem ty265_ok : TyOk Tryz.prog 265 ty265_ := TyOk.mk' (by kernel_rfl) (by kernel_rfl)
def ty266_ : Ty := ⟨(.func #[] #[] false), 1, 8, .nilFunc⟩
theorem ty266_ok : TyOk Tryz.prog 266 ty266_ := TyOk.mk' (by kernel_rfl) (by kernel_rfl)
def ty267_ : Ty := ⟨(.func #[] #[] false), 1, 8, .nilFunc⟩
theorem ty267_ok : TyOk Tryz.prog 267 ty267_ := TyOk.mk' (by kernel_rfl) (by kernel_rfl)
def ty268_ : Ty := ⟨(.func #[] #[] false), 1, 8, .nilFunc⟩
theorem ty268_ok : TyOk Tryz.prog 268 ty268_ := TyOk.mk' (by kernel_rfl) (by kernel_rfl)
def ty269_ : Ty := ⟨(.func #[] #[] false), 1, 8, .nilFunc⟩
theorem ty269_ok : TyOk Tryz.prog 269 ty269_ := TyOk.mk' (by kernel_rfl) (by kernel_rfl)
def ty270_ : Ty := ⟨(.func #[] #[] false), 1, 8, .nilFunc⟩
theorem ty270_ok : TyOk Tryz.prog 270 ty270_ := TyOk.mk' (by kernel_rfl) (by kernel_rfl)
def ty271_ : Ty := ⟨(.func #[] #[] false), 1, 8, .nilFunc⟩
theorem ty271_ok : TyOk Tryz.prog 271 ty271_ := TyOk.mk' (by kernel_rfl) (by kernel_rfl)
def ty272_ : Ty := ⟨(.func #[] #[] false), 1, 8, .nilFunc⟩
theorem ty272_ok : TyOk Tryz.prog 272 ty272_ := TyOk.mk' (by kernel_rfl) (by kernel_rfl)
def ty273_ : Ty := ⟨(.func #[] #[] false), 1, 8, .nilFunc⟩
theorem ty273_ok : TyOk Tryz.prog 273 ty273_ := TyOk.mk' (by kernel_rfl) (by kernel_rfl)
def ty274_ : Ty := ⟨(.func #[] #[] false), 1, 8, .nilFunc⟩
theorem ty274_ok : TyOk Tryz.prog 274 ty274_ := TyOk.mk' (by kernel_rfl) (by kernel_rfl)
def ty275_ : Ty := ⟨(.func #[] #[] false), 1, 8, .nilFunc⟩
theorem ty275_ok : TyOk Tryz.prog 275 ty275_ := TyOk.mk' (by kernel_rfl) (by kernel_rfl)
def ty276_ : Ty := ⟨(.func #[] #[] false), 1, 8, .nilFunc⟩
theorem ty276_ok : TyOk Tryz.prog 276 ty276_ := TyOk.mk' (by kernel_rfl) (by kernel_rfl)
def ty277_ : Ty := ⟨(.func #[] #[] false), 1, 8, .nilFunc⟩
theorem ty277_ok : TyOk Tryz.prog 277 ty277_ := TyOk.mk' (by kernel_rfl) (by kernel_rfl)
def ty278_ : Ty := ⟨(.func #[] #[] false), 1, 8, .nilFunc⟩
theorem ty278_ok : TyOk Tryz.prog 278 ty278_ := TyOk.mk' (by kernel_rfl) (by kernel_rfl)
def ty279_ : Ty := ⟨(.func #[] #[] false), 1, 8, .nilFunc⟩
theorem ty279_ok : TyOk Tryz.prog 279 ty279_ := TyOk.mk' (by kernel_rfl) (by kernel_rfl)
def ty280_ : Ty := ⟨(.func #[] #[] false), 1, 8, .nilFunc⟩
theorem ty280_ok : TyOk Tryz.prog 280 ty280_ := TyOk.mk' (by kernel_rfl) (by kernel_rfl)
def ty281_ : Ty := ⟨(.func #[] #[] false), 1, 8, .nilFunc⟩
theorem ty281_ok : TyOk Tryz.prog 281 ty281_ := TyOk.mk' (by kernel_rfl) (by kernel_rfl)
def ty282_ : Ty := ⟨(.func #[] #[] false), 1, 8, .nilFunc⟩
theorem ty282_ok : TyOk Tryz.prog 282 ty282_ := TyOk.mk' (by kernel_rfl) (by kernel_rfl)
def ty283_ : Ty := ⟨(.func #[] #[] false), 1, 8, .nilFunc⟩
theorem ty283_ok : TyOk Tryz.prog 283 ty283_ := TyOk.mk' (by kernel_rfl) (by kernel_rfl)
def ty284_ : Ty := ⟨(.func #[] #[] false), 1, 8, .nilFunc⟩
theorem ty284_ok : TyOk Tryz.prog 284 ty284_ := TyOk.mk' (by kernel_rfl) (by kernel_rfl)
def ty285_ : Ty := ⟨(.func #[] #[] false), 1, 8, .nilFunc⟩
theorem ty285_ok : TyOk Tryz.prog 285 ty285_ := TyOk.mk' (by kernel_rfl) (by kernel_rfl)
def ty286_ : Ty := ⟨(.func #[] #[] false), 1, 8, .nilFunc⟩
theorem ty286_ok : TyOk Tryz.prog 286 ty286_ := TyOk.mk' (by kernel_rfl) (by kernel_rfl)
def ty288_ : Ty := ⟨(.func #[] #[] false), 1, 8, .nilFunc⟩
theorem ty288_ok : TyOk Tryz.prog 288 ty288_ := TyOk.mk' (by kernel_rfl) (by kernel_rfl)
def ty289_ : Ty := ⟨(.func #[] #[] false), 1, 8, .nilFunc⟩
theorem ty289_ok : TyOk Tryz.prog 289 ty289_ := TyOk.mk' (by kernel_rfl) (by kernel_rfl)
def ty290_ : Ty := ⟨(.func #[] #[] false), 1, 8, .nilFunc⟩
theorem ty290_ok : TyOk Tryz.prog 290 ty290_ := TyOk.mk' (by kernel_rfl) (by kernel_rfl)
def ty291_ : Ty := ⟨(.func #[] #[] false), 1, 8, .nilFunc⟩
theorem ty291_ok : TyOk Tryz.prog 291 ty291_ := TyOk.mk' (by kernel_rfl) (by kernel_rfl)
def ty292_ : Ty := ⟨(.func #[] #[] false), 1, 8, .nilFunc⟩
theorem ty292_ok : TyOk Tryz.prog 292 ty292_ := TyOk.mk' (by kernel_rfl) (by kernel_rfl)
def ty293_ : Ty := ⟨(.func #[] #[] false), 1, 8, .nilFunc⟩
theorem ty293_ok : TyOk Tryz.prog 293 ty293_ := TyOk.mk' (by kernel_rfl) (by kernel_rfl)
def ty294_ : Ty := ⟨(.func #[] #[] false), 1, 8, .nilFunc⟩
theorem ty294_ok : TyOk Tryz.prog 294 ty294_ := TyOk.mk' (by kernel_rfl) (by kernel_rfl)
def ty295_ : Ty := ⟨(.func #[] #[] false), 1, 8, .nilFunc⟩
theorem ty295_ok : TyOk Tryz.prog 295 ty295_ := TyOk.mk' (by kernel_rfl) (by kernel_rfl)
def ty296_ : Ty := ⟨(.func #[] #[] false), 1, 8, .nilFunc⟩
theorem ty296_ok : TyOk Tryz.prog 296 ty296_ := TyOk.mk' (by kernel_rfl) (by kernel_rfl)
def ty297_ : Ty := ⟨(.func #[] #[] false), 1, 8, .nilFunc⟩
theorem ty297_ok : TyOk Tryz.prog 297 ty297_ := TyOk.mk' (by kernel_rfl) (by kernel_rfl)
def ty298_ : Ty := ⟨(.func #[] #[] false), 1, 8, .nilFunc⟩
theorem ty298_ok : TyOk Tryz.prog 298 ty298_ := TyOk.mk' (by kernel_rfl) (by kernel_rfl)
def ty299_ : Ty := ⟨(.func #[] #[] false), 1, 8, .nilFunc⟩
theorem ty299_ok : TyOk Tryz.prog 299 ty299_ := TyOk.mk' (by kernel_rfl) (by kernel_rfl)
def ty300_ : Ty := ⟨(.func #[] #[] false), 1, 8, .nilFunc⟩
theorem ty300_ok : TyOk Tryz.prog 300 ty300_ := TyOk.mk' (by kernel_rfl) (by kernel_rfl)
def ty301_ : Ty := ⟨(.func #[] #[] false), 1, 8, .nilFunc⟩
theorem ty301_ok : TyOk Tryz.prog 301 ty301_ := TyOk.mk' (by kernel_rfl) (by kernel_rfl)
def ty302_ : Ty := ⟨(.pointer 3), 1, 8, (.pointer none)⟩
theorem ty302_ok : TyOk Tryz.prog 302 ty302_ := TyOk.mk' (by kernel_rfl) (by kernel_rfl)
def ty303_ : Ty := ⟨(.func #[] #[] false), 1, 8, .nilFunc⟩
theorem ty303_ok : TyOk Tryz.prog 303 ty303_ := TyOk.mk' (by kernel_rfl) (by kernel_rfl)
def ty304_ : Ty := ⟨(.func #[] #[] false), 1, 8, .nilFunc⟩
theorem ty304_ok : TyOk Tryz.prog 304 ty304_ := TyOk.mk' (by kernel_rfl) (by kernel_rfl)
def ty305_ : Ty := ⟨(.func #[] #[] false), 1, 8, .nilFunc⟩
theorem ty305_ok : TyOk Tryz.prog 305 ty305_ := TyOk.mk' (by kernel_rfl) (by kernel_rfl)
def ty306_ : Ty := ⟨(.func #[] #[] false), 1, 8, .nilFunc⟩
theorem ty306_ok : TyOk Tryz.prog 306 ty306_ := TyOk.mk' (by kernel_rfl) (by kernel_rfl)
def ty307_ : Ty := ⟨(.func #[] #[] false), 1, 8, .nilFunc⟩
theorem ty307_ok : TyOk Tryz.prog 307 ty307_ := TyOk.mk' (by kernel_rfl) (by kernel_rfl)
def ty308_ : Ty := ⟨(.slice 311), 1, 24, (.slice none 0 0)⟩
theorem ty308_ok : TyOk Tryz.prog 308 ty308_ := TyOk.mk' (by kernel_rfl) (by kernel_rfl)
def ty309_ : Ty := ⟨(.array 3 308), 3, 72, (.agg #[(.slice none 0 0), (.slice none 0 0), (.slice none 0 0)])⟩
theorem ty309_ok : TyOk Tryz.prog 309 ty309_ := TyOk.mk' (by kernel_rfl) (by kernel_rfl)
def ty310_ : Ty := ⟨(.struct #[fld 9 0, fld 9 1]), 2, 32, (.agg #[(.string ⟨#[]⟩), (.string ⟨#[]⟩)])⟩
theorem ty310_ok : TyOk Tryz.prog 310 ty310_ := TyOk.mk' (by kernel_rfl) (by kernel_rfl)
def ty311_ : Ty := ⟨(.struct #[fld 9 0, fld 9 1]), 2, 32, (.agg #[(.string ⟨#[]⟩), (.string ⟨#[]⟩)])⟩
theorem ty311_ok : TyOk Tryz.prog 311 ty311_ := TyOk.mk' (by kernel_rfl) (by kernel_rfl)
def ty312_ : Ty := ⟨(.func #[] #[] false), 1, 8, .nilFunc⟩
theorem ty312_ok : TyOk Tryz.prog 312 ty312_ := TyOk.mk' (by kernel_rfl) (by kernel_rfl)
def ty313_ : Ty := ⟨(.func #[] #[] false), 1, 8, .nilFunc⟩
theorem ty313_ok : TyOk Tryz.prog 313 ty313_ := TyOk.mk' (by kernel_rfl) (by kernel_rfl)
def ty314_ : Ty := ⟨(.func #[] #[] false), 1, 8, .nilFunc⟩
theorem ty314_ok : TyOk Tryz.prog 314 ty314_ := TyOk.mk' (by kernel_rfl) (by kernel_rfl)
def ty315_ : Ty := ⟨(.slice 89), 1, 24, (.slice none 0 0)⟩
theorem ty315_ok : TyOk Tryz.prog 315 ty315_ := TyOk.mk' (by kernel_rfl) (by kernel_rfl)
def ty316_ : Ty := ⟨(.func #[] #[] false), 1, 8, .nilFunc⟩
theorem ty316_ok : TyOk Tryz.prog 316 ty316_ := TyOk.mk' (by kernel_rfl) (by kernel_rfl)
def ty317_ : Ty := ⟨(.func #[] #[] false), 1, 8, .nilFunc⟩
theorem ty317_ok : TyOk Tryz.prog 317 ty317_ := TyOk.mk' (by kernel_rfl) (by kernel_rfl)
def ty318_ : Ty := ⟨(.func #[] #[] false), 1, 8, .nilFunc⟩
theorem ty318_ok : TyOk Tryz.prog 318 ty318_ := TyOk.mk' (by kernel_rfl) (by kernel_rfl)
def ty320_ : Ty := ⟨(.func #[] #[] false), 1, 8, .nilFunc⟩
theorem ty320_ok : TyOk Tryz.prog 320 ty320_ := TyOk.mk' (by kernel_rfl) (by kernel_rfl)
def ty321_ : Ty := ⟨(.func #[] #[] false), 1, 8, .nilFunc⟩
theorem ty321_ok : TyOk Tryz.prog 321 ty321_ := TyOk.mk' (by kernel_rfl) (by kernel_rfl)
def ty322_ : Ty := ⟨(.func #[] #[] false), 1, 8, .nilFunc⟩
theorem ty322_ok : TyOk Tryz.prog 322 ty322_ := TyOk.mk' (by kernel_rfl) (by kernel_rfl)
def ty323_ : Ty := ⟨(.func #[] #[] false), 1, 8, .nilFunc⟩
theorem ty323_ok : TyOk Tryz.prog 323 ty323_ := TyOk.mk' (by kernel_rfl) (by kernel_rfl)
def ty324_ : Ty := ⟨(.func #[] #[] false), 1, 8, .nilFunc⟩
theorem ty324_ok : TyOk Tryz.prog 324 ty324_ := TyOk.mk' (by kernel_rfl) (by kernel_rfl)
def ty325_ : Ty := ⟨(.func #[] #[] false), 1, 8, .nilFunc⟩
theorem ty325_ok : TyOk Tryz.prog 325 ty325_ := TyOk.mk' (by kernel_rfl) (by kernel_rfl)
def ty326_ : Ty := ⟨(.func #[] #[] false), 1, 8, .nilFunc⟩
theorem ty326_ok : TyOk Tryz.prog 326 ty326_ := TyOk.mk' (by kernel_rfl) (by kernel_rfl)
def ty327_ : Ty := ⟨(.func #[] #[] false), 1, 8, .nilFunc⟩
theorem ty327_ok : TyOk Tryz.prog 327 ty327_ := TyOk.mk' (by kernel_rfl) (by kernel_rfl)
def ty328_ : Ty := ⟨(.func #[] #[] false), 1, 8, .nilFunc⟩
theorem ty328_ok : TyOk Tryz.prog 328 ty328_ := TyOk.mk' (by kernel_rfl) (by kernel_rfl)
def ty329_ : Ty := ⟨(.func #[] #[] false), 1, 8, .nilFunc⟩
theorem ty329_ok : TyOk Tryz.prog 329 ty329_ := TyOk.mk' (by kernel_rfl) (by kernel_rfl)
def ty330_ : Ty := ⟨(.func #[] #[] false), 1, 8, .nilFunc⟩
theorem ty330_ok : TyOk Tryz.prog 330 ty330_ := TyOk.mk' (by kernel_rfl) (by kernel_rfl)
def ty331_ : Ty := ⟨(.pointer 333), 1, 8, (.pointer none)⟩
theorem ty331_ok : TyOk Tryz.prog 331 ty331_ := TyOk.mk' (by kernel_rfl) (by kernel_rfl)
def ty332_ : Ty := ⟨(.struct #[fld 3 0]), 1, 8, (.agg #[(.int .i64 0)])⟩
theorem ty332_ok : TyOk Tryz.prog 332 ty332_ := TyOk.mk' (by kernel_rfl) (by kernel_rfl)
def ty333_ : Ty := ⟨(.struct #[fld 3 0]), 1, 8, (.agg #[(.int .i64 0)])⟩
theorem ty333_ok : TyOk Tryz.prog 333 ty333_ := TyOk.mk' (by kernel_rfl) (by kernel_rfl)
def ty334_ : Ty := ⟨(.func #[] #[] false), 1, 8, .nilFunc⟩
theorem ty334_ok : TyOk Tryz.prog 334 ty334_ := TyOk.mk' (by kernel_rfl) (by kernel_rfl)
def ty335_ : Ty := ⟨(.func #[] #[] false), 1, 8, .nilFunc⟩
theorem ty335_ok : TyOk Tryz.prog 335 ty335_ := TyOk.mk' (by kernel_rfl) (by kernel_rfl)
def ty336_ : Ty := ⟨(.func #[] #[] false), 1, 8, .nilFunc⟩
theorem ty336_ok : TyOk Tryz.prog 336 ty336_ := TyOk.mk' (by kernel_rfl) (by kernel_rfl)
def ty337_ : Ty := ⟨(.pointer 340), 1, 8, (.pointer none)⟩
theorem ty337_ok : TyOk Tryz.prog 337 ty337_ := TyOk.mk' (by kernel_rfl) (by kernel_rfl)
def ty338_ : Ty := ⟨(.slice 5), 1, 24, (.slice none 0 0)⟩
theorem ty338_ok : TyOk Tryz.prog 338 ty338_ := TyOk.mk' (by kernel_rfl) (by kernel_rfl)
def ty339_ : Ty := ⟨(.struct #[fld 337 0, fld 338 1]), 2, 32, (.agg #[(.pointer none), (.slice none 0 0)])⟩
theorem ty339_ok : TyOk Tryz.prog 339 ty339_ := TyOk.mk' (by kernel_rfl) (by kernel_rfl)
def ty340_ : Ty := ⟨(.struct #[fld 337 0, fld 338 1]), 2, 32, (.agg #[(.pointer none), (.slice none 0 0)])⟩
theorem ty340_ok : TyOk Tryz.prog 340 ty340_ := TyOk.mk' (by kernel_rfl) (by kernel_rfl)
def ty341_ : Ty := ⟨(.func #[] #[] false), 1, 8, .nilFunc⟩
theorem ty341_ok : TyOk Tryz.prog 341 ty341_ := TyOk.mk' (by kernel_rfl) (by kernel_rfl)
def ty342_ : Ty := ⟨(.func #[] #[] false), 1, 8, .nilFunc⟩
theorem ty342_ok : TyOk Tryz.prog 342 ty342_ := TyOk.mk' (by kernel_rfl) (by kernel_rfl)
def ty343_ : Ty := ⟨(.func #[] #[] false), 1, 8, .nilFunc⟩
theorem ty343_ok : TyOk Tryz.prog 343 ty343_ := TyOk.mk' (by kernel_rfl) (by kernel_rfl)
def ty344_ : Ty := ⟨(.func #[] #[] false), 1, 8, .nilFunc⟩
theorem ty344_ok : TyOk Tryz.prog 344 ty344_ := TyOk.mk' (by kernel_rfl) (by kernel_rfl)
def ty345_ : Ty := ⟨(.func #[] #[] false), 1, 8, .nilFunc⟩
theorem ty345_ok : TyOk Tryz.prog 345 ty345_ := TyOk.mk' (by kernel_rfl) (by kernel_rfl)
def ty346_ : Ty := ⟨(.func #[] #[] false), 1, 8, .nilFunc⟩
theorem ty346_ok : TyOk Tryz.prog 346 ty346_ := TyOk.mk' (by kernel_rfl) (by kernel_rfl)
def ty347_ : Ty := ⟨(.func #[] #[] false), 1, 8, .nilFunc⟩
theorem ty347_ok : TyOk Tryz.prog 347 ty347_ := TyOk.mk' (by kernel_rfl) (by kernel_rfl)
def ty348_ : Ty := ⟨(.func #[] #[] false), 1, 8, .nilFunc⟩
theorem ty348_ok : TyOk Tryz.prog 348 ty348_ := TyOk.mk' (by kernel_rfl) (by kernel_rfl)
def ty349_ : Ty := ⟨(.func #[] #[] false), 1, 8, .nilFunc⟩
theorem ty349_ok : TyOk Tryz.prog 349 ty349_ := TyOk.mk' (by kernel_rfl) (by kernel_rfl)
def ty350_ : Ty := ⟨(.func #[] #[] false), 1, 8, .nilFunc⟩
theorem ty350_ok : TyOk Tryz.prog 350 ty350_ := TyOk.mk' (by kernel_rfl) (by kernel_rfl)
def ty351_ : Ty := ⟨(.func #[] #[] false), 1, 8, .nilFunc⟩
theorem ty351_ok : TyOk Tryz.prog 351 ty351_ := TyOk.mk' (by kernel_rfl) (by kernel_rfl)
def ty352_ : Ty := ⟨(.func #[] #[] false), 1, 8, .nilFunc⟩
theorem ty352_ok : TyOk Tryz.prog 352 ty352_ := TyOk.mk' (by kernel_rfl) (by kernel_rfl)
def ty353_ : Ty := ⟨(.func #[] #[] false), 1, 8, .nilFunc⟩
theorem ty353_ok : TyOk Tryz.prog 353 ty353_ := TyOk.mk' (by kernel_rfl) (by kernel_rfl)
def ty354_ : Ty := ⟨(.func #[] #[] false), 1, 8, .nilFunc⟩
theorem ty354_ok : TyOk Tryz.prog 354 ty354_ := TyOk.mk' (by kernel_rfl) (by kernel_rfl)
def ty355_ : Ty := ⟨(.func #[] #[] false), 1, 8, .nilFunc⟩
theorem ty355_ok : TyOk Tryz.prog 355 ty355_ := TyOk.mk' (by kernel_rfl) (by kernel_rfl)
def ty356_ : Ty := ⟨(.func #[] #[] false), 1, 8, .nilFunc⟩
theorem ty356_ok : TyOk Tryz.prog 356 ty356_ := TyOk.mk' (by kernel_rfl) (by kernel_rfl)
def ty357_ : Ty := ⟨(.func #[] #[] false), 1, 8, .nilFunc⟩
theorem ty357_ok : TyOk Tryz.prog 357 ty357_ := TyOk.mk' (by kernel_rfl) (by kernel_rfl)
def ty358_ : Ty := ⟨(.func #[] #[] false), 1, 8, .nilFunc⟩
theorem ty358_ok : TyOk Tryz.prog 358 ty358_ := TyOk.mk' (by kernel_rfl) (by kernel_rfl)
def ty359_ : Ty := ⟨(.func #[] #[] false), 1, 8, .nilFunc⟩
theorem ty359_ok : TyOk Tryz.prog 359 ty359_ := TyOk.mk' (by kernel_rfl) (by kernel_rfl)
def ty360_ : Ty := ⟨(.func #[] #[] false), 1, 8, .nilFunc⟩
theorem ty360_ok : TyOk Tryz.prog 360 ty360_ := TyOk.mk' (by kernel_rfl) (by kernel_rfl)
def ty361_ : Ty := ⟨(.func #[] #[] false), 1, 8, .nilFunc⟩
theorem ty361_ok : TyOk Tryz.prog 361 ty361_ := TyOk.mk' (by kernel_rfl) (by kernel_rfl)
def ty362_ : Ty := ⟨(.func #[] #[] false), 1, 8, .nilFunc⟩
theorem ty362_ok : TyOk Tryz.prog 362 ty362_ := TyOk.mk' (by kernel_rfl) (by kernel_rfl)
def ty363_ : Ty := ⟨(.func #[] #[] false), 1, 8, .nilFunc⟩
theorem ty363_ok : TyOk Tryz.prog 363 ty363_ := TyOk.mk' (by kernel_rfl) (by kernel_rfl)
def ty364_ : Ty := ⟨(.func #[] #[] false), 1, 8, .nilFunc⟩
theorem ty364_ok : TyOk Tryz.prog 364 ty364_ := TyOk.mk' (by kernel_rfl) (by kernel_rfl)
def ty365_ : Ty := ⟨(.func #[] #[] false), 1, 8, .nilFunc⟩
theorem ty365_ok : TyOk Tryz.prog 365 ty365_ := TyOk.mk' (by kernel_rfl) (by kernel_rfl)
def ty366_ : Ty := ⟨(.func #[] #[] false), 1, 8, .nilFunc⟩
theorem ty366_ok : TyOk Tryz.prog 366 ty366_ := TyOk.mk' (by kernel_rfl) (by kernel_rfl)
def ty367_ : Ty := ⟨(.func #[] #[] false), 1, 8, .nilFunc⟩
theorem ty367_ok : TyOk Tryz.prog 367 ty367_ := TyOk.mk' (by kernel_rfl) (by kernel_rfl)
def ty368_ : Ty := ⟨(.func #[] #[] false), 1, 8, .nilFunc⟩
theorem ty368_ok : TyOk Tryz.prog 368 ty368_ := TyOk.mk' (by kernel_rfl) (by kernel_rfl)
def ty369_ : Ty := ⟨(.func #[] #[] false), 1, 8, .nilFunc⟩
theorem ty369_ok : TyOk Tryz.prog 369 ty369_ := TyOk.mk' (by kernel_rfl) (by kernel_rfl)
def ty370_ : Ty := ⟨(.func #[] #[] false), 1, 8, .nilFunc⟩
theorem ty370_ok : TyOk Tryz.prog 370 ty370_ := TyOk.mk' (by kernel_rfl) (by kernel_rfl)
def ty371_ : Ty := ⟨(.func #[] #[] false), 1, 8, .nilFunc⟩
theorem ty371_ok : TyOk Tryz.prog 371 ty371_ := TyOk.mk' (by kernel_rfl) (by kernel_rfl)
def ty372_ : Ty := ⟨(.func #[] #[] false), 1, 8, .nilFunc⟩
theorem ty372_ok : TyOk Tryz.prog 372 ty372_ := TyOk.mk' (by kernel_rfl) (by kernel_rfl)
def ty373_ : Ty := ⟨(.func #[] #[] false), 1, 8, .nilFunc⟩
theorem ty373_ok : TyOk Tryz.prog 373 ty373_ := TyOk.mk' (by kernel_rfl) (by kernel_rfl)
def ty374_ : Ty := ⟨(.func #[] #[] false), 1, 8, .nilFunc⟩
theorem ty374_ok : TyOk Tryz.prog 374 ty374_ := TyOk.mk' (by kernel_rfl) (by kernel_rfl)
def ty375_ : Ty := ⟨(.func #[] #[] false), 1, 8, .nilFunc⟩
theorem ty375_ok : TyOk Tryz.prog 375 ty375_ := TyOk.mk' (by kernel_rfl) (by kernel_rfl)
def ty377_ : Ty := ⟨(.func #[] #[] false), 1, 8, .nilFunc⟩
theorem ty377_ok : TyOk Tryz.prog 377 ty377_ := TyOk.mk' (by kernel_rfl) (by kernel_rfl)
def ty379_ : Ty := ⟨(.func #[] #[] false), 1, 8, .nilFunc⟩
theorem ty379_ok : TyOk Tryz.prog 379 ty379_ := TyOk.mk' (by kernel_rfl) (by kernel_rfl)
def ty380_ : Ty := ⟨(.func #[] #[] false), 1, 8, .nilFunc⟩
theorem ty380_ok : TyOk Tryz.prog 380 ty380_ := TyOk.mk' (by kernel_rfl) (by kernel_rfl)
def ty381_ : Ty := ⟨(.func #[] #[] false), 1, 8, .nilFunc⟩
theorem ty381_ok : TyOk Tryz.prog 381 ty381_ := TyOk.mk' (by kernel_rfl) (by kernel_rfl)
def ty382_ : Ty := ⟨(.func #[] #[] false), 1, 8, .nilFunc⟩
theorem ty382_ok : TyOk Tryz.prog 382 ty382_ := TyOk.mk' (by kernel_rfl) (by kernel_rfl)
def ty383_ : Ty := ⟨(.func #[] #[] false), 1, 8, .nilFunc⟩
theorem ty383_ok : TyOk Tryz.prog 383 ty383_ := TyOk.mk' (by kernel_rfl) (by kernel_rfl)
def ty384_ : Ty := ⟨(.func #[] #[] false), 1, 8, .nilFunc⟩
theorem ty384_ok : TyOk Tryz.prog 384 ty384_ := TyOk.mk' (by kernel_rfl) (by kernel_rfl)
def ty385_ : Ty := ⟨(.func #[] #[] false), 1, 8, .nilFunc⟩
theorem ty385_ok : TyOk Tryz.prog 385 ty385_ := TyOk.mk' (by kernel_rfl) (by kernel_rfl)
def ty386_ : Ty := ⟨(.int .i64), 1, 8, (.int .i64 0)⟩
theorem ty386_ok : TyOk Tryz.prog 386 ty386_ := TyOk.mk' (by kernel_rfl) (by kernel_rfl)
def ty388_ : Ty := ⟨(.func #[] #[] false), 1, 8, .nilFunc⟩
theorem ty388_ok : TyOk Tryz.prog 388 ty388_ := TyOk.mk' (by kernel_rfl) (by kernel_rfl)
def ty389_ : Ty := ⟨(.func #[] #[] false), 1, 8, .nilFunc⟩
theorem ty389_ok : TyOk Tryz.prog 389 ty389_ := TyOk.mk' (by kernel_rfl) (by kernel_rfl)
def ty390_ : Ty := ⟨(.func #[] #[] false), 1, 8, .nilFunc⟩
theorem ty390_ok : TyOk Tryz.prog 390 ty390_ := TyOk.mk' (by kernel_rfl) (by kernel_rfl)
def ty391_ : Ty := ⟨(.func #[] #[] false), 1, 8, .nilFunc⟩
theorem ty391_ok : TyOk Tryz.prog 391 ty391_ := TyOk.mk' (by kernel_rfl) (by kernel_rfl)
def ty392_ : Ty := ⟨(.func #[] #[] false), 1, 8, .nilFunc⟩
theorem ty392_ok : TyOk Tryz.prog 392 ty392_ := TyOk.mk' (by kernel_rfl) (by kernel_rfl)
def ty393_ : Ty := ⟨(.int .u32), 1, 4, (.int .u32 0)⟩
theorem ty393_ok : TyOk Tryz.prog 393 ty393_ := TyOk.mk' (by kernel_rfl) (by kernel_rfl)
def ty394_ : Ty := ⟨(.func #[] #[] false), 1, 8, .nilFunc⟩
theorem ty394_ok : TyOk Tryz.prog 394 ty394_ := TyOk.mk' (by kernel_rfl) (by kernel_rfl)
def ty395_ : Ty := ⟨(.int .u64), 1, 8, (.int .u64 0)⟩
theorem ty395_ok : TyOk Tryz.prog 395 ty395_ := TyOk.mk' (by kernel_rfl) (by kernel_rfl)
def ty396_ : Ty := ⟨(.func #[] #[] false), 1, 8, .nilFunc⟩
theorem ty396_ok : TyOk Tryz.prog 396 ty396_ := TyOk.mk' (by kernel_rfl) (by kernel_rfl)
def ty397_ : Ty := ⟨(.pointer 5), 1, 8, (.pointer none)⟩
theorem ty397_ok : TyOk Tryz.prog 397 ty397_ := TyOk.mk' (by kernel_rfl) (by kernel_rfl)
def ty398_ : Ty := ⟨(.func #[] #[] false), 1, 8, .nilFunc⟩
theorem ty398_ok : TyOk Tryz.prog 398 ty398_ := TyOk.mk' (by kernel_rfl) (by kernel_rfl)
def ty399_ : Ty := ⟨(.func #[] #[] false), 1, 8, .nilFunc⟩
theorem ty399_ok : TyOk Tryz.prog 399 ty399_ := TyOk.mk' (by kernel_rfl) (by kernel_rfl)
def ty400_ : Ty := ⟨(.func #[] #[] false), 1, 8, .nilFunc⟩
theorem ty400_ok : TyOk Tryz.prog 400 ty400_ := TyOk.mk' (by kernel_rfl) (by kernel_rfl)
def ty401_ : Ty := ⟨(.func #[] #[] false), 1, 8, .nilFunc⟩
theorem ty401_ok : TyOk Tryz.prog 401 ty401_ := TyOk.mk' (by kernel_rfl) (by kernel_rfl)
def ty402_ : Ty := ⟨(.func #[] #[] false), 1, 8, .nilFunc⟩
theorem ty402_ok : TyOk Tryz.prog 402 ty402_ := TyOk.mk' (by kernel_rfl) (by kernel_rfl)
def ty403_ : Ty := ⟨(.func #[] #[] false), 1, 8, .nilFunc⟩
theorem ty403_ok : TyOk Tryz.prog 403 ty403_ := TyOk.mk' (by kernel_rfl) (by kernel_rfl)
def ty404_ : Ty := ⟨(.func #[] #[] false), 1, 8, .nilFunc⟩
theorem ty404_ok : TyOk Tryz.prog 404 ty404_ := TyOk.mk' (by kernel_rfl) (by kernel_rfl)
def ty405_ : Ty := ⟨(.func #[] #[] false), 1, 8, .nilFunc⟩
theorem ty405_ok : TyOk Tryz.prog 405 ty405_ := TyOk.mk' (by kernel_rfl) (by kernel_rfl)
def ty406_ : Ty := ⟨(.func #[] #[] false), 1, 8, .nilFunc⟩
theorem ty406_ok : TyOk Tryz.prog 406 ty406_ := TyOk.mk' (by kernel_rfl) (by kernel_rfl)
def ty407_ : Ty := ⟨(.func #[] #[] false), 1, 8, .nilFunc⟩
theorem ty407_ok : TyOk Tryz.prog 407 ty407_ := TyOk.mk' (by kernel_rfl) (by kernel_rfl)
def ty408_ : Ty := ⟨(.func #[] #[] false), 1, 8, .nilFunc⟩
theorem ty408_ok : TyOk Tryz.prog 408 ty408_ := TyOk.mk' (by kernel_rfl) (by kernel_rfl)
def ty409_ : Ty := ⟨(.func #[] #[] false), 1, 8, .nilFunc⟩
theorem ty409_ok : TyOk Tryz.prog 409 ty409_ := TyOk.mk' (by kernel_rfl) (by kernel_rfl)
def ty410_ : Ty := ⟨(.func #[] #[] false), 1, 8, .nilFunc⟩
theorem ty410_ok : TyOk Tryz.prog 410 ty410_ := TyOk.mk' (by kernel_rfl) (by kernel_rfl)
def ty411_ : Ty := ⟨(.int .u64), 1, 8, (.int .u64 0)⟩
theorem ty411_ok : TyOk Tryz.prog 411 ty411_ := TyOk.mk' (by kernel_rfl) (by kernel_rfl)
def ty412_ : Ty := ⟨(.func #[] #[] false), 1, 8, .nilFunc⟩
theorem ty412_ok : TyOk Tryz.prog 412 ty412_ := TyOk.mk' (by kernel_rfl) (by kernel_rfl)
def ty413_ : Ty := ⟨(.func #[] #[] false), 1, 8, .nilFunc⟩
theorem ty413_ok : TyOk Tryz.prog 413 ty413_ := TyOk.mk' (by kernel_rfl) (by kernel_rfl)
def ty414_ : Ty := ⟨(.func #[] #[] false), 1, 8, .nilFunc⟩
theorem ty414_ok : TyOk Tryz.prog 414 ty414_ := TyOk.mk' (by kernel_rfl) (by kernel_rfl)
def ty415_ : Ty := ⟨(.func #[] #[] false), 1, 8, .nilFunc⟩
theorem ty415_ok : TyOk Tryz.prog 415 ty415_ := TyOk.mk' (by kernel_rfl) (by kernel_rfl)
def ty417_ : Ty := ⟨(.func #[] #[] false), 1, 8, .nilFunc⟩
theorem ty417_ok : TyOk Tryz.prog 417 ty417_ := TyOk.mk' (by kernel_rfl) (by kernel_rfl)
def ty418_ : Ty := ⟨(.func #[] #[] false), 1, 8, .nilFunc⟩
theorem ty418_ok : TyOk Tryz.prog 418 ty418_ := TyOk.mk' (by kernel_rfl) (by kernel_rfl)
def ty419_ : Ty := ⟨(.func #[] #[] false), 1, 8, .nilFunc⟩
theorem ty419_ok : TyOk Tryz.prog 419 ty419_ := TyOk.mk' (by kernel_rfl) (by kernel_rfl)
def ty420_ : Ty := ⟨(.func #[] #[] false), 1, 8, .nilFunc⟩
theorem ty420_ok : TyOk Tryz.prog 420 ty420_ := TyOk.mk' (by kernel_rfl) (by kernel_rfl)
def ty421_ : Ty := ⟨(.slice 24), 1, 24, (.slice none 0 0)⟩
theorem ty421_ok : TyOk Tryz.prog 421 ty421_ := TyOk.mk' (by kernel_rfl) (by kernel_rfl)
def ty422_ : Ty := ⟨(.func #[] #[] false), 1, 8, .nilFunc⟩
theorem ty422_ok : TyOk Tryz.prog 422 ty422_ := TyOk.mk' (by kernel_rfl) (by kernel_rfl)
def ty423_ : Ty := ⟨(.func #[] #[] false), 1, 8, .nilFunc⟩
theorem ty423_ok : TyOk Tryz.prog 423 ty423_ := TyOk.mk' (by kernel_rfl) (by kernel_rfl)
def ty424_ : Ty := ⟨(.func #[] #[] false), 1, 8, .nilFunc⟩
theorem ty424_ok : TyOk Tryz.prog 424 ty424_ := TyOk.mk' (by kernel_rfl) (by kernel_rfl)
def ty425_ : Ty := ⟨(.pointer 411), 1, 8, (.pointer none)⟩
theorem ty425_ok : TyOk Tryz.prog 425 ty425_ := TyOk.mk' (by kernel_rfl) (by kernel_rfl)
def ty427_ : Ty := ⟨(.func #[] #[] false), 1, 8, .nilFunc⟩
theorem ty427_ok : TyOk Tryz.prog 427 ty427_ := TyOk.mk' (by kernel_rfl) (by kernel_rfl)
def ty428_ : Ty := ⟨(.func #[] #[] false), 1, 8, .nilFunc⟩
theorem ty428_ok : TyOk Tryz.prog 428 ty428_ := TyOk.mk' (by kernel_rfl) (by kernel_rfl)
def ty429_ : Ty := ⟨(.func #[] #[] false), 1, 8, .nilFunc⟩
theorem ty429_ok : TyOk Tryz.prog 429 ty429_ := TyOk.mk' (by kernel_rfl) (by kernel_rfl)
def ty430_ : Ty := ⟨(.func #[] #[] false), 1, 8, .nilFunc⟩
theorem ty430_ok : TyOk Tryz.prog 430 ty430_ := TyOk.mk' (by kernel_rfl) (by kernel_rfl)
def ty431_ : Ty := ⟨(.func #[] #[] false), 1, 8, .nilFunc⟩
theorem ty431_ok : TyOk Tryz.prog 431 ty431_ := TyOk.mk' (by kernel_rfl) (by kernel_rfl)
def ty432_ : Ty := ⟨(.func #[] #[] false), 1, 8, .nilFunc⟩
theorem ty432_ok : TyOk Tryz.prog 432 ty432_ := TyOk.mk' (by kernel_rfl) (by kernel_rfl)
def ty433_ : Ty := ⟨(.func #[] #[] false), 1, 8, .nilFunc⟩
theorem ty433_ok : TyOk Tryz.prog 433 ty433_ := TyOk.mk' (by kernel_rfl) (by kernel_rfl)
def ty435_ : Ty := ⟨(.func #[] #[] false), 1, 8, .nilFunc⟩
theorem ty435_ok : TyOk Tryz.prog 435 ty435_ := TyOk.mk' (by kernel_rfl) (by kernel_rfl)
def ty436_ : Ty := ⟨(.func #[] #[] false), 1, 8, .nilFunc⟩
theorem ty436_ok : TyOk Tryz.prog 436 ty436_ := TyOk.mk' (by kernel_rfl) (by kernel_rfl)
def ty437_ : Ty := ⟨(.func #[] #[] false), 1, 8, .nilFunc⟩
theorem ty437_ok : TyOk Tryz.prog 437 ty437_ := TyOk.mk' (by kernel_rfl) (by kernel_rfl)
def ty438_ : Ty := ⟨(.func #[] #[] false), 1, 8, .nilFunc⟩
theorem ty438_ok : TyOk Tryz.prog 438 ty438_ := TyOk.mk' (by kernel_rfl) (by kernel_rfl)
def ty439_ : Ty := ⟨(.func #[] #[] false), 1, 8, .nilFunc⟩
theorem ty439_ok : TyOk Tryz.prog 439 ty439_ := TyOk.mk' (by kernel_rfl) (by kernel_rfl)
def ty440_ : Ty := ⟨(.func #[] #[] false), 1, 8, .nilFunc⟩
theorem ty440_ok : TyOk Tryz.prog 440 ty440_ := TyOk.mk' (by kernel_rfl) (by kernel_rfl)
def ty441_ : Ty := ⟨(.func #[] #[] false), 1, 8, .nilFunc⟩
theorem ty441_ok : TyOk Tryz.prog 441 ty441_ := TyOk.mk' (by kernel_rfl) (by kernel_rfl)
def ty443_ : Ty := ⟨(.func #[] #[] false), 1, 8, .nilFunc⟩
theorem ty443_ok : TyOk Tryz.prog 443 ty443_ := TyOk.mk' (by kernel_rfl) (by kernel_rfl)
def ty444_ : Ty := ⟨(.func #[] #[] false), 1, 8, .nilFunc⟩
theorem ty444_ok : TyOk Tryz.prog 444 ty444_ := TyOk.mk' (by kernel_rfl) (by kernel_rfl)
def ty445_ : Ty := ⟨(.array 256 5), 256, 256, (.agg #[(.int .u8 0), (.int .u8 0), (.int .u8 0), (.int .u8 0), (.int .u8 0), (.int .u8 0), (.int .u8 0), (.int .u8 0), (.int .u8 0), (.int .u8 0), (.int .u8 0), (.int .u8 0), (.int .u8 0), (.int .u8 0), (.int .u8 0), (.int .u8 0), (.int .u8 0), (.int .u8 0), (.int .u8 0), (.int .u8 0), (.int .u8 0), (.int .u8 0), (.int .u8 0), (.int .u8 0), (.int .u8 0), (.int .u8 0), (.int .u8 0), (.int .u8 0), (.int .u8 0), (.int .u8 0), (.int .u8 0), (.int .u8 0), (.int .u8 0), (.int .u8 0), (.int .u8 0), (.int .u8 0), (.int .u8 0), (.int .u8 0), (.int .u8 0), (.int .u8 0), (.int .u8 0), (.int .u8 0), (.int .u8 0), (.int .u8 0), (.int .u8 0), (.int .u8 0), (.int .u8 0), (.int .u8 0), (.int .u8 0), (.int .u8 0), (.int .u8 0), (.int .u8 0), (.int .u8 0), (.int .u8 0), (.int .u8 0), (.int .u8 0), (.int .u8 0), (.int .u8 0), (.int .u8 0), (.int .u8 0), (.int .u8 0), (.int .u8 0), (.int .u8 0), (.int .u8 0), (.int .u8 0), (.int .u8 0), (.int .u8 0), (.int .u8 0), (.int .u8 0), (.int .u8 0), (.int .u8 0), (.int .u8 0), (.int .u8 0), (.int .u8 0), (.int .u8 0), (.int .u8 0), (.int .u8 0), (.int .u8 0), (.int .u8 0), (.int .u8 0), (.int .u8 0), (.int .u8 0), (.int .u8 0), (.int .u8 0), (.int .u8 0), (.int .u8 0), (.int .u8 0), (.int .u8 0), (.int .u8 0), (.int .u8 0), (.int .u8 0), (.int .u8 0), (.int .u8 0), (.int .u8 0), (.int .u8 0), (.int .u8 0), (.int .u8 0), (.int .u8 0), (.int .u8 0), (.int .u8 0), (.int .u8 0), (.int .u8 0), (.int .u8 0), (.int .u8 0), (.int .u8 0), (.int .u8 0), (.int .u8 0), (.int .u8 0), (.int .u8 0), (.int .u8 0), (.int .u8 0), (.int .u8 0), (.int .u8 0), (.int .u8 0), (.int .u8 0), (.int .u8 0), (.int .u8 0), (.int .u8 0), (.int .u8 0), (.int .u8 0), (.int .u8 0), (.int .u8 0), (.int .u8 0), (.int .u8 0), (.int .u8 0), (.int .u8 0), (.int .u8 0), (.int .u8 0), (.int .u8 0), (.int .u8 0), (.int .u8 0), (.int .u8 0), (.int .u8 0), (.int .u8 0), (.int .u8 0), (.int .u8 0), (.int .u8 0), (.int .u8 0), (.int .u8 0), (.int .u8 0), (.int .u8 0), (.int .u8 0), (.int .u8 0), (.int .u8 0), (.int .u8 0), (.int .u8 0), (.int .u8 0), (.int .u8 0), (.int .u8 0), (.int .u8 0), (.int .u8 0), (.int .u8 0), (.int .u8 0), (.int .u8 0), (.int .u8 0), (.int .u8 0), (.int .u8 0), (.int .u8 0), (.int .u8 0), (.int .u8 0), (.int .u8 0), (.int .u8 0), (.int .u8 0), (.int .u8 0), (.int .u8 0), (.int .u8 0), (.int .u8 0), (.int .u8 0), (.int .u8 0), (.int .u8 0), (.int .u8 0), (.int .u8 0), (.int .u8 0), (.int .u8 0), (.int .u8 0), (.int .u8 0), (.int .u8 0), (.int .u8 0), (.int .u8 0), (.int .u8 0), (.int .u8 0), (.int .u8 0), (.int .u8 0), (.int .u8 0), (.int .u8 0), (.int .u8 0), (.int .u8 0), (.int .u8 0), (.int .u8 0), (.int .u8 0), (.int .u8 0), (.int .u8 0), (.int .u8 0), (.int .u8 0), (.int .u8 0), (.int .u8 0), (.int .u8 0), (.int .u8 0), (.int .u8 0), (.int .u8 0), (.int .u8 0), (.int .u8 0), (.int .u8 0), (.int .u8 0), (.int .u8 0), (.int .u8 0), (.int .u8 0), (.int .u8 0), (.int .u8 0), (.int .u8 0), (.int .u8 0), (.int .u8 0), (.int .u8 0), (.int .u8 0), (.int .u8 0), (.int .u8 0), (.int .u8 0), (.int .u8 0), (.int .u8 0), (.int .u8 0), (.int .u8 0), (.int .u8 0), (.int .u8 0), (.int .u8 0), (.int .u8 0), (.int .u8 0), (.int .u8 0), (.int .u8 0), (.int .u8 0), (.int .u8 0), (.int .u8 0), (.int .u8 0), (.int .u8 0), (.int .u8 0), (.int .u8 0), (.int .u8 0), (.int .u8 0), (.int .u8 0), (.int .u8 0), (.int .u8 0), (.int .u8 0), (.int .u8 0), (.int .u8 0), (.int .u8 0), (.int .u8 0), (.int .u8 0), (.int .u8 0), (.int .u8 0), (.int .u8 0), (.int .u8 0), (.int .u8 0), (.int .u8 0), (.int .u8 0), (.int .u8 0), (.int .u8 0), (.int .u8 0)])⟩
theorem ty445_ok : TyOk Tryz.prog 445 ty445_ := TyOk.mk' (by kernel_rfl) (by kernel_rfl)
def ty446_ : Ty := ⟨(.struct #[fld 5 0, fld 5 1]), 2, 2, (.agg #[(.int .u8 0), (.int .u8 0)])⟩
theorem ty446_ok : TyOk Tryz.prog 446 ty446_ := TyOk.mk' (by kernel_rfl) (by kernel_rfl)
def ty447_ : Ty := ⟨(.struct #[fld 5 0, fld 5 1]), 2, 2, (.agg #[(.int .u8 0), (.int .u8 0)])⟩
theorem ty447_ok : TyOk Tryz.prog 447 ty447_ := TyOk.mk' (by kernel_rfl) (by kernel_rfl)
def ty448_ : Ty := ⟨(.array 16 447), 32, 32, (.agg #[(.int .u8 0), (.int .u8 0), (.int .u8 0), (.int .u8 0), (.int .u8 0), (.int .u8 0), (.int .u8 0), (.int .u8 0), (.int .u8 0), (.int .u8 0), (.int .u8 0), (.int .u8 0), (.int .u8 0), (.int .u8 0), (.int .u8 0), (.int .u8 0), (.int .u8 0), (.int .u8 0), (.int .u8 0), (.int .u8 0), (.int .u8 0), (.int .u8 0), (.int .u8 0), (.int .u8 0), (.int .u8 0), (.int .u8 0), (.int .u8 0), (.int .u8 0), (.int .u8 0), (.int .u8 0), (.int .u8 0), (.int .u8 0)])⟩
theorem ty448_ok : TyOk Tryz.prog 448 ty448_ := TyOk.mk' (by kernel_rfl) (by kernel_rfl)
def ty449_ : Ty := ⟨(.int .u16), 1, 2, (.int .u16 0)⟩
theorem ty449_ok : TyOk Tryz.prog 449 ty449_ := TyOk.mk' (by kernel_rfl) (by kernel_rfl)
def ty450_ : Ty := ⟨(.slice 449), 1, 24, (.slice none 0 0)⟩
theorem ty450_ok : TyOk Tryz.prog 450 ty450_ := TyOk.mk' (by kernel_rfl) (by kernel_rfl)
def ty451_ : Ty := ⟨(.func #[] #[] false), 1, 8, .nilFunc⟩
theorem ty451_ok : TyOk Tryz.prog 451 ty451_ := TyOk.mk' (by kernel_rfl) (by kernel_rfl)
def ty452_ : Ty := ⟨(.slice 393), 1, 24, (.slice none 0 0)⟩
theorem ty452_ok : TyOk Tryz.prog 452 ty452_ := TyOk.mk' (by kernel_rfl) (by kernel_rfl)
def ty453_ : Ty := ⟨(.func #[] #[] false), 1, 8, .nilFunc⟩
theorem ty453_ok : TyOk Tryz.prog 453 ty453_ := TyOk.mk' (by kernel_rfl) (by kernel_rfl)
def ty454_ : Ty := ⟨(.struct #[fld 17 0, fld 17 1, fld 17 2, fld 9 3]), 4, 40, (.agg #[(.pointer none), (.pointer none), (.pointer none), (.string ⟨#[]⟩)])⟩
theorem ty454_ok : TyOk Tryz.prog 454 ty454_ := TyOk.mk' (by kernel_rfl) (by kernel_rfl)
def ty455_ : Ty := ⟨(.struct #[fld 17 0, fld 17 1, fld 17 2, fld 9 3]), 4, 40, (.agg #[(.pointer none), (.pointer none), (.pointer none), (.string ⟨#[]⟩)])⟩
theorem ty455_ok : TyOk Tryz.prog 455 ty455_ := TyOk.mk' (by kernel_rfl) (by kernel_rfl)
def ty456_ : Ty := ⟨(.array 0 16), 0, 0, (.agg #[])⟩
theorem ty456_ok : TyOk Tryz.prog 456 ty456_ := TyOk.mk' (by kernel_rfl) (by kernel_rfl)
def ty457_ : Ty := ⟨(.struct #[fld 456 0]), 0, 0, (.agg #[])⟩
theorem ty457_ok : TyOk Tryz.prog 457 ty457_ := TyOk.mk' (by kernel_rfl) (by kernel_rfl)
def ty458_ : Ty := ⟨(.struct #[fld 456 0]), 0, 0, (.agg #[])⟩
theorem ty458_ok : TyOk Tryz.prog 458 ty458_ := TyOk.mk' (by kernel_rfl) (by kernel_rfl)
def ty459_ : Ty := ⟨(.func #[] #[] false), 1, 8, .nilFunc⟩
theorem ty459_ok : TyOk Tryz.prog 459 ty459_ := TyOk.mk' (by kernel_rfl) (by kernel_rfl)
def ty460_ : Ty := ⟨(.int .u8), 1, 1, (.int .u8 0)⟩
theorem ty460_ok : TyOk Tryz.prog 460 ty460_ := TyOk.mk' (by kernel_rfl) (by kernel_rfl)
def ty461_ : Ty := ⟨(.int .u8), 1, 1, (.int .u8 0)⟩
theorem ty461_ok : TyOk Tryz.prog 461 ty461_ := TyOk.mk' (by kernel_rfl) (by kernel_rfl)
def ty462_ : Ty := ⟨(.func #[] #[] false), 1, 8, .nilFunc⟩
theorem ty462_ok : TyOk Tryz.prog 462 ty462_ := TyOk.mk' (by kernel_rfl) (by kernel_rfl)
def ty463_ : Ty := ⟨(.int .i32), 1, 4, (.int .i32 0)⟩
theorem ty463_ok : TyOk Tryz.prog 463 ty463_ := TyOk.mk' (by kernel_rfl) (by kernel_rfl)
def ty464_ : Ty := ⟨(.int .i32), 1, 4, (.int .i32 0)⟩
theorem ty464_ok : TyOk Tryz.prog 464 ty464_ := TyOk.mk' (by kernel_rfl) (by kernel_rfl)
def ty465_ : Ty := ⟨(.struct #[fld 12 0, fld 12 1, fld 393 2, fld 460 3, fld 5 4, fld 5 5, fld 461 6, fld 462 7, fld 397 8, fld 463 9, fld 464 10]), 11, 48, (.agg #[(.int .u64 0), (.int .u64 0), (.int .u32 0), (.int .u8 0), (.int .u8 0), (.int .u8 0), (.int .u8 0), .nilFunc, (.pointer none), (.int .i32 0), (.int .i32 0)])⟩
theorem ty465_ok : TyOk Tryz.prog 465 ty465_ := TyOk.mk' (by kernel_rfl) (by kernel_rfl)
def ty466_ : Ty := ⟨(.struct #[fld 12 0, fld 12 1, fld 393 2, fld 460 3, fld 5 4, fld 5 5, fld 461 6, fld 462 7, fld 397 8, fld 463 9, fld 464 10]), 11, 48, (.agg #[(.int .u64 0), (.int .u64 0), (.int .u32 0), (.int .u8 0), (.int .u8 0), (.int .u8 0), (.int .u8 0), .nilFunc, (.pointer none), (.int .i32 0), (.int .i32 0)])⟩
theorem ty466_ok : TyOk Tryz.prog 466 ty466_ := TyOk.mk' (by kernel_rfl) (by kernel_rfl)
def tabL : List (Nat × Ty) := [(1, ty1_), (2, ty2_), (3, ty3_), (4, ty4_), (5, ty5_), (6, ty6_), (7, ty7_), (8, ty8_), (9, ty9_), (10, ty10_), (11, ty11_), (12, ty12_), (13, ty13_), (14, ty14_), (15, ty15_), (16, ty16_), (17, ty17_), (18, ty18_), (19, ty19_), (20, ty20_), (21, ty21_), (22, ty22_), (23, ty23_), (24, ty24_), (25, ty25_), (26, ty26_), (27, ty27_), (28, ty28_), (29, ty29_), (30, ty30_), (31, ty31_), (32, ty32_), (33, ty33_), (34, ty34_), (35, ty35_), (36, ty36_), (38, ty38_), (39, ty39_), (40, ty40_), (41, ty41_), (42, ty42_), (43, ty43_), (44, ty44_), (45, ty45_), (46, ty46_), (47, ty47_), (48, ty48_), (49, ty49_), (50, ty50_), (51, ty51_), (52, ty52_), (53, ty53_), (54, ty54_), (55, ty55_), (56, ty56_), (57, ty57_), (59, ty59_), (60, ty60_), (61, ty61_), (62, ty62_), (63, ty63_), (64, ty64_), (65, ty65_), (66, ty66_), (68, ty68_), (69, ty69_), (70, ty70_), (71, ty71_), (73, ty73_), (74, ty74_), (75, ty75_), (76, ty76_), (77, ty77_), (78, ty78_), (79, ty79_), (80, ty80_), (81, ty81_), (82, ty82_), (83, ty83_), (84, ty84_), (85, ty85_), (86, ty86_), (87, ty87_), (88, ty88_), (89, ty89_), (90, ty90_), (91, ty91_), (92, ty92_), (93, ty93_), (94, ty94_), (95, ty95_), (96, ty96_), (98, ty98_), (99, ty99_), (100, ty100_), (101, ty101_), (102, ty102_), (103, ty103_), (104, ty104_), (105, ty105_), (106, ty106_), (107, ty107_), (108, ty108_), (109, ty109_), (110, ty110_), (111, ty111_), (112, ty112_), (113, ty113_), (114, ty114_), (116, ty116_), (117, ty117_), (118, ty118_), (119, ty119_), (120, ty120_), (122, ty122_), (123, ty123_), (124, ty124_), (125, ty125_), (126, ty126_), (128, ty128_), (130, ty130_), (131, ty131_), (133, ty133_), (134, ty134_), (136, ty136_), (137, ty137_), (138, ty138_), (139, ty139_), (140, ty140_), (141, ty141_), (142, ty142_), (143, ty143_), (144, ty144_), (145, ty145_), (146, ty146_), (147, ty147_), (148, ty148_), (149, ty149_), (150, ty150_), (151, ty151_), (152, ty152_), (153, ty153_), (154, ty154_), (155, ty155_), (156, ty156_), (157, ty157_), (158, ty158_), (159, ty159_), (160, ty160_), (161, ty161_), (163, ty163_), (164, ty164_), (165, ty165_), (166, ty166_), (167, ty167_), (168, ty168_), (169, ty169_), (170, ty170_), (171, ty171_), (172, ty172_), (174, ty174_), (175, ty175_), (177, ty177_), (178, ty178_), (179, ty179_), (180, ty180_), (181, ty181_), (182, ty182_), (183, ty183_), (184, ty184_), (185, ty185_), (186, ty186_), (187, ty187_), (188, ty188_), (189, ty189_), (191, ty191_), (192, ty192_), (193, ty193_), (194, ty194_), (195, ty195_), (196, ty196_), (197, ty197_), (198, ty198_), (199, ty199_), (200, ty200_), (201, ty201_), (202, ty202_), (203, ty203_), (204, ty204_), (205, ty205_), (206, ty206_), (207, ty207_), (208, ty208_), (209, ty209_), (210, ty210_), (211, ty211_), (212, ty212_), (214, ty214_), (215, ty215_), (216, ty216_), (218, ty218_), (219, ty219_), (220, ty220_), (221, ty221_), (222, ty222_), (223, ty223_), (224, ty224_), (225, ty225_), (226, ty226_), (227, ty227_), (228, ty228_), (229, ty229_), (230, ty230_), (231, ty231_), (232, ty232_), (233, ty233_), (234, ty234_), (235, ty235_), (236, ty236_), (237, ty237_), (238, ty238_), (239, ty239_), (240, ty240_), (241, ty241_), (242, ty242_), (243, ty243_), (244, ty244_), (245, ty245_), (246, ty246_), (247, ty247_), (248, ty248_), (249, ty249_), (250, ty250_), (251, ty251_), (252, ty252_), (253, ty253_), (254, ty254_), (255, ty255_), (257, ty257_), (258, ty258_), (259, ty259_), (260, ty260_), (262, ty262_), (263, ty263_), (264, ty264_), (265, ty265_), (266, ty266_), (267, ty267_), (268, ty268_), (269, ty269_), (270, ty270_), (271, ty271_), (272, ty272_), (273, ty273_), (274, ty274_), (275, ty275_), (276, ty276_), (277, ty277_), (278, ty278_), (279, ty279_), (280, ty280_), (281, ty281_), (282, ty282_), (283, ty283_), (284, ty284_), (285, ty285_), (286, ty286_), (288, ty288_), (289, ty289_), (290, ty290_), (291, ty291_), (292, ty292_), (293, ty293_), (294, ty294_), (295, ty295_), (296, ty296_), (297, ty297_), (298, ty298_), (299, ty299_), (300, ty300_), (301, ty301_), (302, ty302_), (303, ty303_), (304, ty304_), (305, ty305_), (306, ty306_), (307, ty307_), (308, ty308_), (309, ty309_), (310, ty310_), (311, ty311_), (312, ty312_), (313, ty313_), (314, ty314_), (315, ty315_), (316, ty316_), (317, ty317_), (318, ty318_), (320, ty320_), (321, ty321_), (322, ty322_), (323, ty323_), (324, ty324_), (325, ty325_), (326, ty326_), (327, ty327_), (328, ty328_), (329, ty329_), (330, ty330_), (331, ty331_), (332, ty332_), (333, ty333_), (334, ty334_), (335, ty335_), (336, ty336_), (337, ty337_), (338, ty338_), (339, ty339_), (340, ty340_), (341, ty341_), (342, ty342_), (343, ty343_), (344, ty344_), (345, ty345_), (346, ty346_), (347, ty347_), (348, ty348_), (349, ty349_), (350, ty350_), (351, ty351_), (352, ty352_), (353, ty353_), (354, ty354_), (355, ty355_), (356, ty356_), (357, ty357_), (358, ty358_), (359, ty359_), (360, ty360_), (361, ty361_), (362, ty362_), (363, ty363_), (364, ty364_), (365, ty365_), (366, ty366_), (367, ty367_), (368, ty368_), (369, ty369_), (370, ty370_), (371, ty371_), (372, ty372_), (373, ty373_), (374, ty374_), (375, ty375_), (377, ty377_), (379, ty379_), (380, ty380_), (381, ty381_), (382, ty382_), (383, ty383_), (384, ty384_), (385, ty385_), (386, ty386_), (388, ty388_), (389, ty389_), (390, ty390_), (391, ty391_), (392, ty392_), (393, ty393_), (394, ty394_), (395, ty395_), (396, ty396_), (397, ty397_), (398, ty398_), (399, ty399_), (400, ty400_), (401, ty401_), (402, ty402_), (403, ty403_), (404, ty404_), (405, ty405_), (406, ty406_), (407, ty407_), (408, ty408_), (409, ty409_), (410, ty410_), (411, ty411_), (412, ty412_), (413, ty413_), (414, ty414_), (415, ty415_), (417, ty417_), (418, ty418_), (419, ty419_), (420, ty420_), (421, ty421_), (422, ty422_), (423, ty423_), (424, ty424_), (425, ty425_), (427, ty427_), (428, ty428_), (429, ty429_), (430, ty430_), (431, ty431_), (432, ty432_), (433, ty433_), (435, ty435_), (436, ty436_), (437, ty437_), (438, ty438_), (439, ty439_), (440, ty440_), (441, ty441_), (443, ty443_), (444, ty444_), (445, ty445_), (446, ty446_), (447, ty447_), (448, ty448_), (449, ty449_), (450, ty450_), (451, ty451_), (452, ty452_), (453, ty453_), (454, ty454_), (455, ty455_), (456, ty456_), (457, ty457_), (458, ty458_), (459, ty459_), (460, ty460_), (461, ty461_), (462, ty462_), (463, ty463_), (464, ty464_), (465, ty465_), (466, ty466_)]
theorem tabL_ok : AllTy Tryz.prog tabL := ⟨ty1_ok, ty2_ok, ty3_ok, ty4_ok, ty5_ok, ty6_ok, ty7_ok, ty8_ok, ty9_ok, ty10_ok, ty11_ok, ty12_ok, ty13_ok, ty14_ok, ty15_ok, ty16_ok, ty17_ok, ty18_ok, ty19_ok, ty20_ok, ty21_ok, ty22_ok, ty23_ok, ty24_ok, ty25_ok, ty26_ok, ty27_ok, ty28_ok, ty29_ok, ty30_ok, ty31_ok, ty32_ok, ty33_ok, ty34_ok, ty35_ok, ty36_ok, ty38_ok, ty39_ok, ty40_ok, ty41_ok, ty42_ok, ty43_ok, ty44_ok, ty45_ok, ty46_ok, ty47_ok, ty48_ok, ty49_ok, ty50_ok, ty51_ok, ty52_ok, ty53_ok, ty54_ok, ty55_ok, ty56_ok, ty57_ok, ty59_ok, ty60_ok, ty61_ok, ty62_ok, ty63_ok, ty64_ok, ty65_ok, ty66_ok, ty68_ok, ty69_ok, ty70_ok, ty71_ok, ty73_ok, ty74_ok, ty75_ok, ty76_ok, ty77_ok, ty78_ok, ty79_ok, ty80_ok, ty81_ok, ty82_ok, ty83_ok, ty84_ok, ty85_ok, ty86_ok, ty87_ok, ty88_ok, ty89_ok, ty90_ok, ty91_ok, ty92_ok, ty93_ok, ty94_ok, ty95_ok, ty96_ok, ty98_ok, ty99_ok, ty100_ok, ty101_ok, ty102_ok, ty103_ok, ty104_ok, ty105_ok, ty106_ok, ty107_ok, ty108_ok, ty109_ok, ty110_ok, ty111_ok, ty112_ok, ty113_ok, ty114_ok, ty116_ok, ty117_ok, ty118_ok, ty119_ok, ty120_ok, ty122_ok, ty123_ok, ty124_ok, ty125_ok, ty126_ok, ty128_ok, ty130_ok, ty131_ok, ty133_ok, ty134_ok, ty136_ok, ty137_ok, ty138_ok, ty139_ok, ty140_ok, ty141_ok, ty142_ok, ty143_ok, ty144_ok, ty145_ok, ty146_ok, ty147_ok, ty148_ok, ty149_ok, ty150_ok, ty151_ok, ty152_ok, ty153_ok, ty154_ok, ty155_ok, ty156_ok, ty157_ok, ty158_ok, ty159_ok, ty160_ok, ty161_ok, ty163_ok, ty164_ok, ty165_ok, ty166_ok, ty167_ok, ty168_ok, ty169_ok, ty170_ok, ty171_ok, ty172_ok, ty174_ok, ty175_ok, ty177_ok, ty178_ok, ty179_ok, ty180_ok, ty181_ok, ty182_ok, ty183_ok, ty184_ok, ty185_ok, ty186_ok, ty187_ok, ty188_ok, ty189_ok, ty191_ok, ty192_ok, ty193_ok, ty194_ok, ty195_ok, ty196_ok, ty197_ok, ty198_ok, ty199_ok, ty200_ok, ty201_ok, ty202_ok, ty203_ok, ty204_ok, ty205_ok, ty206_ok, ty207_ok, ty208_ok, ty209_ok, ty210_ok, ty211_ok, ty212_ok, ty214_ok, ty215_ok, ty216_ok, ty218_ok, ty219_ok, ty220_ok, ty221_ok, ty222_ok, ty223_ok, ty224_ok, ty225_ok, ty226_ok, ty227_ok, ty228_ok, ty229_ok, ty230_ok, ty231_ok, ty232_ok, ty233_ok, ty234_ok, ty235_ok, ty236_ok, ty237_ok, ty238_ok, ty239_ok, ty240_ok, ty241_ok, ty242_ok, ty243_ok, ty244_ok, ty245_ok, ty246_ok, ty247_ok, ty248_ok, ty249_ok, ty250_ok, ty251_ok, ty252_ok, ty253_ok, ty254_ok, ty255_ok, ty257_ok, ty258_ok, ty259_ok, ty260_ok, ty262_ok, ty263_ok, ty264_ok, ty265_ok, ty266_ok, ty267_ok, ty268_ok, ty269_ok, ty270_ok, ty271_ok, ty272_ok, ty273_ok, ty274_ok, ty275_ok, ty276_ok, ty277_ok, ty278_ok, ty279_ok, ty280_ok, ty281_ok, ty282_ok, ty283_ok, ty284_ok, ty285_ok, ty286_ok, ty288_ok, ty289_ok, ty290_ok, ty291_ok, ty292_ok, ty293_ok, ty294_ok, ty295_ok, ty296_ok, ty297_ok, ty298_ok, ty299_ok, ty300_ok, ty301_ok, ty302_ok, ty303_ok, ty304_ok, ty305_ok, ty306_ok, ty307_ok, ty308_ok, ty309_ok, ty310_ok, ty311_ok, ty312_ok, ty313_ok, ty314_ok, ty315_ok, ty316_ok, ty317_ok, ty318_ok, ty320_ok, ty321_ok, ty322_ok, ty323_ok, ty324_ok, ty325_ok, ty326_ok, ty327_ok, ty328_ok, ty329_ok, ty330_ok, ty331_ok, ty332_ok, ty333_ok, ty334_ok, ty335_ok, ty336_ok, ty337_ok, ty338_ok, ty339_ok, ty340_ok, ty341_ok, ty342_ok, ty343_ok, ty344_ok, ty345_ok, ty346_ok, ty347_ok, ty348_ok, ty349_ok, ty350_ok, ty351_ok, ty352_ok, ty353_ok, ty354_ok, ty355_ok, ty356_ok, ty357_ok, ty358_ok, ty359_ok, ty360_ok, ty361_ok, ty362_ok, ty363_ok, ty364_ok, ty365_ok, ty366_ok, ty367_ok, ty368_ok, ty369_ok, ty370_ok, ty371_ok, ty372_ok, ty373_ok, ty374_ok, ty375_ok, ty377_ok, ty379_ok, ty380_ok, ty381_ok, ty382_ok, ty383_ok, ty384_ok, ty385_ok, ty386_ok, ty388_ok, ty389_ok, ty390_ok, ty391_ok, ty392_ok, ty393_ok, ty394_ok, ty395_ok, ty396_ok, ty397_ok, ty398_ok, ty399_ok, ty400_ok, ty401_ok, ty402_ok, ty403_ok, ty404_ok, ty405_ok, ty406_ok, ty407_ok, ty408_ok, ty409_ok, ty410_ok, ty411_ok, ty412_ok, ty413_ok, ty414_ok, ty415_ok, ty417_ok, ty418_ok, ty419_ok, ty420_ok, ty421_ok, ty422_ok, ty423_ok, ty424_ok, ty425_ok, ty427_ok, ty428_ok, ty429_ok, ty430_ok, ty431_ok, ty432_ok, ty433_ok, ty435_ok, ty436_ok, ty437_ok, ty438_ok, ty439_ok, ty440_ok, ty441_ok, ty443_ok, ty444_ok, ty445_ok, ty446_ok, ty447_ok, ty448_ok, ty449_ok, ty450_ok, ty451_ok, ty452_ok, ty453_ok, ty454_ok, ty455_ok, ty456_ok, ty457_ok, ty458_ok, ty459_ok, ty460_ok, ty461_ok, ty462_ok, ty463_ok, ty464_ok, ty465_ok, ty466_ok, trivial⟩
def T : Tab Tryz.prog := ⟨tabL, tabL_ok, by kernel_rfl⟩
end Go.Proofs.YtegmololhnipiaaGreatDoor
namespace Go.Proofs.YtegmololhnipiaaGreatDoor
open Go.Lx Go.Gr Go.RowKit
attribute [local instance 10] Classical.propDecidable
def AscAt (n : Int) (l : List Int) (i : Nat) : Prop := ∀ x, l[i]? = some x → 0 ≤ x ∧ x < n ∧ ∀ y, 0 < i → l[i - 1]? = some y → y < x
theorem asc_of {n : Int} {l : List Int} {k : Nat} (h : ∀ i, i < k → AscAt n l i) (hk : l.length ≤ k) : AscP n l :=
  fun i x hx => h i (by have := lt_of_get hx; omega) x hx
theorem asc_bad {n : Int} {l : List Int} {k : Nat} {x : Int} (hx : l[k]? = some x) (h : 0 ≤ x → x < n → ∃ y, 0 < k ∧ l[k - 1]? = some y ∧ x ≤ y) : ¬ AscP n l := fun hc => by
  obtain ⟨h1, h2, h3⟩ := hc k x hx
  obtain ⟨y, h4, h5, h6⟩ := h h1 h2
  have := h3 y h4 h5
  omega
theorem asc_next {n : Int} {l : List Int} {k : Nat} {x : Int} (h : ∀ i, i < k → AscAt n l i) (hx : l[k]? = some x) (h0 : 0 ≤ x) (h1 : x < n) (h2 : ∀ y, 0 < k → l[k - 1]? = some y → y < x) : ∀ i, i < k + 1 → AscAt n l i :=
  lt_succ_cases h (fun z hz => by rw [hx] at hz; injection hz with hz; subst hz; exact ⟨h0, h1, h2⟩)
theorem indices_q {fz : FZ} {A : Option Addr} {n c : Nat} {l : List Int} {m : Int} (h1 : Sl intL fz A n c l) :
    QFn Tryz.prog 38 [.slice A n c, .int .i64 m] fz (.bool (decide (AscP m l))) := by
  refine GFn.quiet ?_
  (refine GFn.of_wp Tryz.func38 rfl Tryz.ntmps38 rfl rfl (fun w0 => ?_))
  have l1 := h1.len
  have hm := h1.short
  ((refine Wp.seq ?_; refine Wp.region ?_; refine Zq ?_; refine Za ?_; refine Seq.done ?_; refine Wp.seq ?_; refine Wp.seq ?_; refine Wp.region ?_; refine Zq ?_; refine Zm ?_; refine Zq ?_; refine q_len_slice T (by exact rfl) (by exact rfl) (by exact rfl) ?_; refine Zq ?_; refine Zm ?_; refine Seq.done ?_; refine Wp.block ?_))
  (refine Wp.loop (fun q σ fz' H' => ∃ k : Nat, k ≤ n ∧ q = n - k ∧ σ = [(9, .int .i64 k), (8, .int .i64 n), (7, .slice A n c), (0, .slice A n c), (1, .int .i64 m)] ∧ fz = fz' ∧ H' = [] ∧ (∀ i, i < k → AscAt m l i)) ⟨0, Nat.zero_le _, rfl, rfl, rfl, rfl, (fun i hi => absurd hi (by omega))⟩ (by repeat (first | exact trivial | refine ⟨by exact rfl, ?_⟩)) (by repeat (first | exact List.Sublist.refl _ | exact List.nil_sublist _ | refine List.Sublist.cons_cons _ ?_ | refine List.Sublist.cons _ ?_)) ?_; rintro q σ fz' H' ⟨k, hk, rfl, rfl, rfl, rfl, hh⟩)
  ((refine Wp.seq ?_; refine Wp.region ?_))
  (((refine Zq ?_)); (refine q_lssD (by exact rfl) (by exact rfl) (fun hlt => ?_) (fun hge => ?_)))
  · ((refine Seq.done ?_; refine Wp.seq ?_; refine Zc ?_; refine Wp.skip ?_; refine thenN ?_; refine Wp.seq ?_; refine Wp.block ?_; refine Wp.seq ?_; refine Wp.region ?_; refine Zq ?_; refine Zm ?_))
    obtain ⟨x, hx⟩ := get_some (l := l) (k := k) (by omega)
    (((refine Zq ?_)); refine q_index T k (by exact rfl) (by exact rfl) (by exact rfl) (by exact rfl) (by exact rfl) (by exact rfl) h1 (by first | rfl | omega) hx (fun p hp => ?_))
    (((refine Zq ?_)); refine q_load_int T (by exact rfl) (by exact rfl) (by exact rfl) hp (fun ix => ?_))
    ((refine Zq ?_; refine Za ?_; refine Zq ?_; refine Za ?_; refine Seq.done ?_; refine Wp.seq ?_; refine Wp.region ?_; refine Zq ?_; refine Zm ?_))
    (((refine Zq ?_)); (refine q_lssD (by exact rfl) (by exact rfl) (fun c1 => ?_) (fun c1 => ?_)))
    · ((refine Zq ?_; refine Zm ?_; refine Zn ?_; refine Zn ?_; refine Zn ?_; refine Zq ?_; refine Zt ?_; refine Zq ?_; refine Zm ?_; refine Zn ?_; refine Zn ?_; refine Zn ?_; refine Zo ?_; refine Zo ?_; refine Zo ?_; refine Zo ?_; refine Zo ?_; refine Zo ?_; refine Zo ?_; refine Zn ?_; refine Zq ?_; refine Zt ?_; refine Seq.done ?_; refine Zc ?_; refine Wp.seq ?_; refine Wp.region ?_; refine Zq ?_; refine Za ?_; refine Seq.done ?_; refine Wp.ret ?_; refine blkR ?_; refine thenR ?_; refine loopR ?_; refine blkR ?_; refine thenR ?_))
      (exact ret1 rfl rfl (by repeat (first | exact List.Sublist.refl _ | exact List.nil_sublist _ | refine List.Sublist.cons_cons _ ?_ | refine List.Sublist.cons _ ?_)) (bool_false (asc_bad hx (fun _ => by omega))))
    · ((refine Zq ?_; refine Zm ?_; refine Zy ?_; refine Zm ?_; refine Zy ?_; refine Zm ?_))
      (((refine Zy ?_)); (refine q_geqD (by exact rfl) (by exact rfl) (fun c2 => ?_) (fun c2 => ?_)))
      · ((refine Zq ?_; refine Zu ?_; refine Zq ?_; refine Zm ?_; refine Zn ?_; refine Zn ?_; refine Zn ?_; refine Zo ?_; refine Zo ?_; refine Zo ?_; refine Zo ?_; refine Zo ?_; refine Zo ?_; refine Zo ?_; refine Zn ?_; refine Zq ?_; refine Zt ?_; refine Seq.done ?_; refine Zc ?_; refine Wp.seq ?_; refine Wp.region ?_; refine Zq ?_; refine Za ?_; refine Seq.done ?_; refine Wp.ret ?_; refine blkR ?_; refine thenR ?_; refine loopR ?_; refine blkR ?_; refine thenR ?_))
        (exact ret1 rfl rfl (by repeat (first | exact List.Sublist.refl _ | exact List.nil_sublist _ | refine List.Sublist.cons_cons _ ?_ | refine List.Sublist.cons _ ?_)) (bool_false (asc_bad hx (fun _ _ => by omega))))
      · ((refine Zq ?_; refine Zu ?_; refine Zq ?_; refine Zm ?_; refine Zy ?_; refine Zm ?_))
        (((refine Zy ?_)); (refine q_gtrD (by exact rfl) (by exact rfl) (fun c3 => ?_) (fun c3 => ?_)))
        · ((refine Zy ?_; refine Zm ?_; refine Zy ?_; refine Zm ?_; refine Zy ?_; refine Zm ?_; refine Zy ?_; refine q_sub (by exact rfl) (by exact rfl) (wrap_in (by omega)) ?_))
          obtain ⟨y, hy⟩ := get_some (l := l) (k := k - 1) (by omega)
          (((refine Zy ?_)); refine q_index T (k - 1) (by exact rfl) (by exact rfl) (by exact rfl) (by exact rfl) (by exact rfl) (by exact rfl) h1 (by first | rfl | omega) hy (fun p2 hp2 => ?_))
          (((refine Zy ?_)); refine q_load_int T (by exact rfl) (by exact rfl) (by exact rfl) hp2 (fun iy => ?_))
          ((refine Zy ?_; refine Zm ?_))
          (((refine Zy ?_)); (refine q_geqD (by exact rfl) (by exact rfl) (fun c4 => ?_) (fun c4 => ?_)))
          · ((refine Zy ?_; refine Zt ?_; refine Zq ?_; refine Zu ?_; refine Seq.done ?_; refine Zc ?_; refine Wp.seq ?_; refine Wp.region ?_; refine Zq ?_; refine Za ?_; refine Seq.done ?_; refine Wp.ret ?_; refine blkR ?_; refine thenR ?_; refine loopR ?_; refine blkR ?_; refine thenR ?_))
            (exact ret1 rfl rfl (by repeat (first | exact List.Sublist.refl _ | exact List.nil_sublist _ | refine List.Sublist.cons_cons _ ?_ | refine List.Sublist.cons _ ?_)) (bool_false (asc_bad hx (fun _ _ => ⟨y, by omega, hy, c4⟩))))
          · ((refine Zy ?_; refine Zt ?_; refine Zq ?_; refine Zu ?_; refine Seq.done ?_; refine Zd ?_; refine Wp.skip ?_; refine blkN ?_; refine thenN ?_; refine Wp.region ?_; refine Zq ?_; refine q_add (by exact rfl) (by exact rfl) (wrap_in (by omega)) ?_; refine Zq ?_; refine Zm ?_; refine Seq.end_ ?_))
            (exact loopN ⟨k + 1, by omega, rfl, rfl, rfl, rfl, (asc_next hh hx (by omega) (by omega) (fun z _ hz => by rw [hy] at hz; injection hz with hz; omega))⟩ (by omega) (by repeat (first | exact trivial | refine ⟨by exact rfl, ?_⟩)) (by repeat (first | exact List.Sublist.refl _ | exact List.nil_sublist _ | refine List.Sublist.cons_cons _ ?_ | refine List.Sublist.cons _ ?_)))
        · ((refine Zy ?_; refine Zm ?_; refine Zn ?_; refine Zn ?_; refine Zn ?_; refine Zn ?_; refine Zn ?_; refine Zn ?_; refine Zn ?_; refine Zy ?_; refine Zu ?_; refine Zq ?_; refine Zu ?_; refine Seq.done ?_; refine Zd ?_; refine Wp.skip ?_; refine blkN ?_; refine thenN ?_; refine Wp.region ?_; refine Zq ?_; refine q_add (by exact rfl) (by exact rfl) (wrap_in (by omega)) ?_; refine Zq ?_; refine Zm ?_; refine Seq.end_ ?_))
          (exact loopN ⟨k + 1, by omega, rfl, rfl, rfl, rfl, (asc_next hh hx (by omega) (by omega) (fun z hz _ => by omega))⟩ (by omega) (by repeat (first | exact trivial | refine ⟨by exact rfl, ?_⟩)) (by repeat (first | exact List.Sublist.refl _ | exact List.nil_sublist _ | refine List.Sublist.cons_cons _ ?_ | refine List.Sublist.cons _ ?_)))
  · ((refine Seq.done ?_; refine Wp.seq ?_; refine Zd ?_; refine Wp.exit ?_; refine thenX ?_; refine loopX ?_; refine blkX (by exact rfl) ?_; refine thenN ?_; refine Wp.seq ?_; refine Wp.region ?_; refine Zq ?_; refine Za ?_; refine Seq.done ?_; refine Wp.ret ?_))
    (exact ret1 rfl rfl (by repeat (first | exact List.Sublist.refl _ | exact List.nil_sublist _ | refine List.Sublist.cons_cons _ ?_ | refine List.Sublist.cons _ ?_)) (bool_true (asc_of hh (by omega))))
theorem ascending_q {fz : FZ} {A : Option Addr} {n c : Nat} {l : List Int} {m : Int} (h1 : Sl intL fz A n c l) :
    QFn Tryz.prog 33 [.slice A n c, .int .i64 m] fz (.bool (decide (AscP m l))) := by
  refine GFn.quiet ?_
  (refine GFn.of_wp Tryz.func33 rfl Tryz.ntmps33 rfl rfl (fun w0 => ?_))
  have l1 := h1.len
  have hm := h1.short
  ((refine Wp.seq ?_; refine Wp.region ?_; refine Zq ?_; refine Za ?_; refine Seq.done ?_; refine Wp.seq ?_; refine Wp.seq ?_; refine Wp.region ?_; refine Zq ?_; refine Za ?_; refine Seq.done ?_; refine Wp.block ?_))
  (refine Wp.loop (fun q σ fz' H' => ∃ k : Nat, k ≤ n ∧ q = n - k ∧ σ = [(5, .int .i64 k), (0, .slice A n c), (1, .int .i64 m)] ∧ fz = fz' ∧ H' = [] ∧ (∀ i, i < k → AscAt m l i)) ⟨0, Nat.zero_le _, rfl, rfl, rfl, rfl, (fun i hi => absurd hi (by omega))⟩ (by repeat (first | exact trivial | refine ⟨by exact rfl, ?_⟩)) (by repeat (first | exact List.Sublist.refl _ | exact List.nil_sublist _ | refine List.Sublist.cons_cons _ ?_ | refine List.Sublist.cons _ ?_)) ?_; rintro q σ fz' H' ⟨k, hk, rfl, rfl, rfl, rfl, hh⟩)
  ((refine Wp.seq ?_; refine Wp.seq ?_; refine Wp.region ?_; refine Zq ?_; refine Zm ?_; refine Zq ?_; refine Zm ?_; refine Zq ?_; refine q_len_slice T (by exact rfl) (by exact rfl) (by exact rfl) ?_))
  (((refine Zq ?_)); (refine q_lssD (by exact rfl) (by exact rfl) (fun hlt => ?_) (fun hge => ?_)))
  · ((refine Seq.done ?_; refine Zc ?_; refine Wp.skip ?_; refine thenN ?_; refine Wp.seq ?_; refine Wp.block ?_; refine Wp.seq ?_; refine Wp.draw (by decide +kernel) T.mixed (by kernel_rfl) (by kernel_rfl) ?_; refine QL.q ?_; refine Zm ?_; refine QL.q ?_; refine Zm ?_))
    obtain ⟨x, hx⟩ := get_some (l := l) (k := k) (by omega)
    (((refine QL.q ?_)); refine q_index T k (by exact rfl) (by exact rfl) (by exact rfl) (by exact rfl) (by exact rfl) (by exact rfl) h1 (by first | rfl | omega) hx (fun p hp => ?_))
    (((refine QL.q ?_)); refine q_load_int T (by exact rfl) (by exact rfl) (by exact rfl) hp (fun ix => ?_))
    (skip)
    (((refine QL.q ?_)); (refine q_lssD (by exact rfl) (by exact rfl) (fun c1 => ?_) (fun c1 => ?_)))
    · ((refine QL.q ?_; refine Zm ?_; refine QL.no (by exact rfl) ?_; refine QL.no (by exact rfl) ?_; refine QL.no (by exact rfl) ?_; refine QL.no (by exact rfl) ?_; refine QL.no (by exact rfl) ?_; refine QL.no (by exact rfl) ?_; refine QL.q ?_; refine Zt ?_; refine QL.q ?_; refine Zm ?_; refine QL.no (by exact rfl) ?_; refine QL.no (by exact rfl) ?_; refine QL.no (by exact rfl) ?_; refine QL.no (by exact rfl) ?_; refine QL.no (by exact rfl) ?_; refine QL.no (by exact rfl) ?_; refine QL.no (by exact rfl) ?_; refine QL.no (by exact rfl) ?_; refine QL.no (by exact rfl) ?_; refine QL.no (by exact rfl) ?_; refine QL.no (by exact rfl) ?_; refine QL.no (by exact rfl) ?_; refine QL.no (by exact rfl) ?_; refine QL.no (by exact rfl) ?_; refine QL.q ?_; refine Zt ?_; refine QL.done ?_; refine thenN ?_; refine Zc ?_; refine Wp.seq ?_; refine Wp.region ?_; refine Zq ?_; refine Za ?_; refine Seq.done ?_; refine Wp.ret ?_; refine blkR ?_; refine thenR ?_; refine loopR ?_; refine blkR ?_; refine thenR ?_))
      (exact ret1 rfl rfl (by repeat (first | exact List.Sublist.refl _ | exact List.nil_sublist _ | refine List.Sublist.cons_cons _ ?_ | refine List.Sublist.cons _ ?_)) (bool_false (asc_bad hx (fun _ => by omega))))
    · ((refine QL.q ?_; refine Zm ?_; refine QL.yes (by exact rfl) ?_; refine Zm ?_; refine QL.yes (by exact rfl) ?_; refine Zm ?_))
      (((refine QL.yes (by exact rfl) ?_)); refine q_index T k (by exact rfl) (by exact rfl) (by exact rfl) (by exact rfl) (by exact rfl) (by exact rfl) h1 (by first | rfl | omega) hx (fun p3 hp3 => ?_))
      (((refine QL.yes (by exact rfl) ?_)); refine q_load_int T (by exact rfl) (by exact rfl) (by exact rfl) hp3 (fun ix3 => ?_))
      ((refine QL.yes (by exact rfl) ?_; refine Zm ?_))
      (((refine QL.yes (by exact rfl) ?_)); (refine q_geqD (by exact rfl) (by exact rfl) (fun c2 => ?_) (fun c2 => ?_)))
      · ((refine QL.q ?_; refine Zu ?_; refine QL.q ?_; refine Zm ?_; refine QL.no (by exact rfl) ?_; refine QL.no (by exact rfl) ?_; refine QL.no (by exact rfl) ?_; refine QL.no (by exact rfl) ?_; refine QL.no (by exact rfl) ?_; refine QL.no (by exact rfl) ?_; refine QL.no (by exact rfl) ?_; refine QL.no (by exact rfl) ?_; refine QL.no (by exact rfl) ?_; refine QL.no (by exact rfl) ?_; refine QL.no (by exact rfl) ?_; refine QL.no (by exact rfl) ?_; refine QL.no (by exact rfl) ?_; refine QL.no (by exact rfl) ?_; refine QL.q ?_; refine Zt ?_; refine QL.done ?_; refine thenN ?_; refine Zc ?_; refine Wp.seq ?_; refine Wp.region ?_; refine Zq ?_; refine Za ?_; refine Seq.done ?_; refine Wp.ret ?_; refine blkR ?_; refine thenR ?_; refine loopR ?_; refine blkR ?_; refine thenR ?_))
        (exact ret1 rfl rfl (by repeat (first | exact List.Sublist.refl _ | exact List.nil_sublist _ | refine List.Sublist.cons_cons _ ?_ | refine List.Sublist.cons _ ?_)) (bool_false (asc_bad hx (fun _ _ => by omega))))
      · ((refine QL.q ?_; refine Zu ?_; refine QL.q ?_; refine Zm ?_; refine QL.yes (by exact rfl) ?_; refine Zm ?_))
        (((refine QL.yes (by exact rfl) ?_)); (refine q_gtrD (by exact rfl) (by exact rfl) (fun c3 => ?_) (fun c3 => ?_)))
        · ((refine QL.yes (by exact rfl) ?_; refine Zm ?_; refine QL.yes (by exact rfl) ?_; refine Zm ?_; refine QL.yes (by exact rfl) ?_; refine Zm ?_; refine QL.yes (by exact rfl) ?_; refine q_sub (by exact rfl) (by exact rfl) (wrap_in (by omega)) ?_))
          obtain ⟨y, hy⟩ := get_some (l := l) (k := k - 1) (by omega)
          (((refine QL.yes (by exact rfl) ?_)); refine q_index T (k - 1) (by exact rfl) (by exact rfl) (by exact rfl) (by exact rfl) (by exact rfl) (by exact rfl) h1 (by first | rfl | omega) hy (fun p2 hp2 => ?_))
          (((refine QL.yes (by exact rfl) ?_)); refine q_load_int T (by exact rfl) (by exact rfl) (by exact rfl) hp2 (fun iy => ?_))
          ((refine QL.yes (by exact rfl) ?_; refine Zm ?_; refine QL.yes (by exact rfl) ?_; refine Zm ?_))
          (((refine QL.yes (by exact rfl) ?_)); refine q_index T k (by exact rfl) (by exact rfl) (by exact rfl) (by exact rfl) (by exact rfl) (by exact rfl) h1 (by first | rfl | omega) hx (fun p4 hp4 => ?_))
          (((refine QL.yes (by exact rfl) ?_)); refine q_load_int T (by exact rfl) (by exact rfl) (by exact rfl) hp4 (fun ix4 => ?_))
          (skip)
          (((refine QL.yes (by exact rfl) ?_)); (refine q_geqD (by exact rfl) (by exact rfl) (fun c4 => ?_) (fun c4 => ?_)))
          · ((refine QL.yes (by exact rfl) ?_; refine Zt ?_; refine QL.q ?_; refine Zu ?_; refine QL.done ?_; refine thenN ?_; refine Zc ?_; refine Wp.seq ?_; refine Wp.region ?_; refine Zq ?_; refine Za ?_; refine Seq.done ?_; refine Wp.ret ?_; refine blkR ?_; refine thenR ?_; refine loopR ?_; refine blkR ?_; refine thenR ?_))
            (exact ret1 rfl rfl (by repeat (first | exact List.Sublist.refl _ | exact List.nil_sublist _ | refine List.Sublist.cons_cons _ ?_ | refine List.Sublist.cons _ ?_)) (bool_false (asc_bad hx (fun _ _ => ⟨y, by omega, hy, c4⟩))))
          · ((refine QL.yes (by exact rfl) ?_; refine Zt ?_; refine QL.q ?_; refine Zu ?_; refine QL.done ?_; refine thenN ?_; refine Zd ?_; refine Wp.skip ?_; refine blkN ?_; refine thenN ?_; refine Wp.region ?_; refine Zq ?_; refine Zm ?_; refine Zq ?_; refine q_add (by exact rfl) (by exact rfl) (wrap_in (by omega)) ?_; refine Zq ?_; refine Za ?_; refine Seq.end_ ?_))
            (exact loopN ⟨k + 1, by omega, rfl, rfl, rfl, rfl, (asc_next hh hx (by omega) (by omega) (fun z _ hz => by rw [hy] at hz; injection hz with hz; omega))⟩ (by omega) (by repeat (first | exact trivial | refine ⟨by exact rfl, ?_⟩)) (by repeat (first | exact List.Sublist.refl _ | exact List.nil_sublist _ | refine List.Sublist.cons_cons _ ?_ | refine List.Sublist.cons _ ?_)))
        · ((refine QL.yes (by exact rfl) ?_; refine Zm ?_; refine QL.no (by exact rfl) ?_; refine QL.no (by exact rfl) ?_; refine QL.no (by exact rfl) ?_; refine QL.no (by exact rfl) ?_; refine QL.no (by exact rfl) ?_; refine QL.no (by exact rfl) ?_; refine QL.no (by exact rfl) ?_; refine QL.no (by exact rfl) ?_; refine QL.no (by exact rfl) ?_; refine QL.no (by exact rfl) ?_; refine QL.yes (by exact rfl) ?_; refine Zu ?_; refine QL.q ?_; refine Zu ?_; refine QL.done ?_; refine thenN ?_; refine Zd ?_; refine Wp.skip ?_; refine blkN ?_; refine thenN ?_; refine Wp.region ?_; refine Zq ?_; refine Zm ?_; refine Zq ?_; refine q_add (by exact rfl) (by exact rfl) (wrap_in (by omega)) ?_; refine Zq ?_; refine Za ?_; refine Seq.end_ ?_))
          (exact loopN ⟨k + 1, by omega, rfl, rfl, rfl, rfl, (asc_next hh hx (by omega) (by omega) (fun z hz _ => by omega))⟩ (by omega) (by repeat (first | exact trivial | refine ⟨by exact rfl, ?_⟩)) (by repeat (first | exact List.Sublist.refl _ | exact List.nil_sublist _ | refine List.Sublist.cons_cons _ ?_ | refine List.Sublist.cons _ ?_)))
  · ((refine Seq.done ?_; refine Zd ?_; refine Wp.exit ?_; refine thenX ?_; refine loopX ?_; refine blkX (by exact rfl) ?_; refine thenN ?_; refine Wp.seq ?_; refine Wp.region ?_; refine Zq ?_; refine Za ?_; refine Seq.done ?_; refine Wp.ret ?_))
    (exact ret1 rfl rfl (by repeat (first | exact List.Sublist.refl _ | exact List.nil_sublist _ | refine List.Sublist.cons_cons _ ?_ | refine List.Sublist.cons _ ?_)) (bool_true (asc_of hh (by omega))))
theorem in_q {fz : FZ} {A : Option Addr} {n c : Nat} {l : List Int} {m : Int} (h1 : Sl intL fz A n c l) :
    QFn Tryz.prog 17 [.slice A n c, .int .i64 m] fz (.bool (decide (m ∈ l))) := by
  refine GFn.quiet ?_
  (refine GFn.of_wp Tryz.func17 rfl Tryz.ntmps17 rfl rfl (fun w0 => ?_))
  have l1 := h1.len
  have hm := h1.short
  ((refine Wp.seq ?_; refine Wp.region ?_; refine Zq ?_; refine Za ?_; refine Seq.done ?_; refine Wp.seq ?_; refine Wp.seq ?_; refine Wp.region ?_; refine Zq ?_; refine Za ?_; refine Seq.done ?_; refine Wp.block ?_))
  (refine Wp.loop (fun q σ fz' H' => ∃ k : Nat, k ≤ n ∧ q = n - k ∧ σ = [(5, .int .i64 k), (0, .slice A n c), (1, .int .i64 m)] ∧ fz = fz' ∧ H' = [] ∧ (∀ i, i < k → ∀ x, l[i]? = some x → x ≠ m)) ⟨0, Nat.zero_le _, rfl, rfl, rfl, rfl, (fun i hi => absurd hi (by omega))⟩ (by repeat (first | exact trivial | refine ⟨by exact rfl, ?_⟩)) (by repeat (first | exact List.Sublist.refl _ | exact List.nil_sublist _ | refine List.Sublist.cons_cons _ ?_ | refine List.Sublist.cons _ ?_)) ?_; rintro q σ fz' H' ⟨k, hk, rfl, rfl, rfl, rfl, hh⟩)
  ((refine Wp.seq ?_; refine Wp.seq ?_; refine Wp.region ?_; refine Zq ?_; refine Zm ?_; refine Zq ?_; refine Zm ?_; refine Zq ?_; refine q_len_slice T (by exact rfl) (by exact rfl) (by exact rfl) ?_))
  (((refine Zq ?_)); (refine q_lssD (by exact rfl) (by exact rfl) (fun hlt => ?_) (fun hge => ?_)))
  · ((refine Seq.done ?_; refine Zc ?_; refine Wp.skip ?_; refine thenN ?_; refine Wp.seq ?_; refine Wp.block ?_; refine Wp.seq ?_; refine Wp.region ?_; refine Zq ?_; refine Zm ?_; refine Zq ?_; refine Zm ?_))
    obtain ⟨x, hx⟩ := get_some (l := l) (k := k) (by omega)
    (((refine Zq ?_)); refine q_index T k (by exact rfl) (by exact rfl) (by exact rfl) (by exact rfl) (by exact rfl) (by exact rfl) h1 (by first | rfl | omega) hx (fun p hp => ?_))
    (((refine Zq ?_)); refine q_load_int T (by exact rfl) (by exact rfl) (by exact rfl) hp (fun ix => ?_))
    ((refine Zq ?_; refine Zm ?_))
    (((refine Zq ?_)); (refine q_eqlD (by exact rfl) (by exact rfl) (fun c1 => ?_) (fun c1 => ?_)))
    · ((refine Seq.done ?_; refine Zc ?_; refine Wp.seq ?_; refine Wp.region ?_; refine Zq ?_; refine Za ?_; refine Seq.done ?_; refine Wp.ret ?_; refine blkR ?_; refine thenR ?_; refine loopR ?_; refine blkR ?_; refine thenR ?_))
      (exact ret1 rfl rfl (by repeat (first | exact List.Sublist.refl _ | exact List.nil_sublist _ | refine List.Sublist.cons_cons _ ?_ | refine List.Sublist.cons _ ?_)) (bool_true (by subst c1; exact List.mem_of_getElem? hx)))
    · ((refine Seq.done ?_; refine Zd ?_; refine Wp.skip ?_; refine blkN ?_; refine thenN ?_; refine Wp.region ?_; refine Zq ?_; refine Zm ?_; refine Zq ?_; refine q_add (by exact rfl) (by exact rfl) (wrap_in (by omega)) ?_; refine Zq ?_; refine Za ?_; refine Seq.end_ ?_))
      (exact loopN ⟨k + 1, by omega, rfl, rfl, rfl, rfl, (all_next hh hx c1)⟩ (by omega) (by repeat (first | exact trivial | refine ⟨by exact rfl, ?_⟩)) (by repeat (first | exact List.Sublist.refl _ | exact List.nil_sublist _ | refine List.Sublist.cons_cons _ ?_ | refine List.Sublist.cons _ ?_)))
  · ((refine Seq.done ?_; refine Zd ?_; refine Wp.exit ?_; refine thenX ?_; refine loopX ?_; refine blkX (by exact rfl) ?_; refine thenN ?_; refine Wp.seq ?_; refine Wp.region ?_; refine Zq ?_; refine Za ?_; refine Seq.done ?_; refine Wp.ret ?_))
    (exact ret1 rfl rfl (by repeat (first | exact List.Sublist.refl _ | exact List.nil_sublist _ | refine List.Sublist.cons_cons _ ?_ | refine List.Sublist.cons _ ?_)) (bool_false (fun hc => all_of hh (by omega) m hc rfl)))
end Go.Proofs.YtegmololhnipiaaGreatDoor
namespace Go.Proofs.YtegmololhnipiaaGreatDoor
open Go.Lx Go.Gr Go.RowKit
attribute [local instance 10] Classical.propDecidable
abbrev eV (e : GExpr) (v : Value) : Value := .agg #[.string e.op, .int .i64 e.n, v]
theorem right_number {m : Int} {e : GExpr} (h : e.op = kNumber) : RightP m e ↔ e.kids = [] ∧ -maxN ≤ e.n ∧ e.n ≤ maxN := by
  constructor
  · intro hr
    cases hr with
    | number _ h2 h3 h4 => exact ⟨h2, h3, h4⟩
    | fluent h1 _ _ _ => rw [h] at h1; exact absurd h1 (bytes_ne (by decide))
    | bin h1 _ _ _ _ => rw [h] at h1; rcases h1 with h1 | h1 | h1 <;> exact absurd h1 (bytes_ne (by decide))
  · rintro ⟨h2, h3, h4⟩; exact .number h h2 h3 h4
theorem right_fluent {m : Int} {e : GExpr} (h : e.op = kFluent) : RightP m e ↔ e.kids = [] ∧ 0 ≤ e.n ∧ e.n < m := by
  constructor
  · intro hr
    cases hr with
    | number h1 _ _ _ => rw [h] at h1; exact absurd h1 (bytes_ne (by decide))
    | fluent _ h2 h3 h4 => exact ⟨h2, h3, h4⟩
    | bin h1 _ _ _ _ => rw [h] at h1; rcases h1 with h1 | h1 | h1 <;> exact absurd h1 (bytes_ne (by decide))
  · rintro ⟨h2, h3, h4⟩; exact .fluent h h2 h3 h4
theorem right_bin {m : Int} {e : GExpr} (h : e.op = kPlus ∨ e.op = kMinus ∨ e.op = kTimes) : RightP m e ↔ e.n = 0 ∧ ∃ a b, e.kids = [a, b] ∧ RightP m a ∧ RightP m b := by
  constructor
  · intro hr
    cases hr with
    | number h1 _ _ _ => rw [h1] at h; rcases h with h | h | h <;> exact absurd h (bytes_ne (by decide))
    | fluent h1 _ _ _ => rw [h1] at h; rcases h with h | h | h <;> exact absurd h (bytes_ne (by decide))
    | bin _ h2 h3 h4 h5 => exact ⟨h2, _, _, h3, h4, h5⟩
  · rintro ⟨h2, a, b, h3, h4, h5⟩; exact .bin h h2 h3 h4 h5
theorem right_two {m : Int} {e a b : GExpr} (h : e.op = kPlus ∨ e.op = kMinus ∨ e.op = kTimes) (h0 : e.n = 0) (hk : e.kids = [a, b]) : RightP m e ↔ RightP m a ∧ RightP m b := by
  rw [right_bin h]
  constructor
  · rintro ⟨_, a', b', h1, h2⟩
    rw [hk] at h1; injection h1 with e1 e2; injection e2 with e2; subst e1 e2; exact h2
  · intro h2; exact ⟨h0, a, b, hk, h2⟩
theorem right_none {m : Int} {e : GExpr} (h1 : ¬ e.op = kNumber) (h2 : ¬ e.op = kFluent) (h3 : ¬ e.op = kPlus) (h4 : ¬ e.op = kMinus) (h5 : ¬ e.op = kTimes) : ¬ RightP m e := by
  intro hr
  cases hr with
  | number h _ _ _ => exact h1 h
  | fluent h _ _ _ => exact h2 h
  | bin h _ _ _ _ => rcases h with h | h | h <;> contradiction
theorem two_of {α : Type} : ∀ {l : List α}, l.length = 2 → ∃ a b, l = [a, b]
  | [a, b], _ => ⟨a, b, rfl⟩
theorem nil_of {α : Type} {l : List α} (h : l.length = 0) : l = [] := List.length_eq_zero_iff.1 h
theorem right_aux : ∀ (s : Nat) {fz : FZ} {e : GExpr} {v : Value} {m : Int}, SizeOf.sizeOf e ≤ s → GExprR fz e v →
    QFn Tryz.prog 55 [eV e v, .int .i64 m] fz (.bool (decide (RightP m e)))
  | 0, _, e, _, _, hs, _ => by cases e; simp at hs
  | s + 1, fz, e, v, m, hs, h => by
    obtain ⟨A, n, c, rfl, hk⟩ := h.kids
    have l1 := hk.len
    refine GFn.quiet ?_
    (refine GFn.of_wp Tryz.func55 rfl Tryz.ntmps55 rfl rfl (fun w0 => ?_))
    ((refine Wp.seq ?_; refine Wp.region ?_; refine Seq.stepK (by exact rfl) (k_box _ (by exact rfl) (by exact rfl) (fun _ => ?_)); refine Zq ?_; refine Za ?_; refine Seq.done ?_; refine Wp.seq ?_; refine Wp.seq ?_; refine Wp.region ?_; refine Zq ?_; refine Zf T ?_; refine Zq ?_; refine Zl T 0 ?_; refine Seq.done ?_; refine Wp.block ?_; refine Wp.seq ?_; refine Wp.region ?_))
    (((refine Zq ?_)); (refine q_eql_strD (by exact rfl) (by exact rfl) (fun e1 => ?_) (fun x1 => ?_)))
    · ((refine Zq ?_; refine Za ?_; refine Seq.done ?_; refine Zc ?_; refine Wp.seq ?_; refine Wp.region ?_; refine Zq ?_; refine Zf T ?_; refine Zq ?_; refine Zl T 0 ?_; refine Zq ?_; refine q_len_slice T (by exact rfl) (by exact rfl) (by exact rfl) ?_))
      (((refine Zq ?_)); (refine q_eqlD (by exact rfl) (by exact rfl) (fun c1 => ?_) (fun c1 => ?_)))
      · have hn : e.kids = [] := nil_of (by omega)
        ((refine Zq ?_; refine Zm ?_; refine Zy ?_; refine Zf T ?_; refine Zy ?_; refine Zl T 0 ?_))
        (((refine Zy ?_)); (refine q_geqD (by exact rfl) (by exact rfl) (fun c2 => ?_) (fun c2 => ?_)))
        · ((refine Zq ?_; refine Zt ?_; refine Zq ?_; refine Zm ?_; refine Zy ?_; refine Zf T ?_; refine Zy ?_; refine Zl T 0 ?_))
          (((refine Zy ?_)); (refine q_leqD (by exact rfl) (by exact rfl) (fun c3 => ?_) (fun c3 => ?_)))
          · ((refine Zq ?_; refine Zt ?_; refine Zq ?_; refine Za ?_; refine Seq.done ?_; refine Wp.ret ?_; refine blkR ?_; refine thenR ?_))
            (exact ret1 rfl rfl (by repeat (first | exact List.Sublist.refl _ | exact List.nil_sublist _ | refine List.Sublist.cons_cons _ ?_ | refine List.Sublist.cons _ ?_)) (bool_true ((right_number e1).2 ⟨hn, c2, c3⟩)))
          · ((refine Zq ?_; refine Zt ?_; refine Zq ?_; refine Za ?_; refine Seq.done ?_; refine Wp.ret ?_; refine blkR ?_; refine thenR ?_))
            (exact ret1 rfl rfl (by repeat (first | exact List.Sublist.refl _ | exact List.nil_sublist _ | refine List.Sublist.cons_cons _ ?_ | refine List.Sublist.cons _ ?_)) (bool_false (fun hc => c3 ((right_number e1).1 hc).2.2)))
        · ((refine Zq ?_; refine Zt ?_; refine Zq ?_; refine Zm ?_; refine Zn ?_; refine Zn ?_; refine Zn ?_; refine Zq ?_; refine Zu ?_; refine Zq ?_; refine Za ?_; refine Seq.done ?_; refine Wp.ret ?_; refine blkR ?_; refine thenR ?_))
          (exact ret1 rfl rfl (by repeat (first | exact List.Sublist.refl _ | exact List.nil_sublist _ | refine List.Sublist.cons_cons _ ?_ | refine List.Sublist.cons _ ?_)) (bool_false (fun hc => c2 ((right_number e1).1 hc).2.1)))
      · ((refine Zq ?_; refine Zm ?_; refine Zn ?_; refine Zn ?_; refine Zn ?_; refine Zq ?_; refine Zu ?_; refine Zq ?_; refine Zm ?_; refine Zn ?_; refine Zn ?_; refine Zn ?_; refine Zq ?_; refine Zu ?_; refine Zq ?_; refine Za ?_; refine Seq.done ?_; refine Wp.ret ?_; refine blkR ?_; refine thenR ?_))
        (exact ret1 rfl rfl (by repeat (first | exact List.Sublist.refl _ | exact List.nil_sublist _ | refine List.Sublist.cons_cons _ ?_ | refine List.Sublist.cons _ ?_)) (bool_false (fun hc => by have := ((right_number e1).1 hc).1; rw [this] at l1; simp at l1; omega)))
    · ((refine Zq ?_; refine Za ?_; refine Seq.done ?_; refine Zd ?_; refine Wp.seq ?_; refine Wp.region ?_))
      (((refine Zq ?_)); (refine q_eql_strD (by exact rfl) (by exact rfl) (fun e2 => ?_) (fun x2 => ?_)))
      · ((refine Zq ?_; refine Za ?_; refine Seq.done ?_; refine Zc ?_; refine Wp.seq ?_; refine Wp.region ?_; refine Zq ?_; refine Zf T ?_; refine Zq ?_; refine Zl T 0 ?_; refine Zq ?_; refine q_len_slice T (by exact rfl) (by exact rfl) (by exact rfl) ?_))
        (((refine Zq ?_)); (refine q_eqlD (by exact rfl) (by exact rfl) (fun c1 => ?_) (fun c1 => ?_)))
        · have hn : e.kids = [] := nil_of (by omega)
          ((refine Zq ?_; refine Zm ?_; refine Zy ?_; refine Zf T ?_; refine Zy ?_; refine Zl T 0 ?_))
          (((refine Zy ?_)); (refine q_geqD (by exact rfl) (by exact rfl) (fun c2 => ?_) (fun c2 => ?_)))
          · ((refine Zq ?_; refine Zt ?_; refine Zq ?_; refine Zm ?_; refine Zy ?_; refine Zf T ?_; refine Zy ?_; refine Zl T 0 ?_; refine Zy ?_; refine Zm ?_))
            (((refine Zy ?_)); (refine q_lssD (by exact rfl) (by exact rfl) (fun c3 => ?_) (fun c3 => ?_)))
            · ((refine Zq ?_; refine Zt ?_; refine Zq ?_; refine Za ?_; refine Seq.done ?_; refine Wp.ret ?_; refine blkR ?_; refine thenR ?_))
              (exact ret1 rfl rfl (by repeat (first | exact List.Sublist.refl _ | exact List.nil_sublist _ | refine List.Sublist.cons_cons _ ?_ | refine List.Sublist.cons _ ?_)) (bool_true ((right_fluent e2).2 ⟨hn, c2, c3⟩)))
            · ((refine Zq ?_; refine Zt ?_; refine Zq ?_; refine Za ?_; refine Seq.done ?_; refine Wp.ret ?_; refine blkR ?_; refine thenR ?_))
              (exact ret1 rfl rfl (by repeat (first | exact List.Sublist.refl _ | exact List.nil_sublist _ | refine List.Sublist.cons_cons _ ?_ | refine List.Sublist.cons _ ?_)) (bool_false (fun hc => by have := (right_fluent e2).1 hc; omega)))
          · ((refine Zq ?_; refine Zt ?_; refine Zq ?_; refine Zm ?_; refine Zn ?_; refine Zn ?_; refine Zn ?_; refine Zn ?_; refine Zq ?_; refine Zu ?_; refine Zq ?_; refine Za ?_; refine Seq.done ?_; refine Wp.ret ?_; refine blkR ?_; refine thenR ?_))
            (exact ret1 rfl rfl (by repeat (first | exact List.Sublist.refl _ | exact List.nil_sublist _ | refine List.Sublist.cons_cons _ ?_ | refine List.Sublist.cons _ ?_)) (bool_false (fun hc => by have := (right_fluent e2).1 hc; omega)))
        · ((refine Zq ?_; refine Zm ?_; refine Zn ?_; refine Zn ?_; refine Zn ?_; refine Zq ?_; refine Zu ?_; refine Zq ?_; refine Zm ?_; refine Zn ?_; refine Zn ?_; refine Zn ?_; refine Zn ?_; refine Zq ?_; refine Zu ?_; refine Zq ?_; refine Za ?_; refine Seq.done ?_; refine Wp.ret ?_; refine blkR ?_; refine thenR ?_))
          (exact ret1 rfl rfl (by repeat (first | exact List.Sublist.refl _ | exact List.nil_sublist _ | refine List.Sublist.cons_cons _ ?_ | refine List.Sublist.cons _ ?_)) (bool_false (fun hc => by have := ((right_fluent e2).1 hc).1; rw [this] at l1; simp at l1; omega)))
      · ((refine Zq ?_; refine Za ?_; refine Seq.done ?_; refine Zd ?_; refine Wp.seq ?_; refine Wp.seq ?_; refine Wp.region ?_))
        (((refine Zq ?_)); (refine q_eql_strD (by exact rfl) (by exact rfl) (fun e3 => ?_) (fun x3 => ?_)))
        rotate_left
        ((refine Zq ?_; refine Za ?_; refine Seq.done ?_; refine Zd ?_; refine Wp.seq ?_; refine Wp.region ?_))
        (((refine Zq ?_)); (refine q_eql_strD (by exact rfl) (by exact rfl) (fun e4 => ?_) (fun x4 => ?_)))
        rotate_left
        ((refine Zq ?_; refine Za ?_; refine Seq.done ?_; refine Zd ?_; refine Wp.region ?_))
        (((refine Zq ?_)); (refine q_eql_strD (by exact rfl) (by exact rfl) (fun e5 => ?_) (fun x5 => ?_)))
        rotate_left
        ((refine Zq ?_; refine Za ?_; refine Seq.done ?_; refine Zd ?_; refine Wp.skip ?_; refine blkN ?_; refine thenN ?_; refine Wp.seq ?_; refine Wp.region ?_; refine Zq ?_; refine Za ?_; refine Seq.done ?_; refine Wp.ret ?_))
        (exact ret1 rfl rfl (by repeat (first | exact List.Sublist.refl _ | exact List.nil_sublist _ | refine List.Sublist.cons_cons _ ?_ | refine List.Sublist.cons _ ?_)) (bool_false (right_none x1 x2 x3 x4 x5)))
        · have hb : e.op = kPlus ∨ e.op = kMinus ∨ e.op = kTimes := by
            first
            | exact .inl e3
            | exact .inr (.inl e4)
            | exact .inr (.inr e5)
          ((refine Zq ?_; refine Za ?_; refine Seq.done ?_; refine Zc ?_; refine Wp.skip ?_; refine thenN ?_; refine Zc ?_; refine Wp.seq ?_; refine Wp.region ?_; refine Zq ?_; refine Zf T ?_; refine Zq ?_; refine Zl T 0 ?_))
          (((refine Zq ?_)); (refine q_eqlD (by exact rfl) (by exact rfl) (fun d1 => ?_) (fun d1 => ?_)))
          · ((refine Zq ?_; refine Zm ?_; refine Zy ?_; refine Zf T ?_; refine Zy ?_; refine Zl T 0 ?_; refine Zy ?_; refine q_len_slice T (by exact rfl) (by exact rfl) (by exact rfl) ?_))
            (((refine Zy ?_)); (refine q_eqlD (by exact rfl) (by exact rfl) (fun d2 => ?_) (fun d2 => ?_)))
            · obtain ⟨a, b, hab⟩ := two_of (l := e.kids) (by omega)
              have sa := GExpr.kids_lt (x := e) (k := a) (by rw [hab]; simp)
              have sb := GExpr.kids_lt (x := e) (k := b) (by rw [hab]; simp)
              ((refine Zq ?_; refine Zt ?_; refine Zq ?_; refine Zm ?_; refine Zy ?_; refine Zf T ?_; refine Zy ?_; refine Zl T 0 ?_))
              (((refine Zy ?_)); refine q_index T 0 (by exact rfl) (by exact rfl) (by exact rfl) (by exact rfl) (by exact rfl) (by exact rfl) hk (by first | rfl | omega) (by rw [hab]; rfl : e.kids[0]? = some a) (fun p hp => ?_))
              (((refine Zy ?_)); refine q_load_at T (by exact rfl) (by exact rfl) (by exact rfl) hp (by exact rfl) ?_)
              intro cs hcs
              obtain ⟨va, rfl, ha⟩ := gExprL_open hcs
              ((refine Zy ?_; refine Zm ?_))
              (((refine Zy ?_)); refine q_callB (by exact rfl) (by exact rfl) (right_aux s (e := a) (m := m) (by omega) ha) (fun f1 => ?_) (fun f1 => ?_))
              · ((refine Zq ?_; refine Zt ?_; refine Zq ?_; refine Zm ?_; refine Zy ?_; refine Zf T ?_; refine Zy ?_; refine Zl T 0 ?_))
                (((refine Zy ?_)); refine q_index T 1 (by exact rfl) (by exact rfl) (by exact rfl) (by exact rfl) (by exact rfl) (by exact rfl) hk (by first | rfl | omega) (by rw [hab]; rfl : e.kids[1]? = some b) (fun p2 hp2 => ?_))
                (((refine Zy ?_)); refine q_load_at T (by exact rfl) (by exact rfl) (by exact rfl) hp2 (by exact rfl) ?_)
                intro cs2 hcs2
                obtain ⟨vb, rfl, hb2⟩ := gExprL_open hcs2
                ((refine Zy ?_; refine Zm ?_))
                (((refine Zy ?_)); refine q_call (by exact rfl) (by exact rfl) (right_aux s (e := b) (m := m) (by omega) hb2) ?_)
                ((refine Zq ?_; refine Zt ?_; refine Zq ?_; refine Za ?_; refine Seq.done ?_; refine Wp.ret ?_; refine blkR ?_; refine thenR ?_))
                (exact ret1 rfl rfl (by repeat (first | exact List.Sublist.refl _ | exact List.nil_sublist _ | refine List.Sublist.cons_cons _ ?_ | refine List.Sublist.cons _ ?_)) (bool_same (by rw [right_two hb d1 hab]; exact (and_iff_right (of_decide_eq_true f1)).symm)))
              · ((refine Zq ?_; refine Zt ?_; refine Zq ?_; refine Zm ?_; refine Zn ?_; refine Zn ?_; refine Zn ?_; refine Zn ?_; refine Zn ?_; refine Zn ?_; refine Zq ?_; refine Zu ?_; refine Zq ?_; refine Za ?_; refine Seq.done ?_; refine Wp.ret ?_; refine blkR ?_; refine thenR ?_))
                (exact ret1 rfl rfl (by repeat (first | exact List.Sublist.refl _ | exact List.nil_sublist _ | refine List.Sublist.cons_cons _ ?_ | refine List.Sublist.cons _ ?_)) (bool_false (fun hc => of_decide_eq_false f1 ((right_two hb d1 hab).1 hc).1)))
            · ((refine Zq ?_; refine Zt ?_; refine Zq ?_; refine Zm ?_; refine Zn ?_; refine Zn ?_; refine Zn ?_; refine Zn ?_; refine Zn ?_; refine Zn ?_; refine Zq ?_; refine Zu ?_; refine Zq ?_; refine Zm ?_; refine Zn ?_; refine Zn ?_; refine Zn ?_; refine Zn ?_; refine Zn ?_; refine Zn ?_; refine Zq ?_; refine Zu ?_; refine Zq ?_; refine Za ?_; refine Seq.done ?_; refine Wp.ret ?_; refine blkR ?_; refine thenR ?_))
              (exact ret1 rfl rfl (by repeat (first | exact List.Sublist.refl _ | exact List.nil_sublist _ | refine List.Sublist.cons_cons _ ?_ | refine List.Sublist.cons _ ?_)) (bool_false (fun hc => by obtain ⟨_, a, b, h1, _⟩ := (right_bin hb).1 hc; rw [h1] at l1; simp at l1; omega)))
          · ((refine Zq ?_; refine Zm ?_; refine Zn ?_; refine Zn ?_; refine Zn ?_; refine Zn ?_; refine Zq ?_; refine Zu ?_; refine Zq ?_; refine Zm ?_; refine Zn ?_; refine Zn ?_; refine Zn ?_; refine Zn ?_; refine Zn ?_; refine Zn ?_; refine Zq ?_; refine Zu ?_; refine Zq ?_; refine Zm ?_; refine Zn ?_; refine Zn ?_; refine Zn ?_; refine Zn ?_; refine Zn ?_; refine Zn ?_; refine Zq ?_; refine Zu ?_; refine Zq ?_; refine Za ?_; refine Seq.done ?_; refine Wp.ret ?_; refine blkR ?_; refine thenR ?_))
            (exact ret1 rfl rfl (by repeat (first | exact List.Sublist.refl _ | exact List.nil_sublist _ | refine List.Sublist.cons_cons _ ?_ | refine List.Sublist.cons _ ?_)) (bool_false (fun hc => d1 ((right_bin hb).1 hc).1)))
        · have hb : e.op = kPlus ∨ e.op = kMinus ∨ e.op = kTimes := by
            first
            | exact .inl e3
            | exact .inr (.inl e4)
            | exact .inr (.inr e5)
          ((refine Zq ?_; refine Za ?_; refine Seq.done ?_; refine Zc ?_; refine Wp.skip ?_; refine thenN ?_; refine Zc ?_; refine Wp.seq ?_; refine Wp.region ?_; refine Zq ?_; refine Zf T ?_; refine Zq ?_; refine Zl T 0 ?_))
          (((refine Zq ?_)); (refine q_eqlD (by exact rfl) (by exact rfl) (fun d1 => ?_) (fun d1 => ?_)))
          · ((refine Zq ?_; refine Zm ?_; refine Zy ?_; refine Zf T ?_; refine Zy ?_; refine Zl T 0 ?_; refine Zy ?_; refine q_len_slice T (by exact rfl) (by exact rfl) (by exact rfl) ?_))
            (((refine Zy ?_)); (refine q_eqlD (by exact rfl) (by exact rfl) (fun d2 => ?_) (fun d2 => ?_)))
            · obtain ⟨a, b, hab⟩ := two_of (l := e.kids) (by omega)
              have sa := GExpr.kids_lt (x := e) (k := a) (by rw [hab]; simp)
              have sb := GExpr.kids_lt (x := e) (k := b) (by rw [hab]; simp)
              ((refine Zq ?_; refine Zt ?_; refine Zq ?_; refine Zm ?_; refine Zy ?_; refine Zf T ?_; refine Zy ?_; refine Zl T 0 ?_))
              (((refine Zy ?_)); refine q_index T 0 (by exact rfl) (by exact rfl) (by exact rfl) (by exact rfl) (by exact rfl) (by exact rfl) hk (by first | rfl | omega) (by rw [hab]; rfl : e.kids[0]? = some a) (fun p hp => ?_))
              (((refine Zy ?_)); refine q_load_at T (by exact rfl) (by exact rfl) (by exact rfl) hp (by exact rfl) ?_)
              intro cs hcs
              obtain ⟨va, rfl, ha⟩ := gExprL_open hcs
              ((refine Zy ?_; refine Zm ?_))
              (((refine Zy ?_)); refine q_callB (by exact rfl) (by exact rfl) (right_aux s (e := a) (m := m) (by omega) ha) (fun f1 => ?_) (fun f1 => ?_))
              · ((refine Zq ?_; refine Zt ?_; refine Zq ?_; refine Zm ?_; refine Zy ?_; refine Zf T ?_; refine Zy ?_; refine Zl T 0 ?_))
                (((refine Zy ?_)); refine q_index T 1 (by exact rfl) (by exact rfl) (by exact rfl) (by exact rfl) (by exact rfl) (by exact rfl) hk (by first | rfl | omega) (by rw [hab]; rfl : e.kids[1]? = some b) (fun p2 hp2 => ?_))
                (((refine Zy ?_)); refine q_load_at T (by exact rfl) (by exact rfl) (by exact rfl) hp2 (by exact rfl) ?_)
                intro cs2 hcs2
                obtain ⟨vb, rfl, hb2⟩ := gExprL_open hcs2
                ((refine Zy ?_; refine Zm ?_))
                (((refine Zy ?_)); refine q_call (by exact rfl) (by exact rfl) (right_aux s (e := b) (m := m) (by omega) hb2) ?_)
                ((refine Zq ?_; refine Zt ?_; refine Zq ?_; refine Za ?_; refine Seq.done ?_; refine Wp.ret ?_; refine blkR ?_; refine thenR ?_))
                (exact ret1 rfl rfl (by repeat (first | exact List.Sublist.refl _ | exact List.nil_sublist _ | refine List.Sublist.cons_cons _ ?_ | refine List.Sublist.cons _ ?_)) (bool_same (by rw [right_two hb d1 hab]; exact (and_iff_right (of_decide_eq_true f1)).symm)))
              · ((refine Zq ?_; refine Zt ?_; refine Zq ?_; refine Zm ?_; refine Zn ?_; refine Zn ?_; refine Zn ?_; refine Zn ?_; refine Zn ?_; refine Zn ?_; refine Zq ?_; refine Zu ?_; refine Zq ?_; refine Za ?_; refine Seq.done ?_; refine Wp.ret ?_; refine blkR ?_; refine thenR ?_))
                (exact ret1 rfl rfl (by repeat (first | exact List.Sublist.refl _ | exact List.nil_sublist _ | refine List.Sublist.cons_cons _ ?_ | refine List.Sublist.cons _ ?_)) (bool_false (fun hc => of_decide_eq_false f1 ((right_two hb d1 hab).1 hc).1)))
            · ((refine Zq ?_; refine Zt ?_; refine Zq ?_; refine Zm ?_; refine Zn ?_; refine Zn ?_; refine Zn ?_; refine Zn ?_; refine Zn ?_; refine Zn ?_; refine Zq ?_; refine Zu ?_; refine Zq ?_; refine Zm ?_; refine Zn ?_; refine Zn ?_; refine Zn ?_; refine Zn ?_; refine Zn ?_; refine Zn ?_; refine Zq ?_; refine Zu ?_; refine Zq ?_; refine Za ?_; refine Seq.done ?_; refine Wp.ret ?_; refine blkR ?_; refine thenR ?_))
              (exact ret1 rfl rfl (by repeat (first | exact List.Sublist.refl _ | exact List.nil_sublist _ | refine List.Sublist.cons_cons _ ?_ | refine List.Sublist.cons _ ?_)) (bool_false (fun hc => by obtain ⟨_, a, b, h1, _⟩ := (right_bin hb).1 hc; rw [h1] at l1; simp at l1; omega)))
          · ((refine Zq ?_; refine Zm ?_; refine Zn ?_; refine Zn ?_; refine Zn ?_; refine Zn ?_; refine Zq ?_; refine Zu ?_; refine Zq ?_; refine Zm ?_; refine Zn ?_; refine Zn ?_; refine Zn ?_; refine Zn ?_; refine Zn ?_; refine Zn ?_; refine Zq ?_; refine Zu ?_; refine Zq ?_; refine Zm ?_; refine Zn ?_; refine Zn ?_; refine Zn ?_; refine Zn ?_; refine Zn ?_; refine Zn ?_; refine Zq ?_; refine Zu ?_; refine Zq ?_; refine Za ?_; refine Seq.done ?_; refine Wp.ret ?_; refine blkR ?_; refine thenR ?_))
            (exact ret1 rfl rfl (by repeat (first | exact List.Sublist.refl _ | exact List.nil_sublist _ | refine List.Sublist.cons_cons _ ?_ | refine List.Sublist.cons _ ?_)) (bool_false (fun hc => d1 ((right_bin hb).1 hc).1)))
        · have hb : e.op = kPlus ∨ e.op = kMinus ∨ e.op = kTimes := by
            first
            | exact .inl e3
            | exact .inr (.inl e4)
            | exact .inr (.inr e5)
          ((refine Zq ?_; refine Za ?_; refine Seq.done ?_; refine Zc ?_; refine Wp.seq ?_; refine Wp.region ?_; refine Zq ?_; refine Zf T ?_; refine Zq ?_; refine Zl T 0 ?_))
          (((refine Zq ?_)); (refine q_eqlD (by exact rfl) (by exact rfl) (fun d1 => ?_) (fun d1 => ?_)))
          · ((refine Zq ?_; refine Zm ?_; refine Zy ?_; refine Zf T ?_; refine Zy ?_; refine Zl T 0 ?_; refine Zy ?_; refine q_len_slice T (by exact rfl) (by exact rfl) (by exact rfl) ?_))
            (((refine Zy ?_)); (refine q_eqlD (by exact rfl) (by exact rfl) (fun d2 => ?_) (fun d2 => ?_)))
            · obtain ⟨a, b, hab⟩ := two_of (l := e.kids) (by omega)
              have sa := GExpr.kids_lt (x := e) (k := a) (by rw [hab]; simp)
              have sb := GExpr.kids_lt (x := e) (k := b) (by rw [hab]; simp)
              ((refine Zq ?_; refine Zt ?_; refine Zq ?_; refine Zm ?_; refine Zy ?_; refine Zf T ?_; refine Zy ?_; refine Zl T 0 ?_))
              (((refine Zy ?_)); refine q_index T 0 (by exact rfl) (by exact rfl) (by exact rfl) (by exact rfl) (by exact rfl) (by exact rfl) hk (by first | rfl | omega) (by rw [hab]; rfl : e.kids[0]? = some a) (fun p hp => ?_))
              (((refine Zy ?_)); refine q_load_at T (by exact rfl) (by exact rfl) (by exact rfl) hp (by exact rfl) ?_)
              intro cs hcs
              obtain ⟨va, rfl, ha⟩ := gExprL_open hcs
              ((refine Zy ?_; refine Zm ?_))
              (((refine Zy ?_)); refine q_callB (by exact rfl) (by exact rfl) (right_aux s (e := a) (m := m) (by omega) ha) (fun f1 => ?_) (fun f1 => ?_))
              · ((refine Zq ?_; refine Zt ?_; refine Zq ?_; refine Zm ?_; refine Zy ?_; refine Zf T ?_; refine Zy ?_; refine Zl T 0 ?_))
                (((refine Zy ?_)); refine q_index T 1 (by exact rfl) (by exact rfl) (by exact rfl) (by exact rfl) (by exact rfl) (by exact rfl) hk (by first | rfl | omega) (by rw [hab]; rfl : e.kids[1]? = some b) (fun p2 hp2 => ?_))
                (((refine Zy ?_)); refine q_load_at T (by exact rfl) (by exact rfl) (by exact rfl) hp2 (by exact rfl) ?_)
                intro cs2 hcs2
                obtain ⟨vb, rfl, hb2⟩ := gExprL_open hcs2
                ((refine Zy ?_; refine Zm ?_))
                (((refine Zy ?_)); refine q_call (by exact rfl) (by exact rfl) (right_aux s (e := b) (m := m) (by omega) hb2) ?_)
                ((refine Zq ?_; refine Zt ?_; refine Zq ?_; refine Za ?_; refine Seq.done ?_; refine Wp.ret ?_; refine blkR ?_; refine thenR ?_))
                (exact ret1 rfl rfl (by repeat (first | exact List.Sublist.refl _ | exact List.nil_sublist _ | refine List.Sublist.cons_cons _ ?_ | refine List.Sublist.cons _ ?_)) (bool_same (by rw [right_two hb d1 hab]; exact (and_iff_right (of_decide_eq_true f1)).symm)))
              · ((refine Zq ?_; refine Zt ?_; refine Zq ?_; refine Zm ?_; refine Zn ?_; refine Zn ?_; refine Zn ?_; refine Zn ?_; refine Zn ?_; refine Zn ?_; refine Zq ?_; refine Zu ?_; refine Zq ?_; refine Za ?_; refine Seq.done ?_; refine Wp.ret ?_; refine blkR ?_; refine thenR ?_))
                (exact ret1 rfl rfl (by repeat (first | exact List.Sublist.refl _ | exact List.nil_sublist _ | refine List.Sublist.cons_cons _ ?_ | refine List.Sublist.cons _ ?_)) (bool_false (fun hc => of_decide_eq_false f1 ((right_two hb d1 hab).1 hc).1)))
            · ((refine Zq ?_; refine Zt ?_; refine Zq ?_; refine Zm ?_; refine Zn ?_; refine Zn ?_; refine Zn ?_; refine Zn ?_; refine Zn ?_; refine Zn ?_; refine Zq ?_; refine Zu ?_; refine Zq ?_; refine Zm ?_; refine Zn ?_; refine Zn ?_; refine Zn ?_; refine Zn ?_; refine Zn ?_; refine Zn ?_; refine Zq ?_; refine Zu ?_; refine Zq ?_; refine Za ?_; refine Seq.done ?_; refine Wp.ret ?_; refine blkR ?_; refine thenR ?_))
              (exact ret1 rfl rfl (by repeat (first | exact List.Sublist.refl _ | exact List.nil_sublist _ | refine List.Sublist.cons_cons _ ?_ | refine List.Sublist.cons _ ?_)) (bool_false (fun hc => by obtain ⟨_, a, b, h1, _⟩ := (right_bin hb).1 hc; rw [h1] at l1; simp at l1; omega)))
          · ((refine Zq ?_; refine Zm ?_; refine Zn ?_; refine Zn ?_; refine Zn ?_; refine Zn ?_; refine Zq ?_; refine Zu ?_; refine Zq ?_; refine Zm ?_; refine Zn ?_; refine Zn ?_; refine Zn ?_; refine Zn ?_; refine Zn ?_; refine Zn ?_; refine Zq ?_; refine Zu ?_; refine Zq ?_; refine Zm ?_; refine Zn ?_; refine Zn ?_; refine Zn ?_; refine Zn ?_; refine Zn ?_; refine Zn ?_; refine Zq ?_; refine Zu ?_; refine Zq ?_; refine Za ?_; refine Seq.done ?_; refine Wp.ret ?_; refine blkR ?_; refine thenR ?_))
            (exact ret1 rfl rfl (by repeat (first | exact List.Sublist.refl _ | exact List.nil_sublist _ | refine List.Sublist.cons_cons _ ?_ | refine List.Sublist.cons _ ?_)) (bool_false (fun hc => d1 ((right_bin hb).1 hc).1)))
theorem right_q {fz : FZ} {e : GExpr} {v : Value} {m : Int} (h : GExprR fz e v) : QFn Tryz.prog 55 [eV e v, .int .i64 m] fz (.bool (decide (RightP m e))) := right_aux _ (Nat.le_refl _) h
abbrev gV (v1 v2 v3 v4 v5 : Value) : Value := .agg #[v1, v2, v3, v4, v5]
abbrev cV (v1 v2 v3 : Value) : Value := .agg #[v1, v2, v3]
abbrev sV (v1 v2 : Value) : Value := .agg #[v1, v2]
theorem expr_aux : ∀ (s : Nat) {fz : FZ} {g : GTask} {v1 v2 v3 v4 v5 : Value} {e : GExpr} {v : Value}, SizeOf.sizeOf e ≤ s → GTaskR fz g v1 v2 v3 v4 v5 → GExprR fz e v →
    QFn Tryz.prog 28 [gV v1 v2 v3 v4 v5, eV e v] fz (.bool (decide (RightP g.fluents.length e)))
  | 0, _, _, _, _, _, _, _, e, _, hs, _, _ => by cases e; simp at hs
  | s + 1, fz, g, v1, v2, v3, v4, v5, e, v, hs, hg, h => by
    (obtain ⟨A1, n1, cap1, rfl, ga⟩ := hg.atoms; obtain ⟨A2, n2, cap2, rfl, gf⟩ := hg.fluents; obtain ⟨A3, n3, cap3, rfl, gi⟩ := hg.init; obtain ⟨A4, n4, cap4, rfl, gg⟩ := hg.goal; obtain ⟨A5, n5, cap5, rfl, go⟩ := hg.ops; have e1 := ga.len; subst e1; have e2 := gf.len; subst e2)
    obtain ⟨A, n, c, rfl, hk⟩ := h.kids
    have l1 := hk.len
    refine GFn.quiet ?_
    (refine GFn.of_wp Tryz.func28 rfl Tryz.ntmps28 rfl rfl (fun w0 => ?_))
    ((refine Wp.seq ?_; refine Wp.region ?_; refine Seq.stepK (by exact rfl) (k_box _ (by exact rfl) (by exact rfl) (fun _ => ?_)); refine Seq.stepK (by exact rfl) (k_box _ (by exact rfl) (by exact rfl) (fun _ => ?_)); refine Zq ?_; refine Za ?_; refine Seq.done ?_; refine Wp.seq ?_; refine Wp.seq ?_; refine Wp.region ?_; refine Zq ?_; refine Zf T ?_; refine Zq ?_; refine Zl T 0 ?_; refine Seq.done ?_; refine Wp.block ?_; refine Wp.seq ?_; refine Wp.region ?_))
    (((refine Zq ?_)); (refine q_eql_strD (by exact rfl) (by exact rfl) (fun e1 => ?_) (fun x1 => ?_)))
    · ((refine Zq ?_; refine Za ?_; refine Seq.done ?_; refine Zc ?_; refine Wp.seq ?_; refine Wp.region ?_; refine Zq ?_; refine Zf T ?_; refine Zq ?_; refine Zl T 0 ?_))
      (((refine Zq ?_)); (refine q_geqD (by exact rfl) (by exact rfl) (fun c2 => ?_) (fun c2 => ?_)))
      · ((refine Zq ?_; refine Zm ?_; refine Zy ?_; refine Zf T ?_; refine Zy ?_; refine Zl T 0 ?_))
        (((refine Zy ?_)); (refine q_leqD (by exact rfl) (by exact rfl) (fun c3 => ?_) (fun c3 => ?_)))
        · ((refine Zq ?_; refine Zt ?_; refine Zq ?_; refine Zm ?_; refine Zy ?_; refine Zf T ?_; refine Zy ?_; refine Zl T 0 ?_; refine Zy ?_; refine q_len_slice T (by exact rfl) (by exact rfl) (by exact rfl) ?_))
          (((refine Zy ?_)); (refine q_eqlD (by exact rfl) (by exact rfl) (fun c1 => ?_) (fun c1 => ?_)))
          · have hn : e.kids = [] := nil_of (by omega)
            ((refine Zq ?_; refine Zt ?_; refine Zq ?_; refine Za ?_; refine Seq.done ?_; refine Wp.ret ?_; refine blkR ?_; refine thenR ?_))
            (exact ret1 rfl rfl (by repeat (first | exact List.Sublist.refl _ | exact List.nil_sublist _ | refine List.Sublist.cons_cons _ ?_ | refine List.Sublist.cons _ ?_)) (bool_true ((right_number e1).2 ⟨hn, c2, c3⟩)))
          · ((refine Zq ?_; refine Zt ?_; refine Zq ?_; refine Za ?_; refine Seq.done ?_; refine Wp.ret ?_; refine blkR ?_; refine thenR ?_))
            (exact ret1 rfl rfl (by repeat (first | exact List.Sublist.refl _ | exact List.nil_sublist _ | refine List.Sublist.cons_cons _ ?_ | refine List.Sublist.cons _ ?_)) (bool_false (fun hc => by have := ((right_number e1).1 hc).1; rw [this] at l1; simp at l1; omega)))
        · ((refine Zq ?_; refine Zt ?_; refine Zq ?_; refine Zm ?_; refine Zn ?_; refine Zn ?_; refine Zn ?_; refine Zn ?_; refine Zq ?_; refine Zu ?_; refine Zq ?_; refine Za ?_; refine Seq.done ?_; refine Wp.ret ?_; refine blkR ?_; refine thenR ?_))
          (exact ret1 rfl rfl (by repeat (first | exact List.Sublist.refl _ | exact List.nil_sublist _ | refine List.Sublist.cons_cons _ ?_ | refine List.Sublist.cons _ ?_)) (bool_false (fun hc => c3 ((right_number e1).1 hc).2.2)))
      · ((refine Zq ?_; refine Zm ?_; refine Zn ?_; refine Zn ?_; refine Zn ?_; refine Zq ?_; refine Zu ?_; refine Zq ?_; refine Zm ?_; refine Zn ?_; refine Zn ?_; refine Zn ?_; refine Zn ?_; refine Zq ?_; refine Zu ?_; refine Zq ?_; refine Za ?_; refine Seq.done ?_; refine Wp.ret ?_; refine blkR ?_; refine thenR ?_))
        (exact ret1 rfl rfl (by repeat (first | exact List.Sublist.refl _ | exact List.nil_sublist _ | refine List.Sublist.cons_cons _ ?_ | refine List.Sublist.cons _ ?_)) (bool_false (fun hc => c2 ((right_number e1).1 hc).2.1)))
    · ((refine Zq ?_; refine Za ?_; refine Seq.done ?_; refine Zd ?_; refine Wp.seq ?_; refine Wp.region ?_))
      (((refine Zq ?_)); (refine q_eql_strD (by exact rfl) (by exact rfl) (fun e2 => ?_) (fun x2 => ?_)))
      · ((refine Zq ?_; refine Za ?_; refine Seq.done ?_; refine Zc ?_; refine Wp.seq ?_; refine Wp.region ?_; refine Zq ?_; refine Zf T ?_; refine Zq ?_; refine Zl T 0 ?_))
        (((refine Zq ?_)); (refine q_geqD (by exact rfl) (by exact rfl) (fun c2 => ?_) (fun c2 => ?_)))
        · ((refine Zq ?_; refine Zm ?_; refine Zy ?_; refine Zf T ?_; refine Zy ?_; refine Zl T 0 ?_; refine Zy ?_; refine Zf T ?_; refine Zy ?_; refine Zl T 1 ?_; refine Zy ?_; refine q_len_slice T (by exact rfl) (by exact rfl) (by exact rfl) ?_))
          (((refine Zy ?_)); (refine q_lssD (by exact rfl) (by exact rfl) (fun c3 => ?_) (fun c3 => ?_)))
          · ((refine Zq ?_; refine Zt ?_; refine Zq ?_; refine Zm ?_; refine Zy ?_; refine Zf T ?_; refine Zy ?_; refine Zl T 0 ?_; refine Zy ?_; refine q_len_slice T (by exact rfl) (by exact rfl) (by exact rfl) ?_))
            (((refine Zy ?_)); (refine q_eqlD (by exact rfl) (by exact rfl) (fun c1 => ?_) (fun c1 => ?_)))
            · have hn : e.kids = [] := nil_of (by omega)
              ((refine Zq ?_; refine Zt ?_; refine Zq ?_; refine Za ?_; refine Seq.done ?_; refine Wp.ret ?_; refine blkR ?_; refine thenR ?_))
              (exact ret1 rfl rfl (by repeat (first | exact List.Sublist.refl _ | exact List.nil_sublist _ | refine List.Sublist.cons_cons _ ?_ | refine List.Sublist.cons _ ?_)) (bool_true ((right_fluent e2).2 ⟨hn, c2, c3⟩)))
            · ((refine Zq ?_; refine Zt ?_; refine Zq ?_; refine Za ?_; refine Seq.done ?_; refine Wp.ret ?_; refine blkR ?_; refine thenR ?_))
              (exact ret1 rfl rfl (by repeat (first | exact List.Sublist.refl _ | exact List.nil_sublist _ | refine List.Sublist.cons_cons _ ?_ | refine List.Sublist.cons _ ?_)) (bool_false (fun hc => by have := ((right_fluent e2).1 hc).1; rw [this] at l1; simp at l1; omega)))
          · ((refine Zq ?_; refine Zt ?_; refine Zq ?_; refine Zm ?_; refine Zn ?_; refine Zn ?_; refine Zn ?_; refine Zn ?_; refine Zq ?_; refine Zu ?_; refine Zq ?_; refine Za ?_; refine Seq.done ?_; refine Wp.ret ?_; refine blkR ?_; refine thenR ?_))
            (exact ret1 rfl rfl (by repeat (first | exact List.Sublist.refl _ | exact List.nil_sublist _ | refine List.Sublist.cons_cons _ ?_ | refine List.Sublist.cons _ ?_)) (bool_false (fun hc => c3 ((right_fluent e2).1 hc).2.2)))
        · ((refine Zq ?_; refine Zm ?_; refine Zn ?_; refine Zn ?_; refine Zn ?_; refine Zn ?_; refine Zn ?_; refine Zn ?_; refine Zq ?_; refine Zu ?_; refine Zq ?_; refine Zm ?_; refine Zn ?_; refine Zn ?_; refine Zn ?_; refine Zn ?_; refine Zq ?_; refine Zu ?_; refine Zq ?_; refine Za ?_; refine Seq.done ?_; refine Wp.ret ?_; refine blkR ?_; refine thenR ?_))
          (exact ret1 rfl rfl (by repeat (first | exact List.Sublist.refl _ | exact List.nil_sublist _ | refine List.Sublist.cons_cons _ ?_ | refine List.Sublist.cons _ ?_)) (bool_false (fun hc => c2 ((right_fluent e2).1 hc).2.1)))
      · ((refine Zq ?_; refine Za ?_; refine Seq.done ?_; refine Zd ?_; refine Wp.seq ?_; refine Wp.seq ?_; refine Wp.region ?_))
        (((refine Zq ?_)); (refine q_eql_strD (by exact rfl) (by exact rfl) (fun e3 => ?_) (fun x3 => ?_)))
        rotate_left
        ((refine Zq ?_; refine Za ?_; refine Seq.done ?_; refine Zd ?_; refine Wp.seq ?_; refine Wp.region ?_))
        (((refine Zq ?_)); (refine q_eql_strD (by exact rfl) (by exact rfl) (fun e4 => ?_) (fun x4 => ?_)))
        rotate_left
        ((refine Zq ?_; refine Za ?_; refine Seq.done ?_; refine Zd ?_; refine Wp.region ?_))
        (((refine Zq ?_)); (refine q_eql_strD (by exact rfl) (by exact rfl) (fun e5 => ?_) (fun x5 => ?_)))
        rotate_left
        ((refine Zq ?_; refine Za ?_; refine Seq.done ?_; refine Zd ?_; refine Wp.skip ?_; refine blkN ?_; refine thenN ?_; refine Wp.seq ?_; refine Wp.region ?_; refine Zq ?_; refine Za ?_; refine Seq.done ?_; refine Wp.ret ?_))
        (exact ret1 rfl rfl (by repeat (first | exact List.Sublist.refl _ | exact List.nil_sublist _ | refine List.Sublist.cons_cons _ ?_ | refine List.Sublist.cons _ ?_)) (bool_false (right_none x1 x2 x3 x4 x5)))
        · have hb : e.op = kPlus ∨ e.op = kMinus ∨ e.op = kTimes := by
            first
            | exact .inl e3
            | exact .inr (.inl e4)
            | exact .inr (.inr e5)
          ((refine Zq ?_; refine Za ?_; refine Seq.done ?_; refine Zc ?_; refine Wp.skip ?_; refine thenN ?_; refine Zc ?_; refine Wp.seq ?_; refine Wp.draw (by decide +kernel) T.mixed (by kernel_rfl) (by kernel_rfl) ?_; refine QL.q ?_; refine Zf T ?_; refine QL.q ?_; refine Zl T 0 ?_))
          (((refine QL.q ?_)); (refine q_eqlD (by exact rfl) (by exact rfl) (fun d1 => ?_) (fun d1 => ?_)))
          · ((refine QL.q ?_; refine Zm ?_; refine QL.yes (by exact rfl) ?_; refine Zf T ?_; refine QL.yes (by exact rfl) ?_; refine Zl T 0 ?_; refine QL.yes (by exact rfl) ?_; refine q_len_slice T (by exact rfl) (by exact rfl) (by exact rfl) ?_))
            (((refine QL.yes (by exact rfl) ?_)); (refine q_eqlD (by exact rfl) (by exact rfl) (fun d2 => ?_) (fun d2 => ?_)))
            · obtain ⟨a, b, hab⟩ := two_of (l := e.kids) (by omega)
              have sa := GExpr.kids_lt (x := e) (k := a) (by rw [hab]; simp)
              have sb := GExpr.kids_lt (x := e) (k := b) (by rw [hab]; simp)
              ((refine QL.q ?_; refine Zt ?_; refine QL.q ?_; refine Zm ?_; refine QL.yes (by exact rfl) ?_; refine ZL T 1 ?_; refine QL.yes (by exact rfl) ?_; refine Zf T ?_; refine QL.yes (by exact rfl) ?_; refine Zl T 0 ?_))
              (((refine QL.yes (by exact rfl) ?_)); refine q_index T 0 (by exact rfl) (by exact rfl) (by exact rfl) (by exact rfl) (by exact rfl) (by exact rfl) hk (by first | rfl | omega) (by rw [hab]; rfl : e.kids[0]? = some a) (fun p hp => ?_))
              (((refine QL.yes (by exact rfl) ?_)); refine q_load_at T (by exact rfl) (by exact rfl) (by exact rfl) hp (by exact rfl) ?_)
              intro cs hcs
              obtain ⟨va, rfl, ha⟩ := gExprL_open hcs
              (skip)
              (((refine QL.yes (by exact rfl) ?_)); refine q_callB (by exact rfl) (by exact rfl) (expr_aux s (e := a) (by omega) hg ha) (fun f1 => ?_) (fun f1 => ?_))
              · ((refine QL.q ?_; refine Zt ?_; refine QL.q ?_; refine Zm ?_; refine QL.yes (by exact rfl) ?_; refine ZL T 1 ?_; refine QL.yes (by exact rfl) ?_; refine Zf T ?_; refine QL.yes (by exact rfl) ?_; refine Zl T 0 ?_))
                (((refine QL.yes (by exact rfl) ?_)); refine q_index T 1 (by exact rfl) (by exact rfl) (by exact rfl) (by exact rfl) (by exact rfl) (by exact rfl) hk (by first | rfl | omega) (by rw [hab]; rfl : e.kids[1]? = some b) (fun p2 hp2 => ?_))
                (((refine QL.yes (by exact rfl) ?_)); refine q_load_at T (by exact rfl) (by exact rfl) (by exact rfl) hp2 (by exact rfl) ?_)
                intro cs2 hcs2
                obtain ⟨vb, rfl, hb2⟩ := gExprL_open hcs2
                (skip)
                (((refine QL.yes (by exact rfl) ?_)); refine q_call (by exact rfl) (by exact rfl) (expr_aux s (e := b) (by omega) hg hb2) ?_)
                ((refine QL.q ?_; refine Zt ?_; refine QL.q ?_; refine Za ?_; refine QL.done ?_; refine thenN ?_; refine Wp.ret ?_; refine blkR ?_; refine thenR ?_))
                (exact ret1 rfl rfl (by repeat (first | exact List.Sublist.refl _ | exact List.nil_sublist _ | refine List.Sublist.cons_cons _ ?_ | refine List.Sublist.cons _ ?_)) (bool_same (by rw [right_two hb d1 hab]; exact (and_iff_right (of_decide_eq_true f1)).symm)))
              · ((refine QL.q ?_; refine Zt ?_; refine QL.q ?_; refine Zm ?_; refine QL.no (by exact rfl) ?_; refine QL.no (by exact rfl) ?_; refine QL.no (by exact rfl) ?_; refine QL.no (by exact rfl) ?_; refine QL.no (by exact rfl) ?_; refine QL.no (by exact rfl) ?_; refine QL.q ?_; refine Zu ?_; refine QL.q ?_; refine Za ?_; refine QL.done ?_; refine thenN ?_; refine Wp.ret ?_; refine blkR ?_; refine thenR ?_))
                (exact ret1 rfl rfl (by repeat (first | exact List.Sublist.refl _ | exact List.nil_sublist _ | refine List.Sublist.cons_cons _ ?_ | refine List.Sublist.cons _ ?_)) (bool_false (fun hc => of_decide_eq_false f1 ((right_two hb d1 hab).1 hc).1)))
            · ((refine QL.q ?_; refine Zt ?_; refine QL.q ?_; refine Zm ?_; refine QL.no (by exact rfl) ?_; refine QL.no (by exact rfl) ?_; refine QL.no (by exact rfl) ?_; refine QL.no (by exact rfl) ?_; refine QL.no (by exact rfl) ?_; refine QL.no (by exact rfl) ?_; refine QL.q ?_; refine Zu ?_; refine QL.q ?_; refine Zm ?_; refine QL.no (by exact rfl) ?_; refine QL.no (by exact rfl) ?_; refine QL.no (by exact rfl) ?_; refine QL.no (by exact rfl) ?_; refine QL.no (by exact rfl) ?_; refine QL.no (by exact rfl) ?_; refine QL.q ?_; refine Zu ?_; refine QL.q ?_; refine Za ?_; refine QL.done ?_; refine thenN ?_; refine Wp.ret ?_; refine blkR ?_; refine thenR ?_))
              (exact ret1 rfl rfl (by repeat (first | exact List.Sublist.refl _ | exact List.nil_sublist _ | refine List.Sublist.cons_cons _ ?_ | refine List.Sublist.cons _ ?_)) (bool_false (fun hc => by obtain ⟨_, a, b, h1, _⟩ := (right_bin hb).1 hc; rw [h1] at l1; simp at l1; omega)))
          · ((refine QL.q ?_; refine Zm ?_; refine QL.no (by exact rfl) ?_; refine QL.no (by exact rfl) ?_; refine QL.no (by exact rfl) ?_; refine QL.no (by exact rfl) ?_; refine QL.q ?_; refine Zu ?_; refine QL.q ?_; refine Zm ?_; refine QL.no (by exact rfl) ?_; refine QL.no (by exact rfl) ?_; refine QL.no (by exact rfl) ?_; refine QL.no (by exact rfl) ?_; refine QL.no (by exact rfl) ?_; refine QL.no (by exact rfl) ?_; refine QL.q ?_; refine Zu ?_; refine QL.q ?_; refine Zm ?_; refine QL.no (by exact rfl) ?_; refine QL.no (by exact rfl) ?_; refine QL.no (by exact rfl) ?_; refine QL.no (by exact rfl) ?_; refine QL.no (by exact rfl) ?_; refine QL.no (by exact rfl) ?_; refine QL.q ?_; refine Zu ?_; refine QL.q ?_; refine Za ?_; refine QL.done ?_; refine thenN ?_; refine Wp.ret ?_; refine blkR ?_; refine thenR ?_))
            (exact ret1 rfl rfl (by repeat (first | exact List.Sublist.refl _ | exact List.nil_sublist _ | refine List.Sublist.cons_cons _ ?_ | refine List.Sublist.cons _ ?_)) (bool_false (fun hc => d1 ((right_bin hb).1 hc).1)))
        · have hb : e.op = kPlus ∨ e.op = kMinus ∨ e.op = kTimes := by
            first
            | exact .inl e3
            | exact .inr (.inl e4)
            | exact .inr (.inr e5)
          ((refine Zq ?_; refine Za ?_; refine Seq.done ?_; refine Zc ?_; refine Wp.skip ?_; refine thenN ?_; refine Zc ?_; refine Wp.seq ?_; refine Wp.draw (by decide +kernel) T.mixed (by kernel_rfl) (by kernel_rfl) ?_; refine QL.q ?_; refine Zf T ?_; refine QL.q ?_; refine Zl T 0 ?_))
          (((refine QL.q ?_)); (refine q_eqlD (by exact rfl) (by exact rfl) (fun d1 => ?_) (fun d1 => ?_)))
          · ((refine QL.q ?_; refine Zm ?_; refine QL.yes (by exact rfl) ?_; refine Zf T ?_; refine QL.yes (by exact rfl) ?_; refine Zl T 0 ?_; refine QL.yes (by exact rfl) ?_; refine q_len_slice T (by exact rfl) (by exact rfl) (by exact rfl) ?_))
            (((refine QL.yes (by exact rfl) ?_)); (refine q_eqlD (by exact rfl) (by exact rfl) (fun d2 => ?_) (fun d2 => ?_)))
            · obtain ⟨a, b, hab⟩ := two_of (l := e.kids) (by omega)
              have sa := GExpr.kids_lt (x := e) (k := a) (by rw [hab]; simp)
              have sb := GExpr.kids_lt (x := e) (k := b) (by rw [hab]; simp)
              ((refine QL.q ?_; refine Zt ?_; refine QL.q ?_; refine Zm ?_; refine QL.yes (by exact rfl) ?_; refine ZL T 1 ?_; refine QL.yes (by exact rfl) ?_; refine Zf T ?_; refine QL.yes (by exact rfl) ?_; refine Zl T 0 ?_))
              (((refine QL.yes (by exact rfl) ?_)); refine q_index T 0 (by exact rfl) (by exact rfl) (by exact rfl) (by exact rfl) (by exact rfl) (by exact rfl) hk (by first | rfl | omega) (by rw [hab]; rfl : e.kids[0]? = some a) (fun p hp => ?_))
              (((refine QL.yes (by exact rfl) ?_)); refine q_load_at T (by exact rfl) (by exact rfl) (by exact rfl) hp (by exact rfl) ?_)
              intro cs hcs
              obtain ⟨va, rfl, ha⟩ := gExprL_open hcs
              (skip)
              (((refine QL.yes (by exact rfl) ?_)); refine q_callB (by exact rfl) (by exact rfl) (expr_aux s (e := a) (by omega) hg ha) (fun f1 => ?_) (fun f1 => ?_))
              · ((refine QL.q ?_; refine Zt ?_; refine QL.q ?_; refine Zm ?_; refine QL.yes (by exact rfl) ?_; refine ZL T 1 ?_; refine QL.yes (by exact rfl) ?_; refine Zf T ?_; refine QL.yes (by exact rfl) ?_; refine Zl T 0 ?_))
                (((refine QL.yes (by exact rfl) ?_)); refine q_index T 1 (by exact rfl) (by exact rfl) (by exact rfl) (by exact rfl) (by exact rfl) (by exact rfl) hk (by first | rfl | omega) (by rw [hab]; rfl : e.kids[1]? = some b) (fun p2 hp2 => ?_))
                (((refine QL.yes (by exact rfl) ?_)); refine q_load_at T (by exact rfl) (by exact rfl) (by exact rfl) hp2 (by exact rfl) ?_)
                intro cs2 hcs2
                obtain ⟨vb, rfl, hb2⟩ := gExprL_open hcs2
                (skip)
                (((refine QL.yes (by exact rfl) ?_)); refine q_call (by exact rfl) (by exact rfl) (expr_aux s (e := b) (by omega) hg hb2) ?_)
                ((refine QL.q ?_; refine Zt ?_; refine QL.q ?_; refine Za ?_; refine QL.done ?_; refine thenN ?_; refine Wp.ret ?_; refine blkR ?_; refine thenR ?_))
                (exact ret1 rfl rfl (by repeat (first | exact List.Sublist.refl _ | exact List.nil_sublist _ | refine List.Sublist.cons_cons _ ?_ | refine List.Sublist.cons _ ?_)) (bool_same (by rw [right_two hb d1 hab]; exact (and_iff_right (of_decide_eq_true f1)).symm)))
              · ((refine QL.q ?_; refine Zt ?_; refine QL.q ?_; refine Zm ?_; refine QL.no (by exact rfl) ?_; refine QL.no (by exact rfl) ?_; refine QL.no (by exact rfl) ?_; refine QL.no (by exact rfl) ?_; refine QL.no (by exact rfl) ?_; refine QL.no (by exact rfl) ?_; refine QL.q ?_; refine Zu ?_; refine QL.q ?_; refine Za ?_; refine QL.done ?_; refine thenN ?_; refine Wp.ret ?_; refine blkR ?_; refine thenR ?_))
                (exact ret1 rfl rfl (by repeat (first | exact List.Sublist.refl _ | exact List.nil_sublist _ | refine List.Sublist.cons_cons _ ?_ | refine List.Sublist.cons _ ?_)) (bool_false (fun hc => of_decide_eq_false f1 ((right_two hb d1 hab).1 hc).1)))
            · ((refine QL.q ?_; refine Zt ?_; refine QL.q ?_; refine Zm ?_; refine QL.no (by exact rfl) ?_; refine QL.no (by exact rfl) ?_; refine QL.no (by exact rfl) ?_; refine QL.no (by exact rfl) ?_; refine QL.no (by exact rfl) ?_; refine QL.no (by exact rfl) ?_; refine QL.q ?_; refine Zu ?_; refine QL.q ?_; refine Zm ?_; refine QL.no (by exact rfl) ?_; refine QL.no (by exact rfl) ?_; refine QL.no (by exact rfl) ?_; refine QL.no (by exact rfl) ?_; refine QL.no (by exact rfl) ?_; refine QL.no (by exact rfl) ?_; refine QL.q ?_; refine Zu ?_; refine QL.q ?_; refine Za ?_; refine QL.done ?_; refine thenN ?_; refine Wp.ret ?_; refine blkR ?_; refine thenR ?_))
              (exact ret1 rfl rfl (by repeat (first | exact List.Sublist.refl _ | exact List.nil_sublist _ | refine List.Sublist.cons_cons _ ?_ | refine List.Sublist.cons _ ?_)) (bool_false (fun hc => by obtain ⟨_, a, b, h1, _⟩ := (right_bin hb).1 hc; rw [h1] at l1; simp at l1; omega)))
          · ((refine QL.q ?_; refine Zm ?_; refine QL.no (by exact rfl) ?_; refine QL.no (by exact rfl) ?_; refine QL.no (by exact rfl) ?_; refine QL.no (by exact rfl) ?_; refine QL.q ?_; refine Zu ?_; refine QL.q ?_; refine Zm ?_; refine QL.no (by exact rfl) ?_; refine QL.no (by exact rfl) ?_; refine QL.no (by exact rfl) ?_; refine QL.no (by exact rfl) ?_; refine QL.no (by exact rfl) ?_; refine QL.no (by exact rfl) ?_; refine QL.q ?_; refine Zu ?_; refine QL.q ?_; refine Zm ?_; refine QL.no (by exact rfl) ?_; refine QL.no (by exact rfl) ?_; refine QL.no (by exact rfl) ?_; refine QL.no (by exact rfl) ?_; refine QL.no (by exact rfl) ?_; refine QL.no (by exact rfl) ?_; refine QL.q ?_; refine Zu ?_; refine QL.q ?_; refine Za ?_; refine QL.done ?_; refine thenN ?_; refine Wp.ret ?_; refine blkR ?_; refine thenR ?_))
            (exact ret1 rfl rfl (by repeat (first | exact List.Sublist.refl _ | exact List.nil_sublist _ | refine List.Sublist.cons_cons _ ?_ | refine List.Sublist.cons _ ?_)) (bool_false (fun hc => d1 ((right_bin hb).1 hc).1)))
        · have hb : e.op = kPlus ∨ e.op = kMinus ∨ e.op = kTimes := by
            first
            | exact .inl e3
            | exact .inr (.inl e4)
            | exact .inr (.inr e5)
          ((refine Zq ?_; refine Za ?_; refine Seq.done ?_; refine Zc ?_; refine Wp.seq ?_; refine Wp.draw (by decide +kernel) T.mixed (by kernel_rfl) (by kernel_rfl) ?_; refine QL.q ?_; refine Zf T ?_; refine QL.q ?_; refine Zl T 0 ?_))
          (((refine QL.q ?_)); (refine q_eqlD (by exact rfl) (by exact rfl) (fun d1 => ?_) (fun d1 => ?_)))
          · ((refine QL.q ?_; refine Zm ?_; refine QL.yes (by exact rfl) ?_; refine Zf T ?_; refine QL.yes (by exact rfl) ?_; refine Zl T 0 ?_; refine QL.yes (by exact rfl) ?_; refine q_len_slice T (by exact rfl) (by exact rfl) (by exact rfl) ?_))
            (((refine QL.yes (by exact rfl) ?_)); (refine q_eqlD (by exact rfl) (by exact rfl) (fun d2 => ?_) (fun d2 => ?_)))
            · obtain ⟨a, b, hab⟩ := two_of (l := e.kids) (by omega)
              have sa := GExpr.kids_lt (x := e) (k := a) (by rw [hab]; simp)
              have sb := GExpr.kids_lt (x := e) (k := b) (by rw [hab]; simp)
              ((refine QL.q ?_; refine Zt ?_; refine QL.q ?_; refine Zm ?_; refine QL.yes (by exact rfl) ?_; refine ZL T 1 ?_; refine QL.yes (by exact rfl) ?_; refine Zf T ?_; refine QL.yes (by exact rfl) ?_; refine Zl T 0 ?_))
              (((refine QL.yes (by exact rfl) ?_)); refine q_index T 0 (by exact rfl) (by exact rfl) (by exact rfl) (by exact rfl) (by exact rfl) (by exact rfl) hk (by first | rfl | omega) (by rw [hab]; rfl : e.kids[0]? = some a) (fun p hp => ?_))
              (((refine QL.yes (by exact rfl) ?_)); refine q_load_at T (by exact rfl) (by exact rfl) (by exact rfl) hp (by exact rfl) ?_)
              intro cs hcs
              obtain ⟨va, rfl, ha⟩ := gExprL_open hcs
              (skip)
              (((refine QL.yes (by exact rfl) ?_)); refine q_callB (by exact rfl) (by exact rfl) (expr_aux s (e := a) (by omega) hg ha) (fun f1 => ?_) (fun f1 => ?_))
              · ((refine QL.q ?_; refine Zt ?_; refine QL.q ?_; refine Zm ?_; refine QL.yes (by exact rfl) ?_; refine ZL T 1 ?_; refine QL.yes (by exact rfl) ?_; refine Zf T ?_; refine QL.yes (by exact rfl) ?_; refine Zl T 0 ?_))
                (((refine QL.yes (by exact rfl) ?_)); refine q_index T 1 (by exact rfl) (by exact rfl) (by exact rfl) (by exact rfl) (by exact rfl) (by exact rfl) hk (by first | rfl | omega) (by rw [hab]; rfl : e.kids[1]? = some b) (fun p2 hp2 => ?_))
                (((refine QL.yes (by exact rfl) ?_)); refine q_load_at T (by exact rfl) (by exact rfl) (by exact rfl) hp2 (by exact rfl) ?_)
                intro cs2 hcs2
                obtain ⟨vb, rfl, hb2⟩ := gExprL_open hcs2
                (skip)
                (((refine QL.yes (by exact rfl) ?_)); refine q_call (by exact rfl) (by exact rfl) (expr_aux s (e := b) (by omega) hg hb2) ?_)
                ((refine QL.q ?_; refine Zt ?_; refine QL.q ?_; refine Za ?_; refine QL.done ?_; refine thenN ?_; refine Wp.ret ?_; refine blkR ?_; refine thenR ?_))
                (exact ret1 rfl rfl (by repeat (first | exact List.Sublist.refl _ | exact List.nil_sublist _ | refine List.Sublist.cons_cons _ ?_ | refine List.Sublist.cons _ ?_)) (bool_same (by rw [right_two hb d1 hab]; exact (and_iff_right (of_decide_eq_true f1)).symm)))
              · ((refine QL.q ?_; refine Zt ?_; refine QL.q ?_; refine Zm ?_; refine QL.no (by exact rfl) ?_; refine QL.no (by exact rfl) ?_; refine QL.no (by exact rfl) ?_; refine QL.no (by exact rfl) ?_; refine QL.no (by exact rfl) ?_; refine QL.no (by exact rfl) ?_; refine QL.q ?_; refine Zu ?_; refine QL.q ?_; refine Za ?_; refine QL.done ?_; refine thenN ?_; refine Wp.ret ?_; refine blkR ?_; refine thenR ?_))
                (exact ret1 rfl rfl (by repeat (first | exact List.Sublist.refl _ | exact List.nil_sublist _ | refine List.Sublist.cons_cons _ ?_ | refine List.Sublist.cons _ ?_)) (bool_false (fun hc => of_decide_eq_false f1 ((right_two hb d1 hab).1 hc).1)))
            · ((refine QL.q ?_; refine Zt ?_; refine QL.q ?_; refine Zm ?_; refine QL.no (by exact rfl) ?_; refine QL.no (by exact rfl) ?_; refine QL.no (by exact rfl) ?_; refine QL.no (by exact rfl) ?_; refine QL.no (by exact rfl) ?_; refine QL.no (by exact rfl) ?_; refine QL.q ?_; refine Zu ?_; refine QL.q ?_; refine Zm ?_; refine QL.no (by exact rfl) ?_; refine QL.no (by exact rfl) ?_; refine QL.no (by exact rfl) ?_; refine QL.no (by exact rfl) ?_; refine QL.no (by exact rfl) ?_; refine QL.no (by exact rfl) ?_; refine QL.q ?_; refine Zu ?_; refine QL.q ?_; refine Za ?_; refine QL.done ?_; refine thenN ?_; refine Wp.ret ?_; refine blkR ?_; refine thenR ?_))
              (exact ret1 rfl rfl (by repeat (first | exact List.Sublist.refl _ | exact List.nil_sublist _ | refine List.Sublist.cons_cons _ ?_ | refine List.Sublist.cons _ ?_)) (bool_false (fun hc => by obtain ⟨_, a, b, h1, _⟩ := (right_bin hb).1 hc; rw [h1] at l1; simp at l1; omega)))
          · ((refine QL.q ?_; refine Zm ?_; refine QL.no (by exact rfl) ?_; refine QL.no (by exact rfl) ?_; refine QL.no (by exact rfl) ?_; refine QL.no (by exact rfl) ?_; refine QL.q ?_; refine Zu ?_; refine QL.q ?_; refine Zm ?_; refine QL.no (by exact rfl) ?_; refine QL.no (by exact rfl) ?_; refine QL.no (by exact rfl) ?_; refine QL.no (by exact rfl) ?_; refine QL.no (by exact rfl) ?_; refine QL.no (by exact rfl) ?_; refine QL.q ?_; refine Zu ?_; refine QL.q ?_; refine Zm ?_; refine QL.no (by exact rfl) ?_; refine QL.no (by exact rfl) ?_; refine QL.no (by exact rfl) ?_; refine QL.no (by exact rfl) ?_; refine QL.no (by exact rfl) ?_; refine QL.no (by exact rfl) ?_; refine QL.q ?_; refine Zu ?_; refine QL.q ?_; refine Za ?_; refine QL.done ?_; refine thenN ?_; refine Wp.ret ?_; refine blkR ?_; refine thenR ?_))
            (exact ret1 rfl rfl (by repeat (first | exact List.Sublist.refl _ | exact List.nil_sublist _ | refine List.Sublist.cons_cons _ ?_ | refine List.Sublist.cons _ ?_)) (bool_false (fun hc => d1 ((right_bin hb).1 hc).1)))
theorem expr_q {fz : FZ} {g : GTask} {v1 v2 v3 v4 v5 : Value} {e : GExpr} {v : Value} (hg : GTaskR fz g v1 v2 v3 v4 v5) (h : GExprR fz e v) :
    QFn Tryz.prog 28 [gV v1 v2 v3 v4 v5, eV e v] fz (.bool (decide (RightP g.fluents.length e))) := expr_aux _ (Nat.le_refl _) hg h
end Go.Proofs.YtegmololhnipiaaGreatDoor
namespace Go.Proofs.YtegmololhnipiaaGreatDoor
open Go.Lx Go.Gr Go.RowKit
attribute [local instance 10] Classical.propDecidable
theorem condition_q {fz : FZ} {g : GTask} {v1 v2 v3 v4 v5 : Value} {c : Cond} {u1 u2 u3 : Value} (hg : GTaskR fz g v1 v2 v3 v4 v5) (hc : CondR fz c u1 u2 u3) :
    QFn Tryz.prog 41 [gV v1 v2 v3 v4 v5, cV u1 u2 u3] fz (.bool (decide (CondOk g.atoms.length g.fluents.length c))) := by
  (obtain ⟨A1, n1, cap1, rfl, ga⟩ := hg.atoms; obtain ⟨A2, n2, cap2, rfl, gf⟩ := hg.fluents; obtain ⟨A3, n3, cap3, rfl, gi⟩ := hg.init; obtain ⟨A4, n4, cap4, rfl, gg⟩ := hg.goal; obtain ⟨A5, n5, cap5, rfl, go⟩ := hg.ops; have e1 := ga.len; subst e1; have e2 := gf.len; subst e2)
  (obtain ⟨B1, m1, d1, rfl, cp⟩ := hc.pos; obtain ⟨B2, m2, d2, rfl, cn⟩ := hc.neg; obtain ⟨B3, m3, d3, rfl, ct⟩ := hc.tests)
  have l3 := ct.len
  have hm := ct.short
  refine GFn.quiet ?_
  (refine GFn.of_wp Tryz.func41 rfl Tryz.ntmps41 rfl rfl (fun w0 => ?_))
  (refine Wp.seq (Wp.region (Seq.stepK (by exact rfl) (k_box _ (by exact rfl) (by exact rfl) (fun g0 => ?_)))))
  (refine Seq.stepK (by exact rfl) (k_box _ (by exact rfl) (by exact rfl) (fun g1 => ?_)))
  ((refine Zq ?_; refine Za ?_; refine Seq.done ?_; refine Wp.seq ?_; refine Wp.seq ?_; refine Wp.region ?_; refine Zq ?_; refine Zf T ?_; refine Zq ?_; refine Zl T 0 ?_; refine Zq ?_; refine q_len_slice T (by exact rfl) (by exact rfl) (by exact rfl) ?_; refine Zq ?_; refine Zm ?_; refine Seq.done ?_; refine Wp.block ?_))
  (refine Wp.loop (fun q σ fz' H' => ∃ k : Nat, k ≤ m3 ∧ q = m3 - k ∧ σ = [(10, .int .i64 k), (9, .int .i64 m3), (8, .slice B3 m3 d3), (2, .pointer (some ⟨g0, 0, none⟩)), (3, .pointer (some ⟨g1, 0, none⟩))] ∧ fz = fz' ∧ H' = [((g1, .cells #[.slice B1 m1 d1, .slice B2 m2 d2, .slice B3 m3 d3] 42 (0, 0))), ((g0, .cells #[.slice A1 g.atoms.length cap1, .slice A2 g.fluents.length cap2, .slice A3 n3 cap3, .slice A4 n4 cap4, .slice A5 n5 cap5] 28 (0, 0)))] ∧ (∀ i, i < k → ∀ t, c.tests[i]? = some t → TestOk g.fluents.length t)) ⟨0, Nat.zero_le _, rfl, rfl, rfl, rfl, (fun i hi => absurd hi (by omega))⟩ (by repeat (first | exact trivial | refine ⟨by exact rfl, ?_⟩)) (by repeat (first | exact List.Sublist.refl _ | exact List.nil_sublist _ | refine List.Sublist.cons_cons _ ?_ | refine List.Sublist.cons _ ?_)) ?_; rintro q σ fz' H' ⟨k, hk, rfl, rfl, rfl, rfl, hh⟩)
  ((refine Wp.seq ?_; refine Wp.region ?_))
  (((refine Zq ?_)); (refine q_lssD (by exact rfl) (by exact rfl) (fun hlt => ?_) (fun hge => ?_)))
  · ((refine Seq.done ?_; refine Wp.seq ?_; refine Zc ?_; refine Wp.skip ?_; refine thenN ?_; refine Wp.seq ?_; refine Wp.block ?_; refine Wp.seq ?_; refine Wp.region ?_))
    obtain ⟨t, ht⟩ := get_some (l := c.tests) (k := k) (by omega)
    (((refine Zq ?_)); refine q_index T k (by exact rfl) (by exact rfl) (by exact rfl) (by exact rfl) (by exact rfl) (by exact rfl) ct (by first | rfl | omega) ht (fun p hp => ?_))
    (((refine Zq ?_)); refine q_load_at T (by exact rfl) (by exact rfl) (by exact rfl) hp (by exact rfl) ?_)
    intro cs hcs
    obtain ⟨w1, w2, rfl, hR⟩ := gTestL_open hcs
    obtain ⟨Ea, na, ca, rfl, _⟩ := hR.a.kids
    obtain ⟨Eb, nb, cb, rfl, _⟩ := hR.b.kids
    have bad : ¬ TestOk g.fluents.length t → ¬ CondOk g.atoms.length g.fluents.length c := fun h hc => h (hc.2.2 t (List.mem_of_getElem? ht))
    ((refine Seq.stepK (by exact rfl) (k_alloc T (by exact rfl) (by exact rfl) (fun _ => ?_)); refine Seq.stepK0 (k_store0 T (by exact rfl) (by exact rfl) (by exact rfl) (by exact rfl) (by exact rfl) (by exact rfl) ?_); refine Seq.done ?_; refine Wp.seq ?_; refine Wp.region ?_; refine Zq ?_; refine Zf T ?_; refine Zq ?_; refine Zl T 0 ?_))
    (((refine Zq ?_)); (refine q_neq_strD (by exact rfl) (by exact rfl) (fun x1 => ?_) (fun o1 => ?_)))
    ((refine Zq ?_; refine Zm ?_; refine Zy ?_; refine Zf T ?_; refine Zy ?_; refine Zl T 0 ?_))
    (((refine Zy ?_)); (refine q_neq_strD (by exact rfl) (by exact rfl) (fun x2 => ?_) (fun o2 => ?_)))
    ((refine Zq ?_; refine Zt ?_; refine Zq ?_; refine Zm ?_; refine Zy ?_; refine Zf T ?_; refine Zy ?_; refine Zl T 0 ?_))
    (((refine Zy ?_)); (refine q_neq_strD (by exact rfl) (by exact rfl) (fun x3 => ?_) (fun o3 => ?_)))
    ((refine Zq ?_; refine Zt ?_; refine Zq ?_; refine Zm ?_; refine Zn ?_; refine Zn ?_; refine Zn ?_; refine Zn ?_; refine Zn ?_; refine Zn ?_; refine Zn ?_; refine Zq ?_; refine Zt ?_; refine Zq ?_; refine Zm ?_; refine Zn ?_; refine Zn ?_; refine Zn ?_; refine Zn ?_; refine Zn ?_; refine Zn ?_; refine Zn ?_; refine Zq ?_; refine Zt ?_; refine Seq.done ?_; refine Zc ?_; refine Wp.seq ?_; refine Wp.region ?_; refine Zq ?_; refine Za ?_; refine Seq.done ?_; refine Wp.ret ?_; refine blkR ?_; refine thenR ?_; refine loopR ?_; refine blkR ?_; refine thenR ?_))
    (exact ret1 rfl rfl (by repeat (first | exact List.Sublist.refl _ | exact List.nil_sublist _ | refine List.Sublist.cons_cons _ ?_ | refine List.Sublist.cons _ ?_)) (bool_false (bad (fun h => by rcases h.1 with h | h | h <;> contradiction))))
    · have hop : t.op = kLt ∨ t.op = kLe ∨ t.op = kEq := by
        first
        | exact .inl o1
        | exact .inr (.inl o2)
        | exact .inr (.inr o3)
      ((refine Zq ?_; refine Zt ?_; refine Zq ?_; refine Zm ?_; refine Zy ?_; refine Zf T ?_))
      (((refine Zy ?_)); refine q_load_own_sub (vs := [.string t.a.op, .int .i64 t.a.n, .slice Ea na ca]) T 0 (by exact rfl) (by exact rfl) (by exact rfl) (by exact rfl) (by exact rfl) (by exact rfl) ?_)
      ((refine Zy ?_; refine Zf T ?_; refine Zy ?_; refine Zl T 2 ?_; refine Zy ?_; refine q_len_slice T (by exact rfl) (by exact rfl) (by exact rfl) ?_))
      (((refine Zy ?_)); refine q_callB (by exact rfl) (by exact rfl) (right_q (m := g.fluents.length) hR.a) (fun f1 => ?_) (fun f1 => ?_))
      · ((refine Zy ?_; refine q_not (by exact rfl) ?_; refine Zq ?_; refine Zu ?_; refine Zq ?_; refine Zm ?_; refine Zy ?_; refine Zf T ?_))
        (((refine Zy ?_)); refine q_load_own_sub (vs := [.string t.b.op, .int .i64 t.b.n, .slice Eb nb cb]) T 0 (by exact rfl) (by exact rfl) (by exact rfl) (by exact rfl) (by exact rfl) (by exact rfl) ?_)
        ((refine Zy ?_; refine Zf T ?_; refine Zy ?_; refine Zl T 2 ?_; refine Zy ?_; refine q_len_slice T (by exact rfl) (by exact rfl) (by exact rfl) ?_))
        (((refine Zy ?_)); refine q_callB (by exact rfl) (by exact rfl) (right_q (m := g.fluents.length) hR.b) (fun f2 => ?_) (fun f2 => ?_))
        · ((refine Zy ?_; refine q_not (by exact rfl) ?_; refine Zq ?_; refine Zu ?_; refine Seq.done ?_; refine Zd ?_; refine Wp.skip ?_; refine blkN ?_; refine thenN ?_; refine Wp.region ?_; refine Zq ?_; refine q_add (by exact rfl) (by exact rfl) (wrap_in (by omega)) ?_; refine Zq ?_; refine Zm ?_; refine Seq.end_ ?_))
          (exact loopN ⟨k + 1, by omega, rfl, rfl, rfl, rfl, (all_next hh ht ⟨hop, of_decide_eq_true f1, of_decide_eq_true f2⟩)⟩ (by omega) (by repeat (first | exact trivial | refine ⟨by exact rfl, ?_⟩)) (by repeat (first | exact List.Sublist.refl _ | exact List.nil_sublist _ | refine List.Sublist.cons_cons _ ?_ | refine List.Sublist.cons _ ?_)))
        · ((refine Zy ?_; refine q_not (by exact rfl) ?_; refine Zq ?_; refine Zu ?_; refine Seq.done ?_; refine Zc ?_; refine Wp.seq ?_; refine Wp.region ?_; refine Zq ?_; refine Za ?_; refine Seq.done ?_; refine Wp.ret ?_; refine blkR ?_; refine thenR ?_; refine loopR ?_; refine blkR ?_; refine thenR ?_))
          (exact ret1 rfl rfl (by repeat (first | exact List.Sublist.refl _ | exact List.nil_sublist _ | refine List.Sublist.cons_cons _ ?_ | refine List.Sublist.cons _ ?_)) (bool_false (bad (fun h => of_decide_eq_false f2 h.2.2))))
      · ((refine Zy ?_; refine q_not (by exact rfl) ?_; refine Zq ?_; refine Zu ?_; refine Zq ?_; refine Zm ?_; refine Zn ?_; refine Zn ?_; refine Zn ?_; refine Zn ?_; refine Zn ?_; refine Zn ?_; refine Zn ?_; refine Zq ?_; refine Zt ?_; refine Seq.done ?_; refine Zc ?_; refine Wp.seq ?_; refine Wp.region ?_; refine Zq ?_; refine Za ?_; refine Seq.done ?_; refine Wp.ret ?_; refine blkR ?_; refine thenR ?_; refine loopR ?_; refine blkR ?_; refine thenR ?_))
        (exact ret1 rfl rfl (by repeat (first | exact List.Sublist.refl _ | exact List.nil_sublist _ | refine List.Sublist.cons_cons _ ?_ | refine List.Sublist.cons _ ?_)) (bool_false (bad (fun h => of_decide_eq_false f1 h.2.1))))
    · have hop : t.op = kLt ∨ t.op = kLe ∨ t.op = kEq := by
        first
        | exact .inl o1
        | exact .inr (.inl o2)
        | exact .inr (.inr o3)
      ((refine Zq ?_; refine Zt ?_; refine Zq ?_; refine Zm ?_; refine Zn ?_; refine Zn ?_; refine Zn ?_; refine Zq ?_; refine Zu ?_; refine Zq ?_; refine Zm ?_; refine Zy ?_; refine Zf T ?_))
      (((refine Zy ?_)); refine q_load_own_sub (vs := [.string t.a.op, .int .i64 t.a.n, .slice Ea na ca]) T 0 (by exact rfl) (by exact rfl) (by exact rfl) (by exact rfl) (by exact rfl) (by exact rfl) ?_)
      ((refine Zy ?_; refine Zf T ?_; refine Zy ?_; refine Zl T 2 ?_; refine Zy ?_; refine q_len_slice T (by exact rfl) (by exact rfl) (by exact rfl) ?_))
      (((refine Zy ?_)); refine q_callB (by exact rfl) (by exact rfl) (right_q (m := g.fluents.length) hR.a) (fun f1 => ?_) (fun f1 => ?_))
      · ((refine Zy ?_; refine q_not (by exact rfl) ?_; refine Zq ?_; refine Zu ?_; refine Zq ?_; refine Zm ?_; refine Zy ?_; refine Zf T ?_))
        (((refine Zy ?_)); refine q_load_own_sub (vs := [.string t.b.op, .int .i64 t.b.n, .slice Eb nb cb]) T 0 (by exact rfl) (by exact rfl) (by exact rfl) (by exact rfl) (by exact rfl) (by exact rfl) ?_)
        ((refine Zy ?_; refine Zf T ?_; refine Zy ?_; refine Zl T 2 ?_; refine Zy ?_; refine q_len_slice T (by exact rfl) (by exact rfl) (by exact rfl) ?_))
        (((refine Zy ?_)); refine q_callB (by exact rfl) (by exact rfl) (right_q (m := g.fluents.length) hR.b) (fun f2 => ?_) (fun f2 => ?_))
        · ((refine Zy ?_; refine q_not (by exact rfl) ?_; refine Zq ?_; refine Zu ?_; refine Seq.done ?_; refine Zd ?_; refine Wp.skip ?_; refine blkN ?_; refine thenN ?_; refine Wp.region ?_; refine Zq ?_; refine q_add (by exact rfl) (by exact rfl) (wrap_in (by omega)) ?_; refine Zq ?_; refine Zm ?_; refine Seq.end_ ?_))
          (exact loopN ⟨k + 1, by omega, rfl, rfl, rfl, rfl, (all_next hh ht ⟨hop, of_decide_eq_true f1, of_decide_eq_true f2⟩)⟩ (by omega) (by repeat (first | exact trivial | refine ⟨by exact rfl, ?_⟩)) (by repeat (first | exact List.Sublist.refl _ | exact List.nil_sublist _ | refine List.Sublist.cons_cons _ ?_ | refine List.Sublist.cons _ ?_)))
        · ((refine Zy ?_; refine q_not (by exact rfl) ?_; refine Zq ?_; refine Zu ?_; refine Seq.done ?_; refine Zc ?_; refine Wp.seq ?_; refine Wp.region ?_; refine Zq ?_; refine Za ?_; refine Seq.done ?_; refine Wp.ret ?_; refine blkR ?_; refine thenR ?_; refine loopR ?_; refine blkR ?_; refine thenR ?_))
          (exact ret1 rfl rfl (by repeat (first | exact List.Sublist.refl _ | exact List.nil_sublist _ | refine List.Sublist.cons_cons _ ?_ | refine List.Sublist.cons _ ?_)) (bool_false (bad (fun h => of_decide_eq_false f2 h.2.2))))
      · ((refine Zy ?_; refine q_not (by exact rfl) ?_; refine Zq ?_; refine Zu ?_; refine Zq ?_; refine Zm ?_; refine Zn ?_; refine Zn ?_; refine Zn ?_; refine Zn ?_; refine Zn ?_; refine Zn ?_; refine Zn ?_; refine Zq ?_; refine Zt ?_; refine Seq.done ?_; refine Zc ?_; refine Wp.seq ?_; refine Wp.region ?_; refine Zq ?_; refine Za ?_; refine Seq.done ?_; refine Wp.ret ?_; refine blkR ?_; refine thenR ?_; refine loopR ?_; refine blkR ?_; refine thenR ?_))
        (exact ret1 rfl rfl (by repeat (first | exact List.Sublist.refl _ | exact List.nil_sublist _ | refine List.Sublist.cons_cons _ ?_ | refine List.Sublist.cons _ ?_)) (bool_false (bad (fun h => of_decide_eq_false f1 h.2.1))))
    · have hop : t.op = kLt ∨ t.op = kLe ∨ t.op = kEq := by
        first
        | exact .inl o1
        | exact .inr (.inl o2)
        | exact .inr (.inr o3)
      ((refine Zq ?_; refine Zm ?_; refine Zn ?_; refine Zn ?_; refine Zn ?_; refine Zq ?_; refine Zu ?_; refine Zq ?_; refine Zm ?_; refine Zn ?_; refine Zn ?_; refine Zn ?_; refine Zq ?_; refine Zu ?_; refine Zq ?_; refine Zm ?_; refine Zy ?_; refine Zf T ?_))
      (((refine Zy ?_)); refine q_load_own_sub (vs := [.string t.a.op, .int .i64 t.a.n, .slice Ea na ca]) T 0 (by exact rfl) (by exact rfl) (by exact rfl) (by exact rfl) (by exact rfl) (by exact rfl) ?_)
      ((refine Zy ?_; refine Zf T ?_; refine Zy ?_; refine Zl T 2 ?_; refine Zy ?_; refine q_len_slice T (by exact rfl) (by exact rfl) (by exact rfl) ?_))
      (((refine Zy ?_)); refine q_callB (by exact rfl) (by exact rfl) (right_q (m := g.fluents.length) hR.a) (fun f1 => ?_) (fun f1 => ?_))
      · ((refine Zy ?_; refine q_not (by exact rfl) ?_; refine Zq ?_; refine Zu ?_; refine Zq ?_; refine Zm ?_; refine Zy ?_; refine Zf T ?_))
        (((refine Zy ?_)); refine q_load_own_sub (vs := [.string t.b.op, .int .i64 t.b.n, .slice Eb nb cb]) T 0 (by exact rfl) (by exact rfl) (by exact rfl) (by exact rfl) (by exact rfl) (by exact rfl) ?_)
        ((refine Zy ?_; refine Zf T ?_; refine Zy ?_; refine Zl T 2 ?_; refine Zy ?_; refine q_len_slice T (by exact rfl) (by exact rfl) (by exact rfl) ?_))
        (((refine Zy ?_)); refine q_callB (by exact rfl) (by exact rfl) (right_q (m := g.fluents.length) hR.b) (fun f2 => ?_) (fun f2 => ?_))
        · ((refine Zy ?_; refine q_not (by exact rfl) ?_; refine Zq ?_; refine Zu ?_; refine Seq.done ?_; refine Zd ?_; refine Wp.skip ?_; refine blkN ?_; refine thenN ?_; refine Wp.region ?_; refine Zq ?_; refine q_add (by exact rfl) (by exact rfl) (wrap_in (by omega)) ?_; refine Zq ?_; refine Zm ?_; refine Seq.end_ ?_))
          (exact loopN ⟨k + 1, by omega, rfl, rfl, rfl, rfl, (all_next hh ht ⟨hop, of_decide_eq_true f1, of_decide_eq_true f2⟩)⟩ (by omega) (by repeat (first | exact trivial | refine ⟨by exact rfl, ?_⟩)) (by repeat (first | exact List.Sublist.refl _ | exact List.nil_sublist _ | refine List.Sublist.cons_cons _ ?_ | refine List.Sublist.cons _ ?_)))
        · ((refine Zy ?_; refine q_not (by exact rfl) ?_; refine Zq ?_; refine Zu ?_; refine Seq.done ?_; refine Zc ?_; refine Wp.seq ?_; refine Wp.region ?_; refine Zq ?_; refine Za ?_; refine Seq.done ?_; refine Wp.ret ?_; refine blkR ?_; refine thenR ?_; refine loopR ?_; refine blkR ?_; refine thenR ?_))
          (exact ret1 rfl rfl (by repeat (first | exact List.Sublist.refl _ | exact List.nil_sublist _ | refine List.Sublist.cons_cons _ ?_ | refine List.Sublist.cons _ ?_)) (bool_false (bad (fun h => of_decide_eq_false f2 h.2.2))))
      · ((refine Zy ?_; refine q_not (by exact rfl) ?_; refine Zq ?_; refine Zu ?_; refine Zq ?_; refine Zm ?_; refine Zn ?_; refine Zn ?_; refine Zn ?_; refine Zn ?_; refine Zn ?_; refine Zn ?_; refine Zn ?_; refine Zq ?_; refine Zt ?_; refine Seq.done ?_; refine Zc ?_; refine Wp.seq ?_; refine Wp.region ?_; refine Zq ?_; refine Za ?_; refine Seq.done ?_; refine Wp.ret ?_; refine blkR ?_; refine thenR ?_; refine loopR ?_; refine blkR ?_; refine thenR ?_))
        (exact ret1 rfl rfl (by repeat (first | exact List.Sublist.refl _ | exact List.nil_sublist _ | refine List.Sublist.cons_cons _ ?_ | refine List.Sublist.cons _ ?_)) (bool_false (bad (fun h => of_decide_eq_false f1 h.2.1))))
  · have hall := all_of hh (by omega)
    ((refine Seq.done ?_; refine Wp.seq ?_; refine Zd ?_; refine Wp.exit ?_; refine thenX ?_; refine loopX ?_; refine blkX (by exact rfl) ?_; refine thenN ?_; refine Wp.seq ?_; refine Wp.region ?_; refine Zq ?_; refine Zf T ?_; refine Zq ?_; refine Zl T 0 ?_; refine Zq ?_; refine Zf T ?_; refine Zq ?_; refine Zl T 1 ?_; refine Zq ?_; refine q_len_slice T (by exact rfl) (by exact rfl) (by exact rfl) ?_))
    (((refine Zq ?_)); refine q_callB (by exact rfl) (by exact rfl) (indices_q (m := g.atoms.length) cp) (fun f1 => ?_) (fun f1 => ?_))
    · ((refine Zq ?_; refine Zm ?_; refine Zy ?_; refine Zf T ?_; refine Zy ?_; refine Zl T 0 ?_; refine Zy ?_; refine Zf T ?_; refine Zy ?_; refine Zl T 1 ?_; refine Zy ?_; refine q_len_slice T (by exact rfl) (by exact rfl) (by exact rfl) ?_))
      (((refine Zy ?_)); refine q_call (by exact rfl) (by exact rfl) (indices_q (m := g.atoms.length) cn) ?_)
      ((refine Zq ?_; refine Zt ?_; refine Zq ?_; refine Za ?_; refine Seq.done ?_; refine Wp.ret ?_))
      (exact ret1 rfl rfl (by repeat (first | exact List.Sublist.refl _ | exact List.nil_sublist _ | refine List.Sublist.cons_cons _ ?_ | refine List.Sublist.cons _ ?_)) (bool_same ⟨fun h => ⟨of_decide_eq_true f1, h, hall⟩, fun h => h.2.1⟩))
    · ((refine Zq ?_; refine Zm ?_; refine Zn ?_; refine Zn ?_; refine Zn ?_; refine Zn ?_; refine Zn ?_; refine Zn ?_; refine Zq ?_; refine Zu ?_; refine Zq ?_; refine Za ?_; refine Seq.done ?_; refine Wp.ret ?_))
      (exact ret1 rfl rfl (by repeat (first | exact List.Sublist.refl _ | exact List.nil_sublist _ | refine List.Sublist.cons_cons _ ?_ | refine List.Sublist.cons _ ?_)) (bool_false (fun h => of_decide_eq_false f1 h.1)))
theorem cond_q {fz : FZ} {g : GTask} {v1 v2 v3 v4 v5 : Value} {c : Cond} {u1 u2 u3 : Value} (hg : GTaskR fz g v1 v2 v3 v4 v5) (hc : CondR fz c u1 u2 u3) :
    QFn Tryz.prog 25 [gV v1 v2 v3 v4 v5, cV u1 u2 u3] fz (.bool (decide (CondOk g.atoms.length g.fluents.length c))) := by
  (obtain ⟨A1, n1, cap1, rfl, ga⟩ := hg.atoms; obtain ⟨A2, n2, cap2, rfl, gf⟩ := hg.fluents; obtain ⟨A3, n3, cap3, rfl, gi⟩ := hg.init; obtain ⟨A4, n4, cap4, rfl, gg⟩ := hg.goal; obtain ⟨A5, n5, cap5, rfl, go⟩ := hg.ops; have e1 := ga.len; subst e1; have e2 := gf.len; subst e2)
  (obtain ⟨B1, m1, d1, rfl, cp⟩ := hc.pos; obtain ⟨B2, m2, d2, rfl, cn⟩ := hc.neg; obtain ⟨B3, m3, d3, rfl, ct⟩ := hc.tests)
  have l3 := ct.len
  have hm := ct.short
  refine GFn.quiet ?_
  (refine GFn.of_wp Tryz.func25 rfl Tryz.ntmps25 rfl rfl (fun w0 => ?_))
  (refine Wp.seq (Wp.region (Seq.stepK (by exact rfl) (k_box _ (by exact rfl) (by exact rfl) (fun g0 => ?_)))))
  (refine Seq.stepK (by exact rfl) (k_box _ (by exact rfl) (by exact rfl) (fun g1 => ?_)))
  ((refine Zq ?_; refine Za ?_; refine Seq.done ?_; refine Wp.seq ?_; refine Wp.seq ?_; refine Wp.region ?_; refine Zq ?_; refine Zf T ?_; refine Zq ?_; refine Zl T 0 ?_; refine Zq ?_; refine Zf T ?_; refine Zq ?_; refine Zl T 1 ?_; refine Zq ?_; refine q_len_slice T (by exact rfl) (by exact rfl) (by exact rfl) ?_))
  (((refine Zq ?_)); refine q_callB (by exact rfl) (by exact rfl) (ascending_q (m := g.atoms.length) cp) (fun f1 => ?_) (fun f1 => ?_))
  · ((refine Zq ?_; refine q_not (by exact rfl) ?_; refine Zq ?_; refine Zm ?_; refine Zy ?_; refine Zf T ?_; refine Zy ?_; refine Zl T 0 ?_; refine Zy ?_; refine Zf T ?_; refine Zy ?_; refine Zl T 1 ?_; refine Zy ?_; refine q_len_slice T (by exact rfl) (by exact rfl) (by exact rfl) ?_))
    (((refine Zy ?_)); refine q_callB (by exact rfl) (by exact rfl) (ascending_q (m := g.atoms.length) cn) (fun f2 => ?_) (fun f2 => ?_))
    · ((refine Zy ?_; refine q_not (by exact rfl) ?_; refine Zq ?_; refine Zu ?_; refine Seq.done ?_; refine Zd ?_; refine Wp.skip ?_; refine thenN ?_; refine Wp.seq ?_; refine Wp.seq ?_; refine Wp.region ?_; refine Zq ?_; refine Za ?_; refine Seq.done ?_; refine Wp.block ?_))
      (refine Wp.loop (fun q σ fz' H' => ∃ k : Nat, k ≤ m3 ∧ q = m3 - k ∧ σ = [(5, .int .i64 k), (2, .pointer (some ⟨g0, 0, none⟩)), (3, .pointer (some ⟨g1, 0, none⟩))] ∧ fz = fz' ∧ H' = [((g1, .cells #[.slice B1 m1 d1, .slice B2 m2 d2, .slice B3 m3 d3] 42 (0, 0))), ((g0, .cells #[.slice A1 g.atoms.length cap1, .slice A2 g.fluents.length cap2, .slice A3 n3 cap3, .slice A4 n4 cap4, .slice A5 n5 cap5] 28 (0, 0)))] ∧ (∀ i, i < k → ∀ t, c.tests[i]? = some t → TestOk g.fluents.length t)) ⟨0, Nat.zero_le _, rfl, rfl, rfl, rfl, (fun i hi => absurd hi (by omega))⟩ (by repeat (first | exact trivial | refine ⟨by exact rfl, ?_⟩)) (by repeat (first | exact List.Sublist.refl _ | exact List.nil_sublist _ | refine List.Sublist.cons_cons _ ?_ | refine List.Sublist.cons _ ?_)) ?_; rintro q σ fz' H' ⟨k, hk, rfl, rfl, rfl, rfl, hh⟩)
      ((refine Wp.seq ?_; refine Wp.seq ?_; refine Wp.region ?_; refine Zq ?_; refine Zm ?_; refine Zq ?_; refine Zf T ?_; refine Zq ?_; refine Zl T 0 ?_; refine Zq ?_; refine q_len_slice T (by exact rfl) (by exact rfl) (by exact rfl) ?_))
      (((refine Zq ?_)); (refine q_lssD (by exact rfl) (by exact rfl) (fun hlt => ?_) (fun hge => ?_)))
      · ((refine Seq.done ?_; refine Zc ?_; refine Wp.skip ?_; refine thenN ?_; refine Wp.seq ?_; refine Wp.block ?_; refine Wp.seq ?_; refine Wp.region ?_; refine Zq ?_; refine Zf T ?_; refine Zq ?_; refine Zl T 0 ?_; refine Zq ?_; refine Zm ?_))
        obtain ⟨t, ht⟩ := get_some (l := c.tests) (k := k) (by omega)
        (((refine Zq ?_)); refine q_index T k (by exact rfl) (by exact rfl) (by exact rfl) (by exact rfl) (by exact rfl) (by exact rfl) ct (by first | rfl | omega) ht (fun p hp => ?_))
        (((refine Zq ?_)); refine q_load_at T (by exact rfl) (by exact rfl) (by exact rfl) hp (by exact rfl) ?_)
        intro cs hcs
        obtain ⟨w1, w2, rfl, hR⟩ := gTestL_open hcs
        obtain ⟨Ea, na, ca, rfl, _⟩ := hR.a.kids
        obtain ⟨Eb, nb, cb, rfl, _⟩ := hR.b.kids
        have bad : ¬ TestOk g.fluents.length t → ¬ CondOk g.atoms.length g.fluents.length c := fun h hc => h (hc.2.2 t (List.mem_of_getElem? ht))
        ((refine Seq.stepK (by exact rfl) (k_alloc T (by exact rfl) (by exact rfl) (fun _ => ?_)); refine Seq.stepK0 (k_store0 T (by exact rfl) (by exact rfl) (by exact rfl) (by exact rfl) (by exact rfl) (by exact rfl) ?_); refine Seq.done ?_; refine Wp.seq ?_; refine Wp.region ?_; refine Zq ?_; refine Zf T ?_; refine Zq ?_; refine Zl T 0 ?_))
        (((refine Zq ?_)); (refine q_neq_strD (by exact rfl) (by exact rfl) (fun x1 => ?_) (fun o1 => ?_)))
        ((refine Zq ?_; refine Zm ?_; refine Zy ?_; refine Zf T ?_; refine Zy ?_; refine Zl T 0 ?_))
        (((refine Zy ?_)); (refine q_neq_strD (by exact rfl) (by exact rfl) (fun x2 => ?_) (fun o2 => ?_)))
        ((refine Zq ?_; refine Zt ?_; refine Zq ?_; refine Zm ?_; refine Zy ?_; refine Zf T ?_; refine Zy ?_; refine Zl T 0 ?_))
        (((refine Zy ?_)); (refine q_neq_strD (by exact rfl) (by exact rfl) (fun x3 => ?_) (fun o3 => ?_)))
        ((refine Zq ?_; refine Zt ?_; refine Zq ?_; refine Zm ?_; refine Zn ?_; refine Zn ?_; refine Zn ?_; refine Zn ?_; refine Zn ?_; refine Zq ?_; refine Zt ?_; refine Zq ?_; refine Zm ?_; refine Zn ?_; refine Zn ?_; refine Zn ?_; refine Zn ?_; refine Zn ?_; refine Zq ?_; refine Zt ?_; refine Seq.done ?_; refine Zc ?_; refine Wp.seq ?_; refine Wp.region ?_; refine Zq ?_; refine Za ?_; refine Seq.done ?_; refine Wp.ret ?_; refine blkR ?_; refine thenR ?_; refine loopR ?_; refine blkR ?_; refine thenR ?_))
        (exact ret1 rfl rfl (by repeat (first | exact List.Sublist.refl _ | exact List.nil_sublist _ | refine List.Sublist.cons_cons _ ?_ | refine List.Sublist.cons _ ?_)) (bool_false (bad (fun h => by rcases h.1 with h | h | h <;> contradiction))))
        · have hop : t.op = kLt ∨ t.op = kLe ∨ t.op = kEq := by
            first
            | exact .inl o1
            | exact .inr (.inl o2)
            | exact .inr (.inr o3)
          ((refine Zq ?_; refine Zt ?_; refine Zq ?_; refine Zm ?_; refine Zy ?_; refine ZL T 2 ?_; refine Zy ?_; refine Zf T ?_))
          (((refine Zy ?_)); refine q_load_own_sub (vs := [.string t.a.op, .int .i64 t.a.n, .slice Ea na ca]) T 0 (by exact rfl) (by exact rfl) (by exact rfl) (by exact rfl) (by exact rfl) (by exact rfl) ?_)
          (skip)
          (((refine Zy ?_)); refine q_callB (by exact rfl) (by exact rfl) (expr_q hg hR.a) (fun f3 => ?_) (fun f3 => ?_))
          · ((refine Zy ?_; refine q_not (by exact rfl) ?_; refine Zq ?_; refine Zu ?_; refine Zq ?_; refine Zm ?_; refine Zy ?_; refine ZL T 2 ?_; refine Zy ?_; refine Zf T ?_))
            (((refine Zy ?_)); refine q_load_own_sub (vs := [.string t.b.op, .int .i64 t.b.n, .slice Eb nb cb]) T 0 (by exact rfl) (by exact rfl) (by exact rfl) (by exact rfl) (by exact rfl) (by exact rfl) ?_)
            (skip)
            (((refine Zy ?_)); refine q_callB (by exact rfl) (by exact rfl) (expr_q hg hR.b) (fun f4 => ?_) (fun f4 => ?_))
            · ((refine Zy ?_; refine q_not (by exact rfl) ?_; refine Zq ?_; refine Zu ?_; refine Seq.done ?_; refine Zd ?_; refine Wp.skip ?_; refine blkN ?_; refine thenN ?_; refine Wp.region ?_; refine Zq ?_; refine Zm ?_; refine Zq ?_; refine q_add (by exact rfl) (by exact rfl) (wrap_in (by omega)) ?_; refine Zq ?_; refine Za ?_; refine Seq.end_ ?_))
              (exact loopN ⟨k + 1, by omega, rfl, rfl, rfl, rfl, (all_next hh ht ⟨hop, of_decide_eq_true f3, of_decide_eq_true f4⟩)⟩ (by omega) (by repeat (first | exact trivial | refine ⟨by exact rfl, ?_⟩)) (by repeat (first | exact List.Sublist.refl _ | exact List.nil_sublist _ | refine List.Sublist.cons_cons _ ?_ | refine List.Sublist.cons _ ?_)))
            · ((refine Zy ?_; refine q_not (by exact rfl) ?_; refine Zq ?_; refine Zu ?_; refine Seq.done ?_; refine Zc ?_; refine Wp.seq ?_; refine Wp.region ?_; refine Zq ?_; refine Za ?_; refine Seq.done ?_; refine Wp.ret ?_; refine blkR ?_; refine thenR ?_; refine loopR ?_; refine blkR ?_; refine thenR ?_))
              (exact ret1 rfl rfl (by repeat (first | exact List.Sublist.refl _ | exact List.nil_sublist _ | refine List.Sublist.cons_cons _ ?_ | refine List.Sublist.cons _ ?_)) (bool_false (bad (fun h => of_decide_eq_false f4 h.2.2))))
          · ((refine Zy ?_; refine q_not (by exact rfl) ?_; refine Zq ?_; refine Zu ?_; refine Zq ?_; refine Zm ?_; refine Zn ?_; refine Zn ?_; refine Zn ?_; refine Zn ?_; refine Zn ?_; refine Zq ?_; refine Zt ?_; refine Seq.done ?_; refine Zc ?_; refine Wp.seq ?_; refine Wp.region ?_; refine Zq ?_; refine Za ?_; refine Seq.done ?_; refine Wp.ret ?_; refine blkR ?_; refine thenR ?_; refine loopR ?_; refine blkR ?_; refine thenR ?_))
            (exact ret1 rfl rfl (by repeat (first | exact List.Sublist.refl _ | exact List.nil_sublist _ | refine List.Sublist.cons_cons _ ?_ | refine List.Sublist.cons _ ?_)) (bool_false (bad (fun h => of_decide_eq_false f3 h.2.1))))
        · have hop : t.op = kLt ∨ t.op = kLe ∨ t.op = kEq := by
            first
            | exact .inl o1
            | exact .inr (.inl o2)
            | exact .inr (.inr o3)
          ((refine Zq ?_; refine Zt ?_; refine Zq ?_; refine Zm ?_; refine Zn ?_; refine Zn ?_; refine Zn ?_; refine Zq ?_; refine Zu ?_; refine Zq ?_; refine Zm ?_; refine Zy ?_; refine ZL T 2 ?_; refine Zy ?_; refine Zf T ?_))
          (((refine Zy ?_)); refine q_load_own_sub (vs := [.string t.a.op, .int .i64 t.a.n, .slice Ea na ca]) T 0 (by exact rfl) (by exact rfl) (by exact rfl) (by exact rfl) (by exact rfl) (by exact rfl) ?_)
          (skip)
          (((refine Zy ?_)); refine q_callB (by exact rfl) (by exact rfl) (expr_q hg hR.a) (fun f3 => ?_) (fun f3 => ?_))
          · ((refine Zy ?_; refine q_not (by exact rfl) ?_; refine Zq ?_; refine Zu ?_; refine Zq ?_; refine Zm ?_; refine Zy ?_; refine ZL T 2 ?_; refine Zy ?_; refine Zf T ?_))
            (((refine Zy ?_)); refine q_load_own_sub (vs := [.string t.b.op, .int .i64 t.b.n, .slice Eb nb cb]) T 0 (by exact rfl) (by exact rfl) (by exact rfl) (by exact rfl) (by exact rfl) (by exact rfl) ?_)
            (skip)
            (((refine Zy ?_)); refine q_callB (by exact rfl) (by exact rfl) (expr_q hg hR.b) (fun f4 => ?_) (fun f4 => ?_))
            · ((refine Zy ?_; refine q_not (by exact rfl) ?_; refine Zq ?_; refine Zu ?_; refine Seq.done ?_; refine Zd ?_; refine Wp.skip ?_; refine blkN ?_; refine thenN ?_; refine Wp.region ?_; refine Zq ?_; refine Zm ?_; refine Zq ?_; refine q_add (by exact rfl) (by exact rfl) (wrap_in (by omega)) ?_; refine Zq ?_; refine Za ?_; refine Seq.end_ ?_))
              (exact loopN ⟨k + 1, by omega, rfl, rfl, rfl, rfl, (all_next hh ht ⟨hop, of_decide_eq_true f3, of_decide_eq_true f4⟩)⟩ (by omega) (by repeat (first | exact trivial | refine ⟨by exact rfl, ?_⟩)) (by repeat (first | exact List.Sublist.refl _ | exact List.nil_sublist _ | refine List.Sublist.cons_cons _ ?_ | refine List.Sublist.cons _ ?_)))
            · ((refine Zy ?_; refine q_not (by exact rfl) ?_; refine Zq ?_; refine Zu ?_; refine Seq.done ?_; refine Zc ?_; refine Wp.seq ?_; refine Wp.region ?_; refine Zq ?_; refine Za ?_; refine Seq.done ?_; refine Wp.ret ?_; refine blkR ?_; refine thenR ?_; refine loopR ?_; refine blkR ?_; refine thenR ?_))
              (exact ret1 rfl rfl (by repeat (first | exact List.Sublist.refl _ | exact List.nil_sublist _ | refine List.Sublist.cons_cons _ ?_ | refine List.Sublist.cons _ ?_)) (bool_false (bad (fun h => of_decide_eq_false f4 h.2.2))))
          · ((refine Zy ?_; refine q_not (by exact rfl) ?_; refine Zq ?_; refine Zu ?_; refine Zq ?_; refine Zm ?_; refine Zn ?_; refine Zn ?_; refine Zn ?_; refine Zn ?_; refine Zn ?_; refine Zq ?_; refine Zt ?_; refine Seq.done ?_; refine Zc ?_; refine Wp.seq ?_; refine Wp.region ?_; refine Zq ?_; refine Za ?_; refine Seq.done ?_; refine Wp.ret ?_; refine blkR ?_; refine thenR ?_; refine loopR ?_; refine blkR ?_; refine thenR ?_))
            (exact ret1 rfl rfl (by repeat (first | exact List.Sublist.refl _ | exact List.nil_sublist _ | refine List.Sublist.cons_cons _ ?_ | refine List.Sublist.cons _ ?_)) (bool_false (bad (fun h => of_decide_eq_false f3 h.2.1))))
        · have hop : t.op = kLt ∨ t.op = kLe ∨ t.op = kEq := by
            first
            | exact .inl o1
            | exact .inr (.inl o2)
            | exact .inr (.inr o3)
          ((refine Zq ?_; refine Zm ?_; refine Zn ?_; refine Zn ?_; refine Zn ?_; refine Zq ?_; refine Zu ?_; refine Zq ?_; refine Zm ?_; refine Zn ?_; refine Zn ?_; refine Zn ?_; refine Zq ?_; refine Zu ?_; refine Zq ?_; refine Zm ?_; refine Zy ?_; refine ZL T 2 ?_; refine Zy ?_; refine Zf T ?_))
          (((refine Zy ?_)); refine q_load_own_sub (vs := [.string t.a.op, .int .i64 t.a.n, .slice Ea na ca]) T 0 (by exact rfl) (by exact rfl) (by exact rfl) (by exact rfl) (by exact rfl) (by exact rfl) ?_)
          (skip)
          (((refine Zy ?_)); refine q_callB (by exact rfl) (by exact rfl) (expr_q hg hR.a) (fun f3 => ?_) (fun f3 => ?_))
          · ((refine Zy ?_; refine q_not (by exact rfl) ?_; refine Zq ?_; refine Zu ?_; refine Zq ?_; refine Zm ?_; refine Zy ?_; refine ZL T 2 ?_; refine Zy ?_; refine Zf T ?_))
            (((refine Zy ?_)); refine q_load_own_sub (vs := [.string t.b.op, .int .i64 t.b.n, .slice Eb nb cb]) T 0 (by exact rfl) (by exact rfl) (by exact rfl) (by exact rfl) (by exact rfl) (by exact rfl) ?_)
            (skip)
            (((refine Zy ?_)); refine q_callB (by exact rfl) (by exact rfl) (expr_q hg hR.b) (fun f4 => ?_) (fun f4 => ?_))
            · ((refine Zy ?_; refine q_not (by exact rfl) ?_; refine Zq ?_; refine Zu ?_; refine Seq.done ?_; refine Zd ?_; refine Wp.skip ?_; refine blkN ?_; refine thenN ?_; refine Wp.region ?_; refine Zq ?_; refine Zm ?_; refine Zq ?_; refine q_add (by exact rfl) (by exact rfl) (wrap_in (by omega)) ?_; refine Zq ?_; refine Za ?_; refine Seq.end_ ?_))
              (exact loopN ⟨k + 1, by omega, rfl, rfl, rfl, rfl, (all_next hh ht ⟨hop, of_decide_eq_true f3, of_decide_eq_true f4⟩)⟩ (by omega) (by repeat (first | exact trivial | refine ⟨by exact rfl, ?_⟩)) (by repeat (first | exact List.Sublist.refl _ | exact List.nil_sublist _ | refine List.Sublist.cons_cons _ ?_ | refine List.Sublist.cons _ ?_)))
            · ((refine Zy ?_; refine q_not (by exact rfl) ?_; refine Zq ?_; refine Zu ?_; refine Seq.done ?_; refine Zc ?_; refine Wp.seq ?_; refine Wp.region ?_; refine Zq ?_; refine Za ?_; refine Seq.done ?_; refine Wp.ret ?_; refine blkR ?_; refine thenR ?_; refine loopR ?_; refine blkR ?_; refine thenR ?_))
              (exact ret1 rfl rfl (by repeat (first | exact List.Sublist.refl _ | exact List.nil_sublist _ | refine List.Sublist.cons_cons _ ?_ | refine List.Sublist.cons _ ?_)) (bool_false (bad (fun h => of_decide_eq_false f4 h.2.2))))
          · ((refine Zy ?_; refine q_not (by exact rfl) ?_; refine Zq ?_; refine Zu ?_; refine Zq ?_; refine Zm ?_; refine Zn ?_; refine Zn ?_; refine Zn ?_; refine Zn ?_; refine Zn ?_; refine Zq ?_; refine Zt ?_; refine Seq.done ?_; refine Zc ?_; refine Wp.seq ?_; refine Wp.region ?_; refine Zq ?_; refine Za ?_; refine Seq.done ?_; refine Wp.ret ?_; refine blkR ?_; refine thenR ?_; refine loopR ?_; refine blkR ?_; refine thenR ?_))
            (exact ret1 rfl rfl (by repeat (first | exact List.Sublist.refl _ | exact List.nil_sublist _ | refine List.Sublist.cons_cons _ ?_ | refine List.Sublist.cons _ ?_)) (bool_false (bad (fun h => of_decide_eq_false f3 h.2.1))))
      · ((refine Seq.done ?_; refine Zd ?_; refine Wp.exit ?_; refine thenX ?_; refine loopX ?_; refine blkX (by exact rfl) ?_; refine thenN ?_; refine Wp.seq ?_; refine Wp.region ?_; refine Zq ?_; refine Za ?_; refine Seq.done ?_; refine Wp.ret ?_))
        (exact ret1 rfl rfl (by repeat (first | exact List.Sublist.refl _ | exact List.nil_sublist _ | refine List.Sublist.cons_cons _ ?_ | refine List.Sublist.cons _ ?_)) (bool_true ⟨of_decide_eq_true f1, of_decide_eq_true f2, all_of hh (by omega)⟩))
    · ((refine Zy ?_; refine q_not (by exact rfl) ?_; refine Zq ?_; refine Zu ?_; refine Seq.done ?_; refine Zc ?_; refine Wp.seq ?_; refine Wp.region ?_; refine Zq ?_; refine Za ?_; refine Seq.done ?_; refine Wp.ret ?_; refine thenR ?_))
      (exact ret1 rfl rfl (by repeat (first | exact List.Sublist.refl _ | exact List.nil_sublist _ | refine List.Sublist.cons_cons _ ?_ | refine List.Sublist.cons _ ?_)) (bool_false (fun h => of_decide_eq_false f2 h.2.1)))
  · ((refine Zq ?_; refine q_not (by exact rfl) ?_; refine Zq ?_; refine Zm ?_; refine Zn ?_; refine Zn ?_; refine Zn ?_; refine Zn ?_; refine Zn ?_; refine Zn ?_; refine Zn ?_; refine Zq ?_; refine Zt ?_; refine Seq.done ?_; refine Zc ?_; refine Wp.seq ?_; refine Wp.region ?_; refine Zq ?_; refine Za ?_; refine Seq.done ?_; refine Wp.ret ?_; refine thenR ?_))
    (exact ret1 rfl rfl (by repeat (first | exact List.Sublist.refl _ | exact List.nil_sublist _ | refine List.Sublist.cons_cons _ ?_ | refine List.Sublist.cons _ ?_)) (bool_false (fun h => of_decide_eq_false f1 h.1)))
end Go.Proofs.YtegmololhnipiaaGreatDoor
namespace Go.Proofs.YtegmololhnipiaaGreatDoor
open Go.Lx Go.Gr Go.RowKit
attribute [local instance 10] Classical.propDecidable
theorem named_q {fz : FZ} {s : ByteArray} (hs : s.size ≤ 9223372036854775807) : QFn Tryz.prog 70 [.string s] fz (.bool (decide (NameOk s))) := by
  refine GFn.quiet ?_
  (refine GFn.of_wp Tryz.func70 rfl Tryz.ntmps70 rfl rfl (fun w0 => ?_))
  ((refine Wp.seq ?_; refine Wp.region ?_; refine Zq ?_; refine Za ?_; refine Seq.done ?_; refine Wp.seq ?_; refine Wp.seq ?_; refine Wp.region ?_; refine Zq ?_; refine Zm ?_; refine Zq ?_; refine q_len_string T (by exact rfl) (by exact rfl) (by exact rfl) ?_; refine Zq ?_; refine Zm ?_; refine Seq.done ?_; refine Wp.block ?_))
  (refine Wp.loop (fun q σ fz' H' => ∃ k : Nat, k ≤ s.size ∧ q = s.size - k ∧ σ = [(6, .int .i64 k), (5, .int .i64 s.size), (0, .string s)] ∧ fz = fz' ∧ H' = [] ∧ (∀ i, i < k → NameAt s i)) ⟨0, Nat.zero_le _, rfl, rfl, rfl, rfl, (fun i hi => absurd hi (by omega))⟩ (by repeat (first | exact trivial | refine ⟨by exact rfl, ?_⟩)) (by repeat (first | exact List.Sublist.refl _ | exact List.nil_sublist _ | refine List.Sublist.cons_cons _ ?_ | refine List.Sublist.cons _ ?_)) ?_; rintro q σ fz' H' ⟨k, hk, rfl, rfl, rfl, rfl, hh⟩)
  ((refine Wp.seq ?_; refine Wp.region ?_))
  (((refine Zq ?_)); (refine q_lssD (by exact rfl) (by exact rfl) (fun hlt => ?_) (fun hge => ?_)))
  · ((refine Seq.done ?_; refine Wp.seq ?_; refine Zc ?_; refine Wp.skip ?_; refine thenN ?_; refine Wp.seq ?_; refine Wp.block ?_; refine Wp.seq ?_; refine Wp.region ?_; refine Zq ?_; refine Zm ?_; refine Zq ?_; refine Za ?_; refine Seq.done ?_; refine Wp.seq ?_; refine Wp.region ?_; refine Zq ?_; refine Zm ?_; refine Zq ?_; refine Zm ?_))
    obtain ⟨b, hb, hb2⟩ := byte_some (s := s) (k := k) (by omega)
    (((refine Zq ?_)); refine q_index_string T (by exact rfl) (by exact rfl) (by exact rfl) (by exact rfl) (by omega) (by rw [Int.toNat_natCast]; exact hb) ?_)
    have bad : ¬ NameAt s k → ¬ NameOk s := fun h hc => h (hc.2 k (by omega))
    unfold NameAt at bad
    (((refine Zq ?_)); (refine q_lssD (by exact rfl) (by exact rfl) (fun c1 => ?_) (fun c1 => ?_)))
    · ((refine Zq ?_; refine Zm ?_; refine Zn ?_; refine Zn ?_; refine Zn ?_; refine Zn ?_; refine Zq ?_; refine Zt ?_; refine Seq.done ?_; refine Zc ?_; refine Wp.seq ?_; refine Wp.region ?_; refine Zq ?_; refine Za ?_; refine Seq.done ?_; refine Wp.ret ?_; refine blkR ?_; refine thenR ?_; refine loopR ?_; refine blkR ?_; refine thenR ?_))
      (exact ret1 rfl rfl (by repeat (first | exact List.Sublist.refl _ | exact List.nil_sublist _ | refine List.Sublist.cons_cons _ ?_ | refine List.Sublist.cons _ ?_)) (bool_false (bad (fun h => by have := h.1; omega))))
    · ((refine Zq ?_; refine Zm ?_; refine Zy ?_; refine Zm ?_; refine Zy ?_; refine Zm ?_))
      (((refine Zy ?_)); refine q_index_string T (by exact rfl) (by exact rfl) (by exact rfl) (by exact rfl) (by omega) (by rw [Int.toNat_natCast]; exact hb) ?_)
      (((refine Zy ?_)); (refine q_gtrD (by exact rfl) (by exact rfl) (fun c2 => ?_) (fun c2 => ?_)))
      · ((refine Zq ?_; refine Zu ?_; refine Seq.done ?_; refine Zc ?_; refine Wp.seq ?_; refine Wp.region ?_; refine Zq ?_; refine Za ?_; refine Seq.done ?_; refine Wp.ret ?_; refine blkR ?_; refine thenR ?_; refine loopR ?_; refine blkR ?_; refine thenR ?_))
        (exact ret1 rfl rfl (by repeat (first | exact List.Sublist.refl _ | exact List.nil_sublist _ | refine List.Sublist.cons_cons _ ?_ | refine List.Sublist.cons _ ?_)) (bool_false (bad (fun h => by have := h.2; omega))))
      · ((refine Zq ?_; refine Zu ?_; refine Seq.done ?_; refine Zd ?_; refine Wp.skip ?_; refine blkN ?_; refine thenN ?_; refine Wp.region ?_; refine Zq ?_; refine q_add (by exact rfl) (by exact rfl) (wrap_in (by omega)) ?_; refine Zq ?_; refine Zm ?_; refine Seq.end_ ?_))
        (exact loopN ⟨k + 1, by omega, rfl, rfl, rfl, rfl, (lt_succ_cases hh ⟨by omega, by omega⟩)⟩ (by omega) (by repeat (first | exact trivial | refine ⟨by exact rfl, ?_⟩)) (by repeat (first | exact List.Sublist.refl _ | exact List.nil_sublist _ | refine List.Sublist.cons_cons _ ?_ | refine List.Sublist.cons _ ?_)))
  · ((refine Seq.done ?_; refine Wp.seq ?_; refine Zd ?_; refine Wp.exit ?_; refine thenX ?_; refine loopX ?_; refine blkX (by exact rfl) ?_; refine thenN ?_; refine Wp.seq ?_; refine Wp.region ?_; refine Zq ?_; refine Zm ?_; refine Zq ?_; refine q_len_string T (by exact rfl) (by exact rfl) (by exact rfl) ?_))
    (((refine Zq ?_)); (refine q_leqD (by exact rfl) (by exact rfl) (fun c3 => ?_) (fun c3 => ?_)))
    · ((refine Zq ?_; refine Za ?_; refine Seq.done ?_; refine Wp.ret ?_))
      (exact ret1 rfl rfl (by repeat (first | exact List.Sublist.refl _ | exact List.nil_sublist _ | refine List.Sublist.cons_cons _ ?_ | refine List.Sublist.cons _ ?_)) (bool_true ⟨by omega, fun i hi => hh i (by omega)⟩))
    · ((refine Zq ?_; refine Za ?_; refine Seq.done ?_; refine Wp.ret ?_))
      (exact ret1 rfl rfl (by repeat (first | exact List.Sublist.refl _ | exact List.nil_sublist _ | refine List.Sublist.cons_cons _ ?_ | refine List.Sublist.cons _ ?_)) (bool_false (fun h => by have := h.1; omega)))
abbrev fV (f : GFluent) (v : Value) : Value := .agg #[.string f.fluent.name, v, .int .i64 f.lo, .int .i64 f.hi, .int .i64 f.init]
theorem fluent_q {fz : FZ} {f : GFluent} {v : Value} (hf : GFluentR fz f v) : QFn Tryz.prog 37 [fV f v] fz (.bool (decide (FluentOk f))) := by
  obtain ⟨A, n, c, rfl, ha⟩ := hf.fluent.args
  have h1 := hf.lo
  have h2 := hf.hi
  unfold I64 at h1 h2
  refine GFn.quiet ?_
  (refine GFn.of_wp Tryz.func37 rfl Tryz.ntmps37 rfl rfl (fun w0 => ?_))
  ((refine Wp.seq ?_; refine Wp.region ?_; refine Seq.stepK (by exact rfl) (k_box _ (by exact rfl) (by exact rfl) (fun _ => ?_)); refine Zq ?_; refine Za ?_; refine Seq.done ?_; refine Wp.seq ?_; refine Wp.region ?_; refine Zq ?_; refine Zf T ?_; refine Zq ?_; refine Zl T 0 ?_))
  (((refine Zq ?_)); (refine q_leqD (by exact rfl) (by exact rfl) (fun c1 => ?_) (fun c1 => ?_)))
  · ((refine Zq ?_; refine Zm ?_; refine Zy ?_; refine Zf T ?_; refine Zy ?_; refine Zl T 0 ?_; refine Zy ?_; refine Zf T ?_; refine Zy ?_; refine Zl T 0 ?_))
    (((refine Zy ?_)); (refine q_leqD (by exact rfl) (by exact rfl) (fun c2 => ?_) (fun c2 => ?_)))
    · ((refine Zq ?_; refine Zt ?_; refine Zq ?_; refine Zm ?_; refine Zy ?_; refine Zf T ?_; refine Zy ?_; refine Zl T 0 ?_; refine Zy ?_; refine Zf T ?_; refine Zy ?_; refine Zl T 0 ?_))
      (((refine Zy ?_)); (refine q_leqD (by exact rfl) (by exact rfl) (fun c3 => ?_) (fun c3 => ?_)))
      · ((refine Zq ?_; refine Zt ?_; refine Zq ?_; refine Zm ?_; refine Zy ?_; refine Zf T ?_; refine Zy ?_; refine Zl T 0 ?_))
        (((refine Zy ?_)); (refine q_leqD (by exact rfl) (by exact rfl) (fun c4 => ?_) (fun c4 => ?_)))
        · ((refine Zq ?_; refine Zt ?_; refine Zq ?_; refine Zm ?_; refine Zy ?_; refine Zf T ?_; refine Zy ?_; refine Zl T 0 ?_; refine Zy ?_; refine Zf T ?_; refine Zy ?_; refine Zl T 0 ?_; refine Zy ?_; refine q_sub (by exact rfl) (by exact rfl) (wrap_in (by omega)) ?_))
          (((refine Zy ?_)); (refine q_lssD (by exact rfl) (by exact rfl) (fun c5 => ?_) (fun c5 => ?_)))
          · ((refine Zq ?_; refine Zt ?_; refine Zq ?_; refine Za ?_; refine Seq.done ?_; refine Wp.ret ?_))
            (exact ret1 rfl rfl (by repeat (first | exact List.Sublist.refl _ | exact List.nil_sublist _ | refine List.Sublist.cons_cons _ ?_ | refine List.Sublist.cons _ ?_)) (bool_true ⟨c1, c2, c3, c4, c5⟩))
          · ((refine Zq ?_; refine Zt ?_; refine Zq ?_; refine Za ?_; refine Seq.done ?_; refine Wp.ret ?_))
            (exact ret1 rfl rfl (by repeat (first | exact List.Sublist.refl _ | exact List.nil_sublist _ | refine List.Sublist.cons_cons _ ?_ | refine List.Sublist.cons _ ?_)) (bool_false (fun h => c5 h.2.2.2.2)))
        · ((refine Zq ?_; refine Zt ?_; refine Zq ?_; refine Zm ?_; refine Zn ?_; refine Zn ?_; refine Zn ?_; refine Zn ?_; refine Zn ?_; refine Zn ?_; refine Zq ?_; refine Zu ?_; refine Zq ?_; refine Za ?_; refine Seq.done ?_; refine Wp.ret ?_))
          (exact ret1 rfl rfl (by repeat (first | exact List.Sublist.refl _ | exact List.nil_sublist _ | refine List.Sublist.cons_cons _ ?_ | refine List.Sublist.cons _ ?_)) (bool_false (fun h => c4 h.2.2.2.1)))
      · ((refine Zq ?_; refine Zt ?_; refine Zq ?_; refine Zm ?_; refine Zn ?_; refine Zn ?_; refine Zn ?_; refine Zq ?_; refine Zu ?_; refine Zq ?_; refine Zm ?_; refine Zn ?_; refine Zn ?_; refine Zn ?_; refine Zn ?_; refine Zn ?_; refine Zn ?_; refine Zq ?_; refine Zu ?_; refine Zq ?_; refine Za ?_; refine Seq.done ?_; refine Wp.ret ?_))
        (exact ret1 rfl rfl (by repeat (first | exact List.Sublist.refl _ | exact List.nil_sublist _ | refine List.Sublist.cons_cons _ ?_ | refine List.Sublist.cons _ ?_)) (bool_false (fun h => c3 h.2.2.1)))
    · ((refine Zq ?_; refine Zt ?_; refine Zq ?_; refine Zm ?_; refine Zn ?_; refine Zn ?_; refine Zn ?_; refine Zn ?_; refine Zn ?_; refine Zq ?_; refine Zu ?_; refine Zq ?_; refine Zm ?_; refine Zn ?_; refine Zn ?_; refine Zn ?_; refine Zq ?_; refine Zu ?_; refine Zq ?_; refine Zm ?_; refine Zn ?_; refine Zn ?_; refine Zn ?_; refine Zn ?_; refine Zn ?_; refine Zn ?_; refine Zq ?_; refine Zu ?_; refine Zq ?_; refine Za ?_; refine Seq.done ?_; refine Wp.ret ?_))
      (exact ret1 rfl rfl (by repeat (first | exact List.Sublist.refl _ | exact List.nil_sublist _ | refine List.Sublist.cons_cons _ ?_ | refine List.Sublist.cons _ ?_)) (bool_false (fun h => c2 h.2.1)))
  · ((refine Zq ?_; refine Zm ?_; refine Zn ?_; refine Zn ?_; refine Zn ?_; refine Zn ?_; refine Zn ?_; refine Zq ?_; refine Zu ?_; refine Zq ?_; refine Zm ?_; refine Zn ?_; refine Zn ?_; refine Zn ?_; refine Zn ?_; refine Zn ?_; refine Zq ?_; refine Zu ?_; refine Zq ?_; refine Zm ?_; refine Zn ?_; refine Zn ?_; refine Zn ?_; refine Zq ?_; refine Zu ?_; refine Zq ?_; refine Zm ?_; refine Zn ?_; refine Zn ?_; refine Zn ?_; refine Zn ?_; refine Zn ?_; refine Zn ?_; refine Zq ?_; refine Zu ?_; refine Zq ?_; refine Za ?_; refine Seq.done ?_; refine Wp.ret ?_))
    (exact ret1 rfl rfl (by repeat (first | exact List.Sublist.refl _ | exact List.nil_sublist _ | refine List.Sublist.cons_cons _ ?_ | refine List.Sublist.cons _ ?_)) (bool_false (fun h => c1 h.1)))
def ProperAt (g : GTask) (s : GState) (i : Nat) : Prop := ∀ n f, s.values[i]? = some n → g.fluents[i]? = some f → f.lo ≤ n ∧ n ≤ f.hi
theorem proper_of {g : GTask} {s : GState} {k : Nat} (h0 : s.values.length = g.fluents.length) (h1 : AscP g.atoms.length s.tru) (h : ∀ i, i < k → ProperAt g s i) (hk : s.values.length ≤ k) : ProperP g s :=
  ⟨h0, h1, fun i n f hn hf => h i (by have := lt_of_get hn; omega) n f hn hf⟩
theorem proper_bad {g : GTask} {s : GState} {k : Nat} {n : Int} {f : GFluent} (hn : s.values[k]? = some n) (hf : g.fluents[k]? = some f) (h : f.lo ≤ n → ¬ n ≤ f.hi) : ¬ ProperP g s := fun hc => by
  have := hc.2.2 k n f hn hf
  exact h this.1 this.2
theorem proper_next {g : GTask} {s : GState} {k : Nat} {n : Int} {f : GFluent} (h : ∀ i, i < k → ProperAt g s i) (hn : s.values[k]? = some n) (hf : g.fluents[k]? = some f) (h1 : f.lo ≤ n) (h2 : n ≤ f.hi) : ∀ i, i < k + 1 → ProperAt g s i :=
  lt_succ_cases h (fun n' f' hn' hf' => by rw [hn] at hn'; rw [hf] at hf'; injection hn' with hn'; injection hf' with hf'; subst hn' hf'; exact ⟨h1, h2⟩)
theorem proper_q {fz : FZ} {g : GTask} {v1 v2 v3 v4 v5 : Value} {s : GState} {u1 u2 : Value} (hg : GTaskR fz g v1 v2 v3 v4 v5) (hs : GStateR fz s u1 u2) :
    QFn Tryz.prog 50 [gV v1 v2 v3 v4 v5, sV u1 u2] fz (.bool (decide (ProperP g s))) := by
  (obtain ⟨A1, n1, cap1, rfl, ga⟩ := hg.atoms; obtain ⟨A2, n2, cap2, rfl, gf⟩ := hg.fluents; obtain ⟨A3, n3, cap3, rfl, gi⟩ := hg.init; obtain ⟨A4, n4, cap4, rfl, gg⟩ := hg.goal; obtain ⟨A5, n5, cap5, rfl, go⟩ := hg.ops; have e1 := ga.len; subst e1; have e2 := gf.len; subst e2)
  (obtain ⟨B1, m1, d1, rfl, st⟩ := hs.tru; obtain ⟨B2, m2, d2, rfl, sv⟩ := hs.values)
  have l2 := sv.len
  have hm := sv.short
  refine GFn.quiet ?_
  (refine GFn.of_wp Tryz.func50 rfl Tryz.ntmps50 rfl rfl (fun w0 => ?_))
  (refine Wp.seq (Wp.region (Seq.stepK (by exact rfl) (k_box _ (by exact rfl) (by exact rfl) (fun g0 => ?_)))))
  (refine Seq.stepK (by exact rfl) (k_box _ (by exact rfl) (by exact rfl) (fun g1 => ?_)))
  ((refine Zq ?_; refine Za ?_; refine Seq.done ?_; refine Wp.seq ?_; refine Wp.seq ?_; refine Wp.region ?_; refine Zq ?_; refine Zf T ?_; refine Zq ?_; refine Zl T 0 ?_; refine Zq ?_; refine q_len_slice T (by exact rfl) (by exact rfl) (by exact rfl) ?_; refine Zq ?_; refine Zf T ?_; refine Zq ?_; refine Zl T 1 ?_; refine Zq ?_; refine q_len_slice T (by exact rfl) (by exact rfl) (by exact rfl) ?_))
  (((refine Zq ?_)); (refine q_neqD (by exact rfl) (by exact rfl) (fun c0 => ?_) (fun c0 => ?_)))
  · ((refine Zq ?_; refine Zm ?_; refine Zn ?_; refine Zn ?_; refine Zn ?_; refine Zn ?_; refine Zn ?_; refine Zn ?_; refine Zn ?_; refine Zq ?_; refine Zt ?_; refine Seq.done ?_; refine Zc ?_; refine Wp.seq ?_; refine Wp.region ?_; refine Zq ?_; refine Za ?_; refine Seq.done ?_; refine Wp.ret ?_; refine thenR ?_))
    (exact ret1 rfl rfl (by repeat (first | exact List.Sublist.refl _ | exact List.nil_sublist _ | refine List.Sublist.cons_cons _ ?_ | refine List.Sublist.cons _ ?_)) (bool_false (fun h => by have := h.1; omega)))
  · ((refine Zq ?_; refine Zm ?_; refine Zy ?_; refine Zf T ?_; refine Zy ?_; refine Zl T 0 ?_; refine Zy ?_; refine Zf T ?_; refine Zy ?_; refine Zl T 1 ?_; refine Zy ?_; refine q_len_slice T (by exact rfl) (by exact rfl) (by exact rfl) ?_))
    (((refine Zy ?_)); refine q_callB (by exact rfl) (by exact rfl) (indices_q (m := g.atoms.length) st) (fun f1 => ?_) (fun f1 => ?_))
    · ((refine Zy ?_; refine q_not (by exact rfl) ?_; refine Zq ?_; refine Zu ?_; refine Seq.done ?_; refine Zd ?_; refine Wp.skip ?_; refine thenN ?_; refine Wp.seq ?_; refine Wp.seq ?_; refine Wp.region ?_; refine Zq ?_; refine Zf T ?_; refine Zq ?_; refine Zl T 0 ?_; refine Zq ?_; refine q_len_slice T (by exact rfl) (by exact rfl) (by exact rfl) ?_; refine Zq ?_; refine Zm ?_; refine Seq.done ?_; refine Wp.block ?_))
      (refine Wp.loop (fun q σ fz' H' => ∃ k : Nat, k ≤ m2 ∧ q = m2 - k ∧ σ = [(26, .int .i64 k), (25, .int .i64 m2), (24, .slice B2 m2 d2), (2, .pointer (some ⟨g0, 0, none⟩))] ∧ fz = fz' ∧ H' = [((g1, .cells #[.slice B1 m1 d1, .slice B2 m2 d2] 33 (0, 0))), ((g0, .cells #[.slice A1 g.atoms.length cap1, .slice A2 g.fluents.length cap2, .slice A3 n3 cap3, .slice A4 n4 cap4, .slice A5 n5 cap5] 28 (0, 0)))] ∧ (∀ i, i < k → ProperAt g s i)) ⟨0, Nat.zero_le _, rfl, rfl, rfl, rfl, (fun i hi => absurd hi (by omega))⟩ (by repeat (first | exact trivial | refine ⟨by exact rfl, ?_⟩)) (by repeat (first | exact List.Sublist.refl _ | exact List.nil_sublist _ | refine List.Sublist.cons_cons _ ?_ | refine List.Sublist.cons _ ?_)) ?_; rintro q σ fz' H' ⟨k, hk, rfl, rfl, rfl, rfl, hh⟩)
      ((refine Wp.seq ?_; refine Wp.region ?_))
      (((refine Zq ?_)); (refine q_lssD (by exact rfl) (by exact rfl) (fun hlt => ?_) (fun hge => ?_)))
      · ((refine Seq.done ?_; refine Wp.seq ?_; refine Zc ?_; refine Wp.skip ?_; refine thenN ?_; refine Wp.seq ?_; refine Wp.block ?_; refine Wp.seq ?_; refine Wp.region ?_; refine Zq ?_; refine Zm ?_))
        obtain ⟨n, hn⟩ := get_some (l := s.values) (k := k) (by omega)
        obtain ⟨f, hf⟩ := get_some (l := g.fluents) (k := k) (by omega)
        (((refine Zq ?_)); refine q_index T k (by exact rfl) (by exact rfl) (by exact rfl) (by exact rfl) (by exact rfl) (by exact rfl) sv (by first | rfl | omega) hn (fun p hp => ?_))
        (((refine Zq ?_)); refine q_load_int T (by exact rfl) (by exact rfl) (by exact rfl) hp (fun ix => ?_))
        ((refine Zq ?_; refine Za ?_; refine Zq ?_; refine Za ?_; refine Seq.done ?_; refine Wp.seq ?_; refine Wp.region ?_; refine Zq ?_; refine Zm ?_; refine Zq ?_; refine Zf T ?_; refine Zq ?_; refine Zl T 1 ?_; refine Zq ?_; refine Zm ?_))
        (((refine Zq ?_)); refine q_index T k (by exact rfl) (by exact rfl) (by exact rfl) (by exact rfl) (by exact rfl) (by exact rfl) gf (by first | rfl | omega) hf (fun p2 hp2 => ?_))
        ((refine Zq ?_; refine Zf T ?_))
        (((refine Zq ?_)); refine q_load_int T (by exact rfl) (by exact rfl) (by exact rfl) hp2.GFluent_lo (fun ix2 => ?_))
        (((refine Zq ?_)); (refine q_lssD (by exact rfl) (by exact rfl) (fun c1 => ?_) (fun c1 => ?_)))
        · ((refine Zq ?_; refine Zm ?_; refine Zn ?_; refine Zn ?_; refine Zn ?_; refine Zn ?_; refine Zn ?_; refine Zn ?_; refine Zn ?_; refine Zn ?_; refine Zq ?_; refine Zt ?_; refine Seq.done ?_; refine Zc ?_; refine Wp.seq ?_; refine Wp.region ?_; refine Zq ?_; refine Za ?_; refine Seq.done ?_; refine Wp.ret ?_; refine blkR ?_; refine thenR ?_; refine loopR ?_; refine blkR ?_; refine thenR ?_))
          (exact ret1 rfl rfl (by repeat (first | exact List.Sublist.refl _ | exact List.nil_sublist _ | refine List.Sublist.cons_cons _ ?_ | refine List.Sublist.cons _ ?_)) (bool_false (proper_bad hn hf (by omega))))
        · ((refine Zq ?_; refine Zm ?_; refine Zy ?_; refine Zm ?_; refine Zy ?_; refine Zf T ?_; refine Zy ?_; refine Zl T 1 ?_; refine Zy ?_; refine Zm ?_))
          (((refine Zy ?_)); refine q_index T k (by exact rfl) (by exact rfl) (by exact rfl) (by exact rfl) (by exact rfl) (by exact rfl) gf (by first | rfl | omega) hf (fun p3 hp3 => ?_))
          ((refine Zy ?_; refine Zf T ?_))
          (((refine Zy ?_)); refine q_load_int T (by exact rfl) (by exact rfl) (by exact rfl) hp3.GFluent_hi (fun ix3 => ?_))
          (((refine Zy ?_)); (refine q_gtrD (by exact rfl) (by exact rfl) (fun c2 => ?_) (fun c2 => ?_)))
          · ((refine Zq ?_; refine Zu ?_; refine Seq.done ?_; refine Zc ?_; refine Wp.seq ?_; refine Wp.region ?_; refine Zq ?_; refine Za ?_; refine Seq.done ?_; refine Wp.ret ?_; refine blkR ?_; refine thenR ?_; refine loopR ?_; refine blkR ?_; refine thenR ?_))
            (exact ret1 rfl rfl (by repeat (first | exact List.Sublist.refl _ | exact List.nil_sublist _ | refine List.Sublist.cons_cons _ ?_ | refine List.Sublist.cons _ ?_)) (bool_false (proper_bad hn hf (by omega))))
          · ((refine Zq ?_; refine Zu ?_; refine Seq.done ?_; refine Zd ?_; refine Wp.skip ?_; refine blkN ?_; refine thenN ?_; refine Wp.region ?_; refine Zq ?_; refine q_add (by exact rfl) (by exact rfl) (wrap_in (by omega)) ?_; refine Zq ?_; refine Zm ?_; refine Seq.end_ ?_))
            (exact loopN ⟨k + 1, by omega, rfl, rfl, rfl, rfl, (proper_next hh hn hf (by omega) (by omega))⟩ (by omega) (by repeat (first | exact trivial | refine ⟨by exact rfl, ?_⟩)) (by repeat (first | exact List.Sublist.refl _ | exact List.nil_sublist _ | refine List.Sublist.cons_cons _ ?_ | refine List.Sublist.cons _ ?_)))
      · ((refine Seq.done ?_; refine Wp.seq ?_; refine Zd ?_; refine Wp.exit ?_; refine thenX ?_; refine loopX ?_; refine blkX (by exact rfl) ?_; refine thenN ?_; refine Wp.seq ?_; refine Wp.region ?_; refine Zq ?_; refine Za ?_; refine Seq.done ?_; refine Wp.ret ?_))
        (exact ret1 rfl rfl (by repeat (first | exact List.Sublist.refl _ | exact List.nil_sublist _ | refine List.Sublist.cons_cons _ ?_ | refine List.Sublist.cons _ ?_)) (bool_true (proper_of (by omega) (of_decide_eq_true f1) hh (by omega))))
    · ((refine Zy ?_; refine q_not (by exact rfl) ?_; refine Zq ?_; refine Zu ?_; refine Seq.done ?_; refine Zc ?_; refine Wp.seq ?_; refine Wp.region ?_; refine Zq ?_; refine Za ?_; refine Seq.done ?_; refine Wp.ret ?_; refine thenR ?_))
      (exact ret1 rfl rfl (by repeat (first | exact List.Sublist.refl _ | exact List.nil_sublist _ | refine List.Sublist.cons_cons _ ?_ | refine List.Sublist.cons _ ?_)) (bool_false (fun h => of_decide_eq_false f1 h.2.1)))
theorem rproper_q {fz : FZ} {g : GTask} {v1 v2 v3 v4 v5 : Value} {s : GState} {u1 u2 : Value} (hg : GTaskR fz g v1 v2 v3 v4 v5) (hs : GStateR fz s u1 u2) :
    QFn Tryz.prog 15 [gV v1 v2 v3 v4 v5, sV u1 u2] fz (.bool (decide (ProperP g s))) := by
  (obtain ⟨A1, n1, cap1, rfl, ga⟩ := hg.atoms; obtain ⟨A2, n2, cap2, rfl, gf⟩ := hg.fluents; obtain ⟨A3, n3, cap3, rfl, gi⟩ := hg.init; obtain ⟨A4, n4, cap4, rfl, gg⟩ := hg.goal; obtain ⟨A5, n5, cap5, rfl, go⟩ := hg.ops; have e1 := ga.len; subst e1; have e2 := gf.len; subst e2)
  (obtain ⟨B1, m1, d1, rfl, st⟩ := hs.tru; obtain ⟨B2, m2, d2, rfl, sv⟩ := hs.values)
  have l2 := sv.len
  have hm := sv.short
  refine GFn.quiet ?_
  (refine GFn.of_wp Tryz.func15 rfl Tryz.ntmps15 rfl rfl (fun w0 => ?_))
  (refine Wp.seq (Wp.region (Seq.stepK (by exact rfl) (k_box _ (by exact rfl) (by exact rfl) (fun g0 => ?_)))))
  (refine Seq.stepK (by exact rfl) (k_box _ (by exact rfl) (by exact rfl) (fun g1 => ?_)))
  ((refine Zq ?_; refine Za ?_; refine Seq.done ?_; refine Wp.seq ?_; refine Wp.seq ?_; refine Wp.region ?_; refine Zq ?_; refine Zf T ?_; refine Zq ?_; refine Zl T 0 ?_; refine Zq ?_; refine Zf T ?_; refine Zq ?_; refine Zl T 1 ?_; refine Zq ?_; refine q_len_slice T (by exact rfl) (by exact rfl) (by exact rfl) ?_))
  (((refine Zq ?_)); refine q_callB (by exact rfl) (by exact rfl) (ascending_q (m := g.atoms.length) st) (fun f1 => ?_) (fun f1 => ?_))
  · ((refine Zq ?_; refine q_not (by exact rfl) ?_; refine Zq ?_; refine Zm ?_; refine Zy ?_; refine Zf T ?_; refine Zy ?_; refine Zl T 0 ?_; refine Zy ?_; refine q_len_slice T (by exact rfl) (by exact rfl) (by exact rfl) ?_; refine Zy ?_; refine Zf T ?_; refine Zy ?_; refine Zl T 1 ?_; refine Zy ?_; refine q_len_slice T (by exact rfl) (by exact rfl) (by exact rfl) ?_))
    (((refine Zy ?_)); (refine q_neqD (by exact rfl) (by exact rfl) (fun c0 => ?_) (fun c0 => ?_)))
    · ((refine Zq ?_; refine Zu ?_; refine Seq.done ?_; refine Zc ?_; refine Wp.seq ?_; refine Wp.region ?_; refine Zq ?_; refine Za ?_; refine Seq.done ?_; refine Wp.ret ?_; refine thenR ?_))
      (exact ret1 rfl rfl (by repeat (first | exact List.Sublist.refl _ | exact List.nil_sublist _ | refine List.Sublist.cons_cons _ ?_ | refine List.Sublist.cons _ ?_)) (bool_false (fun h => by have := h.1; omega)))
    · ((refine Zq ?_; refine Zu ?_; refine Seq.done ?_; refine Zd ?_; refine Wp.skip ?_; refine thenN ?_; refine Wp.seq ?_; refine Wp.seq ?_; refine Wp.region ?_; refine Zq ?_; refine Za ?_; refine Seq.done ?_; refine Wp.block ?_))
      (refine Wp.loop (fun q σ fz' H' => ∃ k : Nat, k ≤ m2 ∧ q = m2 - k ∧ σ = [(5, .int .i64 k), (3, .pointer (some ⟨g1, 0, none⟩)), (2, .pointer (some ⟨g0, 0, none⟩))] ∧ fz = fz' ∧ H' = [((g1, .cells #[.slice B1 m1 d1, .slice B2 m2 d2] 33 (0, 0))), ((g0, .cells #[.slice A1 g.atoms.length cap1, .slice A2 g.fluents.length cap2, .slice A3 n3 cap3, .slice A4 n4 cap4, .slice A5 n5 cap5] 28 (0, 0)))] ∧ (∀ i, i < k → ProperAt g s i)) ⟨0, Nat.zero_le _, rfl, rfl, rfl, rfl, (fun i hi => absurd hi (by omega))⟩ (by repeat (first | exact trivial | refine ⟨by exact rfl, ?_⟩)) (by repeat (first | exact List.Sublist.refl _ | exact List.nil_sublist _ | refine List.Sublist.cons_cons _ ?_ | refine List.Sublist.cons _ ?_)) ?_; rintro q σ fz' H' ⟨k, hk, rfl, rfl, rfl, rfl, hh⟩)
      ((refine Wp.seq ?_; refine Wp.seq ?_; refine Wp.region ?_; refine Zq ?_; refine Zm ?_; refine Zq ?_; refine Zf T ?_; refine Zq ?_; refine Zl T 0 ?_; refine Zq ?_; refine q_len_slice T (by exact rfl) (by exact rfl) (by exact rfl) ?_))
      (((refine Zq ?_)); (refine q_lssD (by exact rfl) (by exact rfl) (fun hlt => ?_) (fun hge => ?_)))
      · ((refine Seq.done ?_; refine Zc ?_; refine Wp.skip ?_; refine thenN ?_; refine Wp.seq ?_; refine Wp.block ?_; refine Wp.seq ?_; refine Wp.draw (by decide +kernel) T.mixed (by kernel_rfl) (by kernel_rfl) ?_; refine QL.q ?_; refine Zf T ?_; refine QL.q ?_; refine Zl T 0 ?_; refine QL.q ?_; refine Zm ?_))
        obtain ⟨n, hn⟩ := get_some (l := s.values) (k := k) (by omega)
        obtain ⟨f, hf⟩ := get_some (l := g.fluents) (k := k) (by omega)
        (((refine QL.q ?_)); refine q_index T k (by exact rfl) (by exact rfl) (by exact rfl) (by exact rfl) (by exact rfl) (by exact rfl) sv (by first | rfl | omega) hn (fun p hp => ?_))
        (((refine QL.q ?_)); refine q_load_int T (by exact rfl) (by exact rfl) (by exact rfl) hp (fun ix => ?_))
        ((refine QL.q ?_; refine Zf T ?_; refine QL.q ?_; refine Zl T 1 ?_; refine QL.q ?_; refine Zm ?_))
        (((refine QL.q ?_)); refine q_index T k (by exact rfl) (by exact rfl) (by exact rfl) (by exact rfl) (by exact rfl) (by exact rfl) gf (by first | rfl | omega) hf (fun p2 hp2 => ?_))
        ((refine QL.q ?_; refine Zf T ?_))
        (((refine QL.q ?_)); refine q_load_int T (by exact rfl) (by exact rfl) (by exact rfl) hp2.GFluent_lo (fun ix2 => ?_))
        (((refine QL.q ?_)); (refine q_lssD (by exact rfl) (by exact rfl) (fun c1 => ?_) (fun c1 => ?_)))
        · ((refine QL.q ?_; refine Zm ?_; refine QL.no (by exact rfl) ?_; refine QL.no (by exact rfl) ?_; refine QL.no (by exact rfl) ?_; refine QL.no (by exact rfl) ?_; refine QL.no (by exact rfl) ?_; refine QL.no (by exact rfl) ?_; refine QL.no (by exact rfl) ?_; refine QL.no (by exact rfl) ?_; refine QL.no (by exact rfl) ?_; refine QL.no (by exact rfl) ?_; refine QL.no (by exact rfl) ?_; refine QL.no (by exact rfl) ?_; refine QL.q ?_; refine Zt ?_; refine QL.done ?_; refine thenN ?_; refine Zc ?_; refine Wp.seq ?_; refine Wp.region ?_; refine Zq ?_; refine Za ?_; refine Seq.done ?_; refine Wp.ret ?_; refine blkR ?_; refine thenR ?_; refine loopR ?_; refine blkR ?_; refine thenR ?_))
          (exact ret1 rfl rfl (by repeat (first | exact List.Sublist.refl _ | exact List.nil_sublist _ | refine List.Sublist.cons_cons _ ?_ | refine List.Sublist.cons _ ?_)) (bool_false (proper_bad hn hf (by omega))))
        · ((refine QL.q ?_; refine Zm ?_; refine QL.yes (by exact rfl) ?_; refine Zf T ?_; refine QL.yes (by exact rfl) ?_; refine Zl T 0 ?_; refine QL.yes (by exact rfl) ?_; refine Zm ?_))
          (((refine QL.yes (by exact rfl) ?_)); refine q_index T k (by exact rfl) (by exact rfl) (by exact rfl) (by exact rfl) (by exact rfl) (by exact rfl) sv (by first | rfl | omega) hn (fun p4 hp4 => ?_))
          (((refine QL.yes (by exact rfl) ?_)); refine q_load_int T (by exact rfl) (by exact rfl) (by exact rfl) hp4 (fun ix4 => ?_))
          ((refine QL.yes (by exact rfl) ?_; refine Zf T ?_; refine QL.yes (by exact rfl) ?_; refine Zl T 1 ?_; refine QL.yes (by exact rfl) ?_; refine Zm ?_))
          (((refine QL.yes (by exact rfl) ?_)); refine q_index T k (by exact rfl) (by exact rfl) (by exact rfl) (by exact rfl) (by exact rfl) (by exact rfl) gf (by first | rfl | omega) hf (fun p3 hp3 => ?_))
          ((refine QL.yes (by exact rfl) ?_; refine Zf T ?_))
          (((refine QL.yes (by exact rfl) ?_)); refine q_load_int T (by exact rfl) (by exact rfl) (by exact rfl) hp3.GFluent_hi (fun ix3 => ?_))
          (((refine QL.yes (by exact rfl) ?_)); (refine q_gtrD (by exact rfl) (by exact rfl) (fun c2 => ?_) (fun c2 => ?_)))
          · ((refine QL.q ?_; refine Zu ?_; refine QL.done ?_; refine thenN ?_; refine Zc ?_; refine Wp.seq ?_; refine Wp.region ?_; refine Zq ?_; refine Za ?_; refine Seq.done ?_; refine Wp.ret ?_; refine blkR ?_; refine thenR ?_; refine loopR ?_; refine blkR ?_; refine thenR ?_))
            (exact ret1 rfl rfl (by repeat (first | exact List.Sublist.refl _ | exact List.nil_sublist _ | refine List.Sublist.cons_cons _ ?_ | refine List.Sublist.cons _ ?_)) (bool_false (proper_bad hn hf (by omega))))
          · ((refine QL.q ?_; refine Zu ?_; refine QL.done ?_; refine thenN ?_; refine Zd ?_; refine Wp.skip ?_; refine blkN ?_; refine thenN ?_; refine Wp.region ?_; refine Zq ?_; refine Zm ?_; refine Zq ?_; refine q_add (by exact rfl) (by exact rfl) (wrap_in (by omega)) ?_; refine Zq ?_; refine Za ?_; refine Seq.end_ ?_))
            (exact loopN ⟨k + 1, by omega, rfl, rfl, rfl, rfl, (proper_next hh hn hf (by omega) (by omega))⟩ (by omega) (by repeat (first | exact trivial | refine ⟨by exact rfl, ?_⟩)) (by repeat (first | exact List.Sublist.refl _ | exact List.nil_sublist _ | refine List.Sublist.cons_cons _ ?_ | refine List.Sublist.cons _ ?_)))
      · ((refine Seq.done ?_; refine Zd ?_; refine Wp.exit ?_; refine thenX ?_; refine loopX ?_; refine blkX (by exact rfl) ?_; refine thenN ?_; refine Wp.seq ?_; refine Wp.region ?_; refine Zq ?_; refine Za ?_; refine Seq.done ?_; refine Wp.ret ?_))
        (exact ret1 rfl rfl (by repeat (first | exact List.Sublist.refl _ | exact List.nil_sublist _ | refine List.Sublist.cons_cons _ ?_ | refine List.Sublist.cons _ ?_)) (bool_true (proper_of (by omega) (of_decide_eq_true f1) hh (by omega))))
  · ((refine Zq ?_; refine q_not (by exact rfl) ?_; refine Zq ?_; refine Zm ?_; refine Zn ?_; refine Zn ?_; refine Zn ?_; refine Zn ?_; refine Zn ?_; refine Zn ?_; refine Zn ?_; refine Zq ?_; refine Zt ?_; refine Seq.done ?_; refine Zc ?_; refine Wp.seq ?_; refine Wp.region ?_; refine Zq ?_; refine Za ?_; refine Seq.done ?_; refine Wp.ret ?_; refine thenR ?_))
    (exact ret1 rfl rfl (by repeat (first | exact List.Sublist.refl _ | exact List.nil_sublist _ | refine List.Sublist.cons_cons _ ?_ | refine List.Sublist.cons _ ?_)) (bool_false (fun h => of_decide_eq_false f1 h.2.1)))
end Go.Proofs.YtegmololhnipiaaGreatDoor
namespace Go.Lx
open Go.RowKit
def setB (ks : List Int) : List (Int × Value) := ks.map fun k => (k, .bool true)
noncomputable def insK (ks : List Int) (x : Int) : List Int := open Classical in if x ∈ ks then ks else ks ++ [x]
theorem mem_insK {ks : List Int} {x y : Int} : y ∈ insK ks x ↔ y ∈ ks ∨ y = x := by
  unfold insK
  split
  · rename_i h
    exact ⟨.inl, fun hc => hc.elim id (fun e => by rw [e]; exact h)⟩
  · simp
theorem fnd_set : ∀ (ks : List Int) (x : Int) (i : Nat), (x ∈ ks ∧ ∃ j, fndM (setB ks) x i = some (i + j, .bool true) ∧ ks[j]? = some x) ∨ (x ∉ ks ∧ fndM (setB ks) x i = none)
  | [], x, i => .inr ⟨by simp, rfl⟩
  | k :: r, x, i => by
    by_cases h : x = k
    · subst h
      exact .inl ⟨by simp, 0, by simp [setB, fndM], by simp⟩
    · rcases fnd_set r x (i + 1) with ⟨h1, j, h2, h3⟩ | ⟨h1, h2⟩
      · exact .inl ⟨by simp [h1], j + 1, by simp only [setB, List.map_cons, fndM, if_neg h]; rw [show i + (j + 1) = i + 1 + j from by omega]; exact h2, by simpa using h3⟩
      · exact .inr ⟨by simp [h, h1], by simp only [setB, List.map_cons, fndM, if_neg h]; exact h2⟩
theorem upd_set (ks : List Int) (x : Int) : updM (setB ks) x (.bool true) = setB (insK ks x) := by
  unfold updM insK
  rcases fnd_set ks x 0 with ⟨h1, j, h2, h3⟩ | ⟨h1, h2⟩
  · rw [h2, if_pos h1]
    simp only [Nat.zero_add]
    apply List.ext_getElem?
    intro i
    rw [List.getElem?_set]
    split
    · rename_i he
      subst he
      split
      · simp [setB, h3]
      · rename_i hl
        exact absurd (List.getElem?_eq_some_iff.1 h3).1 (by simpa [setB] using hl)
    · rfl
  · rw [h2, if_neg h1]
    simp [setB]
theorem look_set (ks : List Int) (x : Int) {P : Value → Prop} (ht : x ∈ ks → P (.bool true)) (hf : x ∉ ks → P (.bool false)) : P ((fndM (setB ks) x 0).elim (.bool false) (·.2)) := by
  rcases fnd_set ks x 0 with ⟨h1, j, h2, h3⟩ | ⟨h1, h2⟩
  · rw [h2]; exact ht h1
  · rw [h2]; exact hf h1
section
variable {P : Program} {cx : Cx} {r : Operand → Option Value} {fz : FZ} {H : HP} {V : Value → Prop} {dst : Option Nat} {ty : TypeId} {pos : String} {af : Array Edge} {gd : Option (Nat × Bool)} {t : TypeId} {y z : Operand}
theorem q_lookup_set (T : Tab P) {k e : TypeId} {X K E : Ty} {d : IntKind} {g : Nat} {ks : List Int} {x : Int} (i : Nat) (hT : T.inf t = some X) (hd : X.desc = .map k e) (hK : T.inf k = some K) (hkd : K.desc = .int d) (hE : T.inf e = some E) (hz0 : E.zero = .bool false)
    (hy : r y = some (.map (some g))) (hz : r z = some (.int .i64 x)) (hH : H[i]? = some (g, mapB (setB ks))) (ht : x ∈ ks → V (.bool true)) (hf : x ∉ ks → V (.bool false)) : DoesQ P cx ⟨dst, .lookup t y z false, ty, pos, af, gd⟩ r fz H V :=
  q_lookup_own T i hT hd hK hkd hE hy hz hH (by rw [hz0]; exact look_set ks x ht hf)
end
end Go.Lx
