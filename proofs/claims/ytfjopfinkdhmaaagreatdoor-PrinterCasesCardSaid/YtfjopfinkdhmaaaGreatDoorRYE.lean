/- The texts Tab, PWalkA, PGrow, RA, laid together. Conditions: none. -/
import Derived.Test.YtfjopfinkdhmaaaGreatDoorRYD
import Derived.Test.YtfjopfinkdhmaaaGreatDoorProg
set_option linter.all false
namespace Go.Proofs.YtfjopfinkdhmaaaGreatDoor
open Go.Lx
open Go.Proofs.Tryz (prog)
set_option maxRecDepth 100000
def ty2_:Ty:=⟨(.int .i64),1,8,(.int .i64 0)⟩
theorem ty2_ok:TyOk prog 2 ty2_:=TyOk.mk' (by kernel_rfl) (by kernel_rfl)
def ty3_:Ty:=⟨(.int .i64),1,8,(.int .i64 0)⟩
theorem ty3_ok:TyOk prog 3 ty3_:=TyOk.mk' (by kernel_rfl) (by kernel_rfl)
def ty4_:Ty:=⟨.bool,1,1,(.bool false)⟩
theorem ty4_ok:TyOk prog 4 ty4_:=TyOk.mk' (by kernel_rfl) (by kernel_rfl)
def ty5_:Ty:=⟨(.int .u8),1,1,(.int .u8 0)⟩
theorem ty5_ok:TyOk prog 5 ty5_:=TyOk.mk' (by kernel_rfl) (by kernel_rfl)
def ty6_:Ty:=⟨(.int .u8),1,1,(.int .u8 0)⟩
theorem ty6_ok:TyOk prog 6 ty6_:=TyOk.mk' (by kernel_rfl) (by kernel_rfl)
def ty7_:Ty:=⟨(.struct #[fld 2 0,fld 3 1,fld 4 2,fld 6 3]),4,24,(.agg #[(.int .i64 0),(.int .i64 0),(.bool false),(.int .u8 0)])⟩
theorem ty7_ok:TyOk prog 7 ty7_:=TyOk.mk' (by kernel_rfl) (by kernel_rfl)
def ty8_:Ty:=⟨(.struct #[fld 2 0,fld 3 1,fld 4 2,fld 6 3]),4,24,(.agg #[(.int .i64 0),(.int .i64 0),(.bool false),(.int .u8 0)])⟩
theorem ty8_ok:TyOk prog 8 ty8_:=TyOk.mk' (by kernel_rfl) (by kernel_rfl)
def ty9_:Ty:=⟨.string,1,16,(.string ⟨#[]⟩)⟩
theorem ty9_ok:TyOk prog 9 ty9_:=TyOk.mk' (by kernel_rfl) (by kernel_rfl)
def ty20_:Ty:=⟨(.interface #[]),1,16,.nilIface⟩
theorem ty20_ok:TyOk prog 20 ty20_:=TyOk.mk' (by kernel_rfl) (by kernel_rfl)
def ty22_:Ty:=⟨(.struct #[fld 9 0,fld 9 1]),2,32,(.agg #[(.string ⟨#[]⟩),(.string ⟨#[]⟩)])⟩
theorem ty22_ok:TyOk prog 22 ty22_:=TyOk.mk' (by kernel_rfl) (by kernel_rfl)
def ty23_:Ty:=⟨(.struct #[fld 9 0,fld 9 1]),2,32,(.agg #[(.string ⟨#[]⟩),(.string ⟨#[]⟩)])⟩
theorem ty23_ok:TyOk prog 23 ty23_:=TyOk.mk' (by kernel_rfl) (by kernel_rfl)
def ty24_:Ty:=⟨(.func #[] #[] false),1,8,.nilFunc⟩
theorem ty24_ok:TyOk prog 24 ty24_:=TyOk.mk' (by kernel_rfl) (by kernel_rfl)
def ty25_:Ty:=⟨(.slice 110),1,24,(.slice none 0 0)⟩
theorem ty25_ok:TyOk prog 25 ty25_:=TyOk.mk' (by kernel_rfl) (by kernel_rfl)
def ty26_:Ty:=⟨(.slice 69),1,24,(.slice none 0 0)⟩
theorem ty26_ok:TyOk prog 26 ty26_:=TyOk.mk' (by kernel_rfl) (by kernel_rfl)
def ty27_:Ty:=⟨(.slice 71),1,24,(.slice none 0 0)⟩
theorem ty27_ok:TyOk prog 27 ty27_:=TyOk.mk' (by kernel_rfl) (by kernel_rfl)
def ty28_:Ty:=⟨(.slice 75),1,24,(.slice none 0 0)⟩
theorem ty28_ok:TyOk prog 28 ty28_:=TyOk.mk' (by kernel_rfl) (by kernel_rfl)
def ty29_:Ty:=⟨(.slice 78),1,24,(.slice none 0 0)⟩
theorem ty29_ok:TyOk prog 29 ty29_:=TyOk.mk' (by kernel_rfl) (by kernel_rfl)
def ty30_:Ty:=⟨(.struct #[fld 9 0,fld 25 1,fld 25 2,fld 26 3,fld 27 4,fld 28 5,fld 29 6]),7,160,(.agg #[(.string ⟨#[]⟩),(.slice none 0 0),(.slice none 0 0),(.slice none 0 0),(.slice none 0 0),(.slice none 0 0),(.slice none 0 0)])⟩
theorem ty30_ok:TyOk prog 30 ty30_:=TyOk.mk' (by kernel_rfl) (by kernel_rfl)
def ty31_:Ty:=⟨(.struct #[fld 9 0,fld 25 1,fld 25 2,fld 26 3,fld 27 4,fld 28 5,fld 29 6]),7,160,(.agg #[(.string ⟨#[]⟩),(.slice none 0 0),(.slice none 0 0),(.slice none 0 0),(.slice none 0 0),(.slice none 0 0),(.slice none 0 0)])⟩
theorem ty31_ok:TyOk prog 31 ty31_:=TyOk.mk' (by kernel_rfl) (by kernel_rfl)
def ty32_:Ty:=⟨(.slice 114),1,24,(.slice none 0 0)⟩
theorem ty32_ok:TyOk prog 32 ty32_:=TyOk.mk' (by kernel_rfl) (by kernel_rfl)
def ty33_:Ty:=⟨(.slice 116),1,24,(.slice none 0 0)⟩
theorem ty33_ok:TyOk prog 33 ty33_:=TyOk.mk' (by kernel_rfl) (by kernel_rfl)
def ty34_:Ty:=⟨(.slice 9),1,24,(.slice none 0 0)⟩
theorem ty34_ok:TyOk prog 34 ty34_:=TyOk.mk' (by kernel_rfl) (by kernel_rfl)
def ty35_:Ty:=⟨(.slice 120),1,24,(.slice none 0 0)⟩
theorem ty35_ok:TyOk prog 35 ty35_:=TyOk.mk' (by kernel_rfl) (by kernel_rfl)
def ty36_:Ty:=⟨(.slice 38),1,24,(.slice none 0 0)⟩
theorem ty36_ok:TyOk prog 36 ty36_:=TyOk.mk' (by kernel_rfl) (by kernel_rfl)
def ty37_:Ty:=⟨(.struct #[fld 9 0,fld 9 1,fld 34 2,fld 25 3,fld 35 4,fld 36 5]),6,128,(.agg #[(.string ⟨#[]⟩),(.string ⟨#[]⟩),(.slice none 0 0),(.slice none 0 0),(.slice none 0 0),(.slice none 0 0)])⟩
theorem ty37_ok:TyOk prog 37 ty37_:=TyOk.mk' (by kernel_rfl) (by kernel_rfl)
def ty38_:Ty:=⟨(.struct #[fld 9 0,fld 9 1,fld 34 2,fld 25 3,fld 35 4,fld 36 5]),6,128,(.agg #[(.string ⟨#[]⟩),(.string ⟨#[]⟩),(.slice none 0 0),(.slice none 0 0),(.slice none 0 0),(.slice none 0 0)])⟩
theorem ty38_ok:TyOk prog 38 ty38_:=TyOk.mk' (by kernel_rfl) (by kernel_rfl)
def ty39_:Ty:=⟨(.struct #[fld 9 0,fld 9 1,fld 25 2,fld 32 3,fld 33 4,fld 38 5]),11,232,(.agg #[(.string ⟨#[]⟩),(.string ⟨#[]⟩),(.slice none 0 0),(.slice none 0 0),(.slice none 0 0),(.string ⟨#[]⟩),(.string ⟨#[]⟩),(.slice none 0 0),(.slice none 0 0),(.slice none 0 0),(.slice none 0 0)])⟩
theorem ty39_ok:TyOk prog 39 ty39_:=TyOk.mk' (by kernel_rfl) (by kernel_rfl)
def ty40_:Ty:=⟨(.struct #[fld 9 0,fld 9 1,fld 25 2,fld 32 3,fld 33 4,fld 38 5]),11,232,(.agg #[(.string ⟨#[]⟩),(.string ⟨#[]⟩),(.slice none 0 0),(.slice none 0 0),(.slice none 0 0),(.string ⟨#[]⟩),(.string ⟨#[]⟩),(.slice none 0 0),(.slice none 0 0),(.slice none 0 0),(.slice none 0 0)])⟩
theorem ty40_ok:TyOk prog 40 ty40_:=TyOk.mk' (by kernel_rfl) (by kernel_rfl)
def ty41_:Ty:=⟨(.interface #[]),1,16,.nilIface⟩
theorem ty41_ok:TyOk prog 41 ty41_:=TyOk.mk' (by kernel_rfl) (by kernel_rfl)
def ty42_:Ty:=⟨(.interface #[]),1,16,.nilIface⟩
theorem ty42_ok:TyOk prog 42 ty42_:=TyOk.mk' (by kernel_rfl) (by kernel_rfl)
def ty55_:Ty:=⟨(.slice 57),1,24,(.slice none 0 0)⟩
theorem ty55_ok:TyOk prog 55 ty55_:=TyOk.mk' (by kernel_rfl) (by kernel_rfl)
def ty56_:Ty:=⟨(.struct #[fld 3 0,fld 3 1,fld 3 2,fld 3 3,fld 9 4,fld 55 5]),6,72,(.agg #[(.int .i64 0),(.int .i64 0),(.int .i64 0),(.int .i64 0),(.string ⟨#[]⟩),(.slice none 0 0)])⟩
theorem ty56_ok:TyOk prog 56 ty56_:=TyOk.mk' (by kernel_rfl) (by kernel_rfl)
def ty57_:Ty:=⟨(.struct #[fld 3 0,fld 3 1,fld 3 2,fld 3 3,fld 9 4,fld 55 5]),6,72,(.agg #[(.int .i64 0),(.int .i64 0),(.int .i64 0),(.int .i64 0),(.string ⟨#[]⟩),(.slice none 0 0)])⟩
theorem ty57_ok:TyOk prog 57 ty57_:=TyOk.mk' (by kernel_rfl) (by kernel_rfl)
def ty64_:Ty:=⟨(.slice 5),1,24,(.slice none 0 0)⟩
theorem ty64_ok:TyOk prog 64 ty64_:=TyOk.mk' (by kernel_rfl) (by kernel_rfl)
def ty65_:Ty:=⟨(.int .i64),1,8,(.int .i64 0)⟩
theorem ty65_ok:TyOk prog 65 ty65_:=TyOk.mk' (by kernel_rfl) (by kernel_rfl)
def ty68_:Ty:=⟨(.struct #[fld 9 0,fld 25 1]),2,40,(.agg #[(.string ⟨#[]⟩),(.slice none 0 0)])⟩
theorem ty68_ok:TyOk prog 68 ty68_:=TyOk.mk' (by kernel_rfl) (by kernel_rfl)
def ty69_:Ty:=⟨(.struct #[fld 9 0,fld 25 1]),2,40,(.agg #[(.string ⟨#[]⟩),(.slice none 0 0)])⟩
theorem ty69_ok:TyOk prog 69 ty69_:=TyOk.mk' (by kernel_rfl) (by kernel_rfl)
def ty70_:Ty:=⟨(.struct #[fld 9 0,fld 25 1,fld 3 2,fld 3 3]),4,56,(.agg #[(.string ⟨#[]⟩),(.slice none 0 0),(.int .i64 0),(.int .i64 0)])⟩
theorem ty70_ok:TyOk prog 70 ty70_:=TyOk.mk' (by kernel_rfl) (by kernel_rfl)
def ty71_:Ty:=⟨(.struct #[fld 9 0,fld 25 1,fld 3 2,fld 3 3]),4,56,(.agg #[(.string ⟨#[]⟩),(.slice none 0 0),(.int .i64 0),(.int .i64 0)])⟩
theorem ty71_ok:TyOk prog 71 ty71_:=TyOk.mk' (by kernel_rfl) (by kernel_rfl)
def ty73_:Ty:=⟨(.slice 123),1,24,(.slice none 0 0)⟩
theorem ty73_ok:TyOk prog 73 ty73_:=TyOk.mk' (by kernel_rfl) (by kernel_rfl)
def ty74_:Ty:=⟨(.struct #[fld 9 0,fld 25 1,fld 3 2,fld 38 3,fld 73 9]),10,200,(.agg #[(.string ⟨#[]⟩),(.slice none 0 0),(.int .i64 0),(.string ⟨#[]⟩),(.string ⟨#[]⟩),(.slice none 0 0),(.slice none 0 0),(.slice none 0 0),(.slice none 0 0),(.slice none 0 0)])⟩
theorem ty74_ok:TyOk prog 74 ty74_:=TyOk.mk' (by kernel_rfl) (by kernel_rfl)
def ty75_:Ty:=⟨(.struct #[fld 9 0,fld 25 1,fld 3 2,fld 38 3,fld 73 9]),10,200,(.agg #[(.string ⟨#[]⟩),(.slice none 0 0),(.int .i64 0),(.string ⟨#[]⟩),(.string ⟨#[]⟩),(.slice none 0 0),(.slice none 0 0),(.slice none 0 0),(.slice none 0 0),(.slice none 0 0)])⟩
theorem ty75_ok:TyOk prog 75 ty75_:=TyOk.mk' (by kernel_rfl) (by kernel_rfl)
def ty77_:Ty:=⟨(.struct #[fld 9 0,fld 25 1,fld 3 2,fld 38 3,fld 38 9,fld 38 15,fld 73 21,fld 73 22]),23,480,(.agg #[(.string ⟨#[]⟩),(.slice none 0 0),(.int .i64 0),(.string ⟨#[]⟩),(.string ⟨#[]⟩),(.slice none 0 0),(.slice none 0 0),(.slice none 0 0),(.slice none 0 0),(.string ⟨#[]⟩),(.string ⟨#[]⟩),(.slice none 0 0),(.slice none 0 0),(.slice none 0 0),(.slice none 0 0),(.string ⟨#[]⟩),(.string ⟨#[]⟩),(.slice none 0 0),(.slice none 0 0),(.slice none 0 0),(.slice none 0 0),(.slice none 0 0),(.slice none 0 0)])⟩
theorem ty77_ok:TyOk prog 77 ty77_:=TyOk.mk' (by kernel_rfl) (by kernel_rfl)
def ty78_:Ty:=⟨(.struct #[fld 9 0,fld 25 1,fld 3 2,fld 38 3,fld 38 9,fld 38 15,fld 73 21,fld 73 22]),23,480,(.agg #[(.string ⟨#[]⟩),(.slice none 0 0),(.int .i64 0),(.string ⟨#[]⟩),(.string ⟨#[]⟩),(.slice none 0 0),(.slice none 0 0),(.slice none 0 0),(.slice none 0 0),(.string ⟨#[]⟩),(.string ⟨#[]⟩),(.slice none 0 0),(.slice none 0 0),(.slice none 0 0),(.slice none 0 0),(.string ⟨#[]⟩),(.string ⟨#[]⟩),(.slice none 0 0),(.slice none 0 0),(.slice none 0 0),(.slice none 0 0),(.slice none 0 0),(.slice none 0 0)])⟩
theorem ty78_ok:TyOk prog 78 ty78_:=TyOk.mk' (by kernel_rfl) (by kernel_rfl)
def ty89_:Ty:=⟨(.pointer 195),1,8,(.pointer none)⟩
theorem ty89_ok:TyOk prog 89 ty89_:=TyOk.mk' (by kernel_rfl) (by kernel_rfl)
def ty90_:Ty:=⟨(.map 9 25),1,8,(.map none)⟩
theorem ty90_ok:TyOk prog 90 ty90_:=TyOk.mk' (by kernel_rfl) (by kernel_rfl)
def ty91_:Ty:=⟨(.map 9 71),1,8,(.map none)⟩
theorem ty91_ok:TyOk prog 91 ty91_:=TyOk.mk' (by kernel_rfl) (by kernel_rfl)
def ty92_:Ty:=⟨(.map 9 9),1,8,(.map none)⟩
theorem ty92_ok:TyOk prog 92 ty92_:=TyOk.mk' (by kernel_rfl) (by kernel_rfl)
def ty93_:Ty:=⟨(.struct #[fld 31 0,fld 40 7,fld 89 18,fld 90 19,fld 91 20,fld 92 21,fld 25 22]),23,448,(.agg #[(.string ⟨#[]⟩),(.slice none 0 0),(.slice none 0 0),(.slice none 0 0),(.slice none 0 0),(.slice none 0 0),(.slice none 0 0),(.string ⟨#[]⟩),(.string ⟨#[]⟩),(.slice none 0 0),(.slice none 0 0),(.slice none 0 0),(.string ⟨#[]⟩),(.string ⟨#[]⟩),(.slice none 0 0),(.slice none 0 0),(.slice none 0 0),(.slice none 0 0),(.pointer none),(.map none),(.map none),(.map none),(.slice none 0 0)])⟩
theorem ty93_ok:TyOk prog 93 ty93_:=TyOk.mk' (by kernel_rfl) (by kernel_rfl)
def ty94_:Ty:=⟨(.struct #[fld 31 0,fld 40 7,fld 89 18,fld 90 19,fld 91 20,fld 92 21,fld 25 22]),23,448,(.agg #[(.string ⟨#[]⟩),(.slice none 0 0),(.slice none 0 0),(.slice none 0 0),(.slice none 0 0),(.slice none 0 0),(.slice none 0 0),(.string ⟨#[]⟩),(.string ⟨#[]⟩),(.slice none 0 0),(.slice none 0 0),(.slice none 0 0),(.string ⟨#[]⟩),(.string ⟨#[]⟩),(.slice none 0 0),(.slice none 0 0),(.slice none 0 0),(.slice none 0 0),(.pointer none),(.map none),(.map none),(.map none),(.slice none 0 0)])⟩
theorem ty94_ok:TyOk prog 94 ty94_:=TyOk.mk' (by kernel_rfl) (by kernel_rfl)
def ty97_:Ty:=⟨(.slice 3),1,24,(.slice none 0 0)⟩
theorem ty97_ok:TyOk prog 97 ty97_:=TyOk.mk' (by kernel_rfl) (by kernel_rfl)
def ty105_:Ty:=⟨(.map 9 4),1,8,(.map none)⟩
theorem ty105_ok:TyOk prog 105 ty105_:=TyOk.mk' (by kernel_rfl) (by kernel_rfl)
def ty109_:Ty:=⟨(.struct #[fld 9 0,fld 9 1]),2,32,(.agg #[(.string ⟨#[]⟩),(.string ⟨#[]⟩)])⟩
theorem ty109_ok:TyOk prog 109 ty109_:=TyOk.mk' (by kernel_rfl) (by kernel_rfl)
def ty110_:Ty:=⟨(.struct #[fld 9 0,fld 9 1]),2,32,(.agg #[(.string ⟨#[]⟩),(.string ⟨#[]⟩)])⟩
theorem ty110_ok:TyOk prog 110 ty110_:=TyOk.mk' (by kernel_rfl) (by kernel_rfl)
def ty113_:Ty:=⟨(.struct #[fld 9 0,fld 34 1]),2,40,(.agg #[(.string ⟨#[]⟩),(.slice none 0 0)])⟩
theorem ty113_ok:TyOk prog 113 ty113_:=TyOk.mk' (by kernel_rfl) (by kernel_rfl)
def ty114_:Ty:=⟨(.struct #[fld 9 0,fld 34 1]),2,40,(.agg #[(.string ⟨#[]⟩),(.slice none 0 0)])⟩
theorem ty114_ok:TyOk prog 114 ty114_:=TyOk.mk' (by kernel_rfl) (by kernel_rfl)
def ty115_:Ty:=⟨(.struct #[fld 114 0,fld 3 2]),3,48,(.agg #[(.string ⟨#[]⟩),(.slice none 0 0),(.int .i64 0)])⟩
theorem ty115_ok:TyOk prog 115 ty115_:=TyOk.mk' (by kernel_rfl) (by kernel_rfl)
def ty116_:Ty:=⟨(.struct #[fld 114 0,fld 3 2]),3,48,(.agg #[(.string ⟨#[]⟩),(.slice none 0 0),(.int .i64 0)])⟩
theorem ty116_ok:TyOk prog 116 ty116_:=TyOk.mk' (by kernel_rfl) (by kernel_rfl)
def ty119_:Ty:=⟨(.struct #[fld 9 0,fld 9 1,fld 3 2,fld 34 3,fld 35 4]),5,88,(.agg #[(.string ⟨#[]⟩),(.string ⟨#[]⟩),(.int .i64 0),(.slice none 0 0),(.slice none 0 0)])⟩
theorem ty119_ok:TyOk prog 119 ty119_:=TyOk.mk' (by kernel_rfl) (by kernel_rfl)
def ty120_:Ty:=⟨(.struct #[fld 9 0,fld 9 1,fld 3 2,fld 34 3,fld 35 4]),5,88,(.agg #[(.string ⟨#[]⟩),(.string ⟨#[]⟩),(.int .i64 0),(.slice none 0 0),(.slice none 0 0)])⟩
theorem ty120_ok:TyOk prog 120 ty120_:=TyOk.mk' (by kernel_rfl) (by kernel_rfl)
def ty122_:Ty:=⟨(.struct #[fld 3 0,fld 25 1,fld 38 2,fld 9 8,fld 34 9,fld 120 10]),15,288,(.agg #[(.int .i64 0),(.slice none 0 0),(.string ⟨#[]⟩),(.string ⟨#[]⟩),(.slice none 0 0),(.slice none 0 0),(.slice none 0 0),(.slice none 0 0),(.string ⟨#[]⟩),(.slice none 0 0),(.string ⟨#[]⟩),(.string ⟨#[]⟩),(.int .i64 0),(.slice none 0 0),(.slice none 0 0)])⟩
theorem ty122_ok:TyOk prog 122 ty122_:=TyOk.mk' (by kernel_rfl) (by kernel_rfl)
def ty123_:Ty:=⟨(.struct #[fld 3 0,fld 25 1,fld 38 2,fld 9 8,fld 34 9,fld 120 10]),15,288,(.agg #[(.int .i64 0),(.slice none 0 0),(.string ⟨#[]⟩),(.string ⟨#[]⟩),(.slice none 0 0),(.slice none 0 0),(.slice none 0 0),(.slice none 0 0),(.string ⟨#[]⟩),(.slice none 0 0),(.string ⟨#[]⟩),(.string ⟨#[]⟩),(.int .i64 0),(.slice none 0 0),(.slice none 0 0)])⟩
theorem ty123_ok:TyOk prog 123 ty123_:=TyOk.mk' (by kernel_rfl) (by kernel_rfl)
def ty125_:Ty:=⟨(.struct #[fld 4 0]),1,1,(.agg #[(.bool false)])⟩
theorem ty125_ok:TyOk prog 125 ty125_:=TyOk.mk' (by kernel_rfl) (by kernel_rfl)
def ty126_:Ty:=⟨(.struct #[fld 4 0]),1,1,(.agg #[(.bool false)])⟩
theorem ty126_ok:TyOk prog 126 ty126_:=TyOk.mk' (by kernel_rfl) (by kernel_rfl)
def ty140_:Ty:=⟨(.func #[] #[] false),1,8,.nilFunc⟩
theorem ty140_ok:TyOk prog 140 ty140_:=TyOk.mk' (by kernel_rfl) (by kernel_rfl)
def ty159_:Ty:=⟨(.struct #[fld 9 0,fld 3 1,fld 3 2,fld 3 3,fld 3 4,fld 55 5]),6,72,(.agg #[(.string ⟨#[]⟩),(.int .i64 0),(.int .i64 0),(.int .i64 0),(.int .i64 0),(.slice none 0 0)])⟩
theorem ty159_ok:TyOk prog 159 ty159_:=TyOk.mk' (by kernel_rfl) (by kernel_rfl)
def ty160_:Ty:=⟨(.struct #[fld 9 0,fld 3 1,fld 3 2,fld 3 3,fld 3 4,fld 55 5]),6,72,(.agg #[(.string ⟨#[]⟩),(.int .i64 0),(.int .i64 0),(.int .i64 0),(.int .i64 0),(.slice none 0 0)])⟩
theorem ty160_ok:TyOk prog 160 ty160_:=TyOk.mk' (by kernel_rfl) (by kernel_rfl)
def ty194_:Ty:=⟨(.struct #[fld 92 0]),1,8,(.agg #[(.map none)])⟩
theorem ty194_ok:TyOk prog 194 ty194_:=TyOk.mk' (by kernel_rfl) (by kernel_rfl)
def ty195_:Ty:=⟨(.struct #[fld 92 0]),1,8,(.agg #[(.map none)])⟩
theorem ty195_ok:TyOk prog 195 ty195_:=TyOk.mk' (by kernel_rfl) (by kernel_rfl)
def ty197_:Ty:=⟨(.slice 200),1,24,(.slice none 0 0)⟩
theorem ty197_ok:TyOk prog 197 ty197_:=TyOk.mk' (by kernel_rfl) (by kernel_rfl)
def ty198_:Ty:=⟨(.array 3 197),3,72,(.agg #[(.slice none 0 0),(.slice none 0 0),(.slice none 0 0)])⟩
theorem ty198_ok:TyOk prog 198 ty198_:=TyOk.mk' (by kernel_rfl) (by kernel_rfl)
def ty199_:Ty:=⟨(.struct #[fld 9 0,fld 9 1]),2,32,(.agg #[(.string ⟨#[]⟩),(.string ⟨#[]⟩)])⟩
theorem ty199_ok:TyOk prog 199 ty199_:=TyOk.mk' (by kernel_rfl) (by kernel_rfl)
def ty200_:Ty:=⟨(.struct #[fld 9 0,fld 9 1]),2,32,(.agg #[(.string ⟨#[]⟩),(.string ⟨#[]⟩)])⟩
theorem ty200_ok:TyOk prog 200 ty200_:=TyOk.mk' (by kernel_rfl) (by kernel_rfl)
def ty204_:Ty:=⟨(.slice 73),1,24,(.slice none 0 0)⟩
theorem ty204_ok:TyOk prog 204 ty204_:=TyOk.mk' (by kernel_rfl) (by kernel_rfl)
def ty229_:Ty:=⟨(.struct #[fld 3 0]),1,8,(.agg #[(.int .i64 0)])⟩
theorem ty229_ok:TyOk prog 229 ty229_:=TyOk.mk' (by kernel_rfl) (by kernel_rfl)
def ty230_:Ty:=⟨(.struct #[fld 3 0]),1,8,(.agg #[(.int .i64 0)])⟩
theorem ty230_ok:TyOk prog 230 ty230_:=TyOk.mk' (by kernel_rfl) (by kernel_rfl)
def ty247_:Ty:=⟨(.pointer 249),1,8,(.pointer none)⟩
theorem ty247_ok:TyOk prog 247 ty247_:=TyOk.mk' (by kernel_rfl) (by kernel_rfl)
def ty248_:Ty:=⟨(.struct #[fld 247 0,fld 64 1]),2,32,(.agg #[(.pointer none),(.slice none 0 0)])⟩
theorem ty248_ok:TyOk prog 248 ty248_:=TyOk.mk' (by kernel_rfl) (by kernel_rfl)
def ty249_:Ty:=⟨(.struct #[fld 247 0,fld 64 1]),2,32,(.agg #[(.pointer none),(.slice none 0 0)])⟩
theorem ty249_ok:TyOk prog 249 ty249_:=TyOk.mk' (by kernel_rfl) (by kernel_rfl)
def ty256_:Ty:=⟨(.array 24 5),24,24,(.agg #[(.int .u8 0),(.int .u8 0),(.int .u8 0),(.int .u8 0),(.int .u8 0),(.int .u8 0),(.int .u8 0),(.int .u8 0),(.int .u8 0),(.int .u8 0),(.int .u8 0),(.int .u8 0),(.int .u8 0),(.int .u8 0),(.int .u8 0),(.int .u8 0),(.int .u8 0),(.int .u8 0),(.int .u8 0),(.int .u8 0),(.int .u8 0),(.int .u8 0),(.int .u8 0),(.int .u8 0)])⟩
theorem ty256_ok:TyOk prog 256 ty256_:=TyOk.mk' (by kernel_rfl) (by kernel_rfl)
def ty257_:Ty:=⟨(.int .u64),1,8,(.int .u64 0)⟩
theorem ty257_ok:TyOk prog 257 ty257_:=TyOk.mk' (by kernel_rfl) (by kernel_rfl)
def ty263_:Ty:=⟨(.struct #[fld 25 0,fld 36 1]),2,48,(.agg #[(.slice none 0 0),(.slice none 0 0)])⟩
theorem ty263_ok:TyOk prog 263 ty263_:=TyOk.mk' (by kernel_rfl) (by kernel_rfl)
def ty264_:Ty:=⟨(.struct #[fld 25 0,fld 36 1]),2,48,(.agg #[(.slice none 0 0),(.slice none 0 0)])⟩
theorem ty264_ok:TyOk prog 264 ty264_:=TyOk.mk' (by kernel_rfl) (by kernel_rfl)
def ty274_:Ty:=⟨(.int .u64),1,8,(.int .u64 0)⟩
theorem ty274_ok:TyOk prog 274 ty274_:=TyOk.mk' (by kernel_rfl) (by kernel_rfl)
def ty278_:Ty:=⟨(.pointer 5),1,8,(.pointer none)⟩
theorem ty278_ok:TyOk prog 278 ty278_:=TyOk.mk' (by kernel_rfl) (by kernel_rfl)
def ty282_:Ty:=⟨(.array 20 257),20,160,(.agg #[(.int .u64 0),(.int .u64 0),(.int .u64 0),(.int .u64 0),(.int .u64 0),(.int .u64 0),(.int .u64 0),(.int .u64 0),(.int .u64 0),(.int .u64 0),(.int .u64 0),(.int .u64 0),(.int .u64 0),(.int .u64 0),(.int .u64 0),(.int .u64 0),(.int .u64 0),(.int .u64 0),(.int .u64 0),(.int .u64 0)])⟩
theorem ty282_ok:TyOk prog 282 ty282_:=TyOk.mk' (by kernel_rfl) (by kernel_rfl)
def ty283_:Ty:=⟨(.int .u32),1,4,(.int .u32 0)⟩
theorem ty283_ok:TyOk prog 283 ty283_:=TyOk.mk' (by kernel_rfl) (by kernel_rfl)
def ty284_:Ty:=⟨(.array 65 5),65,65,(.agg #[(.int .u8 0),(.int .u8 0),(.int .u8 0),(.int .u8 0),(.int .u8 0),(.int .u8 0),(.int .u8 0),(.int .u8 0),(.int .u8 0),(.int .u8 0),(.int .u8 0),(.int .u8 0),(.int .u8 0),(.int .u8 0),(.int .u8 0),(.int .u8 0),(.int .u8 0),(.int .u8 0),(.int .u8 0),(.int .u8 0),(.int .u8 0),(.int .u8 0),(.int .u8 0),(.int .u8 0),(.int .u8 0),(.int .u8 0),(.int .u8 0),(.int .u8 0),(.int .u8 0),(.int .u8 0),(.int .u8 0),(.int .u8 0),(.int .u8 0),(.int .u8 0),(.int .u8 0),(.int .u8 0),(.int .u8 0),(.int .u8 0),(.int .u8 0),(.int .u8 0),(.int .u8 0),(.int .u8 0),(.int .u8 0),(.int .u8 0),(.int .u8 0),(.int .u8 0),(.int .u8 0),(.int .u8 0),(.int .u8 0),(.int .u8 0),(.int .u8 0),(.int .u8 0),(.int .u8 0),(.int .u8 0),(.int .u8 0),(.int .u8 0),(.int .u8 0),(.int .u8 0),(.int .u8 0),(.int .u8 0),(.int .u8 0),(.int .u8 0),(.int .u8 0),(.int .u8 0),(.int .u8 0)])⟩
theorem ty284_ok:TyOk prog 284 ty284_:=TyOk.mk' (by kernel_rfl) (by kernel_rfl)
def ty310_:Ty:=⟨(.array 32 5),32,32,(.agg #[(.int .u8 0),(.int .u8 0),(.int .u8 0),(.int .u8 0),(.int .u8 0),(.int .u8 0),(.int .u8 0),(.int .u8 0),(.int .u8 0),(.int .u8 0),(.int .u8 0),(.int .u8 0),(.int .u8 0),(.int .u8 0),(.int .u8 0),(.int .u8 0),(.int .u8 0),(.int .u8 0),(.int .u8 0),(.int .u8 0),(.int .u8 0),(.int .u8 0),(.int .u8 0),(.int .u8 0),(.int .u8 0),(.int .u8 0),(.int .u8 0),(.int .u8 0),(.int .u8 0),(.int .u8 0),(.int .u8 0),(.int .u8 0)])⟩
theorem ty310_ok:TyOk prog 310 ty310_:=TyOk.mk' (by kernel_rfl) (by kernel_rfl)
def ty311_:Ty:=⟨(.array 64 5),64,64,(.agg #[(.int .u8 0),(.int .u8 0),(.int .u8 0),(.int .u8 0),(.int .u8 0),(.int .u8 0),(.int .u8 0),(.int .u8 0),(.int .u8 0),(.int .u8 0),(.int .u8 0),(.int .u8 0),(.int .u8 0),(.int .u8 0),(.int .u8 0),(.int .u8 0),(.int .u8 0),(.int .u8 0),(.int .u8 0),(.int .u8 0),(.int .u8 0),(.int .u8 0),(.int .u8 0),(.int .u8 0),(.int .u8 0),(.int .u8 0),(.int .u8 0),(.int .u8 0),(.int .u8 0),(.int .u8 0),(.int .u8 0),(.int .u8 0),(.int .u8 0),(.int .u8 0),(.int .u8 0),(.int .u8 0),(.int .u8 0),(.int .u8 0),(.int .u8 0),(.int .u8 0),(.int .u8 0),(.int .u8 0),(.int .u8 0),(.int .u8 0),(.int .u8 0),(.int .u8 0),(.int .u8 0),(.int .u8 0),(.int .u8 0),(.int .u8 0),(.int .u8 0),(.int .u8 0),(.int .u8 0),(.int .u8 0),(.int .u8 0),(.int .u8 0),(.int .u8 0),(.int .u8 0),(.int .u8 0),(.int .u8 0),(.int .u8 0),(.int .u8 0),(.int .u8 0),(.int .u8 0)])⟩
theorem ty311_ok:TyOk prog 311 ty311_:=TyOk.mk' (by kernel_rfl) (by kernel_rfl)
def tabL:List (Nat × Ty):=[(2,ty2_),(3,ty3_),(4,ty4_),(5,ty5_),(6,ty6_),(7,ty7_),(8,ty8_),(9,ty9_),(20,ty20_),(22,ty22_),(23,ty23_),(24,ty24_),(25,ty25_),(26,ty26_),(27,ty27_),(28,ty28_),(29,ty29_),(30,ty30_),(31,ty31_),(32,ty32_),(33,ty33_),(34,ty34_),(35,ty35_),(36,ty36_),(37,ty37_),(38,ty38_),(39,ty39_),(40,ty40_),(41,ty41_),(42,ty42_),(55,ty55_),(56,ty56_),(57,ty57_),(64,ty64_),(65,ty65_),(68,ty68_),(69,ty69_),(70,ty70_),(71,ty71_),(73,ty73_),(74,ty74_),(75,ty75_),(77,ty77_),(78,ty78_),(89,ty89_),(90,ty90_),(91,ty91_),(92,ty92_),(93,ty93_),(94,ty94_),(97,ty97_),(105,ty105_),(109,ty109_),(110,ty110_),(113,ty113_),(114,ty114_),(115,ty115_),(116,ty116_),(119,ty119_),(120,ty120_),(122,ty122_),(123,ty123_),(125,ty125_),(126,ty126_),(140,ty140_),(159,ty159_),(160,ty160_),(194,ty194_),(195,ty195_),(197,ty197_),(198,ty198_),(199,ty199_),(200,ty200_),(204,ty204_),(229,ty229_),(230,ty230_),(247,ty247_),(248,ty248_),(249,ty249_),(256,ty256_),(257,ty257_),(263,ty263_),(264,ty264_),(274,ty274_),(278,ty278_),(282,ty282_),(283,ty283_),(284,ty284_),(310,ty310_),(311,ty311_)]
theorem tabL_ok:AllTy prog tabL:=⟨ty2_ok,ty3_ok,ty4_ok,ty5_ok,ty6_ok,ty7_ok,ty8_ok,ty9_ok,ty20_ok,ty22_ok,ty23_ok,ty24_ok,ty25_ok,ty26_ok,ty27_ok,ty28_ok,ty29_ok,ty30_ok,ty31_ok,ty32_ok,ty33_ok,ty34_ok,ty35_ok,ty36_ok,ty37_ok,ty38_ok,ty39_ok,ty40_ok,ty41_ok,ty42_ok,ty55_ok,ty56_ok,ty57_ok,ty64_ok,ty65_ok,ty68_ok,ty69_ok,ty70_ok,ty71_ok,ty73_ok,ty74_ok,ty75_ok,ty77_ok,ty78_ok,ty89_ok,ty90_ok,ty91_ok,ty92_ok,ty93_ok,ty94_ok,ty97_ok,ty105_ok,ty109_ok,ty110_ok,ty113_ok,ty114_ok,ty115_ok,ty116_ok,ty119_ok,ty120_ok,ty122_ok,ty123_ok,ty125_ok,ty126_ok,ty140_ok,ty159_ok,ty160_ok,ty194_ok,ty195_ok,ty197_ok,ty198_ok,ty199_ok,ty200_ok,ty204_ok,ty229_ok,ty230_ok,ty247_ok,ty248_ok,ty249_ok,ty256_ok,ty257_ok,ty263_ok,ty264_ok,ty274_ok,ty278_ok,ty282_ok,ty283_ok,ty284_ok,ty310_ok,ty311_ok,trivial⟩
def T:Tab prog:=⟨tabL,tabL_ok,by kernel_rfl⟩
end Go.Proofs.YtfjopfinkdhmaaaGreatDoor
set_option maxRecDepth 20000
namespace Go.Proofs.YtfjopfinkdhmaaaGreatDoor
open Go.Lx Go.RowKit
open Go.Proofs.Tryz (prog)
def Yav (s:Bs) (i:Nat):Nat:=((s[i]?).map UInt8.toNat).getD 0
variable {k:Nat}
theorem XV {s:Bs} (h:k<s.size):∃ b:UInt8,s[k]?=some b∧Yav s k=b.toNat:=by
 refine ⟨s[k],getElem?_pos s k h,?_⟩
 simp [Yav,getElem?_pos s k h]
def DigP (n:Int):Prop:=48≤n∧n≤57
instance {n:Int}:Decidable (DigP n):=inferInstanceAs (Decidable (_∧_))
variable {fz:FZ}
theorem YgN {n:Int}:QFn prog 183 [.int .u8 n] fz (.bool (decide (DigP n))):=by
 refine GFn.quiet ?_
 refine zF Tryz.func183 Tryz.ntmps183 (fun w0=>?_)
 refine zW ?_;intros
 refine zC (fun c1=>?_) (fun c1=>?_)
 ·refine zW ?_;intros
  refine zC (fun c2=>?_) (fun c2=>?_)
  ·refine zW ?_;intros
   exact ret1 rfl rfl Zb (Yv ⟨c1,c2⟩)
  ·refine zW ?_;intros
   exact ret1 rfl rfl Zb (Yo (fun h=>c2 h.2))
 ·refine zW ?_;intros
  exact ret1 rfl rfl Zb (Yo (fun h=>c1 h.1))
def PreP (s p:Bs):Prop:=p.size≤s.size∧s.extract 0 p.size=p
instance {s p:Bs}:Decidable (PreP s p):=inferInstanceAs (Decidable (_∧_))
def W3 (s p:Bs):Bs:=if PreP s p then s.extract p.size s.size else s
variable {i j:Nat}
theorem Ya0 {s:Bs} (h:j≤s.size):(s.extract i j).size=j - i:=by
 simp [ByteArray.size_extract,Nat.min_eq_left h]
theorem Yj8 {s p:Bs} (h:Short s):Short (W3 s p):=by
 unfold W3 Short at*
 split
 ·rw [Ya0 (Zs _)];omega
 ·exact h
theorem YcL {s p:Bs} (_hs:Short s) (hp:Short p):QFn prog 229 [.string s,.string p] fz (.bool (decide (PreP s p))):=by
 unfold Short at hp
 refine GFn.quiet ?_
 refine zF Tryz.func229 Tryz.ntmps229 (fun w0=>?_)
 refine zW ?_;intros
 refine zC (fun c1=>?_) (fun c1=>?_)
 ·refine zW ?_;intros
  ((refine zG ?_);refine q_str_to T Zz Zz Zz Zz Zi Zi ?_)
  refine zW ?_;intros
  refine zC (fun c2=>?_) (fun c2=>?_)
  ·refine zW ?_;intros
   exact ret1 rfl rfl Zb (Yv ⟨by omega,by simpa using c2⟩)
  ·refine zW ?_;intros
   exact ret1 rfl rfl Zb (Yo (fun h=>c2 (by simpa using h.2)))
 ·refine zW ?_;intros
  exact ret1 rfl rfl Zb (Yo (fun h=>by have:=h.1;omega))
theorem Yf9 {s p:Bs} (hs:Short s) (hp:Short p):QFn prog 213 [.string s,.string p] fz (.string (W3 s p)):=by
 refine GFn.quiet ?_
 refine zF Tryz.func213 Tryz.ntmps213 (fun w0=>?_)
 refine zW ?_;intros
 refine zb (YcL hs hp) (fun f1=>?_) (fun f1=>?_)
 ·have hc:=Zt f1
  have:=hc.1
  refine zW ?_;intros
  ((refine zG ?_);refine Ydv T Zz Zz Zz Zz Zi Zi ?_)
  refine zW ?_;intros
  exact zR (h:=by rw [W3,if_pos hc];rfl)
 ·have hc:=Zf f1
  refine zW ?_;intros
  exact zR (h:=by rw [W3,if_neg hc])
theorem Yg7 {s p:Bs} (hs:Short s) (hp:Short p):QFn prog 184 [.string s,.string p] fz (.string (W3 s p)):=by
 refine GFn.quiet ?_
 refine zF Tryz.func184 Tryz.ntmps184 (fun w0=>?_)
 refine zW ?_;intros
 refine zc (Yf9 hs hp) ?_
 refine zW ?_;intros
 exact zR (h:=rfl)
def Wr:Bs:=⟨#[45]⟩
def WO:Bs:=⟨#[]⟩
def NumP (s:Bs):Prop:=(∀ i,i<(W3 s Wr).size→DigP (Yav (W3 s Wr) i))∧W3 s Wr≠WO
open Classical in
theorem Yhx {s:Bs} (hs:Short s):QFn prog 138 [.string s] fz (.bool (decide (NumP s))):=by
 refine GFn.quiet ?_
 refine zF Tryz.func138 Tryz.ntmps138 (fun w0=>?_)
 refine zW ?_;intros
 ((refine zG ?_);refine Yw Zz Zz (Yg7 (p:=Wr) hs (by unfold Short Wr;decide)) ?_)
 have hz:(W3 s Wr).size≤9223372036854775807:=Yj8 hs
 refine zW ?_;intros
 refine Yl (fun q σ fz' H'=>∃ k:Nat,k≤(W3 s Wr).size∧q=(W3 s Wr).size - k∧σ=[(8,.int .i64 k),(7,.int .i64 (W3 s Wr).size),(0,.string (W3 s Wr))]∧fz=fz'∧H'=[]∧(∀ i,i<k→DigP (Yav (W3 s Wr) i))) ⟨0,Z0 _,rfl,rfl,rfl,rfl,(fun i hi=>absurd hi Zi)⟩ Zw Zb ?_;rintro q σ fz' H' ⟨k,hk,rfl,rfl,rfl,rfl,hh⟩
 refine zW ?_;intros
 refine zC (fun hlt=>?_) (fun hge=>?_)
 ·refine zW ?_;intros
  obtain ⟨b,hb,hb2⟩:=XV (s:=W3 s Wr) (k:=k) Zi
  ((refine zG ?_);refine Xl T Zz Zz Zz Zz Zi (by rw [Int.toNat_natCast];exact hb) ?_)
  refine zW ?_;intros
  refine zb (YgN (n:=b.toNat)) (fun f1=>?_) (fun f1=>?_)
  ·refine zW ?_;intros
   exact Yz ⟨k+1,by omega,rfl,rfl,rfl,rfl,(Xn hh (by rw [hb2];exact Zt f1))⟩ Zi Zw Zb
  ·refine zW ?_;intros
   exact ret1 rfl rfl Zb (Yo (fun h=>Zf f1 (by rw [← hb2];exact h.1 k Zi)))
 ·refine zW ?_;intros
  refine zC (fun c1=>?_) (fun c1=>?_)
  ·refine zW ?_;intros
   exact ret1 rfl rfl Zb (Yv ⟨fun i hi=>hh i Zi,c1⟩)
  ·refine zW ?_;intros
   exact ret1 rfl rfl Zb (Yo (fun h=>h.2 c1))
variable {A:Option Addr} {c n:Nat}
open Classical in
theorem Yej {l:List Bs} {x:Bs} (h1:Sl strL fz A n c l):
 QFn prog 91 [.slice A n c,.string x] fz (.int .i64 (Wt (fun y=>x=y) l 0)):=by
 refine GFn.quiet ?_
 refine zF Tryz.func91 Tryz.ntmps91 (fun w0=>?_)
 have l1:=h1.len
 have hm:=h1.short
 refine zW ?_;intros
 refine Yl (fun q σ fz' H'=>∃ k:Nat,k≤n∧q=n - k∧σ=[(8,.int .i64 k),(7,.int .i64 n),(0,.slice A n c),(1,.string x)]∧fz=fz'∧H'=[]∧(∀ i,i<k→∀ y,l[i]?=some y→¬x=y)) ⟨0,Z0 _,rfl,rfl,rfl,rfl,(fun i hi=>absurd hi Zi)⟩ Zw Zb ?_;rintro q σ fz' H' ⟨k,hk,rfl,rfl,rfl,rfl,hh⟩
 refine zW ?_;intros
 refine zC (fun hlt=>?_) (fun hge=>?_)
 ·refine zW ?_;intros
  obtain ⟨y,hy⟩:=Yn (l:=l) (k:=k) Zi
  refine zI h1 hy (fun a ha=>?_)
  refine zH ha (fun iy=>?_)
  refine zW ?_;intros
  refine zC (fun c1=>?_) (fun c1=>?_)
  ·refine zW ?_;intros
   exact zR (h:=by rw [WP hh hy c1,Int.zero_add])
  ·refine zW ?_;intros
   exact Yz ⟨k+1,by omega,rfl,rfl,rfl,rfl,(YL hh hy c1)⟩ Zi Zw Zb
 ·refine zW ?_;intros
  exact zR (h:=by rw [Wi (Xs hh Zi)])
open Classical in
theorem YcQ {l:List Bs} {x:Bs} (h1:Sl strL fz A n c l):
 QFn prog 38 [.slice A n c,.string x] fz (.bool (decide (x∈l))):=by
 refine GFn.quiet ?_
 refine zF Tryz.func38 Tryz.ntmps38 (fun w0=>?_)
 refine zW ?_;intros
 refine zc (Yej h1) ?_
 refine zC (fun c1=>?_) (fun c1=>?_)
 ·refine zW ?_;intros
  exact ret1 rfl rfl Zb (Yv (by obtain ⟨y,h,e⟩:=(Xo (Int.le_refl 0)).1 c1;rw [e];exact h))
 ·refine zW ?_;intros
  exact ret1 rfl rfl Zb (Yo (fun h=>c1 ((Xo (Int.le_refl 0)).2 ⟨x,h,rfl⟩)))
variable {g:Nat} {t:TypeId}
theorem sl_strs {f:Nat × Nat} {l:List Bs} (h:fz g=some (.cells (l.map Value.string).toArray t f)) (hs:∀ s∈l,Short s) (hn:l.length≤140737488355328):Sl strL fz (some ⟨g,0,none⟩) l.length l.length l:=
 ⟨rfl,Zs _,by omega,hn,.inr ⟨_,rfl,fun i d hd=>⟨[.string d],⟨rfl,hs d (Zm hd)⟩,fun j v hv=>by
  have hadd:((⟨g,0,none⟩:Addr).add (i*strL.size)).add j=⟨g,i+j,none⟩:=by
   show ((⟨g,0,none⟩:Addr).add (i*1)).add j=_
   unfold Addr.add;split<;>split<;>simp_all
  rw [hadd]
  cases j with
  | zero=>simp at hv;subst hv;simp [Yci,h,hd]
  | succ j=>simp at hv⟩⟩⟩
def YaR:List Bs:=[⟨#[97,110,100]⟩,⟨#[111,114]⟩,⟨#[110,111,116]⟩,⟨#[105,109,112,108,121]⟩,⟨#[102,111,114,97,108,108]⟩,⟨#[101,120,105,115,116,115]⟩,⟨#[119,104,101,110]⟩,⟨#[97,115,115,105,103,110]⟩,⟨#[105,110,99,114,101,97,115,101]⟩,⟨#[100,101,99,114,101,97,115,101]⟩,⟨#[111,98,106,101,99,116]⟩]
theorem Ykc:GFn prog 139 [] fz [] (fun v fz' H'=>H'=[]∧∃ A,v=.slice A 11 11∧Sl strL fz' A 11 11 YaR):=by
 refine zF Tryz.func139 Tryz.ntmps139 (fun w0=>?_)
 refine zW ?_;intros
 refine Ya Zz (Yc T (cs:=YaR.map Value.string) Zz Zz Zz Zz Zz Zz Zz Zz (fun g=>?_))
 refine zW ?_;intros
 exact ret1F rfl rfl (fun fz' hle hf=>⟨rfl,_,rfl,sl_strs (l:=YaR) (hf _ (.head _)) (by intro s hs;simp only [YaR,List.mem_cons,List.not_mem_nil,or_false] at hs;rcases hs with rfl | rfl | rfl | rfl | rfl | rfl | rfl | rfl | rfl | rfl | rfl<;>(unfold Short;decide)) Zh⟩)
def LetP (n:Int):Prop:=97≤n∧n≤122
def Ya4 (s:Bs) (i:Nat):Prop:=LetP (Yav s i)∨(i≠0∧(DigP (Yav s i)∨(Yav s i:Int)=45∨(Yav s i:Int)=95))
def Y5 (s:Bs):Prop:=(∀ i,i<s.size→Ya4 s i)∧s≠WO∧s.size≤32∧s ∉ YaR
open Classical in
theorem Wk {s:Bs} (hs:Short s):QFn prog 90 [.string s] fz (.bool (decide (Y5 s))):=by
 have hz:s.size≤9223372036854775807:=hs
 refine GFn.quiet ?_
 refine zF Tryz.func90 Tryz.ntmps90 (fun w0=>?_)
 refine zW ?_;intros
 refine Yl (fun q σ fz' H'=>∃ k:Nat,k≤s.size∧q=s.size - k∧σ=[(8,.int .i64 k),(7,.int .i64 s.size),(0,.string s)]∧fz=fz'∧H'=[]∧(∀ i,i<k→Ya4 s i)) ⟨0,Z0 _,rfl,rfl,rfl,rfl,(fun i hi=>absurd hi Zi)⟩ Zw Zb ?_;rintro q σ fz' H' ⟨k,hk,rfl,rfl,rfl,rfl,hh⟩
 refine zW ?_;intros
 refine zC (fun hlt=>?_) (fun hge=>?_)
 ·refine zW ?_;intros
  obtain ⟨b,hb,hb2⟩:=XV (s:=s) (k:=k) Zi
  have bad:¬Ya4 s k→¬Y5 s:=fun h hc=>h (hc.1 k Zi)
  ((refine zG ?_);refine Xl T Zz Zz Zz Zz Zi (by rw [Int.toNat_natCast];exact hb) ?_)
  refine zW ?_;intros
  refine zC (fun c1=>?_) (fun c1=>?_)
  ·refine zW ?_;intros
   refine zC (fun c2=>?_) (fun c2=>?_)
   ·refine zW ?_;intros
    exact Yz ⟨k+1,by omega,rfl,rfl,rfl,rfl,(Xn hh (by rw [Ya4,hb2];exact .inl ⟨c1,c2⟩))⟩ Zi Zw Zb
   ·have nl:¬LetP b.toNat:=fun h=>c2 h.2
    refine zW ?_;intros
    refine zC (fun c3=>?_) (fun c3=>?_)
    ·refine zW ?_;intros
     exact ret1 rfl rfl Zb (Yo (bad (by rw [Ya4,hb2];intro h;rcases h with h | h;exact nl h;omega)))
    ·refine zW ?_;intros
     refine zC (fun c4=>?_) (fun c4=>?_)
     ·refine zW ?_;intros
      refine zC (fun c5=>?_) (fun c5=>?_)
      ·refine zW ?_;intros
       refine zC (fun c6=>?_) (fun c6=>?_)
       ·refine zW ?_;intros
        exact ret1 rfl rfl Zb (Yo (bad (by rw [Ya4,hb2];unfold DigP;intro h;rcases h with h | ⟨_,h | h | h⟩;exact nl h;omega;omega;omega)))
       ·refine zW ?_;intros
        exact Yz ⟨k+1,by omega,rfl,rfl,rfl,rfl,(Xn hh (by rw [Ya4,hb2];right;refine ⟨by omega,?_⟩;omega))⟩ Zi Zw Zb
      ·refine zW ?_;intros
       exact Yz ⟨k+1,by omega,rfl,rfl,rfl,rfl,(Xn hh (by rw [Ya4,hb2];right;refine ⟨by omega,?_⟩;omega))⟩ Zi Zw Zb
     ·refine zW ?_;intros
      refine zC (fun c7=>?_) (fun c7=>?_)
      ·refine zW ?_;intros
       refine zC (fun c5=>?_) (fun c5=>?_)
       ·refine zW ?_;intros
        refine zC (fun c6=>?_) (fun c6=>?_)
        ·refine zW ?_;intros
         exact ret1 rfl rfl Zb (Yo (bad (by rw [Ya4,hb2];unfold DigP;intro h;rcases h with h | ⟨_,h | h | h⟩;exact nl h;omega;omega;omega)))
        ·refine zW ?_;intros
         exact Yz ⟨k+1,by omega,rfl,rfl,rfl,rfl,(Xn hh (by rw [Ya4,hb2];right;refine ⟨by omega,?_⟩;omega))⟩ Zi Zw Zb
       ·refine zW ?_;intros
        exact Yz ⟨k+1,by omega,rfl,rfl,rfl,rfl,(Xn hh (by rw [Ya4,hb2];right;refine ⟨by omega,?_⟩;omega))⟩ Zi Zw Zb
      ·refine zW ?_;intros
       exact Yz ⟨k+1,by omega,rfl,rfl,rfl,rfl,(Xn hh (by rw [Ya4,hb2];right;refine ⟨by omega,?_⟩;unfold DigP;omega))⟩ Zi Zw Zb
  ·have nl:¬LetP b.toNat:=fun h=>c1 h.1
   refine zW ?_;intros
   refine zC (fun c3=>?_) (fun c3=>?_)
   ·refine zW ?_;intros
    exact ret1 rfl rfl Zb (Yo (bad (by rw [Ya4,hb2];intro h;rcases h with h | h;exact nl h;omega)))
   ·refine zW ?_;intros
    refine zC (fun c4=>?_) (fun c4=>?_)
    ·refine zW ?_;intros
     refine zC (fun c5=>?_) (fun c5=>?_)
     ·refine zW ?_;intros
      refine zC (fun c6=>?_) (fun c6=>?_)
      ·refine zW ?_;intros
       exact ret1 rfl rfl Zb (Yo (bad (by rw [Ya4,hb2];unfold DigP;intro h;rcases h with h | ⟨_,h | h | h⟩;exact nl h;omega;omega;omega)))
      ·refine zW ?_;intros
       exact Yz ⟨k+1,by omega,rfl,rfl,rfl,rfl,(Xn hh (by rw [Ya4,hb2];right;refine ⟨by omega,?_⟩;omega))⟩ Zi Zw Zb
     ·refine zW ?_;intros
      exact Yz ⟨k+1,by omega,rfl,rfl,rfl,rfl,(Xn hh (by rw [Ya4,hb2];right;refine ⟨by omega,?_⟩;omega))⟩ Zi Zw Zb
    ·refine zW ?_;intros
     refine zC (fun c7=>?_) (fun c7=>?_)
     ·refine zW ?_;intros
      refine zC (fun c5=>?_) (fun c5=>?_)
      ·refine zW ?_;intros
       refine zC (fun c6=>?_) (fun c6=>?_)
       ·refine zW ?_;intros
        exact ret1 rfl rfl Zb (Yo (bad (by rw [Ya4,hb2];unfold DigP;intro h;rcases h with h | ⟨_,h | h | h⟩;exact nl h;omega;omega;omega)))
       ·refine zW ?_;intros
        exact Yz ⟨k+1,by omega,rfl,rfl,rfl,rfl,(Xn hh (by rw [Ya4,hb2];right;refine ⟨by omega,?_⟩;omega))⟩ Zi Zw Zb
      ·refine zW ?_;intros
       exact Yz ⟨k+1,by omega,rfl,rfl,rfl,rfl,(Xn hh (by rw [Ya4,hb2];right;refine ⟨by omega,?_⟩;omega))⟩ Zi Zw Zb
     ·refine zW ?_;intros
      exact Yz ⟨k+1,by omega,rfl,rfl,rfl,rfl,(Xn hh (by rw [Ya4,hb2];right;refine ⟨by omega,?_⟩;unfold DigP;omega))⟩ Zi Zw Zb
 ·refine zW ?_;intros
  refine zC (fun c1=>?_) (fun c1=>?_)
  ·refine zW ?_;intros
   refine zC (fun c2=>?_) (fun c2=>?_)
   ·refine zW ?_;intros
    refine Seq.guard_yesK Zz Zz Zz (Ym [] [] Zz Zz Zz Ykc (fun v fz2 H2 hle2 hR=>?_))
    obtain ⟨rfl,A,rfl,hsl⟩:=hR
    refine zW ?_;intros
    refine zb (YcQ (x:=s) hsl) (fun f1=>?_) (fun f1=>?_)
    ·refine zW ?_;intros
     exact ret1 rfl rfl Zb (Yo (fun h=>h.2.2.2 (Zt f1)))
    ·refine zW ?_;intros
     exact ret1 rfl rfl Zb (Yv ⟨fun i hi=>hh i Zi,c1,by omega,Zf f1⟩)
   ·refine zW ?_;intros
    exact ret1 rfl rfl Zb (Yo (fun h=>by have:=h.2.2.1;omega))
  ·refine zW ?_;intros
   exact ret1 rfl rfl Zb (Yo (fun h=>h.2.1 c1))
def VarP (s:Bs):Prop:=1<s.size∧s.size≤32∧(Yav s 0:Int)=63∧Y5 (s.extract 1 s.size)
def YdR (s:Bs):Prop:=Y5 s∨VarP s
def Wh:Bs:=⟨#[111,98,106,101,99,116]⟩
def YcE (s:Bs):Prop:=Y5 s∨s=Wh
open Classical in
theorem Ybr {s:Bs} (hs:Short s):QFn prog 101 [.string s] fz (.bool (decide (VarP s))):=by
 have hz:s.size≤9223372036854775807:=hs
 refine GFn.quiet ?_
 refine zF Tryz.func101 Tryz.ntmps101 (fun w0=>?_)
 refine zW ?_;intros
 refine zC (fun c1=>?_) (fun c1=>?_)
 ·refine zW ?_;intros
  refine zC (fun c2=>?_) (fun c2=>?_)
  ·refine zW ?_;intros
   obtain ⟨b,hb,hb2⟩:=XV (s:=s) (k:=0) Zi
   refine zG ?_;refine Xl T Zz Zz Zz Zz Zi hb ?_
   refine zW ?_;intros
   refine zC (fun c3=>?_) (fun c3=>?_)
   ·refine zW ?_;intros
    ((refine zG ?_);refine Ydv T Zz Zz Zz Zz Zi Zi ?_)
    refine zW ?_;intros
    ((refine zG ?_);refine Wf Zz Zz (Wk (s:=s.extract 1 s.size) (by unfold Short;rw [Ya0 (Zs _)];omega)) (fun f1=>?_) (fun f1=>?_))
    ·refine zW ?_;intros
     exact ret1 rfl rfl Zb (Yv ⟨by omega,by omega,by rw [hb2];exact c3,Zt f1⟩)
    ·refine zW ?_;intros
     exact ret1 rfl rfl Zb (Yo (fun h=>Zf f1 h.2.2.2))
   ·refine zW ?_;intros
    exact ret1 rfl rfl Zb (Yo (fun h=>c3 (by rw [← hb2];exact h.2.2.1)))
  ·refine zW ?_;intros
   exact ret1 rfl rfl Zb (Yo (fun h=>by have:=h.2.1;omega))
 ·refine zW ?_;intros
  exact ret1 rfl rfl Zb (Yo (fun h=>by have:=h.1;omega))
open Classical in
theorem Yk3 {s:Bs} (hs:Short s):QFn prog 194 [.string s] fz (.bool (decide (YdR s))):=by
 refine GFn.quiet ?_
 refine zF Tryz.func194 Tryz.ntmps194 (fun w0=>?_)
 refine zW ?_;intros
 refine zb (Wk hs) (fun f1=>?_) (fun f1=>?_)
 ·refine zW ?_;intros
  exact ret1 rfl rfl Zb (Yv (.inl (Zt f1)))
 ·refine zW ?_;intros
  refine zb (Ybr hs) (fun f2=>?_) (fun f2=>?_)
  ·refine zW ?_;intros
   exact ret1 rfl rfl Zb (Yv (.inr (Zt f2)))
  ·refine zW ?_;intros
   exact ret1 rfl rfl Zb (Yo (fun h=>h.elim (Zf f1) (Zf f2)))
open Classical in
theorem Ymn {s:Bs} (hs:Short s):QFn prog 225 [.string s] fz (.bool (decide (YdR s))):=by
 refine GFn.quiet ?_
 refine zF Tryz.func225 Tryz.ntmps225 (fun w0=>?_)
 refine zW ?_;intros
 refine zb (Wk hs) (fun f1=>?_) (fun f1=>?_)
 ·refine zW ?_;intros
  exact ret1 rfl rfl Zb (Yv (.inl (Zt f1)))
 ·refine zW ?_;intros
  refine zb (Ybr hs) (fun f2=>?_) (fun f2=>?_)
  ·refine zW ?_;intros
   exact ret1 rfl rfl Zb (Yv (.inr (Zt f2)))
  ·refine zW ?_;intros
   exact ret1 rfl rfl Zb (Yo (fun h=>h.elim (Zf f1) (Zf f2)))
open Classical in
theorem YkV {s:Bs} (hs:Short s):QFn prog 140 [.string s] fz (.bool (decide (YcE s))):=by
 refine GFn.quiet ?_
 refine zF Tryz.func140 Tryz.ntmps140 (fun w0=>?_)
 refine zW ?_;intros
 refine zb (Wk hs) (fun f1=>?_) (fun f1=>?_)
 ·refine zW ?_;intros
  exact ret1 rfl rfl Zb (Yv (.inl (Zt f1)))
 ·refine zW ?_;intros
  refine zC (fun c2=>?_) (fun c2=>?_)
  ·refine zW ?_;intros
   exact ret1 rfl rfl Zb (Yv (.inr c2))
  ·refine zW ?_;intros
   exact ret1 rfl rfl Zb (Yo (fun h=>h.elim (Zf f1) c2))
end Go.Proofs.YtfjopfinkdhmaaaGreatDoor
namespace Go.Lx
open Go.RowKit
def Grow {α:Type} (L:Lay α) (e:Nat) (fz:FZ) (v:Value) (n:Nat) (Hs:HP) (l:List α):Prop:=
 ∃ xs:List (α × List Value),xs.map Prod.fst=l∧(∀ p∈xs,L.rep fz p.1 p.2)∧l.length=n∧OwnS e L.size v n (xs.flatMap Prod.snd) Hs
theorem Grow.nil {α:Type} (L:Lay α) (e:Nat) (fz:FZ):Grow L e fz (.slice none 0 0) 0 [] ([]:List α):=⟨[],rfl,by simp,rfl,OwnS.nil e L.size⟩
variable {Hs:HP} {fz fz':FZ} {n:Nat} {v:Value}
theorem Grow.mono {α:Type} {L:Lay α} {e:Nat} (h:Le fz fz') {l:List α} (hg:Grow L e fz v n Hs l):Grow L e fz' v n Hs l:=by
 obtain ⟨xs,h1,h2,h3,h4⟩:=hg
 exact ⟨xs,h1,fun p hp=>L.mono h (h2 p hp),h3,h4⟩
theorem Grow.form {α:Type} {L:Lay α} {e:Nat} {l:List α} (hg:Grow L e fz v n Hs l):∃ A c,v=.slice A n c∧n≤c∧c≤9223372036854775807:=by
 obtain ⟨_,_,_,_,h⟩:=hg
 exact h.form
theorem Grow.len {α:Type} {L:Lay α} {e:Nat} {l:List α} (hg:Grow L e fz v n Hs l):l.length=n:=by
 obtain ⟨_,_,_,h,_⟩:=hg
 exact h
theorem Grow.of {α:Type} {L:Lay α} {e:Nat} {n':Nat} {l l':List α} (hg:Grow L e fz v n Hs l) (hl:l=l') (hn:n=n'):Grow L e fz v n' Hs l':=by
 subst hl hn;exact hg
theorem YeZ {α:Type} {z:Nat}:∀ {l:List (α × List Value)} {i j:Nat} {x:α × List Value} {u:Value},(∀ p∈l,p.2.length=z)→l[i]?=some x→x.2[j]?=some u→(l.flatMap Prod.snd)[i*z+j]?=some u
 | [],i,j,x,u,_,h,_=>by simp at h
 | y::r,0,j,x,u,_,h,hu=>by
  simp at h;subst h
  have hj:j<y.2.length:=(Zg hu).1
  rw [List.flatMap_cons,Nat.zero_mul,Nat.zero_add,List.getElem?_append_left hj];exact hu
 | y::r,i+1,j,x,u,hz,h,hu=>by
  have h2:=YeZ (z:=z) (l:=r) (i:=i) (j:=j) (x:=x) (u:=u) (fun p hp=>hz p (by simp [hp])) (by simpa using h) hu
  have hy:=hz y (by simp)
  have e:(i+1)*z+j=z+(i*z+j):=by rw [Nat.succ_mul];omega
  rw [List.flatMap_cons,e,List.getElem?_append_right (by rw [hy];omega),hy,Nat.add_sub_cancel_left];exact h2
theorem YaI {α:Type} {z:Nat}:∀ {l:List (α × List Value)},(∀ p∈l,p.2.length=z)→(l.flatMap Prod.snd).length=l.length*z
 | [],_=>by simp
 | y::r,h=>by
  rw [List.flatMap_cons,List.length_append,YaI (fun p hp=>h p (by simp [hp])),h y (by simp),List.length_cons,Nat.succ_mul];omega
theorem Grow.sl {α:Type} {L:Lay α} {e:Nat} {l:List α} (hg:Grow L e fz v n Hs l) (hle:Le fz fz') (hf:∀ p∈Hs,fz' p.1=some p.2) (hn:n≤140737488355328):∃ A c,v=.slice A n c∧Sl L fz' A n c l:=by
 obtain ⟨xs,rfl,h2,h3,h4⟩:=hg
 obtain ⟨A,c,e1,e2,e3,e4⟩:=h4.row hf
 refine ⟨A,c,e1,e4.sl e2 e3 hn h3 fun i d hd=>?_⟩
 rw [List.getElem?_map] at hd
 cases hx:xs[i]? with
 | none=>simp [hx] at hd
 | some x=>
  simp [hx] at hd
  subst hd
  exact ⟨x.2,L.mono hle (h2 x (Zm hx)),fun j u hu=>YeZ (fun p hp=>L.len (h2 p hp)) hx hu⟩
variable {A:Option Addr} {c:Nat}
theorem Sl.pairs {α:Type} {L:Lay α} {l:List α} (h:Sl L fz A n c l):∃ xs:List (α × List Value),xs.map Prod.fst=l∧(∀ p∈xs,L.rep fz p.1 p.2)∧RowS fz A n (xs.flatMap Prod.snd):=by
 rcases h.elem with h0 | ⟨ad,h1,h2⟩
 ·have:=h.len
  have hl:l=[]:=List.eq_nil_of_length_eq_zero Zi
  subst hl
  exact ⟨[],rfl,by simp,.inl h0⟩
 ·have key:∀ (m:Nat),m≤l.length→∃ xs:List (α × List Value),xs.map Prod.fst=l.take m∧(∀ p∈xs,L.rep fz p.1 p.2)∧Row fz ad (xs.flatMap Prod.snd):=by
   intro m
   induction m with
   | zero=>exact fun _=>⟨[],by simp,by simp,fun j v hv=>by simp at hv⟩
   | succ m ih=>
    intro hm
    obtain ⟨xs,e1,e2,e3⟩:=ih Zi
    have hx:l[m]?=some l[m]:=List.getElem?_eq_getElem Zi
    obtain ⟨cs,hr,hrow⟩:=h2 m _ hx
    have hlen:xs.length=m:=by have:=congrArg List.length e1;simp at this;omega
    have hz:∀ p∈xs,p.2.length=L.size:=fun p hp=>L.len (e2 p hp)
    refine ⟨xs++ [(l[m],cs)],by rw [List.map_append,e1,List.take_add_one,hx];rfl,fun p hp=>?_,fun j v hv=>?_⟩
    ·rcases List.mem_append.1 hp with hp | hp
     ·exact e2 p hp
     ·simp at hp;subst hp;exact hr
    ·rw [List.flatMap_append] at hv
     by_cases hj:j<(xs.flatMap Prod.snd).length
     ·rw [List.getElem?_append_left hj] at hv;exact e3 j v hv
     ·rw [List.getElem?_append_right Zi] at hv
      have hl2:=YaI hz
      rw [hlen] at hl2
      simp at hv
      have:=hrow (j - (xs.flatMap Prod.snd).length) v (by simpa using hv)
      rw [hl2] at this
      have e:(ad.add (m*L.size)).add (j - m*L.size)=ad.add j:=by
       have hj':m*L.size≤j:=by omega
       unfold Addr.add
       by_cases h5:m*L.size=0
       ·rw [h5];simp
       ·by_cases h6:j - m*L.size=0
        ·have:j=m*L.size:=by omega
         subst this;simp
        ·have h7:j≠0:=by omega
         simp [h5,h6,h7,Nat.add_assoc];omega
      rw [e] at this
      exact this
  obtain ⟨xs,e1,e2,e3⟩:=key l.length (Zs _)
  exact ⟨xs,by rw [e1,List.take_length],e2,.inr ⟨ad,h1,e3⟩⟩
def OneC {α:Type} (L:Lay α):Prop:=∀ fz d cs,L.rep fz d cs→∀ u∈cs,u.oneCell'=true
theorem Ys:OneC Yy:=by
 intro fz d cs h u hu
 obtain ⟨vk,rfl,hR⟩:=Yh h
 obtain ⟨A,n,c,rfl,_⟩:=hR.kids
 simp at hu
 rcases hu with rfl | rfl | rfl | rfl | rfl | rfl<;>rfl
theorem WE:OneC paramL:=by
 intro fz d cs h u hu
 obtain ⟨rfl,hR⟩:=YV h
 simp at hu
 rcases hu with rfl | rfl<;>rfl
section
variable {P:Program} {cx:Cx} {r:Operand→Option Value} {fz:FZ} {H:HP} {dst:Option Nat} {ty:TypeId} {pos:String} {af:Array Edge} {gd:Option (Nat × Bool)} {α:Type} {L:Lay α}
variable {Hr:HP} {X Y:Ty} {cs:List Value} {g:Nat} {t:TypeId} {x y:Operand}
theorem YhG (T:Tab P) {e e':TypeId} {m:Nat} {l l2:List α} {ys:List (α × List Value)} {K:Value→FZ→HP→Prop} (hT:T.inf t=some X) (hd:X.desc=.slice e) (hY:T.inf e=some Y) (hz:Y.zero.cells.size=Y.size) (hsz:Nat.blt 0 Y.size=true) (hYL:Y.size=L.size)
 (hx:r x=some v) (hy:r y=some (.slice (some ⟨g,0,none⟩) m c)) (hp:H.Perm (Hr++Hs)) (ho:Grow L e fz v n Hs l) (h1:OneC L)
 (hg:(g,Obj.cells cs.toArray e' (0,0))∈H) (hcs:cs=ys.flatMap Prod.snd) (hl2:ys.map Prod.fst=l2) (hys:∀ p∈ys,L.rep fz p.1 p.2) (hm:l2.length=m)
 (hb:(n+m)*Y.bytes≤140737488355328) (hm2:n+m≤9223372036854775807)
 (h:∀ v' Hs',Grow L e fz v' (n+m) Hs' (l++l2)→K v' fz (Hr++Hs')):
 Does P cx ⟨dst,.call {callee:=.builtin .append,args:=#[x,y],argTypes:=#[t,t]},ty,pos,af,gd⟩ r fz H K:=by
 obtain ⟨xs,h2,h3,h4,h5⟩:=ho
 have hlm:ys.length=m:=by rw [← hl2,List.length_map] at hm;exact hm
 have hzy:∀ p∈ys,p.2.length=L.size:=fun p hp=>L.len (hys p hp)
 subst hcs
 refine Yei T (news:=ys.flatMap Prod.snd) hT hd hY hz hsz hx hy hp (by rw [hYL];exact h5) (by rw [YaI hzy,hlm,hYL]) (Yip hg) (fun u hu=>?_) hb hm2 (fun v' Hs' hO=>h v' Hs' ⟨xs++ys,by rw [List.map_append,h2,hl2],fun p hp=>?_,by rw [List.length_append,h4,hm],by rw [List.flatMap_append,← hYL];exact hO⟩)
 ·obtain ⟨p,hp,hu⟩:=List.mem_flatMap.1 hu
  exact h1 _ _ _ (hys p hp) u hu
 ·rcases List.mem_append.1 hp with hp | hp
  ·exact h3 p hp
  ·exact hys p hp
theorem YS (T:Tab P) {e e':TypeId} {l:List α} {d:α} {K:Value→FZ→HP→Prop} (hT:T.inf t=some X) (hd:X.desc=.slice e) (hY:T.inf e=some Y) (hz:Y.zero.cells.size=Y.size) (hsz:Nat.blt 0 Y.size=true) (hYL:Y.size=L.size)
 (hx:r x=some v) (hy:r y=some (.slice (some ⟨g,0,none⟩) 1 c)) (hp:H.Perm (Hr++Hs)) (ho:Grow L e fz v n Hs l) (h1:OneC L)
 (hg:(g,Obj.cells cs.toArray e' (0,0))∈H) (hys:L.rep fz d cs)
 (hb:(n+1)*Y.bytes≤140737488355328) (hm2:n+1≤9223372036854775807)
 (h:∀ v' Hs',Grow L e fz v' (n+1) Hs' (l++ [d])→K v' fz (Hr++Hs')):
 Does P cx ⟨dst,.call {callee:=.builtin .append,args:=#[x,y],argTypes:=#[t,t]},ty,pos,af,gd⟩ r fz H K:=
 YhG T (ys:=[(d,cs)]) hT hd hY hz hsz hYL hx hy hp ho h1 hg (by simp) rfl (by simpa using hys) rfl hb hm2 h
variable {B:Option Addr}
theorem WF (T:Tab P) {e:TypeId} {m:Nat} {l l2:List α} {K:Value→FZ→HP→Prop} (hT:T.inf t=some X) (hd:X.desc=.slice e) (hY:T.inf e=some Y) (hz:Y.zero.cells.size=Y.size) (hsz:Nat.blt 0 Y.size=true) (hYL:Y.size=L.size)
 (hx:r x=some v) (hy:r y=some (.slice B m c)) (hp:H.Perm (Hr++Hs)) (ho:Grow L e fz v n Hs l) (h1:OneC L) (hs:Sl L fz B m c l2)
 (hb:(n+m)*Y.bytes≤140737488355328) (hm2:n+m≤9223372036854775807)
 (h:∀ v' Hs',Grow L e fz v' (n+m) Hs' (l++l2)→K v' fz (Hr++Hs')):
 Does P cx ⟨dst,.call {callee:=.builtin .append,args:=#[x,y],argTypes:=#[t,t]},ty,pos,af,gd⟩ r fz H K:=by
 obtain ⟨xs,h2,h3,h4,h5⟩:=ho
 obtain ⟨ys,rfl,hys,hrow⟩:=hs.pairs
 have hlm:ys.length=m:=by have:=hs.len;rw [List.length_map] at this;exact this
 have hzy:∀ p∈ys,p.2.length=L.size:=fun p hp=>L.len (hys p hp)
 refine Yei T (news:=ys.flatMap Prod.snd) hT hd hY hz hsz hx hy hp (by rw [hYL];exact h5) (by rw [YaI hzy,hlm,hYL]) (src_row hrow) (fun u hu=>?_) hb hm2 (fun v' Hs' hO=>h v' Hs' ⟨xs++ys,by rw [List.map_append,h2],fun p hp=>?_,by rw [List.length_append,h4,hs.len],by rw [List.flatMap_append,← hYL];exact hO⟩)
 ·obtain ⟨p,hp,hu⟩:=List.mem_flatMap.1 hu
  exact h1 _ _ _ (hys p hp) u hu
 ·rcases List.mem_append.1 hp with hp | hp
  ·exact h3 p hp
  ·exact hys p hp
end
variable {cs:List Value} {g:Nat}
theorem Grow.block {α:Type} {L:Lay α} {e:Nat} {m:Nat} {ys:List (α × List Value)} {l:List α} (hcs:cs=ys.flatMap Prod.snd) (hl:ys.map Prod.fst=l) (hys:∀ p∈ys,L.rep fz p.1 p.2) (hm:l.length=m) (hb:m≤9223372036854775807):
 Grow L e fz (.slice (some ⟨g,0,none⟩) m m) m [(g,.cells cs.toArray e (0,0))] l:=by
 subst hcs
 have hlm:ys.length=m:=by rw [← hl,List.length_map] at hm;exact hm
 exact ⟨ys,hl,hys,hm,OwnS.of_block (by rw [YaI (fun p hp=>L.len (hys p hp)),hlm]) (by simpa [maxLen] using hb)⟩
theorem Xt {α:Type} {L:Lay α} {e:Nat} {m:Nat} {ys:List (α × List Value)} {l:List α} (hg:fz g=some (.cells cs.toArray e (0,0))) (hcs:cs=ys.flatMap Prod.snd) (hl:ys.map Prod.fst=l) (hys:∀ p∈ys,L.rep fz p.1 p.2) (hm:l.length=m) (hb:m≤140737488355328):
 Sl L fz (some ⟨g,0,none⟩) m m l:=by
 have hG:=Grow.block (L:=L) (e:=e) (g:=g) hcs hl hys hm Zi
 obtain ⟨A,c,he,hs⟩:=hG.sl (Le.refl _) (fun p hp=>by simp at hp;subst hp;exact hg) hb
 injection he with e1 e2 e3
 subst e1 e3
 exact hs
section
variable {P:Program} {cx:Cx} {r:Operand→Option Value} {fz:FZ} {H:HP} {V:Value→Prop} {dst:Option Nat} {ty:TypeId} {pos:String} {af:Array Edge} {gd:Option (Nat × Bool)}
variable {t:TypeId} {x y:Operand}
theorem YaM {t':TypeId} {u v:Bs} (hx:r x=some (.string u)) (hy:r y=some (.string v)) (h:u=v) (k:V (.bool true)):DoesQ P cx ⟨dst,.binOp .eql t x y t',ty,pos,af,gd⟩ r fz H V:=
 Ydw hx hy (fun _=>k) (fun h0=>absurd h h0)
theorem YaN {t':TypeId} {u v:Bs} (hx:r x=some (.string u)) (hy:r y=some (.string v)) (h:¬u=v) (k:V (.bool false)):DoesQ P cx ⟨dst,.binOp .eql t x y t',ty,pos,af,gd⟩ r fz H V:=
 Ydw hx hy (fun h0=>absurd h0 h) (fun _=>k)
theorem YaL {t':TypeId} {u v:Bs} (hx:r x=some (.string u)) (hy:r y=some (.string v)) (h:¬u=v) (k:V (.bool true)):DoesQ P cx ⟨dst,.binOp .neq t x y t',ty,pos,af,gd⟩ r fz H V:=
 YfH hx hy (fun _=>k) (fun h0=>absurd h0 h)
theorem YfK {t':TypeId} {i:IntKind} {u v:Int} (hx:r x=some (.int i u)) (hy:r y=some (.int i v)) (h:u=v) (k:V (.bool true)):DoesQ P cx ⟨dst,.binOp .eql t x y t',ty,pos,af,gd⟩ r fz H V:=
 Ylq hx hy (fun _=>k) (fun h0=>absurd h h0)
theorem YfL {t':TypeId} {i:IntKind} {u v:Int} (hx:r x=some (.int i u)) (hy:r y=some (.int i v)) (h:¬u=v) (k:V (.bool false)):DoesQ P cx ⟨dst,.binOp .eql t x y t',ty,pos,af,gd⟩ r fz H V:=
 Ylq hx hy (fun h0=>absurd h0 h) (fun _=>k)
theorem Xx {p:Addr} (hx:r x=some (.pointer (some p))) (h:V (.pointer (some p))):DoesQ P cx ⟨dst,.nilCheck x,ty,pos,af,gd⟩ r fz H V:=
 YH (fun ρ w hr=>by simp [execOp,hr _ _ hx]) h
end
theorem XY {α:Type} {l l':List α} (is:List Nat) (h:is.isPerm (List.range l.length)=true) (e:is.filterMap (fun i=>l[i]?)=l'):l'.Perm l:=by
 have h1:=(List.isPerm_iff.1 h).filterMap (fun i=>l[i]?)
 rw [e] at h1
 have h2:(List.range l.length).filterMap (fun i=>l[i]?)=l:=by
  clear h1 h e
  induction l with
  | nil=>rfl
  | cons a r ih=>
   rw [List.length_cons,List.range_succ_eq_map,List.filterMap_cons]
   simp only [List.getElem?_cons_zero,List.filterMap_map]
   congr 1
 rw [h2] at h1
 exact h1
section
variable {P:Program} {cx:Cx} {n:Nat} {σ:Env} {fz:FZ} {H:HP} {Q:QQ}
def midQ (I:Env→FZ→HP→Prop) (Q:QQ):QQ
 | .normal,σ,fz,H=>(∃ σ' H1 H',Sub σ' σ∧H1.Perm H∧H'.Sublist H1∧I σ' fz H')∨(∃ σ' H' H2,Sub σ' σ∧(H'++H2).Perm H∧∀ fz',Le fz fz'→(∀ p∈H2,fz' p.1=some p.2)→I σ' fz' H')
 | e,σ,fz,H=>Q e σ fz H
theorem Wp.mid {c y:Code} (I:Env→FZ→HP→Prop) (hx:Wp P cx n c σ fz H (midQ I Q)) (hy:∀ σ fz H,I σ fz H→Wp P cx n y σ fz H Q):Wp P cx n c σ fz H (andThen P cx n y Q):=
 hx.mono fun e σ fz H h=>by
  cases e with
  | normal=>
   rcases h with ⟨σ',H1,H',h1,h2,h3,h4⟩ | ⟨σ',H',H2,h1,h2,h3⟩
   ·exact Yc0 (Wp.perm h2 (Wp.weaken h1 h3 (hy _ _ _ h4)))
   ·exact Yc0 (Wp.freezeAll h2.symm (fun fz' h5 h6=>Wp.weaken h1 (List.Sublist.refl _) (hy _ _ _ (h3 fz' h5 h6))))
  | _=>unfold andThen;exact h
theorem midN {I:Env→FZ→HP→Prop} {σ':Env} {H':HP} (hI:I σ' fz H') (hs:Sub σ' σ) (hh:H'.Sublist H):midQ I Q .normal σ fz H:=.inl ⟨σ',H,H',hs,Zr _,hh,hI⟩
theorem midP {I:Env→FZ→HP→Prop} {σ':Env} {H1 H':HP} (hp:H1.Perm H) (hI:I σ' fz H') (hs:Sub σ' σ) (hh:H'.Sublist H1):midQ I Q .normal σ fz H:=.inl ⟨σ',H1,H',hs,hp,hh,hI⟩
theorem midF {I:Env→FZ→HP→Prop} {σ':Env} {H' H2:HP} (hp:(H'++H2).Perm H) (hI:∀ fz',Le fz fz'→(∀ p∈H2,fz' p.1=some p.2)→I σ' fz' H') (hs:Sub σ' σ):midQ I Q .normal σ fz H:=.inr ⟨σ',H',H2,hs,hp,hI⟩
theorem midR {I:Env→FZ→HP→Prop} (h:Q .ret σ fz H):midQ I Q .ret σ fz H:=h
end
section
variable {P:Program} {cx:Cx} {n:Nat} {σ:Env} {fz:FZ} {H H' H2:HP} {fn:Func} {R:Value→FZ→HP→Prop}
variable {X:Ty} {i:Nat} {t:TypeId}
theorem W6 (T:Tab P) {p:Nat} {t':TypeId} {f:Nat × Nat} (hres:fn.results=#[.cell p t]) (hT:T.inf t=some X) (hd:WK X.desc=true) (hv:lk σ p=some (.pointer (some ⟨g,0,none⟩)))
 (hi:H[i]?=some (g,.cells cs.toArray t' f)) (hsz:X.size=cs.length) (hH:H'.Sublist H) (h:R (.agg cs.toArray) fz H'):retQ P cx n fn R .ret σ fz H:=WD T hres hT hd hv hi hsz (YfG hH h)
theorem Yc3 (T:Tab P) {p:Nat} {t':TypeId} {f:Nat × Nat} (hres:fn.results=#[.cell p t]) (hT:T.inf t=some X) (hd:WK X.desc=true) (hv:lk σ p=some (.pointer (some ⟨g,0,none⟩)))
 (hi:H[i]?=some (g,.cells cs.toArray t' f)) (hsz:X.size=cs.length) (hp:(H'++H2).Perm H) (h:∀ fz',Le fz fz'→(∀ p∈H2,fz' p.1=some p.2)→R (.agg cs.toArray) fz' H'):retQ P cx n fn R .ret σ fz H:=WD T hres hT hd hv hi hsz (rOwn hp h)
theorem Yap (hres:fn.results=#[]) (hH:H'.Sublist H) (h:R (.tuple #[]) fz H'):retQ P cx n fn R .normal σ fz H:=by
 unfold retQ
 exact ⟨.tuple #[],fun a w hs hw=>by simp [results,hres],YfG hH h⟩
end
end Go.Lx
namespace Go.Lx
variable {H:HP} {fz:FZ} {n:Nat}
theorem ret0R {P:Program} {cx:Cx} {σ:Env} {H':HP} {fn:Func} {R:Value→FZ→HP→Prop} (hres:fn.results=#[]) (hH:H'.Sublist H) (h:R (.tuple #[]) fz H'):retQ P cx n fn R .ret σ fz H:=by
 unfold retQ
 exact ⟨.tuple #[],fun a w hs hw=>by simp [results,hres],YfG hH h⟩
end Go.Lx
namespace Go.Proofs.YtfjopfinkdhmaaaGreatDoor
open Go.Lx Go.RowKit
attribute [local instance 10] Classical.propDecidable
open Go.Proofs.Tryz (prog)
def SepP (n:Int):Prop:=n=32∨n=9∨n=13∨n=10
instance {n:Int}:Decidable (SepP n):=inferInstanceAs (Decidable (_∨_))
variable {fz:FZ}
theorem sep_q {n:Int}:QFn prog 132 [.int .u8 n] fz (.bool (decide (SepP n))):=by
 refine GFn.quiet ?_
 refine zF Tryz.func132 Tryz.ntmps132 (fun w0=>?_)
 refine zW ?_;intros
 (((refine zC (fun c1=>?_) (fun c1=>?_));((refine zW ?_;intros);(exact ret1 rfl rfl Zb (Yv (.inl c1))));(refine zW ?_;intros)))
 (((refine zC (fun c2=>?_) (fun c2=>?_));((refine zW ?_;intros);(exact ret1 rfl rfl Zb (Yv (.inr (.inl c2)))));(refine zW ?_;intros)))
 (((refine zC (fun c3=>?_) (fun c3=>?_));((refine zW ?_;intros);(exact ret1 rfl rfl Zb (Yv (.inr (.inr (.inl c3))))));(refine zW ?_;intros)))
 refine zC (fun c4=>?_) (fun c4=>?_)
 ·refine zW ?_;intros
  exact ret1 rfl rfl Zb (Yv (.inr (.inr (.inr c4))))
 ·refine zW ?_;intros
  exact ret1 rfl rfl Zb (Yo (fun h=>by rcases h with h | h | h | h;exact c1 h;exact c2 h;exact c3 h;exact c4 h))
def posS (p:Int × Int) (b:UInt8):Int × Int:=if b=10 then (p.1+1,1) else (p.1,p.2+1)
def posA (t:Bs) (a:Nat):Int × Int:=(t.data.toList.take a).foldl posS (1,1)
theorem Ylv {t:Bs} {a:Nat} {b:UInt8} (h:t[a]?=some b):posA t (a+1)=posS (posA t a) b:=by
 unfold posA
 have hl:t.data.toList[a]?=some b:=by
  have h1:t[a]?=t.data[a]?:=by
   by_cases ha:a<t.size
   ·rw [getElem?_pos t a ha,Array.getElem?_eq_getElem (show a<t.data.size from ha)];rfl
   ·rw [getElem?_neg t a ha,Array.getElem?_eq_none (show t.data.size≤a by have:t.data.size=t.size:=rfl;omega)]
  rw [h1] at h
  simpa using h
 rw [List.take_add_one,hl]
 simp
theorem YjT:∀ (l:List UInt8) (p:Int × Int),0≤p.1→0≤p.2→0≤(l.foldl posS p).1∧0≤(l.foldl posS p).2∧(l.foldl posS p).1≤p.1+l.length∧(l.foldl posS p).2≤p.2+1+l.length
 | [],p,h1,h2=>by simp;omega
 | b::r,p,h1,h2=>by
  rw [List.foldl_cons,List.length_cons]
  have h3:0≤(posS p b).1∧0≤(posS p b).2∧(posS p b).1≤p.1+1∧(posS p b).2≤p.2+1:=by
   unfold posS;split<;>simp<;>omega
  obtain ⟨i1,i2,i3,i4⟩:=YjT r (posS p b) h3.1 h3.2.1
  refine ⟨i1,i2,?_,?_⟩<;>push_cast<;>omega
theorem YeD (t:Bs) (a:Nat):0≤(posA t a).1∧0≤(posA t a).2∧(posA t a).1≤2+t.size∧(posA t a).2≤2+t.size:=by
 have h:=YjT (t.data.toList.take a) (1,1) Zh Zh
 have hl:(t.data.toList.take a).length≤t.size:=by
  rw [List.length_take]
  have:t.data.toList.length=t.size:=by rw [Array.length_toList];rfl
  omega
 unfold posA
 simp only at h
 omega
def rdO (t:Bs) (a:Nat) (n:Int) (v:Value):Obj:=.cells #[.string t,.int .i64 a,.int .i64 (posA t a).1,.int .i64 (posA t a).2,.int .i64 n,v] 160 (0,0)
variable {g:Nat} {v:Value}
theorem Yjn {a:Nat} {t:Bs} {n:Int} (ht:t.size≤1000000) (ha:a<t.size):
 GFn prog 133 [.pointer (some ⟨g,0,none⟩)] fz [(g,rdO t a n v)] (fun r fz' H'=>fz'=fz∧H'=[(g,rdO t (a+1) n v)]∧r=.tuple #[]):=by
 obtain ⟨b,hb,hb2⟩:=XV ha
 have hp:=Ylv hb
 have hbd:=YeD t a
 unfold rdO
 refine zF Tryz.func133 Tryz.ntmps133 (fun w0=>?_)
 refine zW ?_;intros
 ((refine zG ?_);refine Xl T Zz Zz Zz Zz Zi (by rw [Int.toNat_natCast];exact hb) ?_)
 refine zW ?_;intros
 refine zC (fun c1=>?_) (fun c1=>?_)
 ·have hb10:b=10:=by rw [← UInt8.toNat_inj];show b.toNat=10;omega
  refine zW ?_;intros
  refine Yap rfl (List.Sublist.refl _) ⟨rfl,?_,rfl⟩
  rw [hp,posS,if_pos hb10];push_cast;rfl
 ·have hb10:¬b=10:=fun h=>c1 (by rw [h];rfl)
  refine zW ?_;intros
  refine Yap rfl (List.Sublist.refl _) ⟨rfl,?_,rfl⟩
  rw [hp,posS,if_neg hb10];push_cast;rfl
def W5:Bool→List UInt8→Nat
 | _,[]=>0
 | true,b::r=>if b=10 then 1+W5 false r else 1+W5 true r
 | false,b::r=>if SepP b.toNat then 1+W5 false r else if b=59 then 1+W5 true r else 0
def XO (m:Bool) (t:Bs) (a:Nat):Nat:=a+W5 m (t.data.toList.drop a)
theorem W9 {t:Bs} {a:Nat} {b:UInt8} (h:t[a]?=some b):t.data.toList.drop a=b::t.data.toList.drop (a+1):=by
 have ha:a<t.size:=by
  rcases Nat.lt_or_ge a t.size with h1 | h1
  ·exact h1
  ·rw [getElem?_neg t a Zi] at h;cases h
 have hl:a<t.data.toList.length:=by
  have:t.data.toList.length=t.size:=by rw [Array.length_toList];rfl
  omega
 rw [List.drop_eq_getElem_cons hl]
 congr 1
 rw [getElem?_pos t a ha] at h
 injection h with h
theorem Yha {m:Bool} {t:Bs} {a:Nat} (h:t.size≤a):XO m t a=a:=by
 have:t.data.toList.drop a=[]:=List.drop_eq_nil_of_le (by have:t.data.toList.length=t.size:=(by rw [Array.length_toList];rfl);omega)
 unfold XO;rw [this]
 cases m<;>simp [W5]
theorem Yk9 {t:Bs} {a:Nat} {b:UInt8} (h:t[a]?=some b) (hb:¬b=10):XO true t a=XO true t (a+1):=by
 unfold XO;rw [W9 h,W5,if_neg hb];omega
theorem skipA_nl {t:Bs} {a:Nat} {b:UInt8} (h:t[a]?=some b) (hb:b=10):XO true t a=XO false t a:=by
 unfold XO;rw [W9 h,W5,if_pos hb,W5,if_pos (by subst hb;decide)]
theorem Yk7 {t:Bs} {a:Nat} {b:UInt8} (h:t[a]?=some b) (hb:SepP b.toNat):XO false t a=XO false t (a+1):=by
 unfold XO;rw [W9 h,W5,if_pos hb];omega
theorem Yk8 {t:Bs} {a:Nat} {b:UInt8} (h:t[a]?=some b) (hb:b=59):XO false t a=XO true t a:=by
 unfold XO
 have e1:∀ r,W5 false (b::r)=1+W5 true r:=fun r=>by rw [W5,if_neg (by subst hb;decide),if_pos hb]
 have e2:∀ r,W5 true (b::r)=1+W5 true r:=fun r=>by rw [W5,if_neg (by subst hb;decide)]
 rw [W9 h,e1,e2]
theorem Yka {t:Bs} {a:Nat} {b:UInt8} (h:t[a]?=some b) (h1:¬SepP b.toNat) (h2:¬b=59):XO false t a=a:=by
 unfold XO;rw [W9 h,W5,if_neg h1,if_neg h2];rfl
set_option maxHeartbeats 4000000 in
theorem skip_f {a:Nat} {t:Bs} {n:Int} (ht:t.size≤1000000) (ha:a≤t.size):
 GFn prog 85 [.pointer (some ⟨g,0,none⟩)] fz [(g,rdO t a n v)] (fun r fz' H'=>fz'=fz∧H'=[(g,rdO t (XO false t a) n v)]∧r=.tuple #[]):=by
 refine zF Tryz.func85 Tryz.ntmps85 (fun w0=>?_)
 refine zW ?_;intros
 refine Yl (fun q σ fz' H'=>∃ k:Nat,k≤t.size∧q=t.size - k∧σ=[(0,.pointer (some ⟨g,0,none⟩))]∧fz=fz'∧H'=[(g,rdO t k n v)]∧XO false t k=XO false t a) ⟨a,ha,rfl,rfl,rfl,rfl,rfl⟩ Zw Zb ?_
 rintro q σ fz' H' ⟨k,hk,rfl,rfl,rfl,rfl,hs⟩
 have hrd:=rdO.eq_1 t k n v
 rw [hrd]
 refine zW ?_;intros
 refine zC (fun c1=>?_) (fun c1=>?_)
 ·obtain ⟨b,hb,hb2⟩:=XV (s:=t) (k:=k) Zi
  refine zW ?_;intros
  ((refine zG ?_);refine Xl T Zz Zz Zz Zz Zi (by rw [Int.toNat_natCast];exact hb) ?_)
  refine zW ?_;intros
  refine zb (sep_q (n:=b.toNat)) (fun f1=>?_) (fun f1=>?_)
  ·have hsep:=Zt f1
   refine zW ?_;intros
   refine Ya Zz (Ym [(g,rdO t k n v)] [] Zz Zz Zz (Yjn ht Zi) (fun r1 fz1 H1 hle1 hR1=>?_))
   obtain ⟨rfl,rfl,rfl⟩:=hR1
   refine zW ?_;intros
   exact Yz ⟨k+1,by omega,rfl,rfl,rfl,rfl,by rw [← Yk7 hb hsep];exact hs⟩ Zi Zw Zb
  ·have hsep:=Zf f1
   refine zW ?_;intros
   refine zC (fun c2=>?_) (fun c2=>?_)
   ·have hb59:b=59:=by rw [← UInt8.toNat_inj];show b.toNat=59;omega
    refine zW ?_;intros
    refine Yl (fun q σ fz' H'=>∃ j:Nat,j≤t.size∧k≤j∧q=t.size - j∧σ=[(0,.pointer (some ⟨g,0,none⟩))]∧fz=fz'∧H'=[(g,rdO t j n v)]∧XO true t j=XO false t a) ⟨k,hk,Zs _,rfl,rfl,rfl,rfl,by rw [← Yk8 hb hb59];exact hs⟩ Zw Zb ?_
    rintro q σ fz' H' ⟨j,hj,hkj,rfl,rfl,rfl,rfl,hs2⟩
    have hrd2:=rdO.eq_1 t j n v
    rw [hrd2]
    refine zW ?_;intros
    refine zC (fun c3=>?_) (fun c3=>?_)
    ·obtain ⟨b2,hb3,hb4⟩:=XV (s:=t) (k:=j) Zi
     refine zW ?_;intros
     ((refine zG ?_);refine Xl T Zz Zz Zz Zz Zi (by rw [Int.toNat_natCast];exact hb3) ?_)
     refine zW ?_;intros
     refine zC (fun c4=>?_) (fun c4=>?_)
     ·have hne:¬b2=10:=fun h=>c4 (by rw [h];rfl)
      refine zW ?_;intros
      refine Ya Zz (Ym [(g,rdO t j n v)] [] Zz Zz Zz (Yjn ht Zi) (fun r1 fz1 H1 hle1 hR1=>?_))
      obtain ⟨rfl,rfl,rfl⟩:=hR1
      refine zW ?_;intros
      exact Yz ⟨j+1,by omega,by omega,rfl,rfl,rfl,rfl,by rw [← Yk9 hb3 hne];exact hs2⟩ Zi Zw Zb
     ·have heq:b2=10:=by rw [← UInt8.toNat_inj];show b2.toNat=10;omega
      have hkj2:k<j:=by
       rcases Nat.lt_or_eq_of_le hkj with h | h
       ·exact h
       ·subst h
        rw [hb] at hb3
        injection hb3 with hb3
        rw [hb59] at hb3
        rw [← hb3] at heq
        cases heq
      refine zW ?_;intros
      exact Yz ⟨j,hj,rfl,rfl,rfl,rfl,by rw [← skipA_nl hb3 heq];exact hs2⟩ Zi Zw Zb
    ·refine zW ?_;intros
     exact Yz ⟨j,hj,rfl,rfl,rfl,rfl,by rw [Yha Zi] at hs2 ⊢;exact hs2⟩ Zi Zw Zb
   ·have hne:¬b=59:=fun h=>c2 (by rw [h];rfl)
    rw [Yka hb hsep hne] at hs
    refine zW ?_;intros
    exact ret0R rfl (List.Sublist.refl _) ⟨rfl,by rw [← hs];rfl,rfl⟩
 ·rw [Yha Zi] at hs
  refine zW ?_;intros
  exact Yap rfl (List.Sublist.refl _) ⟨rfl,by rw [← hs];rfl,rfl⟩
end Go.Proofs.YtfjopfinkdhmaaaGreatDoor
