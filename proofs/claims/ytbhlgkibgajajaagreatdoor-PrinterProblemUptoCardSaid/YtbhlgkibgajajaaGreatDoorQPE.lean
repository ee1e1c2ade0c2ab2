/- The texts Tab, PWalkA, PWalkB, PWalkC, PGrow, laid together. Conditions: none. -/
import Derived.Test.YtbhlgkibgajajaaGreatDoorQPB
import Derived.Test.YtbhlgkibgajajaaGreatDoorQPC
import Derived.Test.YtbhlgkibgajajaaGreatDoorProg
import Derived.KernelRfl
import Derived.Test.YtbhlgkibgajajaaGreatDoorQPD
namespace Go.Proofs.YtbhlgkibgajajaaGreatDoor
open Go.Lx
set_option maxRecDepth 100000
def ty2_:Ty:=⟨(.int .i64),1,8,(.int .i64 0)⟩
theorem ty2_ok:TyOk Tryz.prog 2 ty2_:=TyOk.mk' (by kernel_rfl) (by kernel_rfl)
def ty3_:Ty:=⟨(.int .i64),1,8,(.int .i64 0)⟩
theorem ty3_ok:TyOk Tryz.prog 3 ty3_:=TyOk.mk' (by kernel_rfl) (by kernel_rfl)
def ty4_:Ty:=⟨.bool,1,1,(.bool false)⟩
theorem ty4_ok:TyOk Tryz.prog 4 ty4_:=TyOk.mk' (by kernel_rfl) (by kernel_rfl)
def ty5_:Ty:=⟨(.int .u8),1,1,(.int .u8 0)⟩
theorem ty5_ok:TyOk Tryz.prog 5 ty5_:=TyOk.mk' (by kernel_rfl) (by kernel_rfl)
def ty6_:Ty:=⟨(.int .u8),1,1,(.int .u8 0)⟩
theorem ty6_ok:TyOk Tryz.prog 6 ty6_:=TyOk.mk' (by kernel_rfl) (by kernel_rfl)
def ty7_:Ty:=⟨(.struct #[fld 2 0,fld 3 1,fld 4 2,fld 6 3]),4,24,(.agg #[(.int .i64 0),(.int .i64 0),(.bool false),(.int .u8 0)])⟩
theorem ty7_ok:TyOk Tryz.prog 7 ty7_:=TyOk.mk' (by kernel_rfl) (by kernel_rfl)
def ty8_:Ty:=⟨(.struct #[fld 2 0,fld 3 1,fld 4 2,fld 6 3]),4,24,(.agg #[(.int .i64 0),(.int .i64 0),(.bool false),(.int .u8 0)])⟩
theorem ty8_ok:TyOk Tryz.prog 8 ty8_:=TyOk.mk' (by kernel_rfl) (by kernel_rfl)
def ty9_:Ty:=⟨.string,1,16,(.string ⟨#[]⟩)⟩
theorem ty9_ok:TyOk Tryz.prog 9 ty9_:=TyOk.mk' (by kernel_rfl) (by kernel_rfl)
def ty22_:Ty:=⟨(.slice 138),1,24,(.slice none 0 0)⟩
theorem ty22_ok:TyOk Tryz.prog 22 ty22_:=TyOk.mk' (by kernel_rfl) (by kernel_rfl)
def ty23_:Ty:=⟨(.slice 95),1,24,(.slice none 0 0)⟩
theorem ty23_ok:TyOk Tryz.prog 23 ty23_:=TyOk.mk' (by kernel_rfl) (by kernel_rfl)
def ty24_:Ty:=⟨(.slice 97),1,24,(.slice none 0 0)⟩
theorem ty24_ok:TyOk Tryz.prog 24 ty24_:=TyOk.mk' (by kernel_rfl) (by kernel_rfl)
def ty25_:Ty:=⟨(.slice 55),1,24,(.slice none 0 0)⟩
theorem ty25_ok:TyOk Tryz.prog 25 ty25_:=TyOk.mk' (by kernel_rfl) (by kernel_rfl)
def ty26_:Ty:=⟨(.slice 58),1,24,(.slice none 0 0)⟩
theorem ty26_ok:TyOk Tryz.prog 26 ty26_:=TyOk.mk' (by kernel_rfl) (by kernel_rfl)
def ty27_:Ty:=⟨(.struct #[fld 9 0,fld 22 1,fld 22 2,fld 23 3,fld 24 4,fld 25 5,fld 26 6]),7,160,(.agg #[(.string ⟨#[]⟩),(.slice none 0 0),(.slice none 0 0),(.slice none 0 0),(.slice none 0 0),(.slice none 0 0),(.slice none 0 0)])⟩
theorem ty27_ok:TyOk Tryz.prog 27 ty27_:=TyOk.mk' (by kernel_rfl) (by kernel_rfl)
def ty28_:Ty:=⟨(.struct #[fld 9 0,fld 22 1,fld 22 2,fld 23 3,fld 24 4,fld 25 5,fld 26 6]),7,160,(.agg #[(.string ⟨#[]⟩),(.slice none 0 0),(.slice none 0 0),(.slice none 0 0),(.slice none 0 0),(.slice none 0 0),(.slice none 0 0)])⟩
theorem ty28_ok:TyOk Tryz.prog 28 ty28_:=TyOk.mk' (by kernel_rfl) (by kernel_rfl)
def ty30_:Ty:=⟨(.slice 108),1,24,(.slice none 0 0)⟩
theorem ty30_ok:TyOk Tryz.prog 30 ty30_:=TyOk.mk' (by kernel_rfl) (by kernel_rfl)
def ty31_:Ty:=⟨(.slice 111),1,24,(.slice none 0 0)⟩
theorem ty31_ok:TyOk Tryz.prog 31 ty31_:=TyOk.mk' (by kernel_rfl) (by kernel_rfl)
def ty32_:Ty:=⟨(.slice 9),1,24,(.slice none 0 0)⟩
theorem ty32_ok:TyOk Tryz.prog 32 ty32_:=TyOk.mk' (by kernel_rfl) (by kernel_rfl)
def ty33_:Ty:=⟨(.slice 75),1,24,(.slice none 0 0)⟩
theorem ty33_ok:TyOk Tryz.prog 33 ty33_:=TyOk.mk' (by kernel_rfl) (by kernel_rfl)
def ty34_:Ty:=⟨(.slice 36),1,24,(.slice none 0 0)⟩
theorem ty34_ok:TyOk Tryz.prog 34 ty34_:=TyOk.mk' (by kernel_rfl) (by kernel_rfl)
def ty35_:Ty:=⟨(.struct #[fld 9 0,fld 9 1,fld 32 2,fld 22 3,fld 33 4,fld 34 5]),6,128,(.agg #[(.string ⟨#[]⟩),(.string ⟨#[]⟩),(.slice none 0 0),(.slice none 0 0),(.slice none 0 0),(.slice none 0 0)])⟩
theorem ty35_ok:TyOk Tryz.prog 35 ty35_:=TyOk.mk' (by kernel_rfl) (by kernel_rfl)
def ty36_:Ty:=⟨(.struct #[fld 9 0,fld 9 1,fld 32 2,fld 22 3,fld 33 4,fld 34 5]),6,128,(.agg #[(.string ⟨#[]⟩),(.string ⟨#[]⟩),(.slice none 0 0),(.slice none 0 0),(.slice none 0 0),(.slice none 0 0)])⟩
theorem ty36_ok:TyOk Tryz.prog 36 ty36_:=TyOk.mk' (by kernel_rfl) (by kernel_rfl)
def ty37_:Ty:=⟨(.struct #[fld 9 0,fld 9 1,fld 22 2,fld 30 3,fld 31 4,fld 36 5]),11,232,(.agg #[(.string ⟨#[]⟩),(.string ⟨#[]⟩),(.slice none 0 0),(.slice none 0 0),(.slice none 0 0),(.string ⟨#[]⟩),(.string ⟨#[]⟩),(.slice none 0 0),(.slice none 0 0),(.slice none 0 0),(.slice none 0 0)])⟩
theorem ty37_ok:TyOk Tryz.prog 37 ty37_:=TyOk.mk' (by kernel_rfl) (by kernel_rfl)
def ty38_:Ty:=⟨(.struct #[fld 9 0,fld 9 1,fld 22 2,fld 30 3,fld 31 4,fld 36 5]),11,232,(.agg #[(.string ⟨#[]⟩),(.string ⟨#[]⟩),(.slice none 0 0),(.slice none 0 0),(.slice none 0 0),(.string ⟨#[]⟩),(.string ⟨#[]⟩),(.slice none 0 0),(.slice none 0 0),(.slice none 0 0),(.slice none 0 0)])⟩
theorem ty38_ok:TyOk Tryz.prog 38 ty38_:=TyOk.mk' (by kernel_rfl) (by kernel_rfl)
def ty40_:Ty:=⟨(.interface #[]),1,16,.nilIface⟩
theorem ty40_ok:TyOk Tryz.prog 40 ty40_:=TyOk.mk' (by kernel_rfl) (by kernel_rfl)
def ty41_:Ty:=⟨(.interface #[]),1,16,.nilIface⟩
theorem ty41_ok:TyOk Tryz.prog 41 ty41_:=TyOk.mk' (by kernel_rfl) (by kernel_rfl)
def ty47_:Ty:=⟨(.int .i64),1,8,(.int .i64 0)⟩
theorem ty47_ok:TyOk Tryz.prog 47 ty47_:=TyOk.mk' (by kernel_rfl) (by kernel_rfl)
def ty53_:Ty:=⟨(.slice 77),1,24,(.slice none 0 0)⟩
theorem ty53_ok:TyOk Tryz.prog 53 ty53_:=TyOk.mk' (by kernel_rfl) (by kernel_rfl)
def ty54_:Ty:=⟨(.struct #[fld 9 0,fld 22 1,fld 3 2,fld 36 3,fld 53 9]),10,200,(.agg #[(.string ⟨#[]⟩),(.slice none 0 0),(.int .i64 0),(.string ⟨#[]⟩),(.string ⟨#[]⟩),(.slice none 0 0),(.slice none 0 0),(.slice none 0 0),(.slice none 0 0),(.slice none 0 0)])⟩
theorem ty54_ok:TyOk Tryz.prog 54 ty54_:=TyOk.mk' (by kernel_rfl) (by kernel_rfl)
def ty55_:Ty:=⟨(.struct #[fld 9 0,fld 22 1,fld 3 2,fld 36 3,fld 53 9]),10,200,(.agg #[(.string ⟨#[]⟩),(.slice none 0 0),(.int .i64 0),(.string ⟨#[]⟩),(.string ⟨#[]⟩),(.slice none 0 0),(.slice none 0 0),(.slice none 0 0),(.slice none 0 0),(.slice none 0 0)])⟩
theorem ty55_ok:TyOk Tryz.prog 55 ty55_:=TyOk.mk' (by kernel_rfl) (by kernel_rfl)
def ty57_:Ty:=⟨(.struct #[fld 9 0,fld 22 1,fld 3 2,fld 36 3,fld 36 9,fld 36 15,fld 53 21,fld 53 22]),23,480,(.agg #[(.string ⟨#[]⟩),(.slice none 0 0),(.int .i64 0),(.string ⟨#[]⟩),(.string ⟨#[]⟩),(.slice none 0 0),(.slice none 0 0),(.slice none 0 0),(.slice none 0 0),(.string ⟨#[]⟩),(.string ⟨#[]⟩),(.slice none 0 0),(.slice none 0 0),(.slice none 0 0),(.slice none 0 0),(.string ⟨#[]⟩),(.string ⟨#[]⟩),(.slice none 0 0),(.slice none 0 0),(.slice none 0 0),(.slice none 0 0),(.slice none 0 0),(.slice none 0 0)])⟩
theorem ty57_ok:TyOk Tryz.prog 57 ty57_:=TyOk.mk' (by kernel_rfl) (by kernel_rfl)
def ty58_:Ty:=⟨(.struct #[fld 9 0,fld 22 1,fld 3 2,fld 36 3,fld 36 9,fld 36 15,fld 53 21,fld 53 22]),23,480,(.agg #[(.string ⟨#[]⟩),(.slice none 0 0),(.int .i64 0),(.string ⟨#[]⟩),(.string ⟨#[]⟩),(.slice none 0 0),(.slice none 0 0),(.slice none 0 0),(.slice none 0 0),(.string ⟨#[]⟩),(.string ⟨#[]⟩),(.slice none 0 0),(.slice none 0 0),(.slice none 0 0),(.slice none 0 0),(.string ⟨#[]⟩),(.string ⟨#[]⟩),(.slice none 0 0),(.slice none 0 0),(.slice none 0 0),(.slice none 0 0),(.slice none 0 0),(.slice none 0 0)])⟩
theorem ty58_ok:TyOk Tryz.prog 58 ty58_:=TyOk.mk' (by kernel_rfl) (by kernel_rfl)
def ty62_:Ty:=⟨(.slice 64),1,24,(.slice none 0 0)⟩
theorem ty62_ok:TyOk Tryz.prog 62 ty62_:=TyOk.mk' (by kernel_rfl) (by kernel_rfl)
def ty63_:Ty:=⟨(.struct #[fld 3 0,fld 3 1,fld 3 2,fld 3 3,fld 9 4,fld 62 5]),6,72,(.agg #[(.int .i64 0),(.int .i64 0),(.int .i64 0),(.int .i64 0),(.string ⟨#[]⟩),(.slice none 0 0)])⟩
theorem ty63_ok:TyOk Tryz.prog 63 ty63_:=TyOk.mk' (by kernel_rfl) (by kernel_rfl)
def ty64_:Ty:=⟨(.struct #[fld 3 0,fld 3 1,fld 3 2,fld 3 3,fld 9 4,fld 62 5]),6,72,(.agg #[(.int .i64 0),(.int .i64 0),(.int .i64 0),(.int .i64 0),(.string ⟨#[]⟩),(.slice none 0 0)])⟩
theorem ty64_ok:TyOk Tryz.prog 64 ty64_:=TyOk.mk' (by kernel_rfl) (by kernel_rfl)
def ty74_:Ty:=⟨(.struct #[fld 9 0,fld 9 1,fld 3 2,fld 32 3,fld 33 4]),5,88,(.agg #[(.string ⟨#[]⟩),(.string ⟨#[]⟩),(.int .i64 0),(.slice none 0 0),(.slice none 0 0)])⟩
theorem ty74_ok:TyOk Tryz.prog 74 ty74_:=TyOk.mk' (by kernel_rfl) (by kernel_rfl)
def ty75_:Ty:=⟨(.struct #[fld 9 0,fld 9 1,fld 3 2,fld 32 3,fld 33 4]),5,88,(.agg #[(.string ⟨#[]⟩),(.string ⟨#[]⟩),(.int .i64 0),(.slice none 0 0),(.slice none 0 0)])⟩
theorem ty75_ok:TyOk Tryz.prog 75 ty75_:=TyOk.mk' (by kernel_rfl) (by kernel_rfl)
def ty76_:Ty:=⟨(.struct #[fld 3 0,fld 22 1,fld 36 2,fld 9 8,fld 32 9,fld 75 10]),15,288,(.agg #[(.int .i64 0),(.slice none 0 0),(.string ⟨#[]⟩),(.string ⟨#[]⟩),(.slice none 0 0),(.slice none 0 0),(.slice none 0 0),(.slice none 0 0),(.string ⟨#[]⟩),(.slice none 0 0),(.string ⟨#[]⟩),(.string ⟨#[]⟩),(.int .i64 0),(.slice none 0 0),(.slice none 0 0)])⟩
theorem ty76_ok:TyOk Tryz.prog 76 ty76_:=TyOk.mk' (by kernel_rfl) (by kernel_rfl)
def ty77_:Ty:=⟨(.struct #[fld 3 0,fld 22 1,fld 36 2,fld 9 8,fld 32 9,fld 75 10]),15,288,(.agg #[(.int .i64 0),(.slice none 0 0),(.string ⟨#[]⟩),(.string ⟨#[]⟩),(.slice none 0 0),(.slice none 0 0),(.slice none 0 0),(.slice none 0 0),(.string ⟨#[]⟩),(.slice none 0 0),(.string ⟨#[]⟩),(.string ⟨#[]⟩),(.int .i64 0),(.slice none 0 0),(.slice none 0 0)])⟩
theorem ty77_ok:TyOk Tryz.prog 77 ty77_:=TyOk.mk' (by kernel_rfl) (by kernel_rfl)
def ty87_:Ty:=⟨(.struct #[fld 4 0]),1,1,(.agg #[(.bool false)])⟩
theorem ty87_ok:TyOk Tryz.prog 87 ty87_:=TyOk.mk' (by kernel_rfl) (by kernel_rfl)
def ty88_:Ty:=⟨(.struct #[fld 4 0]),1,1,(.agg #[(.bool false)])⟩
theorem ty88_ok:TyOk Tryz.prog 88 ty88_:=TyOk.mk' (by kernel_rfl) (by kernel_rfl)
def ty94_:Ty:=⟨(.struct #[fld 9 0,fld 22 1]),2,40,(.agg #[(.string ⟨#[]⟩),(.slice none 0 0)])⟩
theorem ty94_ok:TyOk Tryz.prog 94 ty94_:=TyOk.mk' (by kernel_rfl) (by kernel_rfl)
def ty95_:Ty:=⟨(.struct #[fld 9 0,fld 22 1]),2,40,(.agg #[(.string ⟨#[]⟩),(.slice none 0 0)])⟩
theorem ty95_ok:TyOk Tryz.prog 95 ty95_:=TyOk.mk' (by kernel_rfl) (by kernel_rfl)
def ty96_:Ty:=⟨(.struct #[fld 9 0,fld 22 1,fld 3 2,fld 3 3]),4,56,(.agg #[(.string ⟨#[]⟩),(.slice none 0 0),(.int .i64 0),(.int .i64 0)])⟩
theorem ty96_ok:TyOk Tryz.prog 96 ty96_:=TyOk.mk' (by kernel_rfl) (by kernel_rfl)
def ty97_:Ty:=⟨(.struct #[fld 9 0,fld 22 1,fld 3 2,fld 3 3]),4,56,(.agg #[(.string ⟨#[]⟩),(.slice none 0 0),(.int .i64 0),(.int .i64 0)])⟩
theorem ty97_ok:TyOk Tryz.prog 97 ty97_:=TyOk.mk' (by kernel_rfl) (by kernel_rfl)
def ty107_:Ty:=⟨(.struct #[fld 9 0,fld 32 1]),2,40,(.agg #[(.string ⟨#[]⟩),(.slice none 0 0)])⟩
theorem ty107_ok:TyOk Tryz.prog 107 ty107_:=TyOk.mk' (by kernel_rfl) (by kernel_rfl)
def ty108_:Ty:=⟨(.struct #[fld 9 0,fld 32 1]),2,40,(.agg #[(.string ⟨#[]⟩),(.slice none 0 0)])⟩
theorem ty108_ok:TyOk Tryz.prog 108 ty108_:=TyOk.mk' (by kernel_rfl) (by kernel_rfl)
def ty110_:Ty:=⟨(.struct #[fld 108 0,fld 3 2]),3,48,(.agg #[(.string ⟨#[]⟩),(.slice none 0 0),(.int .i64 0)])⟩
theorem ty110_ok:TyOk Tryz.prog 110 ty110_:=TyOk.mk' (by kernel_rfl) (by kernel_rfl)
def ty111_:Ty:=⟨(.struct #[fld 108 0,fld 3 2]),3,48,(.agg #[(.string ⟨#[]⟩),(.slice none 0 0),(.int .i64 0)])⟩
theorem ty111_ok:TyOk Tryz.prog 111 ty111_:=TyOk.mk' (by kernel_rfl) (by kernel_rfl)
def ty121_:Ty:=⟨(.map 9 4),1,8,(.map none)⟩
theorem ty121_ok:TyOk Tryz.prog 121 ty121_:=TyOk.mk' (by kernel_rfl) (by kernel_rfl)
def ty127_:Ty:=⟨(.pointer 235),1,8,(.pointer none)⟩
theorem ty127_ok:TyOk Tryz.prog 127 ty127_:=TyOk.mk' (by kernel_rfl) (by kernel_rfl)
def ty128_:Ty:=⟨(.map 9 22),1,8,(.map none)⟩
theorem ty128_ok:TyOk Tryz.prog 128 ty128_:=TyOk.mk' (by kernel_rfl) (by kernel_rfl)
def ty129_:Ty:=⟨(.map 9 97),1,8,(.map none)⟩
theorem ty129_ok:TyOk Tryz.prog 129 ty129_:=TyOk.mk' (by kernel_rfl) (by kernel_rfl)
def ty130_:Ty:=⟨(.map 9 9),1,8,(.map none)⟩
theorem ty130_ok:TyOk Tryz.prog 130 ty130_:=TyOk.mk' (by kernel_rfl) (by kernel_rfl)
def ty131_:Ty:=⟨(.struct #[fld 28 0,fld 38 7,fld 127 18,fld 128 19,fld 129 20,fld 130 21,fld 22 22]),23,448,(.agg #[(.string ⟨#[]⟩),(.slice none 0 0),(.slice none 0 0),(.slice none 0 0),(.slice none 0 0),(.slice none 0 0),(.slice none 0 0),(.string ⟨#[]⟩),(.string ⟨#[]⟩),(.slice none 0 0),(.slice none 0 0),(.slice none 0 0),(.string ⟨#[]⟩),(.string ⟨#[]⟩),(.slice none 0 0),(.slice none 0 0),(.slice none 0 0),(.slice none 0 0),(.pointer none),(.map none),(.map none),(.map none),(.slice none 0 0)])⟩
theorem ty131_ok:TyOk Tryz.prog 131 ty131_:=TyOk.mk' (by kernel_rfl) (by kernel_rfl)
def ty132_:Ty:=⟨(.struct #[fld 28 0,fld 38 7,fld 127 18,fld 128 19,fld 129 20,fld 130 21,fld 22 22]),23,448,(.agg #[(.string ⟨#[]⟩),(.slice none 0 0),(.slice none 0 0),(.slice none 0 0),(.slice none 0 0),(.slice none 0 0),(.slice none 0 0),(.string ⟨#[]⟩),(.string ⟨#[]⟩),(.slice none 0 0),(.slice none 0 0),(.slice none 0 0),(.string ⟨#[]⟩),(.string ⟨#[]⟩),(.slice none 0 0),(.slice none 0 0),(.slice none 0 0),(.slice none 0 0),(.pointer none),(.map none),(.map none),(.map none),(.slice none 0 0)])⟩
theorem ty132_ok:TyOk Tryz.prog 132 ty132_:=TyOk.mk' (by kernel_rfl) (by kernel_rfl)
def ty135_:Ty:=⟨(.slice 3),1,24,(.slice none 0 0)⟩
theorem ty135_ok:TyOk Tryz.prog 135 ty135_:=TyOk.mk' (by kernel_rfl) (by kernel_rfl)
def ty137_:Ty:=⟨(.struct #[fld 9 0,fld 9 1]),2,32,(.agg #[(.string ⟨#[]⟩),(.string ⟨#[]⟩)])⟩
theorem ty137_ok:TyOk Tryz.prog 137 ty137_:=TyOk.mk' (by kernel_rfl) (by kernel_rfl)
def ty138_:Ty:=⟨(.struct #[fld 9 0,fld 9 1]),2,32,(.agg #[(.string ⟨#[]⟩),(.string ⟨#[]⟩)])⟩
theorem ty138_ok:TyOk Tryz.prog 138 ty138_:=TyOk.mk' (by kernel_rfl) (by kernel_rfl)
def ty156_:Ty:=⟨(.struct #[fld 9 0,fld 3 1,fld 3 2,fld 3 3,fld 3 4,fld 62 5]),6,72,(.agg #[(.string ⟨#[]⟩),(.int .i64 0),(.int .i64 0),(.int .i64 0),(.int .i64 0),(.slice none 0 0)])⟩
theorem ty156_ok:TyOk Tryz.prog 156 ty156_:=TyOk.mk' (by kernel_rfl) (by kernel_rfl)
def ty157_:Ty:=⟨(.struct #[fld 9 0,fld 3 1,fld 3 2,fld 3 3,fld 3 4,fld 62 5]),6,72,(.agg #[(.string ⟨#[]⟩),(.int .i64 0),(.int .i64 0),(.int .i64 0),(.int .i64 0),(.slice none 0 0)])⟩
theorem ty157_ok:TyOk Tryz.prog 157 ty157_:=TyOk.mk' (by kernel_rfl) (by kernel_rfl)
def ty176_:Ty:=⟨(.func #[] #[] false),1,8,.nilFunc⟩
theorem ty176_ok:TyOk Tryz.prog 176 ty176_:=TyOk.mk' (by kernel_rfl) (by kernel_rfl)
def ty191_:Ty:=⟨(.pointer 194),1,8,(.pointer none)⟩
theorem ty191_ok:TyOk Tryz.prog 191 ty191_:=TyOk.mk' (by kernel_rfl) (by kernel_rfl)
def ty192_:Ty:=⟨(.slice 5),1,24,(.slice none 0 0)⟩
theorem ty192_ok:TyOk Tryz.prog 192 ty192_:=TyOk.mk' (by kernel_rfl) (by kernel_rfl)
def ty193_:Ty:=⟨(.struct #[fld 191 0,fld 192 1]),2,32,(.agg #[(.pointer none),(.slice none 0 0)])⟩
theorem ty193_ok:TyOk Tryz.prog 193 ty193_:=TyOk.mk' (by kernel_rfl) (by kernel_rfl)
def ty194_:Ty:=⟨(.struct #[fld 191 0,fld 192 1]),2,32,(.agg #[(.pointer none),(.slice none 0 0)])⟩
theorem ty194_ok:TyOk Tryz.prog 194 ty194_:=TyOk.mk' (by kernel_rfl) (by kernel_rfl)
def ty211_:Ty:=⟨(.struct #[fld 3 0]),1,8,(.agg #[(.int .i64 0)])⟩
theorem ty211_ok:TyOk Tryz.prog 211 ty211_:=TyOk.mk' (by kernel_rfl) (by kernel_rfl)
def ty212_:Ty:=⟨(.struct #[fld 3 0]),1,8,(.agg #[(.int .i64 0)])⟩
theorem ty212_ok:TyOk Tryz.prog 212 ty212_:=TyOk.mk' (by kernel_rfl) (by kernel_rfl)
def ty234_:Ty:=⟨(.struct #[fld 130 0]),1,8,(.agg #[(.map none)])⟩
theorem ty234_ok:TyOk Tryz.prog 234 ty234_:=TyOk.mk' (by kernel_rfl) (by kernel_rfl)
def ty235_:Ty:=⟨(.struct #[fld 130 0]),1,8,(.agg #[(.map none)])⟩
theorem ty235_ok:TyOk Tryz.prog 235 ty235_:=TyOk.mk' (by kernel_rfl) (by kernel_rfl)
def ty236_:Ty:=⟨(.slice 239),1,24,(.slice none 0 0)⟩
theorem ty236_ok:TyOk Tryz.prog 236 ty236_:=TyOk.mk' (by kernel_rfl) (by kernel_rfl)
def ty237_:Ty:=⟨(.array 3 236),3,72,(.agg #[(.slice none 0 0),(.slice none 0 0),(.slice none 0 0)])⟩
theorem ty237_ok:TyOk Tryz.prog 237 ty237_:=TyOk.mk' (by kernel_rfl) (by kernel_rfl)
def ty238_:Ty:=⟨(.struct #[fld 9 0,fld 9 1]),2,32,(.agg #[(.string ⟨#[]⟩),(.string ⟨#[]⟩)])⟩
theorem ty238_ok:TyOk Tryz.prog 238 ty238_:=TyOk.mk' (by kernel_rfl) (by kernel_rfl)
def ty239_:Ty:=⟨(.struct #[fld 9 0,fld 9 1]),2,32,(.agg #[(.string ⟨#[]⟩),(.string ⟨#[]⟩)])⟩
theorem ty239_ok:TyOk Tryz.prog 239 ty239_:=TyOk.mk' (by kernel_rfl) (by kernel_rfl)
def ty243_:Ty:=⟨(.slice 53),1,24,(.slice none 0 0)⟩
theorem ty243_ok:TyOk Tryz.prog 243 ty243_:=TyOk.mk' (by kernel_rfl) (by kernel_rfl)
def ty248_:Ty:=⟨(.int .u64),1,8,(.int .u64 0)⟩
theorem ty248_ok:TyOk Tryz.prog 248 ty248_:=TyOk.mk' (by kernel_rfl) (by kernel_rfl)
def ty254_:Ty:=⟨(.pointer 5),1,8,(.pointer none)⟩
theorem ty254_ok:TyOk Tryz.prog 254 ty254_:=TyOk.mk' (by kernel_rfl) (by kernel_rfl)
def ty268_:Ty:=⟨(.struct #[fld 22 0,fld 34 1]),2,48,(.agg #[(.slice none 0 0),(.slice none 0 0)])⟩
theorem ty268_ok:TyOk Tryz.prog 268 ty268_:=TyOk.mk' (by kernel_rfl) (by kernel_rfl)
def ty269_:Ty:=⟨(.struct #[fld 22 0,fld 34 1]),2,48,(.agg #[(.slice none 0 0),(.slice none 0 0)])⟩
theorem ty269_ok:TyOk Tryz.prog 269 ty269_:=TyOk.mk' (by kernel_rfl) (by kernel_rfl)
def tabL:List (Nat × Ty):=[(2,ty2_),(3,ty3_),(4,ty4_),(5,ty5_),(6,ty6_),(7,ty7_),(8,ty8_),(9,ty9_),(22,ty22_),(23,ty23_),(24,ty24_),(25,ty25_),(26,ty26_),(27,ty27_),(28,ty28_),(30,ty30_),(31,ty31_),(32,ty32_),(33,ty33_),(34,ty34_),(35,ty35_),(36,ty36_),(37,ty37_),(38,ty38_),(40,ty40_),(41,ty41_),(47,ty47_),(53,ty53_),(54,ty54_),(55,ty55_),(57,ty57_),(58,ty58_),(62,ty62_),(63,ty63_),(64,ty64_),(74,ty74_),(75,ty75_),(76,ty76_),(77,ty77_),(87,ty87_),(88,ty88_),(94,ty94_),(95,ty95_),(96,ty96_),(97,ty97_),(107,ty107_),(108,ty108_),(110,ty110_),(111,ty111_),(121,ty121_),(127,ty127_),(128,ty128_),(129,ty129_),(130,ty130_),(131,ty131_),(132,ty132_),(135,ty135_),(137,ty137_),(138,ty138_),(156,ty156_),(157,ty157_),(176,ty176_),(191,ty191_),(192,ty192_),(193,ty193_),(194,ty194_),(211,ty211_),(212,ty212_),(234,ty234_),(235,ty235_),(236,ty236_),(237,ty237_),(238,ty238_),(239,ty239_),(243,ty243_),(248,ty248_),(254,ty254_),(268,ty268_),(269,ty269_)]
theorem tabL_ok:AllTy Tryz.prog tabL:=⟨ty2_ok,ty3_ok,ty4_ok,ty5_ok,ty6_ok,ty7_ok,ty8_ok,ty9_ok,ty22_ok,ty23_ok,ty24_ok,ty25_ok,ty26_ok,ty27_ok,ty28_ok,ty30_ok,ty31_ok,ty32_ok,ty33_ok,ty34_ok,ty35_ok,ty36_ok,ty37_ok,ty38_ok,ty40_ok,ty41_ok,ty47_ok,ty53_ok,ty54_ok,ty55_ok,ty57_ok,ty58_ok,ty62_ok,ty63_ok,ty64_ok,ty74_ok,ty75_ok,ty76_ok,ty77_ok,ty87_ok,ty88_ok,ty94_ok,ty95_ok,ty96_ok,ty97_ok,ty107_ok,ty108_ok,ty110_ok,ty111_ok,ty121_ok,ty127_ok,ty128_ok,ty129_ok,ty130_ok,ty131_ok,ty132_ok,ty135_ok,ty137_ok,ty138_ok,ty156_ok,ty157_ok,ty176_ok,ty191_ok,ty192_ok,ty193_ok,ty194_ok,ty211_ok,ty212_ok,ty234_ok,ty235_ok,ty236_ok,ty237_ok,ty238_ok,ty239_ok,ty243_ok,ty248_ok,ty254_ok,ty268_ok,ty269_ok,trivial⟩
def T:Tab Tryz.prog:=⟨tabL,tabL_ok,by kernel_rfl⟩
end Go.Proofs.YtbhlgkibgajajaaGreatDoor
set_option maxRecDepth 20000
namespace Go.Proofs.YtbhlgkibgajajaaGreatDoor
open Go.Lx Go.RowKit
def WP (s:ByteArray) (i:Nat):Nat:=((s[i]?).map UInt8.toNat).getD 0
theorem Wf {s:ByteArray} {k:Nat} (h:k<s.size):∃ b:UInt8,s[k]?=some b∧WP s k=b.toNat:=by
 refine ⟨s[k],getElem?_pos s k h,?_⟩
 simp [WP,getElem?_pos s k h]
def DigP (n:Int):Prop:=48≤n∧n≤57
instance {n:Int}:Decidable (DigP n):=inferInstanceAs (Decidable (_∧_))
theorem Yfu {fz:FZ} {n:Int}:QFn Tryz.prog 206 [.int .u8 n] fz (.bool (decide (DigP n))):=by
 refine GFn.quiet ?_
 (refine GFn.of_wp Tryz.func206 rfl Tryz.ntmps206 rfl rfl (fun w0=>?_))
 ((repeat (first | refine zS ?_ | refine zA fun _=>?_)))
 ((refine zG ?_;refine zC (fun c1=>?_) (fun c1=>?_)))
 ·((repeat (first | refine zS ?_ | refine zA fun _=>?_)))
  ((refine zG ?_;refine zC (fun c2=>?_) (fun c2=>?_)))
  ·((repeat (first | refine zS ?_ | refine zA fun _=>?_)))
   (exact ret1 rfl rfl (Zb) (Yw ⟨c1,c2⟩))
  ·((repeat (first | refine zS ?_ | refine zA fun _=>?_)))
   (exact ret1 rfl rfl (Zb) (Ya (fun h=>c2 h.2)))
 ·((repeat (first | refine zS ?_ | refine zA fun _=>?_)))
  (exact ret1 rfl rfl (Zb) (Ya (fun h=>c1 h.1)))
def PreP (s p:ByteArray):Prop:=p.size≤s.size∧s.extract 0 p.size=p
instance {s p:ByteArray}:Decidable (PreP s p):=inferInstanceAs (Decidable (_∧_))
def W0 (s p:ByteArray):ByteArray:=if PreP s p then s.extract p.size s.size else s
theorem WM {s:ByteArray} {i j:Nat} (h:j≤s.size):(s.extract i j).size=j - i:=by
 simp [ByteArray.size_extract,Nat.min_eq_left h]
theorem Yif {s p:ByteArray} (h:Short s):Short (W0 s p):=by
 unfold W0 Short at*
 split
 ·rw [WM (Nat.le_refl _)];omega
 ·exact h
theorem Yg5 {fz:FZ} {s p:ByteArray} (_hs:Short s) (hp:Short p):QFn Tryz.prog 240 [.string s,.string p] fz (.bool (decide (PreP s p))):=by
 unfold Short at hp
 refine GFn.quiet ?_
 (refine GFn.of_wp Tryz.func240 rfl Tryz.ntmps240 rfl rfl (fun w0=>?_))
 ((repeat (first | refine zS ?_ | refine zA fun _=>?_)))
 ((refine zG ?_;refine zC (fun c1=>?_) (fun c1=>?_)))
 ·((repeat (first | refine zS ?_ | refine zA fun _=>?_)))
  (((refine zG ?_));refine q_str_to T Zz Zz Zz Zz Zi Zi ?_)
  ((repeat (first | refine zS ?_ | refine zA fun _=>?_)))
  ((refine zG ?_;refine zC (fun c2=>?_) (fun c2=>?_)))
  ·((repeat (first | refine zS ?_ | refine zA fun _=>?_)))
   (exact ret1 rfl rfl (Zb) (Yw ⟨by omega,by simpa using c2⟩))
  ·((repeat (first | refine zS ?_ | refine zA fun _=>?_)))
   (exact ret1 rfl rfl (Zb) (Ya (fun h=>c2 (by simpa using h.2))))
 ·((repeat (first | refine zS ?_ | refine zA fun _=>?_)))
  (exact ret1 rfl rfl (Zb) (Ya (fun h=>by have:=h.1;omega)))
theorem YeZ {fz:FZ} {s p:ByteArray} (hs:Short s) (hp:Short p):QFn Tryz.prog 245 [.string s,.string p] fz (.string (W0 s p)):=by
 refine GFn.quiet ?_
 (refine GFn.of_wp Tryz.func245 rfl Tryz.ntmps245 rfl rfl (fun w0=>?_))
 ((repeat (first | refine zS ?_ | refine zA fun _=>?_)))
 (((refine zG ?_));refine Yz Zz Zz (Yg5 hs hp) (fun f1=>?_) (fun f1=>?_))
 ·have hc:=of_decide_eq_true f1
  have:=hc.1
  ((repeat (first | refine zS ?_ | refine zA fun _=>?_)))
  (((refine zG ?_));refine YbN T Zz Zz Zz Zz Zi Zi ?_)
  ((repeat (first | refine zS ?_ | refine zA fun _=>?_)))
  (exact ret1 rfl rfl (Zb) (by rw [W0,if_pos hc];rfl))
 ·have hc:=of_decide_eq_false f1
  ((repeat (first | refine zS ?_ | refine zA fun _=>?_)))
  (exact ret1 rfl rfl (Zb) (by rw [W0,if_neg hc]))
theorem YfK {fz:FZ} {s p:ByteArray} (hs:Short s) (hp:Short p):QFn Tryz.prog 208 [.string s,.string p] fz (.string (W0 s p)):=by
 refine GFn.quiet ?_
 (refine GFn.of_wp Tryz.func208 rfl Tryz.ntmps208 rfl rfl (fun w0=>?_))
 ((repeat (first | refine zS ?_ | refine zA fun _=>?_)))
 (((refine zG ?_));refine Yj Zz Zz (YeZ hs hp) ?_)
 ((repeat (first | refine zS ?_ | refine zA fun _=>?_)))
 (exact ret1 rfl rfl (Zb) rfl)
def X7:ByteArray:=⟨#[45]⟩
def Xx:ByteArray:=⟨#[]⟩
def NumP (s:ByteArray):Prop:=(∀ i,i<(W0 s X7).size→DigP (WP (W0 s X7) i))∧W0 s X7≠Xx
open Classical in
theorem Yje {fz:FZ} {s:ByteArray} (hs:Short s):QFn Tryz.prog 150 [.string s] fz (.bool (decide (NumP s))):=by
 refine GFn.quiet ?_
 (refine GFn.of_wp Tryz.func150 rfl Tryz.ntmps150 rfl rfl (fun w0=>?_))
 ((repeat (first | refine zS ?_ | refine zA fun _=>?_)))
 (((refine zG ?_));refine Yj Zz Zz (YfK (p:=X7) hs (by unfold Short X7;decide)) ?_)
 have hz:(W0 s X7).size≤9223372036854775807:=Yif hs
 ((repeat (first | refine zS ?_ | refine zA fun _=>?_)))
 (refine YD (fun q σ fz' H'=>∃ k:Nat,k≤(W0 s X7).size∧q=(W0 s X7).size - k∧σ=[(8,.int .i64 k),(7,.int .i64 (W0 s X7).size),(0,.string (W0 s X7))]∧fz=fz'∧H'=[]∧(∀ i,i<k→DigP (WP (W0 s X7) i))) ⟨0,Nat.zero_le _,rfl,rfl,rfl,rfl,(fun i hi=>absurd hi Zi)⟩ (Zw) (Zb) ?_;rintro q σ fz' H' ⟨k,hk,rfl,rfl,rfl,rfl,hh⟩)
 ((repeat (first | refine zS ?_ | refine zA fun _=>?_)))
 ((refine zG ?_;refine zC (fun hlt=>?_) (fun hge=>?_)))
 ·((repeat (first | refine zS ?_ | refine zA fun _=>?_)))
  obtain ⟨b,hb,hb2⟩:=Wf (s:=W0 s X7) (k:=k) Zi
  (((refine zG ?_));refine Y7 T Zz Zz Zz Zz Zi (by rw [Int.toNat_natCast];exact hb) ?_)
  ((repeat (first | refine zS ?_ | refine zA fun _=>?_)))
  (((refine zG ?_));refine Yz Zz Zz (Yfu (n:=b.toNat)) (fun f1=>?_) (fun f1=>?_))
  ·((repeat (first | refine zS ?_ | refine zA fun _=>?_)))
   (exact YP ⟨k+1,by omega,rfl,rfl,rfl,rfl,(YM hh (by rw [hb2];exact of_decide_eq_true f1))⟩ Zi (Zw) (Zb))
  ·((repeat (first | refine zS ?_ | refine zA fun _=>?_)))
   (exact ret1 rfl rfl (Zb) (Ya (fun h=>of_decide_eq_false f1 (by rw [← hb2];exact h.1 k Zi))))
 ·((repeat (first | refine zS ?_ | refine zA fun _=>?_)))
  ((refine zG ?_;refine zC (fun c1=>?_) (fun c1=>?_)))
  ·((repeat (first | refine zS ?_ | refine zA fun _=>?_)))
   (exact ret1 rfl rfl (Zb) (Yw ⟨fun i hi=>hh i Zi,c1⟩))
  ·((repeat (first | refine zS ?_ | refine zA fun _=>?_)))
   (exact ret1 rfl rfl (Zb) (Ya (fun h=>h.2 c1)))
open Classical in
theorem indexS_q {fz:FZ} {A:Option Addr} {n c:Nat} {l:List ByteArray} {x:ByteArray} (h1:Sl strL fz A n c l):
 QFn Tryz.prog 105 [.slice A n c,.string x] fz (.int .i64 (Ybk (fun y=>x=y) l 0)):=by
 refine GFn.quiet ?_
 (refine GFn.of_wp Tryz.func105 rfl Tryz.ntmps105 rfl rfl (fun w0=>?_))
 have l1:=h1.len
 have hm:=h1.short
 ((repeat (first | refine zS ?_ | refine zA fun _=>?_)))
 (refine YD (fun q σ fz' H'=>∃ k:Nat,k≤n∧q=n - k∧σ=[(8,.int .i64 k),(7,.int .i64 n),(0,.slice A n c),(1,.string x)]∧fz=fz'∧H'=[]∧(∀ i,i<k→∀ y,l[i]?=some y→¬x=y)) ⟨0,Nat.zero_le _,rfl,rfl,rfl,rfl,(fun i hi=>absurd hi Zi)⟩ (Zw) (Zb) ?_;rintro q σ fz' H' ⟨k,hk,rfl,rfl,rfl,rfl,hh⟩)
 ((repeat (first | refine zS ?_ | refine zA fun _=>?_)))
 ((refine zG ?_;refine zC (fun hlt=>?_) (fun hge=>?_)))
 ·((repeat (first | refine zS ?_ | refine zA fun _=>?_)))
  obtain ⟨y,hy⟩:=YG (l:=l) (k:=k) Zi
  (((refine zG ?_));refine YA T k Zz Zz Zz Zz Zz Zz h1 (by first | rfl | omega) hy (fun a ha=>?_))
  (((refine zG ?_));refine Y9 T Zz Zz Zz ha (fun iy=>?_))
  ((repeat (first | refine zS ?_ | refine zA fun _=>?_)))
  ((refine zG ?_;refine zC (fun c1=>?_) (fun c1=>?_)))
  ·((repeat (first | refine zS ?_ | refine zA fun _=>?_)))
   (exact ret1 rfl rfl (Zb) (by rw [Ycq hh hy c1,Int.zero_add]))
  ·((repeat (first | refine zS ?_ | refine zA fun _=>?_)))
   (exact YP ⟨k+1,by omega,rfl,rfl,rfl,rfl,(YZ hh hy c1)⟩ Zi (Zw) (Zb))
 ·((repeat (first | refine zS ?_ | refine zA fun _=>?_)))
  (exact ret1 rfl rfl (Zb) (by rw [Ybf (XW hh Zi)]))
open Classical in
theorem Yhf {fz:FZ} {A:Option Addr} {n c:Nat} {l:List ByteArray} {x:ByteArray} (h1:Sl strL fz A n c l):
 QFn Tryz.prog 57 [.slice A n c,.string x] fz (.bool (decide (x∈l))):=by
 refine GFn.quiet ?_
 (refine GFn.of_wp Tryz.func57 rfl Tryz.ntmps57 rfl rfl (fun w0=>?_))
 ((repeat (first | refine zS ?_ | refine zA fun _=>?_)))
 (((refine zG ?_));refine Yj Zz Zz (indexS_q h1) ?_)
 ((refine zG ?_;refine zC (fun c1=>?_) (fun c1=>?_)))
 ·((repeat (first | refine zS ?_ | refine zA fun _=>?_)))
  (exact ret1 rfl rfl (Zb) (Yw (by obtain ⟨y,h,e⟩:=(WV (Int.le_refl 0)).1 c1;rw [e];exact h)))
 ·((repeat (first | refine zS ?_ | refine zA fun _=>?_)))
  (exact ret1 rfl rfl (Zb) (Ya (fun h=>c1 ((WV (Int.le_refl 0)).2 ⟨x,h,rfl⟩))))
theorem YiP {fz:FZ} {g:Nat} {t:TypeId} {f:Nat × Nat} {l:List ByteArray} (h:fz g=some (.cells (l.map Value.string).toArray t f)) (hs:∀ s∈l,Short s) (hn:l.length≤140737488355328):Sl strL fz (some ⟨g,0,none⟩) l.length l.length l:=
 ⟨rfl,Nat.le_refl _,by omega,hn,.inr ⟨_,rfl,fun i d hd=>⟨[.string d],⟨rfl,hs d (List.mem_of_getElem? hd)⟩,fun j v hv=>by
  have hadd:((⟨g,0,none⟩:Addr).add (i*strL.size)).add j=⟨g,i+j,none⟩:=by
   show ((⟨g,0,none⟩:Addr).add (i*1)).add j=_
   unfold Addr.add;split<;>split<;>simp_all
  rw [hadd]
  cases j with
  | zero=>simp at hv;subst hv;simp [Ycw,h,hd]
  | succ j=>simp at hv⟩⟩⟩
def XU:List ByteArray:=[⟨#[97,110,100]⟩,⟨#[111,114]⟩,⟨#[110,111,116]⟩,⟨#[105,109,112,108,121]⟩,⟨#[102,111,114,97,108,108]⟩,⟨#[101,120,105,115,116,115]⟩,⟨#[119,104,101,110]⟩,⟨#[97,115,115,105,103,110]⟩,⟨#[105,110,99,114,101,97,115,101]⟩,⟨#[100,101,99,114,101,97,115,101]⟩,⟨#[111,98,106,101,99,116]⟩]
theorem Yil {fz:FZ}:GFn Tryz.prog 142 [] fz [] (fun v fz' H'=>H'=[]∧∃ A,v=.slice A 11 11∧Sl strL fz' A 11 11 XU):=by
 (refine GFn.of_wp Tryz.func142 rfl Tryz.ntmps142 rfl rfl (fun w0=>?_))
 ((repeat (first | refine zS ?_ | refine zA fun _=>?_)))
 refine Yb Zz (Yc T (cs:=XU.map Value.string) Zz Zz Zz Zz Zz Zz Zz Zz (fun g=>?_))
 ((repeat (first | refine zS ?_ | refine zA fun _=>?_)))
 exact ret1F rfl rfl (fun fz' hle hf=>⟨rfl,_,rfl,YiP (l:=XU) (hf _ (.head _)) (by intro s hs;simp only [XU,List.mem_cons,List.not_mem_nil,or_false] at hs;rcases hs with rfl | rfl | rfl | rfl | rfl | rfl | rfl | rfl | rfl | rfl | rfl<;>(unfold Short;decide)) Zh⟩)
def LetP (n:Int):Prop:=97≤n∧n≤122
def Yag (s:ByteArray) (i:Nat):Prop:=LetP (WP s i)∨(i≠0∧(DigP (WP s i)∨(WP s i:Int)=45∨(WP s i:Int)=95))
def Xn (s:ByteArray):Prop:=(∀ i,i<s.size→Yag s i)∧s≠Xx∧s.size≤32∧s ∉ XU
open Classical in
theorem W6 {fz:FZ} {s:ByteArray} (hs:Short s):QFn Tryz.prog 65 [.string s] fz (.bool (decide (Xn s))):=by
 have hz:s.size≤9223372036854775807:=hs
 refine GFn.quiet ?_
 (refine GFn.of_wp Tryz.func65 rfl Tryz.ntmps65 rfl rfl (fun w0=>?_))
 ((repeat (first | refine zS ?_ | refine zA fun _=>?_)))
 (refine YD (fun q σ fz' H'=>∃ k:Nat,k≤s.size∧q=s.size - k∧σ=[(8,.int .i64 k),(7,.int .i64 s.size),(0,.string s)]∧fz=fz'∧H'=[]∧(∀ i,i<k→Yag s i)) ⟨0,Nat.zero_le _,rfl,rfl,rfl,rfl,(fun i hi=>absurd hi Zi)⟩ (Zw) (Zb) ?_;rintro q σ fz' H' ⟨k,hk,rfl,rfl,rfl,rfl,hh⟩)
 ((repeat (first | refine zS ?_ | refine zA fun _=>?_)))
 ((refine zG ?_;refine zC (fun hlt=>?_) (fun hge=>?_)))
 ·((repeat (first | refine zS ?_ | refine zA fun _=>?_)))
  obtain ⟨b,hb,hb2⟩:=Wf (s:=s) (k:=k) Zi
  have bad:¬Yag s k→¬Xn s:=fun h hc=>h (hc.1 k Zi)
  (((refine zG ?_));refine Y7 T Zz Zz Zz Zz Zi (by rw [Int.toNat_natCast];exact hb) ?_)
  ((repeat (first | refine zS ?_ | refine zA fun _=>?_)))
  ((refine zG ?_;refine zC (fun c1=>?_) (fun c1=>?_)))
  ·((repeat (first | refine zS ?_ | refine zA fun _=>?_)))
   ((refine zG ?_;refine zC (fun c2=>?_) (fun c2=>?_)))
   ·((repeat (first | refine zS ?_ | refine zA fun _=>?_)))
    (exact YP ⟨k+1,by omega,rfl,rfl,rfl,rfl,(YM hh (by rw [Yag,hb2];exact .inl ⟨c1,c2⟩))⟩ Zi (Zw) (Zb))
   ·have nl:¬LetP b.toNat:=fun h=>c2 h.2
    ((repeat (first | refine zS ?_ | refine zA fun _=>?_)))
    ((refine zG ?_;refine zC (fun c3=>?_) (fun c3=>?_)))
    ·((repeat (first | refine zS ?_ | refine zA fun _=>?_)))
     (exact ret1 rfl rfl (Zb) (Ya (bad (by rw [Yag,hb2];intro h;rcases h with h | h;exact nl h;omega))))
    ·((repeat (first | refine zS ?_ | refine zA fun _=>?_)))
     ((refine zG ?_;refine zC (fun c4=>?_) (fun c4=>?_)))
     ·((repeat (first | refine zS ?_ | refine zA fun _=>?_)))
      ((refine zG ?_;refine zC (fun c5=>?_) (fun c5=>?_)))
      ·((repeat (first | refine zS ?_ | refine zA fun _=>?_)))
       ((refine zG ?_;refine zC (fun c6=>?_) (fun c6=>?_)))
       ·((repeat (first | refine zS ?_ | refine zA fun _=>?_)))
        (exact ret1 rfl rfl (Zb) (Ya (bad (by rw [Yag,hb2];unfold DigP;intro h;rcases h with h | ⟨_,h | h | h⟩;exact nl h;omega;omega;omega))))
       ·((repeat (first | refine zS ?_ | refine zA fun _=>?_)))
        (exact YP ⟨k+1,by omega,rfl,rfl,rfl,rfl,(YM hh (by rw [Yag,hb2];right;refine ⟨by omega,?_⟩;omega))⟩ Zi (Zw) (Zb))
      ·((repeat (first | refine zS ?_ | refine zA fun _=>?_)))
       (exact YP ⟨k+1,by omega,rfl,rfl,rfl,rfl,(YM hh (by rw [Yag,hb2];right;refine ⟨by omega,?_⟩;omega))⟩ Zi (Zw) (Zb))
     ·((repeat (first | refine zS ?_ | refine zA fun _=>?_)))
      ((refine zG ?_;refine zC (fun c7=>?_) (fun c7=>?_)))
      ·((repeat (first | refine zS ?_ | refine zA fun _=>?_)))
       ((refine zG ?_;refine zC (fun c5=>?_) (fun c5=>?_)))
       ·((repeat (first | refine zS ?_ | refine zA fun _=>?_)))
        ((refine zG ?_;refine zC (fun c6=>?_) (fun c6=>?_)))
        ·((repeat (first | refine zS ?_ | refine zA fun _=>?_)))
         (exact ret1 rfl rfl (Zb) (Ya (bad (by rw [Yag,hb2];unfold DigP;intro h;rcases h with h | ⟨_,h | h | h⟩;exact nl h;omega;omega;omega))))
        ·((repeat (first | refine zS ?_ | refine zA fun _=>?_)))
         (exact YP ⟨k+1,by omega,rfl,rfl,rfl,rfl,(YM hh (by rw [Yag,hb2];right;refine ⟨by omega,?_⟩;omega))⟩ Zi (Zw) (Zb))
       ·((repeat (first | refine zS ?_ | refine zA fun _=>?_)))
        (exact YP ⟨k+1,by omega,rfl,rfl,rfl,rfl,(YM hh (by rw [Yag,hb2];right;refine ⟨by omega,?_⟩;omega))⟩ Zi (Zw) (Zb))
      ·((repeat (first | refine zS ?_ | refine zA fun _=>?_)))
       (exact YP ⟨k+1,by omega,rfl,rfl,rfl,rfl,(YM hh (by rw [Yag,hb2];right;refine ⟨by omega,?_⟩;unfold DigP;omega))⟩ Zi (Zw) (Zb))
  ·have nl:¬LetP b.toNat:=fun h=>c1 h.1
   ((repeat (first | refine zS ?_ | refine zA fun _=>?_)))
   ((refine zG ?_;refine zC (fun c3=>?_) (fun c3=>?_)))
   ·((repeat (first | refine zS ?_ | refine zA fun _=>?_)))
    (exact ret1 rfl rfl (Zb) (Ya (bad (by rw [Yag,hb2];intro h;rcases h with h | h;exact nl h;omega))))
   ·((repeat (first | refine zS ?_ | refine zA fun _=>?_)))
    ((refine zG ?_;refine zC (fun c4=>?_) (fun c4=>?_)))
    ·((repeat (first | refine zS ?_ | refine zA fun _=>?_)))
     ((refine zG ?_;refine zC (fun c5=>?_) (fun c5=>?_)))
     ·((repeat (first | refine zS ?_ | refine zA fun _=>?_)))
      ((refine zG ?_;refine zC (fun c6=>?_) (fun c6=>?_)))
      ·((repeat (first | refine zS ?_ | refine zA fun _=>?_)))
       (exact ret1 rfl rfl (Zb) (Ya (bad (by rw [Yag,hb2];unfold DigP;intro h;rcases h with h | ⟨_,h | h | h⟩;exact nl h;omega;omega;omega))))
      ·((repeat (first | refine zS ?_ | refine zA fun _=>?_)))
       (exact YP ⟨k+1,by omega,rfl,rfl,rfl,rfl,(YM hh (by rw [Yag,hb2];right;refine ⟨by omega,?_⟩;omega))⟩ Zi (Zw) (Zb))
     ·((repeat (first | refine zS ?_ | refine zA fun _=>?_)))
      (exact YP ⟨k+1,by omega,rfl,rfl,rfl,rfl,(YM hh (by rw [Yag,hb2];right;refine ⟨by omega,?_⟩;omega))⟩ Zi (Zw) (Zb))
    ·((repeat (first | refine zS ?_ | refine zA fun _=>?_)))
     ((refine zG ?_;refine zC (fun c7=>?_) (fun c7=>?_)))
     ·((repeat (first | refine zS ?_ | refine zA fun _=>?_)))
      ((refine zG ?_;refine zC (fun c5=>?_) (fun c5=>?_)))
      ·((repeat (first | refine zS ?_ | refine zA fun _=>?_)))
       ((refine zG ?_;refine zC (fun c6=>?_) (fun c6=>?_)))
       ·((repeat (first | refine zS ?_ | refine zA fun _=>?_)))
        (exact ret1 rfl rfl (Zb) (Ya (bad (by rw [Yag,hb2];unfold DigP;intro h;rcases h with h | ⟨_,h | h | h⟩;exact nl h;omega;omega;omega))))
       ·((repeat (first | refine zS ?_ | refine zA fun _=>?_)))
        (exact YP ⟨k+1,by omega,rfl,rfl,rfl,rfl,(YM hh (by rw [Yag,hb2];right;refine ⟨by omega,?_⟩;omega))⟩ Zi (Zw) (Zb))
      ·((repeat (first | refine zS ?_ | refine zA fun _=>?_)))
       (exact YP ⟨k+1,by omega,rfl,rfl,rfl,rfl,(YM hh (by rw [Yag,hb2];right;refine ⟨by omega,?_⟩;omega))⟩ Zi (Zw) (Zb))
     ·((repeat (first | refine zS ?_ | refine zA fun _=>?_)))
      (exact YP ⟨k+1,by omega,rfl,rfl,rfl,rfl,(YM hh (by rw [Yag,hb2];right;refine ⟨by omega,?_⟩;unfold DigP;omega))⟩ Zi (Zw) (Zb))
 ·((repeat (first | refine zS ?_ | refine zA fun _=>?_)))
  ((refine zG ?_;refine zC (fun c1=>?_) (fun c1=>?_)))
  ·((repeat (first | refine zS ?_ | refine zA fun _=>?_)))
   ((refine zG ?_;refine zC (fun c2=>?_) (fun c2=>?_)))
   ·((repeat (first | refine zS ?_ | refine zA fun _=>?_)))
    refine Seq.guard_yesK Zz Zz Zz (YB [] [] Zz Zz Zz Yil (fun v fz2 H2 hle2 hR=>?_))
    obtain ⟨rfl,A,rfl,hsl⟩:=hR
    ((repeat (first | refine zS ?_ | refine zA fun _=>?_)))
    (((refine zG ?_));refine Yz Zz Zz (Yhf (x:=s) hsl) (fun f1=>?_) (fun f1=>?_))
    ·((repeat (first | refine zS ?_ | refine zA fun _=>?_)))
     (exact ret1 rfl rfl (Zb) (Ya (fun h=>h.2.2.2 (of_decide_eq_true f1))))
    ·((repeat (first | refine zS ?_ | refine zA fun _=>?_)))
     (exact ret1 rfl rfl (Zb) (Yw ⟨fun i hi=>hh i Zi,c1,by omega,of_decide_eq_false f1⟩))
   ·((repeat (first | refine zS ?_ | refine zA fun _=>?_)))
    (exact ret1 rfl rfl (Zb) (Ya (fun h=>by have:=h.2.2.1;omega)))
  ·((repeat (first | refine zS ?_ | refine zA fun _=>?_)))
   (exact ret1 rfl rfl (Zb) (Ya (fun h=>h.2.1 c1)))
def VarP (s:ByteArray):Prop:=1<s.size∧s.size≤32∧(WP s 0:Int)=63∧Xn (s.extract 1 s.size)
def YbE (s:ByteArray):Prop:=Xn s∨VarP s
def kObject:ByteArray:=⟨#[111,98,106,101,99,116]⟩
def Ygz (s:ByteArray):Prop:=Xn s∨s=kObject
open Classical in
theorem YbH {fz:FZ} {s:ByteArray} (hs:Short s):QFn Tryz.prog 66 [.string s] fz (.bool (decide (VarP s))):=by
 have hz:s.size≤9223372036854775807:=hs
 refine GFn.quiet ?_
 (refine GFn.of_wp Tryz.func66 rfl Tryz.ntmps66 rfl rfl (fun w0=>?_))
 ((repeat (first | refine zS ?_ | refine zA fun _=>?_)))
 ((refine zG ?_;refine zC (fun c1=>?_) (fun c1=>?_)))
 ·((repeat (first | refine zS ?_ | refine zA fun _=>?_)))
  ((refine zG ?_;refine zC (fun c2=>?_) (fun c2=>?_)))
  ·((repeat (first | refine zS ?_ | refine zA fun _=>?_)))
   obtain ⟨b,hb,hb2⟩:=Wf (s:=s) (k:=0) Zi
   ((refine zG ?_));refine Y7 T Zz Zz Zz Zz Zi hb ?_
   ((repeat (first | refine zS ?_ | refine zA fun _=>?_)))
   ((refine zG ?_;refine zC (fun c3=>?_) (fun c3=>?_)))
   ·((repeat (first | refine zS ?_ | refine zA fun _=>?_)))
    (((refine zG ?_));refine YbN T Zz Zz Zz Zz Zi Zi ?_)
    ((repeat (first | refine zS ?_ | refine zA fun _=>?_)))
    (((refine zG ?_));refine Yz Zz Zz (W6 (s:=s.extract 1 s.size) (by unfold Short;rw [WM (Nat.le_refl _)];omega)) (fun f1=>?_) (fun f1=>?_))
    ·((repeat (first | refine zS ?_ | refine zA fun _=>?_)))
     (exact ret1 rfl rfl (Zb) (Yw ⟨by omega,by omega,by rw [hb2];exact c3,of_decide_eq_true f1⟩))
    ·((repeat (first | refine zS ?_ | refine zA fun _=>?_)))
     (exact ret1 rfl rfl (Zb) (Ya (fun h=>of_decide_eq_false f1 h.2.2.2)))
   ·((repeat (first | refine zS ?_ | refine zA fun _=>?_)))
    (exact ret1 rfl rfl (Zb) (Ya (fun h=>c3 (by rw [← hb2];exact h.2.2.1))))
  ·((repeat (first | refine zS ?_ | refine zA fun _=>?_)))
   (exact ret1 rfl rfl (Zb) (Ya (fun h=>by have:=h.2.1;omega)))
 ·((repeat (first | refine zS ?_ | refine zA fun _=>?_)))
  (exact ret1 rfl rfl (Zb) (Ya (fun h=>by have:=h.1;omega)))
open Classical in
theorem term_q {fz:FZ} {s:ByteArray} (hs:Short s):QFn Tryz.prog 214 [.string s] fz (.bool (decide (YbE s))):=by
 refine GFn.quiet ?_
 (refine GFn.of_wp Tryz.func214 rfl Tryz.ntmps214 rfl rfl (fun w0=>?_))
 ((repeat (first | refine zS ?_ | refine zA fun _=>?_)))
 (((refine zG ?_));refine Yz Zz Zz (W6 hs) (fun f1=>?_) (fun f1=>?_))
 ·((repeat (first | refine zS ?_ | refine zA fun _=>?_)))
  (exact ret1 rfl rfl (Zb) (Yw (.inl (of_decide_eq_true f1))))
 ·((repeat (first | refine zS ?_ | refine zA fun _=>?_)))
  (((refine zG ?_));refine Yz Zz Zz (YbH hs) (fun f2=>?_) (fun f2=>?_))
  ·((repeat (first | refine zS ?_ | refine zA fun _=>?_)))
   (exact ret1 rfl rfl (Zb) (Yw (.inr (of_decide_eq_true f2))))
  ·((repeat (first | refine zS ?_ | refine zA fun _=>?_)))
   (exact ret1 rfl rfl (Zb) (Ya (fun h=>h.elim (of_decide_eq_false f1) (of_decide_eq_false f2))))
open Classical in
theorem dterm_q {fz:FZ} {s:ByteArray} (hs:Short s):QFn Tryz.prog 242 [.string s] fz (.bool (decide (YbE s))):=by
 refine GFn.quiet ?_
 (refine GFn.of_wp Tryz.func242 rfl Tryz.ntmps242 rfl rfl (fun w0=>?_))
 ((repeat (first | refine zS ?_ | refine zA fun _=>?_)))
 (((refine zG ?_));refine Yz Zz Zz (W6 hs) (fun f1=>?_) (fun f1=>?_))
 ·((repeat (first | refine zS ?_ | refine zA fun _=>?_)))
  (exact ret1 rfl rfl (Zb) (Yw (.inl (of_decide_eq_true f1))))
 ·((repeat (first | refine zS ?_ | refine zA fun _=>?_)))
  (((refine zG ?_));refine Yz Zz Zz (YbH hs) (fun f2=>?_) (fun f2=>?_))
  ·((repeat (first | refine zS ?_ | refine zA fun _=>?_)))
   (exact ret1 rfl rfl (Zb) (Yw (.inr (of_decide_eq_true f2))))
  ·((repeat (first | refine zS ?_ | refine zA fun _=>?_)))
   (exact ret1 rfl rfl (Zb) (Ya (fun h=>h.elim (of_decide_eq_false f1) (of_decide_eq_false f2))))
open Classical in
theorem typed_q {fz:FZ} {s:ByteArray} (hs:Short s):QFn Tryz.prog 171 [.string s] fz (.bool (decide (Ygz s))):=by
 refine GFn.quiet ?_
 (refine GFn.of_wp Tryz.func171 rfl Tryz.ntmps171 rfl rfl (fun w0=>?_))
 ((repeat (first | refine zS ?_ | refine zA fun _=>?_)))
 (((refine zG ?_));refine Yz Zz Zz (W6 hs) (fun f1=>?_) (fun f1=>?_))
 ·((repeat (first | refine zS ?_ | refine zA fun _=>?_)))
  (exact ret1 rfl rfl (Zb) (Yw (.inl (of_decide_eq_true f1))))
 ·((repeat (first | refine zS ?_ | refine zA fun _=>?_)))
  ((refine zG ?_;refine zC (fun c2=>?_) (fun c2=>?_)))
  ·((repeat (first | refine zS ?_ | refine zA fun _=>?_)))
   (exact ret1 rfl rfl (Zb) (Yw (.inr c2)))
  ·((repeat (first | refine zS ?_ | refine zA fun _=>?_)))
   (exact ret1 rfl rfl (Zb) (Ya (fun h=>h.elim (of_decide_eq_false f1) c2)))
end Go.Proofs.YtbhlgkibgajajaaGreatDoor
set_option maxRecDepth 20000
namespace Go.Proofs.YtbhlgkibgajajaaGreatDoor
open Go.Lx Go.RowKit
def sxV (k v:Int) (s:ByteArray) (kids:Value):Value:=.agg #[.int .i64 k,.int .i64 v,.int .i64 0,.int .i64 0,.string s,kids]
theorem Yaw {fz:FZ} {s:ByteArray}:QFn Tryz.prog 93 [.string s] fz (sxV 1 0 s (.slice none 0 0)):=by
 refine GFn.quiet ?_
 (refine GFn.of_wp Tryz.func93 rfl Tryz.ntmps93 rfl rfl (fun w0=>?_))
 ((repeat (first | refine zS ?_ | refine zA fun _=>?_)))
 exact XR T (i:=0) rfl Zz Zz Zz Zz Zz (fun _ hi=>⟨_,[],hi.forget (List.nil_sublist _),rfl⟩)
theorem Wq {fz:FZ} {s:ByteArray}:QFn Tryz.prog 30 [.string s] fz (sxV 1 0 s (.slice none 0 0)):=by
 refine GFn.quiet ?_
 (refine GFn.of_wp Tryz.func30 rfl Tryz.ntmps30 rfl rfl (fun w0=>?_))
 ((repeat (first | refine zS ?_ | refine zA fun _=>?_)))
 exact XR T (i:=0) rfl Zz Zz Zz Zz Zz (fun _ hi=>⟨_,[],hi.forget (List.nil_sublist _),rfl⟩)
theorem Wo {fz:FZ} {s:ByteArray}:QFn Tryz.prog 45 [.string s] fz (sxV 1 0 s (.slice none 0 0)):=by
 refine GFn.quiet ?_
 (refine GFn.of_wp Tryz.func45 rfl Tryz.ntmps45 rfl rfl (fun w0=>?_))
 ((repeat (first | refine zS ?_ | refine zA fun _=>?_)))
 exact XR T (i:=0) rfl Zz Zz Zz Zz Zz (fun _ hi=>⟨_,[],hi.forget (List.nil_sublist _),rfl⟩)
theorem Ybw {fz:FZ} {A:Option Addr} {n c:Nat}:QFn Tryz.prog 160 [.slice A n c] fz (sxV 3 0 ⟨#[]⟩ (.slice A n c)):=by
 refine GFn.quiet ?_
 (refine GFn.of_wp Tryz.func160 rfl Tryz.ntmps160 rfl rfl (fun w0=>?_))
 ((repeat (first | refine zS ?_ | refine zA fun _=>?_)))
 exact XR T (i:=0) rfl Zz Zz Zz Zz Zz (fun _ hi=>⟨_,[],hi.forget (List.nil_sublist _),rfl⟩)
theorem Y6 {fz:FZ} {A:Option Addr} {n c:Nat}:QFn Tryz.prog 29 [.slice A n c] fz (sxV 3 0 ⟨#[]⟩ (.slice A n c)):=by
 refine GFn.quiet ?_
 (refine GFn.of_wp Tryz.func29 rfl Tryz.ntmps29 rfl rfl (fun w0=>?_))
 ((repeat (first | refine zS ?_ | refine zA fun _=>?_)))
 exact XR T (i:=0) rfl Zz Zz Zz Zz Zz (fun _ hi=>⟨_,[],hi.forget (List.nil_sublist _),rfl⟩)
theorem Xu {fz:FZ} {A:Option Addr} {n c:Nat}:QFn Tryz.prog 44 [.slice A n c] fz (sxV 3 0 ⟨#[]⟩ (.slice A n c)):=by
 refine GFn.quiet ?_
 (refine GFn.of_wp Tryz.func44 rfl Tryz.ntmps44 rfl rfl (fun w0=>?_))
 ((repeat (first | refine zS ?_ | refine zA fun _=>?_)))
 exact XR T (i:=0) rfl Zz Zz Zz Zz Zz (fun _ hi=>⟨_,[],hi.forget (List.nil_sublist _),rfl⟩)
theorem Ydt {fz:FZ} {n:Int}:QFn Tryz.prog 34 [.int .i64 n] fz (sxV 2 n ⟨#[]⟩ (.slice none 0 0)):=by
 refine GFn.quiet ?_
 (refine GFn.of_wp Tryz.func34 rfl Tryz.ntmps34 rfl rfl (fun w0=>?_))
 ((repeat (first | refine zS ?_ | refine zA fun _=>?_)))
 exact XR T (i:=0) rfl Zz Zz Zz Zz Zz (fun _ hi=>⟨_,[],hi.forget (List.nil_sublist _),rfl⟩)
theorem flat_get {α:Type} {f:α→List Value} {z:Nat} (hz:∀ x,(f x).length=z):∀ {l:List α} {i j:Nat} {x:α} {u:Value},l[i]?=some x→(f x)[j]?=some u→(l.flatMap f)[i*z+j]?=some u
 | [],i,j,x,u,h,_=>by simp at h
 | y::r,0,j,x,u,h,hu=>by
  simp at h;subst h
  have hj:j<(f y).length:=(List.getElem?_eq_some_iff.1 hu).1
  rw [List.flatMap_cons,Nat.zero_mul,Nat.zero_add,List.getElem?_append_left hj];exact hu
 | y::r,i+1,j,x,u,h,hu=>by
  have h2:=flat_get hz (l:=r) (i:=i) (j:=j) (x:=x) (u:=u) (by simpa using h) hu
  have e:(i+1)*z+j=z+(i*z+j):=by rw [Nat.succ_mul];omega
  rw [List.flatMap_cons,e,List.getElem?_append_right (by rw [hz];omega),hz,Nat.add_sub_cancel_left];exact h2
theorem YjN {α β:Type} {f:α→List β} {a:α} {l:List α} {k:Nat} {x:α} (hx:l[k]?=some x):(a::l.take (k+1)).flatMap f=(a::l.take k).flatMap f++f x:=by
 rw [List.take_add_one,hx];simp
theorem Ye0 {α β:Type} {L:Lay α} {f:β→List Value} {g:β→α} {e n:Nat} {v:Value} {l:List β} {b:HP} {fz':FZ} (hz:∀ x,(f x).length=L.size) (hO:OwnS e L.size v n (l.flatMap f) b) (hf:∀ p∈b,fz' p.1=some p.2) (hl:l.length=n) (hn:n≤140737488355328) (hr:∀ x∈l,L.rep fz' (g x) (f x)):
 ∃ A c,v=.slice A n c∧Sl L fz' A n c (l.map g):=by
 obtain ⟨A,c,h1,h2,h3,h4⟩:=hO.row hf
 refine ⟨A,c,h1,h4.sl h2 h3 hn (by simpa using hl) fun i d hd=>?_⟩
 rw [List.getElem?_map] at hd
 cases hx:l[i]? with
 | none=>simp [hx] at hd
 | some x=>
  simp [hx] at hd
  subst hd
  exact ⟨f x,hr x (List.mem_of_getElem? hx),fun j u hu=>flat_get hz hx hu⟩
theorem short_of {fz:FZ} {A:Option Addr} {n c:Nat} {l:List ByteArray} (h:Sl strL fz A n c l) {x:ByteArray} (hx:x∈l):Short x:=by
 obtain ⟨i,hi⟩:=List.mem_iff_getElem?.1 hx
 rcases h.elem with h0 | ⟨ad,h1,h2⟩
 ·have:=YdR hi;have:=h.len;omega
 ·obtain ⟨v,⟨_,h3⟩,_⟩:=(h2 i x hi).cell rfl
  exact h3
def Yd (s:ByteArray):Sexpr:=.mk 1 0 0 0 s []
def Ym (s:ByteArray):List Value:=[.int .i64 1,.int .i64 0,.int .i64 0,.int .i64 0,.string s,.slice none 0 0]
theorem Yq {fz:FZ} {s:ByteArray} (hs:Short s):YF.rep fz (Yd s) (Ym s):=
 Yg (x:=Yd s) ⟨by show I64 1;unfold I64;omega,by show I64 0;unfold I64;omega,by show I64 0;unfold I64;omega,by show I64 0;unfold I64;omega,hs,IsSl.nil⟩
set_option maxHeartbeats 1000000 in
theorem Yfk {fz:FZ} {f0:ByteArray} {A:Option Addr} {n c:Nat} {l:List ByteArray} (hf:Short f0) (h1:Sl strL fz A n c l) (hn:n≤1000000000):
 GFn Tryz.prog 159 [.string f0,.slice A n c] fz [] (fun v fz' H'=>H'=[]∧∃ B m cc,v=sxV 3 0 ⟨#[]⟩ (.slice B m cc)∧Sl YF fz' B m cc (Yd f0::l.map Yd)):=by
 have l1:=h1.len
 (refine GFn.of_wp Tryz.func159 rfl Tryz.ntmps159 rfl rfl (fun w0=>?_))
 ((repeat (first | refine zS ?_ | refine zA fun _=>?_)))
 rename_i g4
 (((refine zG ?_));refine Yj Zz Zz (Yaw (s:=f0)) ?_)
 refine Yb Zz (Yc T (cs:=Ym f0) Zz Zz Zz Zz Zz Zz Zz Zz (fun gb=>?_))
 (((refine zG ?_));refine Yj Zz Zz Ybw ?_)
 ((repeat (first | refine zS ?_ | refine zA fun _=>?_)))
 rename_i g5
 refine Wp.perm (List.Perm.cons _ (List.Perm.swap _ _ _)) ?_
 refine YD (fun q σ fz' H'=>∃ (k:Nat) (v:Value) (Hs:HP),k≤n∧q=n - k∧σ=[(14,.int .i64 k),(13,.int .i64 n),(12,.slice A n c),(5,.pointer (some ⟨g5,0,none⟩)),(4,.pointer (some ⟨g4,0,none⟩))]∧fz=fz'∧
  H'=(g5,.cells #[.int .i64 3,.int .i64 0,.int .i64 0,.int .i64 0,.string ⟨#[]⟩,v] 64 (0,0))::(g4,.cells #[.int .i64 0,.int .i64 0,.int .i64 0,.int .i64 0,.string ⟨#[]⟩,.slice none 0 0] 64 (0,0))::Hs∧OwnS 64 6 v (k+1) ((f0::l.take k).flatMap Ym) Hs)
  ⟨0,_,[_],Nat.zero_le _,rfl,rfl,rfl,rfl,?_⟩ (Zw) (Zb) ?_
 ·exact OwnS.of_block (size:=6) (cs:=Ym f0) (n:=1) rfl Zh
 rintro q σ fz' H' ⟨k,v,Hs,hk,rfl,rfl,rfl,rfl,hO⟩
 ((repeat (first | refine zS ?_ | refine zA fun _=>?_)))
 ((refine zG ?_;refine zC (fun c1=>?_) (fun c1=>?_)))
 ·obtain ⟨x,hx⟩:=YG (l:=l) (k:=k) Zi
  obtain ⟨Av,cv,rfl,_,_⟩:=hO.form
  ((repeat (first | refine zS ?_ | refine zA fun _=>?_)))
  (((refine zG ?_));refine YA T k Zz Zz Zz Zz Zz Zz h1 (by first | rfl | omega) hx (fun p hp=>?_))
  (((refine zG ?_));refine Y9 T Zz Zz Zz hp (fun ix=>?_))
  ((repeat (first | refine zS ?_ | refine zA fun _=>?_)))
  (refine Wp.drawK (Hq:=[_,_]) T.mixed Zj Zj (Zb) ?_)
  ((repeat (first | refine zS ?_ | refine zA fun _=>?_)))
  (refine Ye ?_)
  (refine Ye ?_)
  (refine Ye ?_)
  ((repeat (first | refine zS ?_ | refine zA fun _=>?_)))
  (refine Ye ?_)
  (refine YR ⟨by kernel_rfl,?_⟩)
  refine Ch.qk (⟨Le.refl _,Zx⟩) (Yj Zz Zz (Yaw (s:=x)) ?_)
  refine Ys (Yc T (cs:=Ym x) Zz Zz Zz Zz Zz Zz Zz Zz (fun gb=>⟨(⟨Le.refl _,Zx⟩),?_⟩))
  refine Ys (Ydp T (Hr:=[_,_,_]) Zz Zz Zz Zz Zz Zz Zz (List.Perm.refl _) hO rfl (YgI (.head _)) (by intro u hu;simp [Ym] at hu;rcases hu with rfl | rfl | rfl | rfl | rfl | rfl<;>rfl) (by show _*72≤_;omega) Zi (fun v' Hs' hO'=>⟨(⟨Le.refl _,Zx⟩),?_⟩))
  obtain ⟨Av',cv',rfl,_,_⟩:=hO'.form
  refine Ch.hard0 Zj (YT T Zz Zz Zz Zz Zz Zz ?_)
  refine Ch.done ?_
  ((repeat (first | refine zS ?_ | refine zA fun _=>?_)))
  exact YP ⟨k+1,_,Hs',by omega,rfl,rfl,rfl,rfl,by rw [YjN (a:=f0) hx];exact hO'⟩ Zi (Zw) (Zb)
 ·have hk1:k=n:=by omega
  subst hk1
  obtain ⟨Av,cv,rfl,_,_⟩:=hO.form
  ((repeat (first | refine zS ?_ | refine zA fun _=>?_)))
  refine Y4 T (i:=1) rfl Zz Zz Zz Zz Zz (fun fz3 hle3 hf3=>?_)
  rw [List.take_of_length_le Zi] at hO
  obtain ⟨A',c',he,hsl⟩:=Ye0 (L:=YF) (g:=Yd) (fun _=>rfl) hO (fun p hp=>hf3 p (by simp [hp])) (by simp [l1]) Zi (fun x hx=>Yq (by
   rcases List.mem_cons.1 hx with rfl | hx
   ·exact hf
   ·exact short_of h1 hx))
  exact ⟨rfl,_,_,_,by rw [he];rfl,hsl⟩
theorem Yie {l:List ByteArray}:∀ u∈l.flatMap Ym,u.oneCell'=true:=by
 intro u hu
 obtain ⟨x,_,hx⟩:=List.mem_flatMap.1 hu
 simp [Ym] at hx
 rcases hx with rfl | rfl | rfl | rfl<;>rfl
theorem Yi2 {α:Type} {L:Lay α} {fz:FZ} {A:Option Addr} {n c:Nat} {l:List α} (h:Sl L fz A n c l) {x:α} (hx:x∈l):∃ cs,L.rep fz x cs:=by
 obtain ⟨i,hi⟩:=List.mem_iff_getElem?.1 hx
 rcases h.elem with h0 | ⟨ad,h1,h2⟩
 ·have:=YdR hi;have:=h.len;omega
 ·obtain ⟨cs,hr,_⟩:=h2 i x hi
  exact ⟨cs,hr⟩
def XO (p:Param):List ByteArray:=[p.name,X7,p.typ]
theorem Yiu {α β γ:Type} {f:α→List β} {h:β→List γ} {l:List α} {k:Nat} {x:α} (hx:l[k]?=some x):((l.take (k+1)).flatMap f).flatMap h=((l.take k).flatMap f).flatMap h++(f x).flatMap h:=by
 rw [List.take_add_one,hx];simp
theorem YbO:∀ {l:List Param},(l.flatMap XO).length=3*l.length
 | []=>rfl
 | p::r=>by rw [List.flatMap_cons,List.length_append,YbO];simp [XO];omega
set_option maxHeartbeats 1000000 in
theorem Ycf {fz:FZ} {A:Option Addr} {n c:Nat} {l:List Param} (h1:Sl paramL fz A n c l) (hn:n≤1000000000):
 GFn Tryz.prog 46 [.slice A n c] fz [] (fun v fz' H'=>H'=[]∧∃ B cc,v=.slice B (3*n) cc∧Sl YF fz' B (3*n) cc ((l.flatMap XO).map Yd)):=by
 have l1:=h1.len
 (refine GFn.of_wp Tryz.func46 rfl Tryz.ntmps46 rfl rfl (fun w0=>?_))
 ((repeat (first | refine zS ?_ | refine zA fun _=>?_)))
 refine YD (fun q σ fz' H'=>∃ (k:Nat) (v:Value) (Hs:HP),k≤n∧q=n - k∧σ=[(8,.int .i64 k),(7,.int .i64 n),(6,.slice A n c),(3,v)]∧fz=fz'∧
  H'=Hs∧OwnS 64 6 v (3*k) (((l.take k).flatMap XO).flatMap Ym) Hs)
  ⟨0,_,[],Nat.zero_le _,rfl,rfl,rfl,rfl,OwnS.nil _ _⟩ (Zw) (Zb) ?_
 rintro q σ fz' H' ⟨k,v,Hs,hk,rfl,rfl,rfl,rfl,hO⟩
 ((repeat (first | refine zS ?_ | refine zA fun _=>?_)))
 ((refine zG ?_;refine zC (fun c1=>?_) (fun c1=>?_)))
 ·obtain ⟨x,hx⟩:=YG (l:=l) (k:=k) Zi
  obtain ⟨Av,cv,rfl,_,_⟩:=hO.form
  ((repeat (first | refine zS ?_ | refine zA fun _=>?_)))
  (((refine zG ?_));refine YA T k Zz Zz Zz Zz Zz Zz h1 (by first | rfl | omega) hx (fun p hp=>?_))
  (((refine zG ?_));refine Yx T Zz Zz Zz hp Zz ?_)
  intro cs hcs
  obtain ⟨rfl,hR⟩:=Xy hcs
  ((repeat (first | refine zS ?_ | refine zA fun _=>?_)))
  rename_i g5
  (refine Wp.drawK (Hq:=[_]) T.mixed Zj Zj (Zb) ?_)
  ((repeat (first | refine zS ?_ | refine zA fun _=>?_)))
  (refine Ye ?_)
  (refine Ye ?_)
  ((repeat (first | refine zS ?_ | refine zA fun _=>?_)))
  (refine Ye ?_)
  (refine Ye ?_)
  (refine Ye ?_)
  (refine Ye ?_)
  (refine YR ⟨by kernel_rfl,?_⟩)
  refine Ch.qk (⟨Le.refl _,Zx⟩) (Yj Zz Zz (Yaw (s:=x.name)) ?_)
  refine Ch.qk (⟨Le.refl _,Zx⟩) (Yj Zz Zz (Yaw (s:=X7)) ?_)
  refine Ch.qk (⟨Le.refl _,Zx⟩) (Yj Zz Zz (Yaw (s:=x.typ)) ?_)
  refine Ys (Yc T (cs:=(XO x).flatMap Ym) Zz Zz Zz Zz Zz Zz Zz Zz (fun gb=>⟨(⟨Le.refl _,Zx⟩),?_⟩))
  refine Ys (Ydp T (Hr:=[_,_]) Zz Zz Zz Zz Zz Zz Zz (List.Perm.refl _) hO rfl (YgI (.head _)) Yie (by show _*72≤_;omega) Zi (fun v' Hs' hO'=>⟨(⟨Le.refl _,Zx⟩),?_⟩))
  refine Ch.qk (⟨Le.refl _,Zx⟩) (Xk Zz ?_)
  refine Ch.done ?_
  ((repeat (first | refine zS ?_ | refine zA fun _=>?_)))
  exact YP ⟨k+1,_,Hs',by omega,rfl,rfl,rfl,rfl,by rw [Yiu hx];exact hO'⟩ Zi (Zw) (Zb)
 ·have hk1:k=n:=by omega
  subst hk1
  obtain ⟨Av,cv,rfl,_,_⟩:=hO.form
  ((repeat (first | refine zS ?_ | refine zA fun _=>?_)))
  refine ret1F rfl rfl (fun fz3 hle3 hf3=>?_)
  rw [List.take_of_length_le Zi] at hO
  obtain ⟨A',c',he,hsl⟩:=Ye0 (L:=YF) (g:=Yd) (fun _=>rfl) hO (fun p hp=>hf3 p hp) (by rw [YbO,l1]) Zi (fun x hx=>Yq (by
   obtain ⟨p,hp,hx⟩:=List.mem_flatMap.1 hx
   obtain ⟨cs,hr⟩:=Yi2 h1 hp
   obtain ⟨_,hR⟩:=Xy hr
   simp only [XO,List.mem_cons,List.not_mem_nil,or_false] at hx
   rcases hx with rfl | rfl | rfl
   ·exact hR.name
   ·unfold Short X7;decide
   ·exact hR.typ))
  exact ⟨rfl,_,_,he,hsl⟩
end Go.Proofs.YtbhlgkibgajajaaGreatDoor
set_option maxRecDepth 20000
namespace Go.Proofs.YtbhlgkibgajajaaGreatDoor
open Go.Lx Go.RowKit
def kNumber:ByteArray:=⟨#[110,117,109,98,101,114]⟩
def kFluent:ByteArray:=⟨#[102,108,117,101,110,116]⟩
def SxIs (fz:FZ) (v:Value) (x:Sexpr):Prop:=∃ cs,v=.agg (List.toArray cs)∧YF.rep fz x cs
theorem SxIs.mono {fz fz':FZ} (h:Le fz fz') {v:Value} {x:Sexpr} (hs:SxIs fz v x):SxIs fz' v x:=by
 obtain ⟨cs,e,hr⟩:=hs
 exact ⟨cs,e,YF.mono h hr⟩
def Yv (l:List Sexpr):Sexpr:=.mk 3 0 0 0 ⟨#[]⟩ l
def numE (n:Int):Sexpr:=.mk 2 n 0 0 ⟨#[]⟩ []
def Xj (f:ByteArray) (l:List ByteArray):Sexpr:=Yv (Yd f::l.map Yd)
theorem Xp:I64 0:=by unfold I64;omega
theorem i64_2:I64 2:=by unfold I64;omega
theorem YcO:I64 3:=by unfold I64;omega
theorem Y0:Short ⟨#[]⟩:=by unfold Short;decide
theorem XQ {fz:FZ} {A:Option Addr} {n c:Nat} {l:List Sexpr} (h:Sl YF fz A n c l):SxIs fz (sxV 3 0 ⟨#[]⟩ (.slice A n c)) (Yv l):=
 ⟨_,rfl,Yg (x:=Yv l) ⟨YcO,Xp,Xp,Xp,Y0,h.is⟩⟩
theorem Yjg {fz:FZ} {n:Int} (h:I64 n):SxIs fz (sxV 2 n ⟨#[]⟩ (.slice none 0 0)) (numE n):=
 ⟨_,rfl,Yg (x:=numE n) ⟨i64_2,h,Xp,Xp,Y0,IsSl.nil⟩⟩
inductive EShape:Lx.Expr→Prop
 | num {e:Lx.Expr} (h:e.op=kNumber):EShape e
 | flu {e:Lx.Expr} (h:e.op=kFluent) (hn:e.args.length≤1000000000):EShape e
 | bin {e a b:Lx.Expr} (h1:e.op≠kNumber) (h2:e.op≠kFluent) (hk:e.kids=[a,b]) (ha:EShape a) (hb:EShape b):EShape e
noncomputable def X2:Nat→Lx.Expr→Sexpr
 | 0,_=>numE 0
 | s+1,e=>open Classical in if e.op=kNumber then numE e.n else if e.op=kFluent then Xj e.name e.args else Yv (Yd e.op::e.kids.map (X2 s))
set_option maxHeartbeats 1000000 in
theorem Yb2:∀ (s:Nat) {fz:FZ} {e:Lx.Expr} {va vk:Value},SizeOf.sizeOf e≤s→ExprR fz e va vk→EShape e→
 GFn Tryz.prog 161 [.agg #[.string e.op,.string e.name,.int .i64 e.n,va,vk]] fz [] (fun v fz' H'=>H'=[]∧SxIs fz' v (X2 s e))
 | 0,_,e,_,_,hs,_,_=>by cases e;simp at hs
 | s+1,fz,e,va,vk,hs,h,hE=>by
  obtain ⟨A,n,c,rfl,ha⟩:=h.args
  obtain ⟨B,m,d,rfl,hk⟩:=h.kids
  (refine GFn.of_wp Tryz.func161 rfl Tryz.ntmps161 rfl rfl (fun w0=>?_))
  (refine Yr (Yp (Yb Zz (Xi _ Zz Zz (fun g0=>?_)))))
  ((repeat (first | refine zS ?_ | refine zA fun _=>?_)))
  rename_i g1
  ((refine zG ?_;refine zC (fun x1=>?_) (fun y1=>?_)))
  ·((repeat (first | refine zS ?_ | refine zA fun _=>?_)))
   refine Y4 T (i:=0) rfl Zz Zz Zz Zz Zz (fun fz3 hle3 hf3=>⟨rfl,?_⟩)
   rw [X2,if_pos (show e.op=kNumber from x1)]
   exact Yjg h.n
  ·((repeat (first | refine zS ?_ | refine zA fun _=>?_)))
   ((refine zG ?_;refine zC (fun x2=>?_) (fun y2=>?_)))
   ·have hn:e.args.length≤1000000000:=by
     cases hE with
     | num h=>exact absurd h y1
     | flu _ hn=>exact hn
     | bin _ h2=>exact absurd x2 h2
    ((repeat (first | refine zS ?_ | refine zA fun _=>?_)))
    (refine Yb Zz (YB [] [_,_] Zz Zz Zz (Yfk (f0:=e.name) h.name ha (by rw [← ha.len];exact hn)) (fun v fz2 H2 hle2 hR=>?_)))
    obtain ⟨rfl,C,mm,cc,rfl,hsl⟩:=hR
    unfold sxV
    ((repeat (first | refine zS ?_ | refine zA fun _=>?_)))
    refine Y4 T (i:=0) rfl Zz Zz Zz Zz Zz (fun fz3 hle3 hf3=>⟨rfl,?_⟩)
    rw [X2,if_neg (show ¬e.op=kNumber from y1),if_pos (show e.op=kFluent from x2)]
    exact (XQ hsl).mono hle3
   ·obtain ⟨a,b,hab,hsa,hsb⟩:∃ a b,e.kids=[a,b]∧EShape a∧EShape b:=by
     cases hE with
     | num h=>exact absurd h y1
     | flu h _=>exact absurd h y2
     | bin _ _ hk ha hb=>exact ⟨_,_,hk,ha,hb⟩
    have la:=Lx.Expr.kids_lt (x:=e) (k:=a) (by rw [hab];simp)
    have lb:=Lx.Expr.kids_lt (x:=e) (k:=b) (by rw [hab];simp)
    have l2:=hk.len
    rw [hab] at l2
    simp at l2
    subst l2
    ((repeat (first | refine zS ?_ | refine zA fun _=>?_)))
    (refine Wp.drawK (Hq:=[_,_]) T.mixed Zj Zj (Zb) ?_)
    ((repeat (first | refine zS ?_ | refine zA fun _=>?_)))
    (refine Ye ?_)
    ((repeat (first | refine zS ?_ | refine zA fun _=>?_)))
    (((refine zG ?_));refine YA T 0 Zz Zz Zz Zz Zz Zz hk (by first | rfl | omega) (by rw [hab];rfl:e.kids[0]?=some a) (fun p hp=>?_))
    (((refine zG ?_));refine Yx T Zz Zz Zz hp Zz ?_)
    intro cs hcs
    obtain ⟨wa,wk,rfl,hRa⟩:=YU hcs
    (refine Ye ?_)
    ((repeat (first | refine zS ?_ | refine zA fun _=>?_)))
    (((refine zG ?_));refine YA T 1 Zz Zz Zz Zz Zz Zz hk (by first | rfl | omega) (by rw [hab];rfl:e.kids[1]?=some b) (fun p2 hp2=>?_))
    (((refine zG ?_));refine Yx T Zz Zz Zz hp2 Zz ?_)
    intro cs2 hcs2
    obtain ⟨za,zk,rfl,hRb⟩:=YU hcs2
    (refine Ye ?_)
    (refine Ye ?_)
    (refine Ye ?_)
    (refine Ye ?_)
    (refine YR ⟨by kernel_rfl,?_⟩)
    refine Ch.qk (⟨Le.refl _,Zx⟩) (Yj Zz Zz (Yaw (s:=e.op)) ?_)
    refine Ys (YB [] [_,_] Zz Zz Zz (Yb2 s (e:=a) Zi hRa hsa) (fun v2 fz2 H2 hle2 hR2=>?_))
    obtain ⟨rfl,cs3,rfl,hr3⟩:=hR2
    obtain ⟨vk3,rfl,hR3⟩:=Yt hr3
    refine ⟨(⟨hle2,Zp2⟩),?_⟩
    refine Ys (YB [] [_,_] Zz Zz Zz (Yb2 s (e:=b) Zi (hRb.mono hle2) hsb) (fun v4 fz4 H4 hle4 hR4=>?_))
    obtain ⟨rfl,cs5,rfl,hr5⟩:=hR4
    obtain ⟨vk5,rfl,hR5⟩:=Yt hr5
    refine ⟨(⟨(hle2.trans hle4),Zp2⟩),?_⟩
    refine Ys (Yc T (cs:=Ym e.op++ [.int .i64 (X2 s a).kind,.int .i64 (X2 s a).value,.int .i64 (X2 s a).line,.int .i64 (X2 s a).column,.string (X2 s a).text,vk3]++ [.int .i64 (X2 s b).kind,.int .i64 (X2 s b).value,.int .i64 (X2 s b).line,.int .i64 (X2 s b).column,.string (X2 s b).text,vk5]) Zz Zz Zz Zz Zz Zz Zz Zz (fun gb=>⟨(⟨(hle2.trans hle4),Zp3⟩),?_⟩))
    refine Ch.qk (⟨(hle2.trans hle4),Zp3⟩) (Yj Zz Zz Ybw ?_)
    unfold sxV
    refine Ch.hard0 Zj (YT T Zz Zz Zz Zz Zz Zz ?_)
    refine Ch.done ?_
    ((repeat (first | refine zS ?_ | refine zA fun _=>?_)))
    refine Y4 T (i:=1) rfl Zz Zz Zz Zz Zz (fun fz3 hle3 hf3=>⟨rfl,?_⟩)
    rw [X2,if_neg (show ¬e.op=kNumber from y1),if_neg (show ¬e.op=kFluent from y2),hab]
    obtain ⟨A',c',he,hsl⟩:=Ye0 (β:={p:Sexpr × List Value // p.2.length=6}) (L:=YF) (f:=fun p=>p.1.2) (g:=fun p=>p.1.1) (e:=64) (n:=3) (v:=.slice (some ⟨gb,0,none⟩) 3 3)
     (l:=[⟨(Yd e.op,Ym e.op),rfl⟩,⟨(X2 s a,[.int .i64 (X2 s a).kind,.int .i64 (X2 s a).value,.int .i64 (X2 s a).line,.int .i64 (X2 s a).column,.string (X2 s a).text,vk3]),rfl⟩,⟨(X2 s b,[.int .i64 (X2 s b).kind,.int .i64 (X2 s b).value,.int .i64 (X2 s b).line,.int .i64 (X2 s b).column,.string (X2 s b).text,vk5]),rfl⟩]) (fun p=>p.2) (OwnS.of_block (size:=6) rfl Zh) (fun p hp=>hf3 p (by simp at hp;subst hp;exact .head _)) rfl Zh (fun x hx=>by
      simp only [List.mem_cons,List.not_mem_nil,or_false] at hx
      rcases hx with rfl | rfl | rfl
      ·exact Yq h.op
      ·exact Yg (x:=X2 s a) (hR3.mono (hle4.trans hle3))
      ·exact Yg (x:=X2 s b) (hR5.mono hle3))
    injection he with he1 he2 he3
    subst he1 he3
    exact XQ hsl
theorem YcT:∀ (s s':Nat) (e:Lx.Expr),SizeOf.sizeOf e≤s→SizeOf.sizeOf e≤s'→X2 s e=X2 s' e
 | 0,_,e,h,_=>by cases e;simp at h
 | _+1,0,e,_,h=>by cases e;simp at h
 | s+1,s'+1,e,h,h'=>by
  have hk:e.kids.map (X2 s)=e.kids.map (X2 s'):=List.map_congr_left (fun k hk=>YcT s s' k (by have:=Lx.Expr.kids_lt hk;omega) (by have:=Lx.Expr.kids_lt hk;omega))
  simp only [X2,hk]
noncomputable def Y8 (e:Lx.Expr):Sexpr:=X2 (SizeOf.sizeOf e) e
open Classical in
theorem Ycs (e:Lx.Expr):Y8 e=if e.op=kNumber then numE e.n else if e.op=kFluent then Xj e.name e.args else Yv (Yd e.op::e.kids.map Y8):=by
 have hk:e.kids.map (X2 (SizeOf.sizeOf e))=e.kids.map Y8:=List.map_congr_left (fun k hk=>YcT _ _ k (by have:=Lx.Expr.kids_lt hk;omega) (Nat.le_refl _))
 rw [Y8,YcT _ (SizeOf.sizeOf e+1) e (Nat.le_refl _) Zi,X2,hk]
theorem X4 {fz:FZ} {e:Lx.Expr} {va vk:Value} (h:ExprR fz e va vk) (hE:EShape e):
 GFn Tryz.prog 161 [.agg #[.string e.op,.string e.name,.int .i64 e.n,va,vk]] fz [] (fun v fz' H'=>H'=[]∧SxIs fz' v (Y8 e)):=Yb2 _ (Nat.le_refl _) h hE
end Go.Proofs.YtbhlgkibgajajaaGreatDoor
namespace Go.Lx
open Go.RowKit
def Grow {α:Type} (L:Lay α) (e:Nat) (fz:FZ) (v:Value) (n:Nat) (Hs:HP) (l:List α):Prop:=
 ∃ xs:List (α × List Value),xs.map Prod.fst=l∧(∀ p∈xs,L.rep fz p.1 p.2)∧l.length=n∧OwnS e L.size v n (xs.flatMap Prod.snd) Hs
theorem Grow.nil {α:Type} (L:Lay α) (e:Nat) (fz:FZ):Grow L e fz (.slice none 0 0) 0 [] ([]:List α):=⟨[],rfl,by simp,rfl,OwnS.nil e L.size⟩
theorem Grow.mono {α:Type} {L:Lay α} {e:Nat} {fz fz':FZ} (h:Le fz fz') {v:Value} {n:Nat} {Hs:HP} {l:List α} (hg:Grow L e fz v n Hs l):Grow L e fz' v n Hs l:=by
 obtain ⟨xs,h1,h2,h3,h4⟩:=hg
 exact ⟨xs,h1,fun p hp=>L.mono h (h2 p hp),h3,h4⟩
theorem Grow.form {α:Type} {L:Lay α} {e:Nat} {fz:FZ} {v:Value} {n:Nat} {Hs:HP} {l:List α} (hg:Grow L e fz v n Hs l):∃ A c,v=.slice A n c∧n≤c∧c≤9223372036854775807:=by
 obtain ⟨_,_,_,_,h⟩:=hg
 exact h.form
theorem Grow.len {α:Type} {L:Lay α} {e:Nat} {fz:FZ} {v:Value} {n:Nat} {Hs:HP} {l:List α} (hg:Grow L e fz v n Hs l):l.length=n:=by
 obtain ⟨_,_,_,h,_⟩:=hg
 exact h
theorem Grow.of {α:Type} {L:Lay α} {e:Nat} {fz:FZ} {v:Value} {n n':Nat} {Hs:HP} {l l':List α} (hg:Grow L e fz v n Hs l) (hl:l=l') (hn:n=n'):Grow L e fz v n' Hs l':=by
 subst hl hn;exact hg
theorem Ygk {α:Type} {z:Nat}:∀ {l:List (α × List Value)} {i j:Nat} {x:α × List Value} {u:Value},(∀ p∈l,p.2.length=z)→l[i]?=some x→x.2[j]?=some u→(l.flatMap Prod.snd)[i*z+j]?=some u
 | [],i,j,x,u,_,h,_=>by simp at h
 | y::r,0,j,x,u,_,h,hu=>by
  simp at h;subst h
  have hj:j<y.2.length:=(List.getElem?_eq_some_iff.1 hu).1
  rw [List.flatMap_cons,Nat.zero_mul,Nat.zero_add,List.getElem?_append_left hj];exact hu
 | y::r,i+1,j,x,u,hz,h,hu=>by
  have h2:=Ygk (z:=z) (l:=r) (i:=i) (j:=j) (x:=x) (u:=u) (fun p hp=>hz p (by simp [hp])) (by simpa using h) hu
  have hy:=hz y (by simp)
  have e:(i+1)*z+j=z+(i*z+j):=by rw [Nat.succ_mul];omega
  rw [List.flatMap_cons,e,List.getElem?_append_right (by rw [hy];omega),hy,Nat.add_sub_cancel_left];exact h2
theorem Ybe {α:Type} {z:Nat}:∀ {l:List (α × List Value)},(∀ p∈l,p.2.length=z)→(l.flatMap Prod.snd).length=l.length*z
 | [],_=>by simp
 | y::r,h=>by
  rw [List.flatMap_cons,List.length_append,Ybe (fun p hp=>h p (by simp [hp])),h y (by simp),List.length_cons,Nat.succ_mul];omega
theorem Grow.sl {α:Type} {L:Lay α} {e:Nat} {fz fz':FZ} {v:Value} {n:Nat} {Hs:HP} {l:List α} (hg:Grow L e fz v n Hs l) (hle:Le fz fz') (hf:∀ p∈Hs,fz' p.1=some p.2) (hn:n≤140737488355328):∃ A c,v=.slice A n c∧Sl L fz' A n c l:=by
 obtain ⟨xs,rfl,h2,h3,h4⟩:=hg
 obtain ⟨A,c,e1,e2,e3,e4⟩:=h4.row hf
 refine ⟨A,c,e1,e4.sl e2 e3 hn h3 fun i d hd=>?_⟩
 rw [List.getElem?_map] at hd
 cases hx:xs[i]? with
 | none=>simp [hx] at hd
 | some x=>
  simp [hx] at hd
  subst hd
  exact ⟨x.2,L.mono hle (h2 x (List.mem_of_getElem? hx)),fun j u hu=>Ygk (fun p hp=>L.len (h2 p hp)) hx hu⟩
theorem Sl.pairs {α:Type} {L:Lay α} {fz:FZ} {A:Option Addr} {n c:Nat} {l:List α} (h:Sl L fz A n c l):∃ xs:List (α × List Value),xs.map Prod.fst=l∧(∀ p∈xs,L.rep fz p.1 p.2)∧RowS fz A n (xs.flatMap Prod.snd):=by
 rcases h.elem with h0 | ⟨ad,h1,h2⟩
 ·have:=h.len
  have hl:l=[]:=List.eq_nil_of_length_eq_zero Zi
  subst hl
  exact ⟨[],rfl,by simp,.inl h0⟩
 ·have key:∀ (m:Nat),m≤l.length→∃ xs:List (α × List Value),xs.map Prod.fst=l.take m∧(∀ p∈xs,L.rep fz p.1 p.2)∧Row fz ad (xs.flatMap Prod.snd):=by
   intro m
   induction m with
   | zero=>exact fun _=>⟨[],by simp,by simp,fun j v hv=>by simp at hv⟩
   | succ m ih=>
    intro hm
    obtain ⟨xs,e1,e2,e3⟩:=ih Zi
    have hx:l[m]?=some l[m]:=List.getElem?_eq_getElem Zi
    obtain ⟨cs,hr,hrow⟩:=h2 m _ hx
    have hlen:xs.length=m:=by have:=congrArg List.length e1;simp at this;omega
    have hz:∀ p∈xs,p.2.length=L.size:=fun p hp=>L.len (e2 p hp)
    refine ⟨xs++ [(l[m],cs)],by rw [List.map_append,e1,List.take_add_one,hx];rfl,fun p hp=>?_,fun j v hv=>?_⟩
    ·rcases List.mem_append.1 hp with hp | hp
     ·exact e2 p hp
     ·simp at hp;subst hp;exact hr
    ·rw [List.flatMap_append] at hv
     by_cases hj:j<(xs.flatMap Prod.snd).length
     ·rw [List.getElem?_append_left hj] at hv;exact e3 j v hv
     ·rw [List.getElem?_append_right Zi] at hv
      have hl2:=Ybe hz
      rw [hlen] at hl2
      simp at hv
      have:=hrow (j - (xs.flatMap Prod.snd).length) v (by simpa using hv)
      rw [hl2] at this
      have e:(ad.add (m*L.size)).add (j - m*L.size)=ad.add j:=by
       have hj':m*L.size≤j:=by omega
       unfold Addr.add
       by_cases h5:m*L.size=0
       ·rw [h5];simp
       ·by_cases h6:j - m*L.size=0
        ·have:j=m*L.size:=by omega
         subst this;simp
        ·have h7:j≠0:=by omega
         simp [h5,h6,h7,Nat.add_assoc];omega
      rw [e] at this
      exact this
  obtain ⟨xs,e1,e2,e3⟩:=key l.length (Nat.le_refl _)
  exact ⟨xs,by rw [e1,List.take_length],e2,.inr ⟨ad,h1,e3⟩⟩
def OneC {α:Type} (L:Lay α):Prop:=∀ fz d cs,L.rep fz d cs→∀ u∈cs,u.oneCell'=true
theorem Yn:OneC YF:=by
 intro fz d cs h u hu
 obtain ⟨vk,rfl,hR⟩:=Yt h
 obtain ⟨A,n,c,rfl,_⟩:=hR.kids
 simp at hu
 rcases hu with rfl | rfl | rfl | rfl | rfl | rfl<;>rfl
section
variable {P:Program} {cx:Cx} {r:Operand→Option Value} {fz:FZ} {H:HP} {dst:Option Nat} {ty:TypeId} {pos:String} {af:Array Edge} {gd:Option (Nat × Bool)} {α:Type} {L:Lay α}
theorem YhI (T:Tab P) {t e e':TypeId} {x y:Operand} {X Y:Ty} {v:Value} {n m c g:Nat} {l l2:List α} {ys:List (α × List Value)} {cs:List Value} {Hr Hs:HP} {K:Value→FZ→HP→Prop} (hT:T.inf t=some X) (hd:X.desc=.slice e) (hY:T.inf e=some Y) (hz:Y.zero.cells.size=Y.size) (hsz:Nat.blt 0 Y.size=true) (hYL:Y.size=L.size)
 (hx:r x=some v) (hy:r y=some (.slice (some ⟨g,0,none⟩) m c)) (hp:H.Perm (Hr++Hs)) (ho:Grow L e fz v n Hs l) (h1:OneC L)
 (hg:(g,Obj.cells cs.toArray e' (0,0))∈H) (hcs:cs=ys.flatMap Prod.snd) (hl2:ys.map Prod.fst=l2) (hys:∀ p∈ys,L.rep fz p.1 p.2) (hm:l2.length=m)
 (hb:(n+m)*Y.bytes≤140737488355328) (hm2:n+m≤9223372036854775807)
 (h:∀ v' Hs',Grow L e fz v' (n+m) Hs' (l++l2)→K v' fz (Hr++Hs')):
 Does P cx ⟨dst,.call {callee:=.builtin .append,args:=#[x,y],argTypes:=#[t,t]},ty,pos,af,gd⟩ r fz H K:=by
 obtain ⟨xs,h2,h3,h4,h5⟩:=ho
 have hlm:ys.length=m:=by rw [← hl2,List.length_map] at hm;exact hm
 have hzy:∀ p∈ys,p.2.length=L.size:=fun p hp=>L.len (hys p hp)
 subst hcs
 refine Ydp T (news:=ys.flatMap Prod.snd) hT hd hY hz hsz hx hy hp (by rw [hYL];exact h5) (by rw [Ybe hzy,hlm,hYL]) (YgI hg) (fun u hu=>?_) hb hm2 (fun v' Hs' hO=>h v' Hs' ⟨xs++ys,by rw [List.map_append,h2,hl2],fun p hp=>?_,by rw [List.length_append,h4,hm],by rw [List.flatMap_append,← hYL];exact hO⟩)
 ·obtain ⟨p,hp,hu⟩:=List.mem_flatMap.1 hu
  exact h1 _ _ _ (hys p hp) u hu
 ·rcases List.mem_append.1 hp with hp | hp
  ·exact h3 p hp
  ·exact hys p hp
theorem Y3 (T:Tab P) {t e e':TypeId} {x y:Operand} {X Y:Ty} {v:Value} {n c g:Nat} {l:List α} {d:α} {cs:List Value} {Hr Hs:HP} {K:Value→FZ→HP→Prop} (hT:T.inf t=some X) (hd:X.desc=.slice e) (hY:T.inf e=some Y) (hz:Y.zero.cells.size=Y.size) (hsz:Nat.blt 0 Y.size=true) (hYL:Y.size=L.size)
 (hx:r x=some v) (hy:r y=some (.slice (some ⟨g,0,none⟩) 1 c)) (hp:H.Perm (Hr++Hs)) (ho:Grow L e fz v n Hs l) (h1:OneC L)
 (hg:(g,Obj.cells cs.toArray e' (0,0))∈H) (hys:L.rep fz d cs)
 (hb:(n+1)*Y.bytes≤140737488355328) (hm2:n+1≤9223372036854775807)
 (h:∀ v' Hs',Grow L e fz v' (n+1) Hs' (l++ [d])→K v' fz (Hr++Hs')):
 Does P cx ⟨dst,.call {callee:=.builtin .append,args:=#[x,y],argTypes:=#[t,t]},ty,pos,af,gd⟩ r fz H K:=
 YhI T (ys:=[(d,cs)]) hT hd hY hz hsz hYL hx hy hp ho h1 hg (by simp) rfl (by simpa using hys) rfl hb hm2 h
theorem YaK (T:Tab P) {t e:TypeId} {x y:Operand} {X Y:Ty} {v:Value} {n m c:Nat} {B:Option Addr} {l l2:List α} {Hr Hs:HP} {K:Value→FZ→HP→Prop} (hT:T.inf t=some X) (hd:X.desc=.slice e) (hY:T.inf e=some Y) (hz:Y.zero.cells.size=Y.size) (hsz:Nat.blt 0 Y.size=true) (hYL:Y.size=L.size)
 (hx:r x=some v) (hy:r y=some (.slice B m c)) (hp:H.Perm (Hr++Hs)) (ho:Grow L e fz v n Hs l) (h1:OneC L) (hs:Sl L fz B m c l2)
 (hb:(n+m)*Y.bytes≤140737488355328) (hm2:n+m≤9223372036854775807)
 (h:∀ v' Hs',Grow L e fz v' (n+m) Hs' (l++l2)→K v' fz (Hr++Hs')):
 Does P cx ⟨dst,.call {callee:=.builtin .append,args:=#[x,y],argTypes:=#[t,t]},ty,pos,af,gd⟩ r fz H K:=by
 obtain ⟨xs,h2,h3,h4,h5⟩:=ho
 obtain ⟨ys,rfl,hys,hrow⟩:=hs.pairs
 have hlm:ys.length=m:=by have:=hs.len;rw [List.length_map] at this;exact this
 have hzy:∀ p∈ys,p.2.length=L.size:=fun p hp=>L.len (hys p hp)
 refine Ydp T (news:=ys.flatMap Prod.snd) hT hd hY hz hsz hx hy hp (by rw [hYL];exact h5) (by rw [Ybe hzy,hlm,hYL]) (src_row hrow) (fun u hu=>?_) hb hm2 (fun v' Hs' hO=>h v' Hs' ⟨xs++ys,by rw [List.map_append,h2],fun p hp=>?_,by rw [List.length_append,h4,hs.len],by rw [List.flatMap_append,← hYL];exact hO⟩)
 ·obtain ⟨p,hp,hu⟩:=List.mem_flatMap.1 hu
  exact h1 _ _ _ (hys p hp) u hu
 ·rcases List.mem_append.1 hp with hp | hp
  ·exact h3 p hp
  ·exact hys p hp
end
theorem Grow.block {α:Type} {L:Lay α} {e:Nat} {fz:FZ} {g m:Nat} {cs:List Value} {ys:List (α × List Value)} {l:List α} (hcs:cs=ys.flatMap Prod.snd) (hl:ys.map Prod.fst=l) (hys:∀ p∈ys,L.rep fz p.1 p.2) (hm:l.length=m) (hb:m≤9223372036854775807):
 Grow L e fz (.slice (some ⟨g,0,none⟩) m m) m [(g,.cells cs.toArray e (0,0))] l:=by
 subst hcs
 have hlm:ys.length=m:=by rw [← hl,List.length_map] at hm;exact hm
 exact ⟨ys,hl,hys,hm,OwnS.of_block (by rw [Ybe (fun p hp=>L.len (hys p hp)),hlm]) (by simpa [maxLen] using hb)⟩
theorem Xt {α:Type} {L:Lay α} {e:Nat} {fz:FZ} {g m:Nat} {cs:List Value} {ys:List (α × List Value)} {l:List α} (hg:fz g=some (.cells cs.toArray e (0,0))) (hcs:cs=ys.flatMap Prod.snd) (hl:ys.map Prod.fst=l) (hys:∀ p∈ys,L.rep fz p.1 p.2) (hm:l.length=m) (hb:m≤140737488355328):
 Sl L fz (some ⟨g,0,none⟩) m m l:=by
 have hG:=Grow.block (L:=L) (e:=e) (g:=g) hcs hl hys hm Zi
 obtain ⟨A,c,he,hs⟩:=hG.sl (Le.refl _) (fun p hp=>by simp at hp;subst hp;exact hg) hb
 injection he with e1 e2 e3
 subst e1 e3
 exact hs
section
variable {P:Program} {cx:Cx} {r:Operand→Option Value} {fz:FZ} {H:HP} {V:Value→Prop} {dst:Option Nat} {ty:TypeId} {pos:String} {af:Array Edge} {gd:Option (Nat × Bool)}
theorem Wx {t t':TypeId} {x y:Operand} {u v:ByteArray} (hx:r x=some (.string u)) (hy:r y=some (.string v)) (h:u=v) (k:V (.bool true)):DoesQ P cx ⟨dst,.binOp .eql t x y t',ty,pos,af,gd⟩ r fz H V:=
 YcL hx hy (fun _=>k) (fun h0=>absurd h h0)
theorem Wy {t t':TypeId} {x y:Operand} {u v:ByteArray} (hx:r x=some (.string u)) (hy:r y=some (.string v)) (h:¬u=v) (k:V (.bool false)):DoesQ P cx ⟨dst,.binOp .eql t x y t',ty,pos,af,gd⟩ r fz H V:=
 YcL hx hy (fun h0=>absurd h0 h) (fun _=>k)
theorem Wu {t t':TypeId} {x y:Operand} {u v:ByteArray} (hx:r x=some (.string u)) (hy:r y=some (.string v)) (h:¬u=v) (k:V (.bool true)):DoesQ P cx ⟨dst,.binOp .neq t x y t',ty,pos,af,gd⟩ r fz H V:=
 YcJ hx hy (fun _=>k) (fun h0=>absurd h0 h)
theorem Wv {t t':TypeId} {x y:Operand} {u v:ByteArray} (hx:r x=some (.string u)) (hy:r y=some (.string v)) (h:u=v) (k:V (.bool false)):DoesQ P cx ⟨dst,.binOp .neq t x y t',ty,pos,af,gd⟩ r fz H V:=
 YcJ hx hy (fun h0=>absurd h h0) (fun _=>k)
theorem Yc6 {t t':TypeId} {x y:Operand} {i:IntKind} {u v:Int} (hx:r x=some (.int i u)) (hy:r y=some (.int i v)) (h:u=v) (k:V (.bool true)):DoesQ P cx ⟨dst,.binOp .eql t x y t',ty,pos,af,gd⟩ r fz H V:=
 Yi7 hx hy (fun _=>k) (fun h0=>absurd h h0)
theorem Yc7 {t t':TypeId} {x y:Operand} {i:IntKind} {u v:Int} (hx:r x=some (.int i u)) (hy:r y=some (.int i v)) (h:¬u=v) (k:V (.bool false)):DoesQ P cx ⟨dst,.binOp .eql t x y t',ty,pos,af,gd⟩ r fz H V:=
 Yi7 hx hy (fun h0=>absurd h0 h) (fun _=>k)
theorem Wa {x:Operand} {p:Addr} (hx:r x=some (.pointer (some p))) (h:V (.pointer (some p))):DoesQ P cx ⟨dst,.nilCheck x,ty,pos,af,gd⟩ r fz H V:=
 Yy (fun ρ w hr=>by simp [execOp,hr _ _ hx]) h
end
theorem Xm {α:Type} {l l':List α} (is:List Nat) (h:is.isPerm (List.range l.length)=true) (e:is.filterMap (fun i=>l[i]?)=l'):l'.Perm l:=by
 have h1:=(List.isPerm_iff.1 h).filterMap (fun i=>l[i]?)
 rw [e] at h1
 have h2:(List.range l.length).filterMap (fun i=>l[i]?)=l:=by
  clear h1 h e
  induction l with
  | nil=>rfl
  | cons a r ih=>
   rw [List.length_cons,List.range_succ_eq_map,List.filterMap_cons]
   simp only [List.getElem?_cons_zero,List.filterMap_map]
   congr 1
 rw [h2] at h1
 exact h1
section
variable {P:Program} {cx:Cx} {n:Nat} {σ:Env} {fz:FZ} {H:HP} {Q:QQ}
def midQ (I:Env→FZ→HP→Prop) (Q:QQ):QQ
 | .normal,σ,fz,H=>(∃ σ' H1 H',Sub σ' σ∧H1.Perm H∧H'.Sublist H1∧I σ' fz H')∨(∃ σ' H' H2,Sub σ' σ∧(H'++H2).Perm H∧∀ fz',Le fz fz'→(∀ p∈H2,fz' p.1=some p.2)→I σ' fz' H')
 | e,σ,fz,H=>Q e σ fz H
theorem Wp.mid {c y:Code} (I:Env→FZ→HP→Prop) (hx:Wp P cx n c σ fz H (midQ I Q)) (hy:∀ σ fz H,I σ fz H→Wp P cx n y σ fz H Q):Wp P cx n c σ fz H (andThen P cx n y Q):=
 hx.mono fun e σ fz H h=>by
  cases e with
  | normal=>
   rcases h with ⟨σ',H1,H',h1,h2,h3,h4⟩ | ⟨σ',H',H2,h1,h2,h3⟩
   ·exact YbU (Wp.perm h2 (Wp.weaken h1 h3 (hy _ _ _ h4)))
   ·exact YbU (Wp.freezeAll h2.symm (fun fz' h5 h6=>Wp.weaken h1 (List.Sublist.refl _) (hy _ _ _ (h3 fz' h5 h6))))
  | _=>unfold andThen;exact h
theorem midN {I:Env→FZ→HP→Prop} {σ':Env} {H':HP} (hI:I σ' fz H') (hs:Sub σ' σ) (hh:H'.Sublist H):midQ I Q .normal σ fz H:=.inl ⟨σ',H,H',hs,List.Perm.refl _,hh,hI⟩
theorem midP {I:Env→FZ→HP→Prop} {σ':Env} {H1 H':HP} (hp:H1.Perm H) (hI:I σ' fz H') (hs:Sub σ' σ) (hh:H'.Sublist H1):midQ I Q .normal σ fz H:=.inl ⟨σ',H1,H',hs,hp,hh,hI⟩
theorem midF {I:Env→FZ→HP→Prop} {σ':Env} {H' H2:HP} (hp:(H'++H2).Perm H) (hI:∀ fz',Le fz fz'→(∀ p∈H2,fz' p.1=some p.2)→I σ' fz' H') (hs:Sub σ' σ):midQ I Q .normal σ fz H:=.inr ⟨σ',H',H2,hs,hp,hI⟩
theorem midX {I:Env→FZ→HP→Prop} {i:Nat} (h:Q (.exit i) σ fz H):midQ I Q (.exit i) σ fz H:=h
theorem midR {I:Env→FZ→HP→Prop} (h:Q .ret σ fz H):midQ I Q .ret σ fz H:=h
end
section
variable {P:Program} {cx:Cx} {n:Nat} {σ:Env} {fz:FZ} {H H' H2:HP} {fn:Func} {R:Value→FZ→HP→Prop}
theorem WF (T:Tab P) {p:Nat} {t t':TypeId} {X:Ty} {g i:Nat} {cs:List Value} {f:Nat × Nat} (hres:fn.results=#[.cell p t]) (hT:T.inf t=some X) (hd:isAggD X.desc=true) (hv:lk σ p=some (.pointer (some ⟨g,0,none⟩)))
 (hi:H[i]?=some (g,.cells cs.toArray t' f)) (hsz:X.size=cs.length) (hH:H'.Sublist H) (h:R (.agg cs.toArray) fz H'):retQ P cx n fn R .ret σ fz H:=XR T hres hT hd hv hi hsz (Yhv hH h)
theorem Yce (T:Tab P) {p:Nat} {t t':TypeId} {X:Ty} {g i:Nat} {cs:List Value} {f:Nat × Nat} (hres:fn.results=#[.cell p t]) (hT:T.inf t=some X) (hd:isAggD X.desc=true) (hv:lk σ p=some (.pointer (some ⟨g,0,none⟩)))
 (hi:H[i]?=some (g,.cells cs.toArray t' f)) (hsz:X.size=cs.length) (hp:(H'++H2).Perm H) (h:∀ fz',Le fz fz'→(∀ p∈H2,fz' p.1=some p.2)→R (.agg cs.toArray) fz' H'):retQ P cx n fn R .ret σ fz H:=XR T hres hT hd hv hi hsz (rOwn hp h)
theorem Ya1 (hres:fn.results=#[]) (hH:H'.Sublist H) (h:R (.tuple #[]) fz H'):retQ P cx n fn R .normal σ fz H:=by
 unfold retQ
 exact ⟨.tuple #[],fun a w hs hw=>by simp [results,hres],Yhv hH h⟩
end
end Go.Lx
