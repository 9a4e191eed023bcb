/-
  The types of the program, as the symbolic run reads them.
-/
import Derived.Test.YteddnnljmdjfbaaProg
import Derived.Test.YteddnnljmdjfbaaKitVk
namespace Go.Proofs.Yteddnnljmdjfbaa.V
open Go.RowKit Go.Proofs.Yteddnnljmdjfbaa
def ty1 : Ty := ⟨1, [.val .nilFunc], [], false, (0, 0), 8, .oth, none, none⟩
def ty2 : Ty := ⟨1, [.il .i64 0], [], false, (0, 0), 8, (.int .i64), (some (.int .i64)), none⟩
def ty3 : Ty := ⟨1, [.il .i64 0], [], false, (0, 0), 8, (.int .i64), (some (.int .i64)), none⟩
def ty4 : Ty := ⟨1, [.bl false], [], false, (0, 0), 1, .bool, (some .bool), none⟩
def ty5 : Ty := ⟨1, [.il .u8 0], [], false, (0, 0), 1, (.int .u8), (some (.int .u8)), none⟩
def ty9 : Ty := ⟨1, [.val (.string ByteArray.empty)], [], false, (0, 0), 16, .str, (some .str), none⟩
def ty12 : Ty := ⟨1, [.il .u64 0], [], false, (0, 0), 8, (.int .u64), (some (.int .u64)), none⟩
def ty17 : Ty := ⟨1, [.val (.pointer none)], [], false, (0, 0), 8, (.ptr 126), none, none⟩
def ty21 : Ty := ⟨1, [.il .i32 0], [], false, (0, 0), 4, (.int .i32), (some (.int .i32)), none⟩
def ty22 : Ty := ⟨1, [.val (.slice none 0 0)], [], false, (0, 0), 24, (.slice 38), (some (.sl (.pair (.int .i64) (.pair (.int .i64) (.pair (.pair (.int .i64) (.pair (.int .i64) (.pair (.int .i64) (.pair (.int .i64) (.int .i64))))) (.sl (.pair (.int .i64) (.pair (.int .i64) (.pair (.int .i64) (.pair (.int .i64) (.int .i64))))))))))), none⟩
def ty23 : Ty := ⟨1, [.val .nilFunc], [], false, (0, 0), 8, .oth, none, none⟩
def ty24 : Ty := ⟨1, [.val .nilFunc], [], false, (0, 0), 8, .oth, none, none⟩
def ty25 : Ty := ⟨1, [.val (.pointer none)], [], false, (0, 0), 8, (.ptr 30), none, none⟩
def ty26 : Ty := ⟨1, [.val (.slice none 0 0)], [], false, (0, 0), 24, (.slice 36), (some (.sl (.pair (.int .i64) (.pair (.int .i64) (.pair (.int .i64) (.pair (.int .i64) (.int .i64))))))), none⟩
def ty27 : Ty := ⟨1, [.val (.slice none 0 0)], [], false, (0, 0), 24, (.slice 3), (some (.sl (.int .i64))), none⟩
def ty28 : Ty := ⟨1, [.val (.slice none 0 0)], [], false, (0, 0), 24, (.slice 59), (some (.sl (.pair (.int .i64) (.int .i64)))), none⟩
def ty29 : Ty := ⟨4, [.val (.slice none 0 0), .val (.slice none 0 0), .val (.slice none 0 0), .bl false], [(0, 1, 26), (1, 1, 27), (2, 1, 28), (3, 1, 4)], true, (0, 0), 80, .oth, (some (.pair (.sl (.pair (.int .i64) (.pair (.int .i64) (.pair (.int .i64) (.pair (.int .i64) (.int .i64)))))) (.pair (.sl (.int .i64)) (.pair (.sl (.pair (.int .i64) (.int .i64))) .bool)))), none⟩
def ty30 : Ty := ⟨4, [.val (.slice none 0 0), .val (.slice none 0 0), .val (.slice none 0 0), .bl false], [(0, 1, 26), (1, 1, 27), (2, 1, 28), (3, 1, 4)], true, (0, 0), 80, .oth, (some (.pair (.sl (.pair (.int .i64) (.pair (.int .i64) (.pair (.int .i64) (.pair (.int .i64) (.int .i64)))))) (.pair (.sl (.int .i64)) (.pair (.sl (.pair (.int .i64) (.int .i64))) .bool)))), none⟩
def ty31 : Ty := ⟨1, [.val (.pointer none)], [], false, (0, 0), 8, (.ptr 34), none, none⟩
def ty32 : Ty := ⟨1, [.val (.slice none 0 0)], [], false, (0, 0), 24, (.slice 56), (some (.sl (.pair (.pair (.int .i64) (.pair (.int .i64) (.pair (.int .i64) (.pair (.int .i64) (.int .i64))))) (.int .i64)))), none⟩
def ty33 : Ty := ⟨3, [.val (.slice none 0 0), .val (.slice none 0 0), .bl false], [(0, 1, 32), (1, 1, 27), (2, 1, 4)], true, (0, 0), 56, .oth, (some (.pair (.sl (.pair (.pair (.int .i64) (.pair (.int .i64) (.pair (.int .i64) (.pair (.int .i64) (.int .i64))))) (.int .i64))) (.pair (.sl (.int .i64)) .bool))), none⟩
def ty34 : Ty := ⟨3, [.val (.slice none 0 0), .val (.slice none 0 0), .bl false], [(0, 1, 32), (1, 1, 27), (2, 1, 4)], true, (0, 0), 56, .oth, (some (.pair (.sl (.pair (.pair (.int .i64) (.pair (.int .i64) (.pair (.int .i64) (.pair (.int .i64) (.int .i64))))) (.int .i64))) (.pair (.sl (.int .i64)) .bool))), none⟩
def ty35 : Ty := ⟨5, [.il .i64 0, .il .i64 0, .il .i64 0, .il .i64 0, .il .i64 0], [(0, 1, 3), (1, 1, 3), (2, 1, 3), (3, 1, 3), (4, 1, 2)], true, (0, 0), 40, .oth, (some (.pair (.int .i64) (.pair (.int .i64) (.pair (.int .i64) (.pair (.int .i64) (.int .i64)))))), (some [.int .i64, .int .i64, .int .i64, .int .i64, .int .i64])⟩
def ty36 : Ty := ⟨5, [.il .i64 0, .il .i64 0, .il .i64 0, .il .i64 0, .il .i64 0], [(0, 1, 3), (1, 1, 3), (2, 1, 3), (3, 1, 3), (4, 1, 2)], true, (0, 0), 40, .oth, (some (.pair (.int .i64) (.pair (.int .i64) (.pair (.int .i64) (.pair (.int .i64) (.int .i64)))))), (some [.int .i64, .int .i64, .int .i64, .int .i64, .int .i64])⟩
def ty37 : Ty := ⟨8, [.il .i64 0, .il .i64 0, .il .i64 0, .il .i64 0, .il .i64 0, .il .i64 0, .il .i64 0, .val (.slice none 0 0)], [(0, 1, 3), (1, 1, 3), (2, 5, 36), (7, 1, 26)], true, (0, 0), 80, .oth, (some (.pair (.int .i64) (.pair (.int .i64) (.pair (.pair (.int .i64) (.pair (.int .i64) (.pair (.int .i64) (.pair (.int .i64) (.int .i64))))) (.sl (.pair (.int .i64) (.pair (.int .i64) (.pair (.int .i64) (.pair (.int .i64) (.int .i64)))))))))), none⟩
def ty38 : Ty := ⟨8, [.il .i64 0, .il .i64 0, .il .i64 0, .il .i64 0, .il .i64 0, .il .i64 0, .il .i64 0, .val (.slice none 0 0)], [(0, 1, 3), (1, 1, 3), (2, 5, 36), (7, 1, 26)], true, (0, 0), 80, .oth, (some (.pair (.int .i64) (.pair (.int .i64) (.pair (.pair (.int .i64) (.pair (.int .i64) (.pair (.int .i64) (.pair (.int .i64) (.int .i64))))) (.sl (.pair (.int .i64) (.pair (.int .i64) (.pair (.int .i64) (.pair (.int .i64) (.int .i64)))))))))), none⟩
def ty39 : Ty := ⟨1, [.val .nilFunc], [], false, (0, 0), 8, .oth, none, none⟩
def ty40 : Ty := ⟨1, [.val .nilFunc], [], false, (0, 0), 8, .oth, none, none⟩
def ty41 : Ty := ⟨1, [.val .nilFunc], [], false, (0, 0), 8, .oth, none, none⟩
def ty42 : Ty := ⟨1, [.val .nilFunc], [], false, (0, 0), 8, .oth, none, none⟩
def ty43 : Ty := ⟨1, [.val (.slice none 0 0)], [], false, (0, 0), 24, (.slice 61), (some (.sl (.int .u64))), none⟩
def ty44 : Ty := ⟨1, [.il .i64 0], [], false, (0, 0), 8, (.int .i64), (some (.int .i64)), none⟩
def ty46 : Ty := ⟨1, [.val .nilFunc], [], false, (0, 0), 8, .oth, none, none⟩
def ty48 : Ty := ⟨1, [.val .nilFunc], [], false, (0, 0), 8, .oth, none, none⟩
def ty49 : Ty := ⟨1, [.val .nilFunc], [], false, (0, 0), 8, .oth, none, none⟩
def ty50 : Ty := ⟨1, [.val .nilFunc], [], false, (0, 0), 8, .oth, none, none⟩
def ty51 : Ty := ⟨1, [.val .nilFunc], [], false, (0, 0), 8, .oth, none, none⟩
def ty52 : Ty := ⟨1, [.val .nilFunc], [], false, (0, 0), 8, .oth, none, none⟩
def ty53 : Ty := ⟨1, [.val .nilFunc], [], false, (0, 0), 8, .oth, none, none⟩
def ty54 : Ty := ⟨1, [.val .nilFunc], [], false, (0, 0), 8, .oth, none, none⟩
def ty55 : Ty := ⟨6, [.il .i64 0, .il .i64 0, .il .i64 0, .il .i64 0, .il .i64 0, .il .i64 0], [(0, 5, 36), (5, 1, 3)], true, (0, 0), 48, .oth, (some (.pair (.pair (.int .i64) (.pair (.int .i64) (.pair (.int .i64) (.pair (.int .i64) (.int .i64))))) (.int .i64))), (some [.int .i64, .int .i64, .int .i64, .int .i64, .int .i64, .int .i64])⟩
def ty56 : Ty := ⟨6, [.il .i64 0, .il .i64 0, .il .i64 0, .il .i64 0, .il .i64 0, .il .i64 0], [(0, 5, 36), (5, 1, 3)], true, (0, 0), 48, .oth, (some (.pair (.pair (.int .i64) (.pair (.int .i64) (.pair (.int .i64) (.pair (.int .i64) (.int .i64))))) (.int .i64))), (some [.int .i64, .int .i64, .int .i64, .int .i64, .int .i64, .int .i64])⟩
def ty57 : Ty := ⟨1, [.val .nilFunc], [], false, (0, 0), 8, .oth, none, none⟩
def ty58 : Ty := ⟨2, [.il .i64 0, .il .i64 0], [(0, 1, 3), (1, 1, 3)], true, (0, 0), 16, .oth, (some (.pair (.int .i64) (.int .i64))), (some [.int .i64, .int .i64])⟩
def ty59 : Ty := ⟨2, [.il .i64 0, .il .i64 0], [(0, 1, 3), (1, 1, 3)], true, (0, 0), 16, .oth, (some (.pair (.int .i64) (.int .i64))), (some [.int .i64, .int .i64])⟩
def ty60 : Ty := ⟨1, [.val .nilFunc], [], false, (0, 0), 8, .oth, none, none⟩
def ty61 : Ty := ⟨1, [.il .u64 0], [], false, (0, 0), 8, (.int .u64), (some (.int .u64)), none⟩
def ty63 : Ty := ⟨1, [.val .nilFunc], [], false, (0, 0), 8, .oth, none, none⟩
def ty65 : Ty := ⟨1, [.val .nilFunc], [], false, (0, 0), 8, .oth, none, none⟩
def ty66 : Ty := ⟨1, [.val .nilFunc], [], false, (0, 0), 8, .oth, none, none⟩
def ty67 : Ty := ⟨1, [.il .u64 0], [], false, (0, 0), 8, (.int .u64), (some (.int .u64)), none⟩
def ty68 : Ty := ⟨1, [.val .nilFunc], [], false, (0, 0), 8, .oth, none, none⟩
def ty69 : Ty := ⟨1, [.val .nilFunc], [], false, (0, 0), 8, .oth, none, none⟩
def ty70 : Ty := ⟨1, [.val .nilFunc], [], false, (0, 0), 8, .oth, none, none⟩
def ty71 : Ty := ⟨1, [.val .nilFunc], [], false, (0, 0), 8, .oth, none, none⟩
def ty72 : Ty := ⟨0, [], [], true, (0, 0), 0, .oth, (some .unit), (some [])⟩
def ty73 : Ty := ⟨0, [], [], true, (0, 0), 0, .oth, (some .unit), (some [])⟩
def ty74 : Ty := ⟨0, [], [], true, (0, 0), 0, .oth, (some .unit), (some [])⟩
def ty75 : Ty := ⟨1, [.il .u32 0], [], false, (0, 0), 4, (.int .u32), (some (.int .u32)), none⟩
def ty78 : Ty := ⟨2, [.il .i32 0, .il .u32 0], [(0, 1, 21), (1, 1, 75)], true, (0, 0), 8, .oth, (some (.pair (.int .i32) (.int .u32))), (some [.int .i32, .int .u32])⟩
def ty84 : Ty := ⟨23, [.val (.string ByteArray.empty), .val (.string ByteArray.empty), .val (.string ByteArray.empty), .val (.string ByteArray.empty), .val (.string ByteArray.empty), .val (.string ByteArray.empty), .val (.string ByteArray.empty), .val (.string ByteArray.empty), .val (.string ByteArray.empty), .val (.string ByteArray.empty), .val (.string ByteArray.empty), .val (.string ByteArray.empty), .val (.string ByteArray.empty), .val (.string ByteArray.empty), .val (.string ByteArray.empty), .val (.string ByteArray.empty), .val (.string ByteArray.empty), .val (.string ByteArray.empty), .val (.string ByteArray.empty), .val (.string ByteArray.empty), .val (.string ByteArray.empty), .val (.string ByteArray.empty), .val (.string ByteArray.empty)], [], true, (23, 9), 368, .oth, none, (some [.str, .str, .str, .str, .str, .str, .str, .str, .str, .str, .str, .str, .str, .str, .str, .str, .str, .str, .str, .str, .str, .str, .str])⟩
def ty85 : Ty := ⟨26, [.il .u32 0, .il .i32 0, .il .u32 0, .val (.string ByteArray.empty), .val (.string ByteArray.empty), .val (.string ByteArray.empty), .val (.string ByteArray.empty), .val (.string ByteArray.empty), .val (.string ByteArray.empty), .val (.string ByteArray.empty), .val (.string ByteArray.empty), .val (.string ByteArray.empty), .val (.string ByteArray.empty), .val (.string ByteArray.empty), .val (.string ByteArray.empty), .val (.string ByteArray.empty), .val (.string ByteArray.empty), .val (.string ByteArray.empty), .val (.string ByteArray.empty), .val (.string ByteArray.empty), .val (.string ByteArray.empty), .val (.string ByteArray.empty), .val (.string ByteArray.empty), .val (.string ByteArray.empty), .val (.string ByteArray.empty), .val (.string ByteArray.empty)], [(0, 3, 83), (3, 23, 84)], true, (0, 0), 384, .oth, none, none⟩
def ty86 : Ty := ⟨26, [.il .u32 0, .il .i32 0, .il .u32 0, .val (.string ByteArray.empty), .val (.string ByteArray.empty), .val (.string ByteArray.empty), .val (.string ByteArray.empty), .val (.string ByteArray.empty), .val (.string ByteArray.empty), .val (.string ByteArray.empty), .val (.string ByteArray.empty), .val (.string ByteArray.empty), .val (.string ByteArray.empty), .val (.string ByteArray.empty), .val (.string ByteArray.empty), .val (.string ByteArray.empty), .val (.string ByteArray.empty), .val (.string ByteArray.empty), .val (.string ByteArray.empty), .val (.string ByteArray.empty), .val (.string ByteArray.empty), .val (.string ByteArray.empty), .val (.string ByteArray.empty), .val (.string ByteArray.empty), .val (.string ByteArray.empty), .val (.string ByteArray.empty)], [(0, 3, 83), (3, 23, 84)], true, (0, 0), 384, .oth, none, none⟩
def ty87 : Ty := ⟨1, [.val .nilFunc], [], false, (0, 0), 8, .oth, none, none⟩
def ty88 : Ty := ⟨1, [.val .nilFunc], [], false, (0, 0), 8, .oth, none, none⟩
def ty89 : Ty := ⟨1, [.val (.pointer none)], [], false, (0, 0), 8, (.ptr 83), none, none⟩
def ty90 : Ty := ⟨1, [.val (.pointer none)], [], false, (0, 0), 8, (.ptr 86), none, none⟩
def ty92 : Ty := ⟨1, [.val (.pointer none)], [], false, (0, 0), 8, (.ptr 77), none, none⟩
def ty93 : Ty := ⟨1, [.val .nilFunc], [], false, (0, 0), 8, .oth, none, none⟩
def ty94 : Ty := ⟨1, [.val (.pointer none)], [], false, (0, 0), 8, (.ptr 75), none, none⟩
def ty95 : Ty := ⟨1, [.val .nilFunc], [], false, (0, 0), 8, .oth, none, none⟩
def ty96 : Ty := ⟨1, [.val .nilFunc], [], false, (0, 0), 8, .oth, none, none⟩
def ty97 : Ty := ⟨1, [.val .nilFunc], [], false, (0, 0), 8, .oth, none, none⟩
def ty98 : Ty := ⟨1, [.val (.pointer none)], [], false, (0, 0), 8, (.ptr 81), none, none⟩
def ty99 : Ty := ⟨1, [.val .nilFunc], [], false, (0, 0), 8, .oth, none, none⟩
def ty100 : Ty := ⟨1, [.val .nilFunc], [], false, (0, 0), 8, .oth, none, none⟩
def ty102 : Ty := ⟨1, [.val .nilFunc], [], false, (0, 0), 8, .oth, none, none⟩
def ty103 : Ty := ⟨1, [.val (.pointer none)], [], false, (0, 0), 8, (.ptr 79), none, none⟩
def ty104 : Ty := ⟨1, [.val .nilFunc], [], false, (0, 0), 8, .oth, none, none⟩
def ty105 : Ty := ⟨1, [.val (.pointer none)], [], false, (0, 0), 8, (.ptr 21), none, none⟩
def ty106 : Ty := ⟨1, [.val .nilFunc], [], false, (0, 0), 8, .oth, none, none⟩
def ty108 : Ty := ⟨1, [.val .nilFunc], [], false, (0, 0), 8, .oth, none, none⟩
def ty109 : Ty := ⟨1, [.val .nilFunc], [], false, (0, 0), 8, .oth, none, none⟩
def ty110 : Ty := ⟨1, [.val .nilFunc], [], false, (0, 0), 8, .oth, none, none⟩
def ty111 : Ty := ⟨1, [.val .nilFunc], [], false, (0, 0), 8, .oth, none, none⟩
def ty112 : Ty := ⟨1, [.val .nilFunc], [], false, (0, 0), 8, .oth, none, none⟩
def ty113 : Ty := ⟨1, [.val .nilFunc], [], false, (0, 0), 8, .oth, none, none⟩
def ty121 : Ty := ⟨1, [.val .nilFunc], [], false, (0, 0), 8, .oth, none, none⟩
def ty122 : Ty := ⟨1, [.val (.pointer none)], [], false, (0, 0), 8, (.ptr 5), none, none⟩
def ty125 : Ty := ⟨11, [.il .u64 0, .il .u64 0, .il .u32 0, .il .u8 0, .il .u8 0, .il .u8 0, .il .u8 0, .val .nilFunc, .val (.pointer none), .il .i32 0, .il .i32 0], [(0, 1, 12), (1, 1, 12), (2, 1, 75), (3, 1, 119), (4, 1, 5), (5, 1, 5), (6, 1, 120), (7, 1, 121), (8, 1, 122), (9, 1, 123), (10, 1, 124)], true, (0, 0), 48, .oth, none, none⟩
def Tbl : Tb
  | 1 => some ty1
  | 2 => some ty2
  | 3 => some ty3
  | 4 => some ty4
  | 5 => some ty5
  | 9 => some ty9
  | 12 => some ty12
  | 17 => some ty17
  | 21 => some ty21
  | 22 => some ty22
  | 23 => some ty23
  | 24 => some ty24
  | 25 => some ty25
  | 26 => some ty26
  | 27 => some ty27
  | 28 => some ty28
  | 29 => some ty29
  | 30 => some ty30
  | 31 => some ty31
  | 32 => some ty32
  | 33 => some ty33
  | 34 => some ty34
  | 35 => some ty35
  | 36 => some ty36
  | 37 => some ty37
  | 38 => some ty38
  | 39 => some ty39
  | 40 => some ty40
  | 41 => some ty41
  | 42 => some ty42
  | 43 => some ty43
  | 44 => some ty44
  | 46 => some ty46
  | 48 => some ty48
  | 49 => some ty49
  | 50 => some ty50
  | 51 => some ty51
  | 52 => some ty52
  | 53 => some ty53
  | 54 => some ty54
  | 55 => some ty55
  | 56 => some ty56
  | 57 => some ty57
  | 58 => some ty58
  | 59 => some ty59
  | 60 => some ty60
  | 61 => some ty61
  | 63 => some ty63
  | 65 => some ty65
  | 66 => some ty66
  | 67 => some ty67
  | 68 => some ty68
  | 69 => some ty69
  | 70 => some ty70
  | 71 => some ty71
  | 72 => some ty72
  | 73 => some ty73
  | 74 => some ty74
  | 75 => some ty75
  | 78 => some ty78
  | 84 => some ty84
  | 85 => some ty85
  | 86 => some ty86
  | 87 => some ty87
  | 88 => some ty88
  | 89 => some ty89
  | 90 => some ty90
  | 92 => some ty92
  | 93 => some ty93
  | 94 => some ty94
  | 95 => some ty95
  | 96 => some ty96
  | 97 => some ty97
  | 98 => some ty98
  | 99 => some ty99
  | 100 => some ty100
  | 102 => some ty102
  | 103 => some ty103
  | 104 => some ty104
  | 105 => some ty105
  | 106 => some ty106
  | 108 => some ty108
  | 109 => some ty109
  | 110 => some ty110
  | 111 => some ty111
  | 112 => some ty112
  | 113 => some ty113
  | 121 => some ty121
  | 122 => some ty122
  | 125 => some ty125
  | _ => none
theorem tyOk1 : TyOk Try.prog 1 ty1 := tyB_ok (by kernel_rfl)
theorem tyOk2 : TyOk Try.prog 2 ty2 := tyB_ok (by kernel_rfl)
theorem tyOk3 : TyOk Try.prog 3 ty3 := tyB_ok (by kernel_rfl)
theorem tyOk4 : TyOk Try.prog 4 ty4 := tyB_ok (by kernel_rfl)
theorem tyOk5 : TyOk Try.prog 5 ty5 := tyB_ok (by kernel_rfl)
theorem tyOk9 : TyOk Try.prog 9 ty9 := tyB_ok (by kernel_rfl)
theorem tyOk12 : TyOk Try.prog 12 ty12 := tyB_ok (by kernel_rfl)
theorem tyOk17 : TyOk Try.prog 17 ty17 := tyB_ok (by kernel_rfl)
theorem tyOk21 : TyOk Try.prog 21 ty21 := tyB_ok (by kernel_rfl)
theorem tyOk22 : TyOk Try.prog 22 ty22 := tyB_ok (by kernel_rfl)
theorem tyOk23 : TyOk Try.prog 23 ty23 := tyB_ok (by kernel_rfl)
theorem tyOk24 : TyOk Try.prog 24 ty24 := tyB_ok (by kernel_rfl)
theorem tyOk25 : TyOk Try.prog 25 ty25 := tyB_ok (by kernel_rfl)
theorem tyOk26 : TyOk Try.prog 26 ty26 := tyB_ok (by kernel_rfl)
theorem tyOk27 : TyOk Try.prog 27 ty27 := tyB_ok (by kernel_rfl)
theorem tyOk28 : TyOk Try.prog 28 ty28 := tyB_ok (by kernel_rfl)
theorem tyOk29 : TyOk Try.prog 29 ty29 := tyB_ok (by kernel_rfl)
theorem tyOk30 : TyOk Try.prog 30 ty30 := tyB_ok (by kernel_rfl)
theorem tyOk31 : TyOk Try.prog 31 ty31 := tyB_ok (by kernel_rfl)
theorem tyOk32 : TyOk Try.prog 32 ty32 := tyB_ok (by kernel_rfl)
theorem tyOk33 : TyOk Try.prog 33 ty33 := tyB_ok (by kernel_rfl)
theorem tyOk34 : TyOk Try.prog 34 ty34 := tyB_ok (by kernel_rfl)
theorem tyOk35 : TyOk Try.prog 35 ty35 := tyB_ok (by kernel_rfl)
theorem tyOk36 : TyOk Try.prog 36 ty36 := tyB_ok (by kernel_rfl)
theorem tyOk37 : TyOk Try.prog 37 ty37 := tyB_ok (by kernel_rfl)
theorem tyOk38 : TyOk Try.prog 38 ty38 := tyB_ok (by kernel_rfl)
theorem tyOk39 : TyOk Try.prog 39 ty39 := tyB_ok (by kernel_rfl)
theorem tyOk40 : TyOk Try.prog 40 ty40 := tyB_ok (by kernel_rfl)
theorem tyOk41 : TyOk Try.prog 41 ty41 := tyB_ok (by kernel_rfl)
theorem tyOk42 : TyOk Try.prog 42 ty42 := tyB_ok (by kernel_rfl)
theorem tyOk43 : TyOk Try.prog 43 ty43 := tyB_ok (by kernel_rfl)
theorem tyOk44 : TyOk Try.prog 44 ty44 := tyB_ok (by kernel_rfl)
theorem tyOk46 : TyOk Try.prog 46 ty46 := tyB_ok (by kernel_rfl)
theorem tyOk48 : TyOk Try.prog 48 ty48 := tyB_ok (by kernel_rfl)
theorem tyOk49 : TyOk Try.prog 49 ty49 := tyB_ok (by kernel_rfl)
theorem tyOk50 : TyOk Try.prog 50 ty50 := tyB_ok (by kernel_rfl)
theorem tyOk51 : TyOk Try.prog 51 ty51 := tyB_ok (by kernel_rfl)
theorem tyOk52 : TyOk Try.prog 52 ty52 := tyB_ok (by kernel_rfl)
theorem tyOk53 : TyOk Try.prog 53 ty53 := tyB_ok (by kernel_rfl)
theorem tyOk54 : TyOk Try.prog 54 ty54 := tyB_ok (by kernel_rfl)
theorem tyOk55 : TyOk Try.prog 55 ty55 := tyB_ok (by kernel_rfl)
theorem tyOk56 : TyOk Try.prog 56 ty56 := tyB_ok (by kernel_rfl)
theorem tyOk57 : TyOk Try.prog 57 ty57 := tyB_ok (by kernel_rfl)
theorem tyOk58 : TyOk Try.prog 58 ty58 := tyB_ok (by kernel_rfl)
theorem tyOk59 : TyOk Try.prog 59 ty59 := tyB_ok (by kernel_rfl)
theorem tyOk60 : TyOk Try.prog 60 ty60 := tyB_ok (by kernel_rfl)
theorem tyOk61 : TyOk Try.prog 61 ty61 := tyB_ok (by kernel_rfl)
theorem tyOk63 : TyOk Try.prog 63 ty63 := tyB_ok (by kernel_rfl)
theorem tyOk65 : TyOk Try.prog 65 ty65 := tyB_ok (by kernel_rfl)
theorem tyOk66 : TyOk Try.prog 66 ty66 := tyB_ok (by kernel_rfl)
theorem tyOk67 : TyOk Try.prog 67 ty67 := tyB_ok (by kernel_rfl)
theorem tyOk68 : TyOk Try.prog 68 ty68 := tyB_ok (by kernel_rfl)
theorem tyOk69 : TyOk Try.prog 69 ty69 := tyB_ok (by kernel_rfl)
theorem tyOk70 : TyOk Try.prog 70 ty70 := tyB_ok (by kernel_rfl)
theorem tyOk71 : TyOk Try.prog 71 ty71 := tyB_ok (by kernel_rfl)
theorem tyOk72 : TyOk Try.prog 72 ty72 := tyB_ok (by kernel_rfl)
theorem tyOk73 : TyOk Try.prog 73 ty73 := tyB_ok (by kernel_rfl)
theorem tyOk74 : TyOk Try.prog 74 ty74 := tyB_ok (by kernel_rfl)
theorem tyOk75 : TyOk Try.prog 75 ty75 := tyB_ok (by kernel_rfl)
theorem tyOk78 : TyOk Try.prog 78 ty78 := tyB_ok (by kernel_rfl)
theorem tyOk84 : TyOk Try.prog 84 ty84 := tyB_ok (by kernel_rfl)
theorem tyOk85 : TyOk Try.prog 85 ty85 := tyB_ok (by kernel_rfl)
theorem tyOk86 : TyOk Try.prog 86 ty86 := tyB_ok (by kernel_rfl)
theorem tyOk87 : TyOk Try.prog 87 ty87 := tyB_ok (by kernel_rfl)
theorem tyOk88 : TyOk Try.prog 88 ty88 := tyB_ok (by kernel_rfl)
theorem tyOk89 : TyOk Try.prog 89 ty89 := tyB_ok (by kernel_rfl)
theorem tyOk90 : TyOk Try.prog 90 ty90 := tyB_ok (by kernel_rfl)
theorem tyOk92 : TyOk Try.prog 92 ty92 := tyB_ok (by kernel_rfl)
theorem tyOk93 : TyOk Try.prog 93 ty93 := tyB_ok (by kernel_rfl)
theorem tyOk94 : TyOk Try.prog 94 ty94 := tyB_ok (by kernel_rfl)
theorem tyOk95 : TyOk Try.prog 95 ty95 := tyB_ok (by kernel_rfl)
theorem tyOk96 : TyOk Try.prog 96 ty96 := tyB_ok (by kernel_rfl)
theorem tyOk97 : TyOk Try.prog 97 ty97 := tyB_ok (by kernel_rfl)
theorem tyOk98 : TyOk Try.prog 98 ty98 := tyB_ok (by kernel_rfl)
theorem tyOk99 : TyOk Try.prog 99 ty99 := tyB_ok (by kernel_rfl)
theorem tyOk100 : TyOk Try.prog 100 ty100 := tyB_ok (by kernel_rfl)
theorem tyOk102 : TyOk Try.prog 102 ty102 := tyB_ok (by kernel_rfl)
theorem tyOk103 : TyOk Try.prog 103 ty103 := tyB_ok (by kernel_rfl)
theorem tyOk104 : TyOk Try.prog 104 ty104 := tyB_ok (by kernel_rfl)
theorem tyOk105 : TyOk Try.prog 105 ty105 := tyB_ok (by kernel_rfl)
theorem tyOk106 : TyOk Try.prog 106 ty106 := tyB_ok (by kernel_rfl)
theorem tyOk108 : TyOk Try.prog 108 ty108 := tyB_ok (by kernel_rfl)
theorem tyOk109 : TyOk Try.prog 109 ty109 := tyB_ok (by kernel_rfl)
theorem tyOk110 : TyOk Try.prog 110 ty110 := tyB_ok (by kernel_rfl)
theorem tyOk111 : TyOk Try.prog 111 ty111 := tyB_ok (by kernel_rfl)
theorem tyOk112 : TyOk Try.prog 112 ty112 := tyB_ok (by kernel_rfl)
theorem tyOk113 : TyOk Try.prog 113 ty113 := tyB_ok (by kernel_rfl)
theorem tyOk121 : TyOk Try.prog 121 ty121 := tyB_ok (by kernel_rfl)
theorem tyOk122 : TyOk Try.prog 122 ty122 := tyB_ok (by kernel_rfl)
theorem tyOk125 : TyOk Try.prog 125 ty125 := tyB_ok (by kernel_rfl)
theorem Tbl_ok : ∀ t i, Tbl t = some i → TyOk Try.prog t i := by
  intro t i h
  unfold Tbl at h
  split at h <;> cases h
  · exact tyOk1
  · exact tyOk2
  · exact tyOk3
  · exact tyOk4
  · exact tyOk5
  · exact tyOk9
  · exact tyOk12
  · exact tyOk17
  · exact tyOk21
  · exact tyOk22
  · exact tyOk23
  · exact tyOk24
  · exact tyOk25
  · exact tyOk26
  · exact tyOk27
  · exact tyOk28
  · exact tyOk29
  · exact tyOk30
  · exact tyOk31
  · exact tyOk32
  · exact tyOk33
  · exact tyOk34
  · exact tyOk35
  · exact tyOk36
  · exact tyOk37
  · exact tyOk38
  · exact tyOk39
  · exact tyOk40
  · exact tyOk41
  · exact tyOk42
  · exact tyOk43
  · exact tyOk44
  · exact tyOk46
  · exact tyOk48
  · exact tyOk49
  · exact tyOk50
  · exact tyOk51
  · exact tyOk52
  · exact tyOk53
  · exact tyOk54
  · exact tyOk55
  · exact tyOk56
  · exact tyOk57
  · exact tyOk58
  · exact tyOk59
  · exact tyOk60
  · exact tyOk61
  · exact tyOk63
  · exact tyOk65
  · exact tyOk66
  · exact tyOk67
  · exact tyOk68
  · exact tyOk69
  · exact tyOk70
  · exact tyOk71
  · exact tyOk72
  · exact tyOk73
  · exact tyOk74
  · exact tyOk75
  · exact tyOk78
  · exact tyOk84
  · exact tyOk85
  · exact tyOk86
  · exact tyOk87
  · exact tyOk88
  · exact tyOk89
  · exact tyOk90
  · exact tyOk92
  · exact tyOk93
  · exact tyOk94
  · exact tyOk95
  · exact tyOk96
  · exact tyOk97
  · exact tyOk98
  · exact tyOk99
  · exact tyOk100
  · exact tyOk102
  · exact tyOk103
  · exact tyOk104
  · exact tyOk105
  · exact tyOk106
  · exact tyOk108
  · exact tyOk109
  · exact tyOk110
  · exact tyOk111
  · exact tyOk112
  · exact tyOk113
  · exact tyOk121
  · exact tyOk122
  · exact tyOk125
theorem mixed : Try.prog.follows .mixedOrders = true := by kernel_rfl
theorem call3 : CallOk Try.prog 3 := ⟨_, Try.func3, by kernel_rfl, by kernel_rfl⟩
theorem call4 : CallOk Try.prog 4 := ⟨_, Try.func4, by kernel_rfl, by kernel_rfl⟩
theorem call5 : CallOk Try.prog 5 := ⟨_, Try.func5, by kernel_rfl, by kernel_rfl⟩
theorem call6 : CallOk Try.prog 6 := ⟨_, Try.func6, by kernel_rfl, by kernel_rfl⟩
theorem call7 : CallOk Try.prog 7 := ⟨_, Try.func7, by kernel_rfl, by kernel_rfl⟩
theorem call8 : CallOk Try.prog 8 := ⟨_, Try.func8, by kernel_rfl, by kernel_rfl⟩
theorem call9 : CallOk Try.prog 9 := ⟨_, Try.func9, by kernel_rfl, by kernel_rfl⟩
theorem call10 : CallOk Try.prog 10 := ⟨_, Try.func10, by kernel_rfl, by kernel_rfl⟩
theorem call11 : CallOk Try.prog 11 := ⟨_, Try.func11, by kernel_rfl, by kernel_rfl⟩
theorem call12 : CallOk Try.prog 12 := ⟨_, Try.func12, by kernel_rfl, by kernel_rfl⟩
theorem call13 : CallOk Try.prog 13 := ⟨_, Try.func13, by kernel_rfl, by kernel_rfl⟩
theorem call14 : CallOk Try.prog 14 := ⟨_, Try.func14, by kernel_rfl, by kernel_rfl⟩
theorem call15 : CallOk Try.prog 15 := ⟨_, Try.func15, by kernel_rfl, by kernel_rfl⟩
theorem call16 : CallOk Try.prog 16 := ⟨_, Try.func16, by kernel_rfl, by kernel_rfl⟩
theorem call17 : CallOk Try.prog 17 := ⟨_, Try.func17, by kernel_rfl, by kernel_rfl⟩
theorem call18 : CallOk Try.prog 18 := ⟨_, Try.func18, by kernel_rfl, by kernel_rfl⟩
theorem call19 : CallOk Try.prog 19 := ⟨_, Try.func19, by kernel_rfl, by kernel_rfl⟩
theorem call20 : CallOk Try.prog 20 := ⟨_, Try.func20, by kernel_rfl, by kernel_rfl⟩
theorem call21 : CallOk Try.prog 21 := ⟨_, Try.func21, by kernel_rfl, by kernel_rfl⟩
theorem call22 : CallOk Try.prog 22 := ⟨_, Try.func22, by kernel_rfl, by kernel_rfl⟩
theorem call23 : CallOk Try.prog 23 := ⟨_, Try.func23, by kernel_rfl, by kernel_rfl⟩
theorem call24 : CallOk Try.prog 24 := ⟨_, Try.func24, by kernel_rfl, by kernel_rfl⟩
theorem call25 : CallOk Try.prog 25 := ⟨_, Try.func25, by kernel_rfl, by kernel_rfl⟩
theorem call26 : CallOk Try.prog 26 := ⟨_, Try.func26, by kernel_rfl, by kernel_rfl⟩
theorem call27 : CallOk Try.prog 27 := ⟨_, Try.func27, by kernel_rfl, by kernel_rfl⟩
theorem call28 : CallOk Try.prog 28 := ⟨_, Try.func28, by kernel_rfl, by kernel_rfl⟩
theorem call29 : CallOk Try.prog 29 := ⟨_, Try.func29, by kernel_rfl, by kernel_rfl⟩
theorem call30 : CallOk Try.prog 30 := ⟨_, Try.func30, by kernel_rfl, by kernel_rfl⟩
theorem call31 : CallOk Try.prog 31 := ⟨_, Try.func31, by kernel_rfl, by kernel_rfl⟩
theorem call33 : CallOk Try.prog 33 := ⟨_, Try.func33, by kernel_rfl, by kernel_rfl⟩
theorem call34 : CallOk Try.prog 34 := ⟨_, Try.func34, by kernel_rfl, by kernel_rfl⟩
theorem call35 : CallOk Try.prog 35 := ⟨_, Try.func35, by kernel_rfl, by kernel_rfl⟩
theorem call37 : CallOk Try.prog 37 := ⟨_, Try.func37, by kernel_rfl, by kernel_rfl⟩
theorem call39 : CallOk Try.prog 39 := ⟨_, Try.func39, by kernel_rfl, by kernel_rfl⟩
end Go.Proofs.Yteddnnljmdjfbaa.V

