/-
  The types of the program, as the symbolic run reads them.
-/
import Derived.Test.YtljbcclpmlkpnaaDoorProg
import Derived.Test.YtljbcclpmlkpnaaDoorKitVk
namespace Go.Proofs.YtljbcclpmlkpnaaDoor.V
open Go.RowKit Go.Proofs.YtljbcclpmlkpnaaDoor
def ty1 : Ty := ⟨1, [.val .nilFunc], [], false, (0, 0), 8, .oth, none, none⟩
def ty2 : Ty := ⟨1, [.il .i64 0], [], false, (0, 0), 8, (.int .i64), (some (.int .i64)), none⟩
def ty3 : Ty := ⟨1, [.il .i64 0], [], false, (0, 0), 8, (.int .i64), (some (.int .i64)), none⟩
def ty4 : Ty := ⟨1, [.bl false], [], false, (0, 0), 1, .bool, (some .bool), none⟩
def ty5 : Ty := ⟨1, [.il .u8 0], [], false, (0, 0), 1, (.int .u8), (some (.int .u8)), none⟩
def ty9 : Ty := ⟨1, [.val (.string ByteArray.empty)], [], false, (0, 0), 16, .str, (some .str), none⟩
def ty12 : Ty := ⟨1, [.il .u64 0], [], false, (0, 0), 8, (.int .u64), (some (.int .u64)), none⟩
def ty17 : Ty := ⟨1, [.val (.pointer none)], [], false, (0, 0), 8, (.ptr 140), none, none⟩
def ty21 : Ty := ⟨1, [.il .i32 0], [], false, (0, 0), 4, (.int .i32), (some (.int .i32)), none⟩
def ty22 : Ty := ⟨1, [.val .nilFunc], [], false, (0, 0), 8, .oth, none, none⟩
def ty23 : Ty := ⟨3, [.il .i64 0, .il .i64 0, .il .i64 0], [(0, 1, 3), (1, 1, 3), (2, 1, 3)], true, (0, 0), 24, .oth, (some (.pair (.int .i64) (.pair (.int .i64) (.int .i64)))), (some [.int .i64, .int .i64, .int .i64])⟩
def ty24 : Ty := ⟨3, [.il .i64 0, .il .i64 0, .il .i64 0], [(0, 1, 3), (1, 1, 3), (2, 1, 3)], true, (0, 0), 24, .oth, (some (.pair (.int .i64) (.pair (.int .i64) (.int .i64)))), (some [.int .i64, .int .i64, .int .i64])⟩
def ty25 : Ty := ⟨1, [.il .i64 0], [], false, (0, 0), 8, (.int .i64), (some (.int .i64)), none⟩
def ty27 : Ty := ⟨1, [.val .nilFunc], [], false, (0, 0), 8, .oth, none, none⟩
def ty29 : Ty := ⟨1, [.val .nilFunc], [], false, (0, 0), 8, .oth, none, none⟩
def ty30 : Ty := ⟨1, [.val (.slice none 0 0)], [], false, (0, 0), 24, (.slice 51), (some (.sl (.pair (.int .i64) (.pair (.int .i64) (.int .u64))))), none⟩
def ty31 : Ty := ⟨2, [.val (.slice none 0 0), .bl false], [(0, 1, 30), (1, 1, 4)], true, (0, 0), 32, .oth, (some (.pair (.sl (.pair (.int .i64) (.pair (.int .i64) (.int .u64)))) .bool)), none⟩
def ty32 : Ty := ⟨2, [.val (.slice none 0 0), .bl false], [(0, 1, 30), (1, 1, 4)], true, (0, 0), 32, .oth, (some (.pair (.sl (.pair (.int .i64) (.pair (.int .i64) (.int .u64)))) .bool)), none⟩
def ty34 : Ty := ⟨1, [.val .nilFunc], [], false, (0, 0), 8, .oth, none, none⟩
def ty36 : Ty := ⟨1, [.val .nilFunc], [], false, (0, 0), 8, .oth, none, none⟩
def ty37 : Ty := ⟨1, [.val .nilFunc], [], false, (0, 0), 8, .oth, none, none⟩
def ty38 : Ty := ⟨1, [.val .nilFunc], [], false, (0, 0), 8, .oth, none, none⟩
def ty40 : Ty := ⟨1, [.val .nilFunc], [], false, (0, 0), 8, .oth, none, none⟩
def ty42 : Ty := ⟨1, [.val .nilFunc], [], false, (0, 0), 8, .oth, none, none⟩
def ty43 : Ty := ⟨1, [.val .nilFunc], [], false, (0, 0), 8, .oth, none, none⟩
def ty44 : Ty := ⟨1, [.val .nilFunc], [], false, (0, 0), 8, .oth, none, none⟩
def ty45 : Ty := ⟨1, [.val .nilFunc], [], false, (0, 0), 8, .oth, none, none⟩
def ty46 : Ty := ⟨1, [.val .nilFunc], [], false, (0, 0), 8, .oth, none, none⟩
def ty47 : Ty := ⟨1, [.val (.slice none 0 0)], [], false, (0, 0), 24, (.slice 9), (some (.sl .str)), none⟩
def ty48 : Ty := ⟨1, [.val .nilFunc], [], false, (0, 0), 8, .oth, none, none⟩
def ty49 : Ty := ⟨1, [.il .u64 0], [], false, (0, 0), 8, (.int .u64), (some (.int .u64)), none⟩
def ty50 : Ty := ⟨3, [.il .i64 0, .il .i64 0, .il .u64 0], [(0, 1, 3), (1, 1, 3), (2, 1, 49)], true, (0, 0), 24, .oth, (some (.pair (.int .i64) (.pair (.int .i64) (.int .u64)))), (some [.int .i64, .int .i64, .int .u64])⟩
def ty51 : Ty := ⟨3, [.il .i64 0, .il .i64 0, .il .u64 0], [(0, 1, 3), (1, 1, 3), (2, 1, 49)], true, (0, 0), 24, .oth, (some (.pair (.int .i64) (.pair (.int .i64) (.int .u64)))), (some [.int .i64, .int .i64, .int .u64])⟩
def ty52 : Ty := ⟨1, [.val (.pointer none)], [], false, (0, 0), 8, (.ptr 55), none, none⟩
def ty53 : Ty := ⟨1, [.val .nilFunc], [], false, (0, 0), 8, .oth, none, none⟩
def ty54 : Ty := ⟨2, [.val (.slice none 0 0), .bl false], [(0, 1, 47), (1, 1, 4)], true, (0, 0), 32, .oth, (some (.pair (.sl .str) .bool)), none⟩
def ty55 : Ty := ⟨2, [.val (.slice none 0 0), .bl false], [(0, 1, 47), (1, 1, 4)], true, (0, 0), 32, .oth, (some (.pair (.sl .str) .bool)), none⟩
def ty56 : Ty := ⟨1, [.val .nilFunc], [], false, (0, 0), 8, .oth, none, none⟩
def ty57 : Ty := ⟨2, [.val (.string ByteArray.empty), .il .i64 0], [(0, 1, 9), (1, 1, 3)], true, (0, 0), 24, .oth, (some (.pair .str (.int .i64))), (some [.str, .int .i64])⟩
def ty58 : Ty := ⟨2, [.val (.string ByteArray.empty), .il .i64 0], [(0, 1, 9), (1, 1, 3)], true, (0, 0), 24, .oth, (some (.pair .str (.int .i64))), (some [.str, .int .i64])⟩
def ty59 : Ty := ⟨22, [.val (.string ByteArray.empty), .il .i64 0, .val (.string ByteArray.empty), .il .i64 0, .val (.string ByteArray.empty), .il .i64 0, .val (.string ByteArray.empty), .il .i64 0, .val (.string ByteArray.empty), .il .i64 0, .val (.string ByteArray.empty), .il .i64 0, .val (.string ByteArray.empty), .il .i64 0, .val (.string ByteArray.empty), .il .i64 0, .val (.string ByteArray.empty), .il .i64 0, .val (.string ByteArray.empty), .il .i64 0, .val (.string ByteArray.empty), .il .i64 0], [], true, (11, 58), 264, .oth, none, (some [.str, .int .i64, .str, .int .i64, .str, .int .i64, .str, .int .i64, .str, .int .i64, .str, .int .i64, .str, .int .i64, .str, .int .i64, .str, .int .i64, .str, .int .i64, .str, .int .i64])⟩
def ty60 : Ty := ⟨1, [.val .nilFunc], [], false, (0, 0), 8, .oth, none, none⟩
def ty61 : Ty := ⟨1, [.val .nilFunc], [], false, (0, 0), 8, .oth, none, none⟩
def ty62 : Ty := ⟨1, [.val .nilFunc], [], false, (0, 0), 8, .oth, none, none⟩
def ty63 : Ty := ⟨1, [.val .nilFunc], [], false, (0, 0), 8, .oth, none, none⟩
def ty64 : Ty := ⟨1, [.val .nilFunc], [], false, (0, 0), 8, .oth, none, none⟩
def ty65 : Ty := ⟨2, [.il .i64 0, .bl false], [(0, 1, 2), (1, 1, 4)], true, (0, 0), 16, .oth, (some (.pair (.int .i64) .bool)), (some [.int .i64, .bool])⟩
def ty66 : Ty := ⟨2, [.il .i64 0, .bl false], [(0, 1, 2), (1, 1, 4)], true, (0, 0), 16, .oth, (some (.pair (.int .i64) .bool)), (some [.int .i64, .bool])⟩
def ty67 : Ty := ⟨1, [.val .nilFunc], [], false, (0, 0), 8, .oth, none, none⟩
def ty68 : Ty := ⟨1, [.val .nilFunc], [], false, (0, 0), 8, .oth, none, none⟩
def ty69 : Ty := ⟨1, [.val .nilFunc], [], false, (0, 0), 8, .oth, none, none⟩
def ty70 : Ty := ⟨1, [.val .nilFunc], [], false, (0, 0), 8, .oth, none, none⟩
def ty71 : Ty := ⟨1, [.val .nilFunc], [], false, (0, 0), 8, .oth, none, none⟩
def ty72 : Ty := ⟨1, [.val .nilFunc], [], false, (0, 0), 8, .oth, none, none⟩
def ty73 : Ty := ⟨5, [.val (.string ByteArray.empty), .val (.string ByteArray.empty), .val (.string ByteArray.empty), .val (.string ByteArray.empty), .val (.string ByteArray.empty)], [], true, (5, 9), 80, .oth, none, (some [.str, .str, .str, .str, .str])⟩
def ty74 : Ty := ⟨1, [.val .nilFunc], [], false, (0, 0), 8, .oth, none, none⟩
def ty75 : Ty := ⟨1, [.val .nilFunc], [], false, (0, 0), 8, .oth, none, none⟩
def ty76 : Ty := ⟨11, [.run .u8 11 (List.replicate 11 0)], [], true, (11, 5), 11, .oth, (some (.arr 11 .u8)), (some [.int .u8, .int .u8, .int .u8, .int .u8, .int .u8, .int .u8, .int .u8, .int .u8, .int .u8, .int .u8, .int .u8])⟩
def ty77 : Ty := ⟨1, [.val .nilFunc], [], false, (0, 0), 8, .oth, none, none⟩
def ty78 : Ty := ⟨1, [.val .nilFunc], [], false, (0, 0), 8, .oth, none, none⟩
def ty79 : Ty := ⟨1, [.val (.pointer none)], [], false, (0, 0), 8, (.ptr 82), none, none⟩
def ty80 : Ty := ⟨1, [.val (.slice none 0 0)], [], false, (0, 0), 24, (.slice 5), (some (.sl (.int .u8))), none⟩
def ty81 : Ty := ⟨2, [.val (.pointer none), .val (.slice none 0 0)], [(0, 1, 79), (1, 1, 80)], true, (0, 0), 32, .oth, none, none⟩
def ty82 : Ty := ⟨2, [.val (.pointer none), .val (.slice none 0 0)], [(0, 1, 79), (1, 1, 80)], true, (0, 0), 32, .oth, none, none⟩
def ty83 : Ty := ⟨1, [.val .nilFunc], [], false, (0, 0), 8, .oth, none, none⟩
def ty87 : Ty := ⟨1, [.val .nilFunc], [], false, (0, 0), 8, .oth, none, none⟩
def ty88 : Ty := ⟨1, [.val .nilFunc], [], false, (0, 0), 8, .oth, none, none⟩
def ty90 : Ty := ⟨1, [.val .nilFunc], [], false, (0, 0), 8, .oth, none, none⟩
def ty91 : Ty := ⟨1, [.val .nilFunc], [], false, (0, 0), 8, .oth, none, none⟩
def ty92 : Ty := ⟨1, [.val (.pointer none)], [], false, (0, 0), 8, (.ptr 5), none, none⟩
def ty93 : Ty := ⟨24, [.run .u8 24 (List.replicate 24 0)], [], true, (24, 5), 24, .oth, (some (.arr 24 .u8)), (some [.int .u8, .int .u8, .int .u8, .int .u8, .int .u8, .int .u8, .int .u8, .int .u8, .int .u8, .int .u8, .int .u8, .int .u8, .int .u8, .int .u8, .int .u8, .int .u8, .int .u8, .int .u8, .int .u8, .int .u8, .int .u8, .int .u8, .int .u8, .int .u8])⟩
def ty94 : Ty := ⟨1, [.val .nilFunc], [], false, (0, 0), 8, .oth, none, none⟩
def ty95 : Ty := ⟨1, [.val .nilFunc], [], false, (0, 0), 8, .oth, none, none⟩
def ty97 : Ty := ⟨1, [.val .nilFunc], [], false, (0, 0), 8, .oth, none, none⟩
def ty99 : Ty := ⟨1, [.val .nilFunc], [], false, (0, 0), 8, .oth, none, none⟩
def ty101 : Ty := ⟨1, [.val .nilFunc], [], false, (0, 0), 8, .oth, none, none⟩
def ty102 : Ty := ⟨1, [.val .nilFunc], [], false, (0, 0), 8, .oth, none, none⟩
def ty103 : Ty := ⟨1, [.val .nilFunc], [], false, (0, 0), 8, .oth, none, none⟩
def ty104 : Ty := ⟨1, [.val .nilFunc], [], false, (0, 0), 8, .oth, none, none⟩
def ty105 : Ty := ⟨20, [.run .u64 20 (List.replicate 20 0)], [], true, (20, 49), 160, .oth, (some (.arr 20 .u64)), (some [.int .u64, .int .u64, .int .u64, .int .u64, .int .u64, .int .u64, .int .u64, .int .u64, .int .u64, .int .u64, .int .u64, .int .u64, .int .u64, .int .u64, .int .u64, .int .u64, .int .u64, .int .u64, .int .u64, .int .u64])⟩
def ty106 : Ty := ⟨1, [.il .u32 0], [], false, (0, 0), 4, (.int .u32), (some (.int .u32)), none⟩
def ty107 : Ty := ⟨65, [.run .u8 65 (List.replicate 65 0)], [], true, (65, 5), 65, .oth, (some (.arr 65 .u8)), none⟩
def ty108 : Ty := ⟨1, [.il .u64 0], [], false, (0, 0), 8, (.int .u64), (some (.int .u64)), none⟩
def ty109 : Ty := ⟨1, [.val .nilFunc], [], false, (0, 0), 8, .oth, none, none⟩
def ty110 : Ty := ⟨1, [.val .nilFunc], [], false, (0, 0), 8, .oth, none, none⟩
def ty111 : Ty := ⟨1, [.val .nilFunc], [], false, (0, 0), 8, .oth, none, none⟩
def ty114 : Ty := ⟨1, [.val .nilFunc], [], false, (0, 0), 8, .oth, none, none⟩
def ty115 : Ty := ⟨1, [.val (.pointer none)], [], false, (0, 0), 8, (.ptr 123), none, none⟩
def ty116 : Ty := ⟨1, [.val .nilFunc], [], false, (0, 0), 8, .oth, none, none⟩
def ty117 : Ty := ⟨1, [.val .nilFunc], [], false, (0, 0), 8, .oth, none, none⟩
def ty118 : Ty := ⟨32, [.run .u8 32 (List.replicate 32 0)], [], true, (32, 5), 32, .oth, (some (.arr 32 .u8)), (some [.int .u8, .int .u8, .int .u8, .int .u8, .int .u8, .int .u8, .int .u8, .int .u8, .int .u8, .int .u8, .int .u8, .int .u8, .int .u8, .int .u8, .int .u8, .int .u8, .int .u8, .int .u8, .int .u8, .int .u8, .int .u8, .int .u8, .int .u8, .int .u8, .int .u8, .int .u8, .int .u8, .int .u8, .int .u8, .int .u8, .int .u8, .int .u8])⟩
def ty119 : Ty := ⟨64, [.run .u8 64 (List.replicate 64 0)], [], true, (64, 5), 64, .oth, (some (.arr 64 .u8)), none⟩
def ty120 : Ty := ⟨1, [.val .nilFunc], [], false, (0, 0), 8, .oth, none, none⟩
def ty121 : Ty := ⟨1, [.val .nilFunc], [], false, (0, 0), 8, .oth, none, none⟩
def ty122 : Ty := ⟨3, [.val (.string ByteArray.empty), .val (.string ByteArray.empty), .val .nilIface], [(0, 1, 9), (1, 1, 9), (2, 1, 85)], true, (0, 0), 48, .oth, none, none⟩
def ty123 : Ty := ⟨3, [.val (.string ByteArray.empty), .val (.string ByteArray.empty), .val .nilIface], [(0, 1, 9), (1, 1, 9), (2, 1, 85)], true, (0, 0), 48, .oth, none, none⟩
def ty124 : Ty := ⟨1, [.val .nilFunc], [], false, (0, 0), 8, .oth, none, none⟩
def ty125 : Ty := ⟨1, [.val (.pointer none)], [], false, (0, 0), 8, (.ptr 127), none, none⟩
def ty126 : Ty := ⟨1, [.val (.string ByteArray.empty)], [(0, 1, 9)], true, (0, 0), 16, .oth, (some .str), (some [.str])⟩
def ty127 : Ty := ⟨1, [.val (.string ByteArray.empty)], [(0, 1, 9)], true, (0, 0), 16, .oth, (some .str), (some [.str])⟩
def ty133 : Ty := ⟨1, [.val .nilFunc], [], false, (0, 0), 8, .oth, none, none⟩
def ty136 : Ty := ⟨1, [.val .nilFunc], [], false, (0, 0), 8, .oth, none, none⟩
def ty139 : Ty := ⟨11, [.il .u64 0, .il .u64 0, .il .u32 0, .il .u8 0, .il .u8 0, .il .u8 0, .il .u8 0, .val .nilFunc, .val (.pointer none), .il .i32 0, .il .i32 0], [(0, 1, 12), (1, 1, 12), (2, 1, 106), (3, 1, 134), (4, 1, 5), (5, 1, 5), (6, 1, 135), (7, 1, 136), (8, 1, 92), (9, 1, 137), (10, 1, 138)], true, (0, 0), 48, .oth, none, none⟩
def Tbl : Tb
  | 1 => some ty1
  | 2 => some ty2
  | 3 => some ty3
  | 4 => some ty4
  | 5 => some ty5
  | 9 => some ty9
  | 12 => some ty12
  | 17 => some ty17
  | 21 => some ty21
  | 22 => some ty22
  | 23 => some ty23
  | 24 => some ty24
  | 25 => some ty25
  | 27 => some ty27
  | 29 => some ty29
  | 30 => some ty30
  | 31 => some ty31
  | 32 => some ty32
  | 34 => some ty34
  | 36 => some ty36
  | 37 => some ty37
  | 38 => some ty38
  | 40 => some ty40
  | 42 => some ty42
  | 43 => some ty43
  | 44 => some ty44
  | 45 => some ty45
  | 46 => some ty46
  | 47 => some ty47
  | 48 => some ty48
  | 49 => some ty49
  | 50 => some ty50
  | 51 => some ty51
  | 52 => some ty52
  | 53 => some ty53
  | 54 => some ty54
  | 55 => some ty55
  | 56 => some ty56
  | 57 => some ty57
  | 58 => some ty58
  | 59 => some ty59
  | 60 => some ty60
  | 61 => some ty61
  | 62 => some ty62
  | 63 => some ty63
  | 64 => some ty64
  | 65 => some ty65
  | 66 => some ty66
  | 67 => some ty67
  | 68 => some ty68
  | 69 => some ty69
  | 70 => some ty70
  | 71 => some ty71
  | 72 => some ty72
  | 73 => some ty73
  | 74 => some ty74
  | 75 => some ty75
  | 76 => some ty76
  | 77 => some ty77
  | 78 => some ty78
  | 79 => some ty79
  | 80 => some ty80
  | 81 => some ty81
  | 82 => some ty82
  | 83 => some ty83
  | 87 => some ty87
  | 88 => some ty88
  | 90 => some ty90
  | 91 => some ty91
  | 92 => some ty92
  | 93 => some ty93
  | 94 => some ty94
  | 95 => some ty95
  | 97 => some ty97
  | 99 => some ty99
  | 101 => some ty101
  | 102 => some ty102
  | 103 => some ty103
  | 104 => some ty104
  | 105 => some ty105
  | 106 => some ty106
  | 107 => some ty107
  | 108 => some ty108
  | 109 => some ty109
  | 110 => some ty110
  | 111 => some ty111
  | 114 => some ty114
  | 115 => some ty115
  | 116 => some ty116
  | 117 => some ty117
  | 118 => some ty118
  | 119 => some ty119
  | 120 => some ty120
  | 121 => some ty121
  | 122 => some ty122
  | 123 => some ty123
  | 124 => some ty124
  | 125 => some ty125
  | 126 => some ty126
  | 127 => some ty127
  | 133 => some ty133
  | 136 => some ty136
  | 139 => some ty139
  | _ => none
theorem tyOk1 : TyOk Tryd.prog 1 ty1 := tyB_ok (by kernel_rfl)
theorem tyOk2 : TyOk Tryd.prog 2 ty2 := tyB_ok (by kernel_rfl)
theorem tyOk3 : TyOk Tryd.prog 3 ty3 := tyB_ok (by kernel_rfl)
theorem tyOk4 : TyOk Tryd.prog 4 ty4 := tyB_ok (by kernel_rfl)
theorem tyOk5 : TyOk Tryd.prog 5 ty5 := tyB_ok (by kernel_rfl)
theorem tyOk9 : TyOk Tryd.prog 9 ty9 := tyB_ok (by kernel_rfl)
theorem tyOk12 : TyOk Tryd.prog 12 ty12 := tyB_ok (by kernel_rfl)
theorem tyOk17 : TyOk Tryd.prog 17 ty17 := tyB_ok (by kernel_rfl)
theorem tyOk21 : TyOk Tryd.prog 21 ty21 := tyB_ok (by kernel_rfl)
theorem tyOk22 : TyOk Tryd.prog 22 ty22 := tyB_ok (by kernel_rfl)
theorem tyOk23 : TyOk Tryd.prog 23 ty23 := tyB_ok (by kernel_rfl)
theorem tyOk24 : TyOk Tryd.prog 24 ty24 := tyB_ok (by kernel_rfl)
theorem tyOk25 : TyOk Tryd.prog 25 ty25 := tyB_ok (by kernel_rfl)
theorem tyOk27 : TyOk Tryd.prog 27 ty27 := tyB_ok (by kernel_rfl)
theorem tyOk29 : TyOk Tryd.prog 29 ty29 := tyB_ok (by kernel_rfl)
theorem tyOk30 : TyOk Tryd.prog 30 ty30 := tyB_ok (by kernel_rfl)
theorem tyOk31 : TyOk Tryd.prog 31 ty31 := tyB_ok (by kernel_rfl)
theorem tyOk32 : TyOk Tryd.prog 32 ty32 := tyB_ok (by kernel_rfl)
theorem tyOk34 : TyOk Tryd.prog 34 ty34 := tyB_ok (by kernel_rfl)
theorem tyOk36 : TyOk Tryd.prog 36 ty36 := tyB_ok (by kernel_rfl)
theorem tyOk37 : TyOk Tryd.prog 37 ty37 := tyB_ok (by kernel_rfl)
theorem tyOk38 : TyOk Tryd.prog 38 ty38 := tyB_ok (by kernel_rfl)
theorem tyOk40 : TyOk Tryd.prog 40 ty40 := tyB_ok (by kernel_rfl)
theorem tyOk42 : TyOk Tryd.prog 42 ty42 := tyB_ok (by kernel_rfl)
theorem tyOk43 : TyOk Tryd.prog 43 ty43 := tyB_ok (by kernel_rfl)
theorem tyOk44 : TyOk Tryd.prog 44 ty44 := tyB_ok (by kernel_rfl)
theorem tyOk45 : TyOk Tryd.prog 45 ty45 := tyB_ok (by kernel_rfl)
theorem tyOk46 : TyOk Tryd.prog 46 ty46 := tyB_ok (by kernel_rfl)
theorem tyOk47 : TyOk Tryd.prog 47 ty47 := tyB_ok (by kernel_rfl)
theorem tyOk48 : TyOk Tryd.prog 48 ty48 := tyB_ok (by kernel_rfl)
theorem tyOk49 : TyOk Tryd.prog 49 ty49 := tyB_ok (by kernel_rfl)
theorem tyOk50 : TyOk Tryd.prog 50 ty50 := tyB_ok (by kernel_rfl)
theorem tyOk51 : TyOk Tryd.prog 51 ty51 := tyB_ok (by kernel_rfl)
theorem tyOk52 : TyOk Tryd.prog 52 ty52 := tyB_ok (by kernel_rfl)
theorem tyOk53 : TyOk Tryd.prog 53 ty53 := tyB_ok (by kernel_rfl)
theorem tyOk54 : TyOk Tryd.prog 54 ty54 := tyB_ok (by kernel_rfl)
theorem tyOk55 : TyOk Tryd.prog 55 ty55 := tyB_ok (by kernel_rfl)
theorem tyOk56 : TyOk Tryd.prog 56 ty56 := tyB_ok (by kernel_rfl)
theorem tyOk57 : TyOk Tryd.prog 57 ty57 := tyB_ok (by kernel_rfl)
theorem tyOk58 : TyOk Tryd.prog 58 ty58 := tyB_ok (by kernel_rfl)
theorem tyOk59 : TyOk Tryd.prog 59 ty59 := tyB_ok (by kernel_rfl)
theorem tyOk60 : TyOk Tryd.prog 60 ty60 := tyB_ok (by kernel_rfl)
theorem tyOk61 : TyOk Tryd.prog 61 ty61 := tyB_ok (by kernel_rfl)
theorem tyOk62 : TyOk Tryd.prog 62 ty62 := tyB_ok (by kernel_rfl)
theorem tyOk63 : TyOk Tryd.prog 63 ty63 := tyB_ok (by kernel_rfl)
theorem tyOk64 : TyOk Tryd.prog 64 ty64 := tyB_ok (by kernel_rfl)
theorem tyOk65 : TyOk Tryd.prog 65 ty65 := tyB_ok (by kernel_rfl)
theorem tyOk66 : TyOk Tryd.prog 66 ty66 := tyB_ok (by kernel_rfl)
theorem tyOk67 : TyOk Tryd.prog 67 ty67 := tyB_ok (by kernel_rfl)
theorem tyOk68 : TyOk Tryd.prog 68 ty68 := tyB_ok (by kernel_rfl)
theorem tyOk69 : TyOk Tryd.prog 69 ty69 := tyB_ok (by kernel_rfl)
theorem tyOk70 : TyOk Tryd.prog 70 ty70 := tyB_ok (by kernel_rfl)
theorem tyOk71 : TyOk Tryd.prog 71 ty71 := tyB_ok (by kernel_rfl)
theorem tyOk72 : TyOk Tryd.prog 72 ty72 := tyB_ok (by kernel_rfl)
theorem tyOk73 : TyOk Tryd.prog 73 ty73 := tyB_ok (by kernel_rfl)
theorem tyOk74 : TyOk Tryd.prog 74 ty74 := tyB_ok (by kernel_rfl)
theorem tyOk75 : TyOk Tryd.prog 75 ty75 := tyB_ok (by kernel_rfl)
theorem tyOk76 : TyOk Tryd.prog 76 ty76 := tyB_ok (by kernel_rfl)
theorem tyOk77 : TyOk Tryd.prog 77 ty77 := tyB_ok (by kernel_rfl)
theorem tyOk78 : TyOk Tryd.prog 78 ty78 := tyB_ok (by kernel_rfl)
theorem tyOk79 : TyOk Tryd.prog 79 ty79 := tyB_ok (by kernel_rfl)
theorem tyOk80 : TyOk Tryd.prog 80 ty80 := tyB_ok (by kernel_rfl)
theorem tyOk81 : TyOk Tryd.prog 81 ty81 := tyB_ok (by kernel_rfl)
theorem tyOk82 : TyOk Tryd.prog 82 ty82 := tyB_ok (by kernel_rfl)
theorem tyOk83 : TyOk Tryd.prog 83 ty83 := tyB_ok (by kernel_rfl)
theorem tyOk87 : TyOk Tryd.prog 87 ty87 := tyB_ok (by kernel_rfl)
theorem tyOk88 : TyOk Tryd.prog 88 ty88 := tyB_ok (by kernel_rfl)
theorem tyOk90 : TyOk Tryd.prog 90 ty90 := tyB_ok (by kernel_rfl)
theorem tyOk91 : TyOk Tryd.prog 91 ty91 := tyB_ok (by kernel_rfl)
theorem tyOk92 : TyOk Tryd.prog 92 ty92 := tyB_ok (by kernel_rfl)
theorem tyOk93 : TyOk Tryd.prog 93 ty93 := tyB_ok (by kernel_rfl)
theorem tyOk94 : TyOk Tryd.prog 94 ty94 := tyB_ok (by kernel_rfl)
theorem tyOk95 : TyOk Tryd.prog 95 ty95 := tyB_ok (by kernel_rfl)
theorem tyOk97 : TyOk Tryd.prog 97 ty97 := tyB_ok (by kernel_rfl)
theorem tyOk99 : TyOk Tryd.prog 99 ty99 := tyB_ok (by kernel_rfl)
theorem tyOk101 : TyOk Tryd.prog 101 ty101 := tyB_ok (by kernel_rfl)
theorem tyOk102 : TyOk Tryd.prog 102 ty102 := tyB_ok (by kernel_rfl)
theorem tyOk103 : TyOk Tryd.prog 103 ty103 := tyB_ok (by kernel_rfl)
theorem tyOk104 : TyOk Tryd.prog 104 ty104 := tyB_ok (by kernel_rfl)
theorem tyOk105 : TyOk Tryd.prog 105 ty105 := tyB_ok (by kernel_rfl)
theorem tyOk106 : TyOk Tryd.prog 106 ty106 := tyB_ok (by kernel_rfl)
theorem tyOk107 : TyOk Tryd.prog 107 ty107 := tyB_ok (by kernel_rfl)
theorem tyOk108 : TyOk Tryd.prog 108 ty108 := tyB_ok (by kernel_rfl)
theorem tyOk109 : TyOk Tryd.prog 109 ty109 := tyB_ok (by kernel_rfl)
theorem tyOk110 : TyOk Tryd.prog 110 ty110 := tyB_ok (by kernel_rfl)
theorem tyOk111 : TyOk Tryd.prog 111 ty111 := tyB_ok (by kernel_rfl)
theorem tyOk114 : TyOk Tryd.prog 114 ty114 := tyB_ok (by kernel_rfl)
theorem tyOk115 : TyOk Tryd.prog 115 ty115 := tyB_ok (by kernel_rfl)
theorem tyOk116 : TyOk Tryd.prog 116 ty116 := tyB_ok (by kernel_rfl)
theorem tyOk117 : TyOk Tryd.prog 117 ty117 := tyB_ok (by kernel_rfl)
theorem tyOk118 : TyOk Tryd.prog 118 ty118 := tyB_ok (by kernel_rfl)
theorem tyOk119 : TyOk Tryd.prog 119 ty119 := tyB_ok (by kernel_rfl)
theorem tyOk120 : TyOk Tryd.prog 120 ty120 := tyB_ok (by kernel_rfl)
theorem tyOk121 : TyOk Tryd.prog 121 ty121 := tyB_ok (by kernel_rfl)
theorem tyOk122 : TyOk Tryd.prog 122 ty122 := tyB_ok (by kernel_rfl)
theorem tyOk123 : TyOk Tryd.prog 123 ty123 := tyB_ok (by kernel_rfl)
theorem tyOk124 : TyOk Tryd.prog 124 ty124 := tyB_ok (by kernel_rfl)
theorem tyOk125 : TyOk Tryd.prog 125 ty125 := tyB_ok (by kernel_rfl)
theorem tyOk126 : TyOk Tryd.prog 126 ty126 := tyB_ok (by kernel_rfl)
theorem tyOk127 : TyOk Tryd.prog 127 ty127 := tyB_ok (by kernel_rfl)
theorem tyOk133 : TyOk Tryd.prog 133 ty133 := tyB_ok (by kernel_rfl)
theorem tyOk136 : TyOk Tryd.prog 136 ty136 := tyB_ok (by kernel_rfl)
theorem tyOk139 : TyOk Tryd.prog 139 ty139 := tyB_ok (by kernel_rfl)
theorem Tbl_ok : ∀ t i, Tbl t = some i → TyOk Tryd.prog t i := by
  intro t i h
  unfold Tbl at h
  split at h <;> cases h
  · exact tyOk1
  · exact tyOk2
  · exact tyOk3
  · exact tyOk4
  · exact tyOk5
  · exact tyOk9
  · exact tyOk12
  · exact tyOk17
  · exact tyOk21
  · exact tyOk22
  · exact tyOk23
  · exact tyOk24
  · exact tyOk25
  · exact tyOk27
  · exact tyOk29
  · exact tyOk30
  · exact tyOk31
  · exact tyOk32
  · exact tyOk34
  · exact tyOk36
  · exact tyOk37
  · exact tyOk38
  · exact tyOk40
  · exact tyOk42
  · exact tyOk43
  · exact tyOk44
  · exact tyOk45
  · exact tyOk46
  · exact tyOk47
  · exact tyOk48
  · exact tyOk49
  · exact tyOk50
  · exact tyOk51
  · exact tyOk52
  · exact tyOk53
  · exact tyOk54
  · exact tyOk55
  · exact tyOk56
  · exact tyOk57
  · exact tyOk58
  · exact tyOk59
  · exact tyOk60
  · exact tyOk61
  · exact tyOk62
  · exact tyOk63
  · exact tyOk64
  · exact tyOk65
  · exact tyOk66
  · exact tyOk67
  · exact tyOk68
  · exact tyOk69
  · exact tyOk70
  · exact tyOk71
  · exact tyOk72
  · exact tyOk73
  · exact tyOk74
  · exact tyOk75
  · exact tyOk76
  · exact tyOk77
  · exact tyOk78
  · exact tyOk79
  · exact tyOk80
  · exact tyOk81
  · exact tyOk82
  · exact tyOk83
  · exact tyOk87
  · exact tyOk88
  · exact tyOk90
  · exact tyOk91
  · exact tyOk92
  · exact tyOk93
  · exact tyOk94
  · exact tyOk95
  · exact tyOk97
  · exact tyOk99
  · exact tyOk101
  · exact tyOk102
  · exact tyOk103
  · exact tyOk104
  · exact tyOk105
  · exact tyOk106
  · exact tyOk107
  · exact tyOk108
  · exact tyOk109
  · exact tyOk110
  · exact tyOk111
  · exact tyOk114
  · exact tyOk115
  · exact tyOk116
  · exact tyOk117
  · exact tyOk118
  · exact tyOk119
  · exact tyOk120
  · exact tyOk121
  · exact tyOk122
  · exact tyOk123
  · exact tyOk124
  · exact tyOk125
  · exact tyOk126
  · exact tyOk127
  · exact tyOk133
  · exact tyOk136
  · exact tyOk139
theorem mixed : Tryd.prog.follows .mixedOrders = true := by kernel_rfl
theorem call3 : CallOk Tryd.prog 3 := ⟨_, Tryd.func3, by kernel_rfl, by kernel_rfl⟩
theorem call4 : CallOk Tryd.prog 4 := ⟨_, Tryd.func4, by kernel_rfl, by kernel_rfl⟩
theorem call5 : CallOk Tryd.prog 5 := ⟨_, Tryd.func5, by kernel_rfl, by kernel_rfl⟩
theorem call6 : CallOk Tryd.prog 6 := ⟨_, Tryd.func6, by kernel_rfl, by kernel_rfl⟩
theorem call7 : CallOk Tryd.prog 7 := ⟨_, Tryd.func7, by kernel_rfl, by kernel_rfl⟩
theorem call8 : CallOk Tryd.prog 8 := ⟨_, Tryd.func8, by kernel_rfl, by kernel_rfl⟩
theorem call9 : CallOk Tryd.prog 9 := ⟨_, Tryd.func9, by kernel_rfl, by kernel_rfl⟩
theorem call10 : CallOk Tryd.prog 10 := ⟨_, Tryd.func10, by kernel_rfl, by kernel_rfl⟩
theorem call11 : CallOk Tryd.prog 11 := ⟨_, Tryd.func11, by kernel_rfl, by kernel_rfl⟩
theorem call12 : CallOk Tryd.prog 12 := ⟨_, Tryd.func12, by kernel_rfl, by kernel_rfl⟩
theorem call13 : CallOk Tryd.prog 13 := ⟨_, Tryd.func13, by kernel_rfl, by kernel_rfl⟩
theorem call14 : CallOk Tryd.prog 14 := ⟨_, Tryd.func14, by kernel_rfl, by kernel_rfl⟩
theorem call15 : CallOk Tryd.prog 15 := ⟨_, Tryd.func15, by kernel_rfl, by kernel_rfl⟩
theorem call16 : CallOk Tryd.prog 16 := ⟨_, Tryd.func16, by kernel_rfl, by kernel_rfl⟩
theorem call17 : CallOk Tryd.prog 17 := ⟨_, Tryd.func17, by kernel_rfl, by kernel_rfl⟩
theorem call18 : CallOk Tryd.prog 18 := ⟨_, Tryd.func18, by kernel_rfl, by kernel_rfl⟩
theorem call19 : CallOk Tryd.prog 19 := ⟨_, Tryd.func19, by kernel_rfl, by kernel_rfl⟩
theorem call20 : CallOk Tryd.prog 20 := ⟨_, Tryd.func20, by kernel_rfl, by kernel_rfl⟩
theorem call21 : CallOk Tryd.prog 21 := ⟨_, Tryd.func21, by kernel_rfl, by kernel_rfl⟩
theorem call22 : CallOk Tryd.prog 22 := ⟨_, Tryd.func22, by kernel_rfl, by kernel_rfl⟩
theorem call23 : CallOk Tryd.prog 23 := ⟨_, Tryd.func23, by kernel_rfl, by kernel_rfl⟩
theorem call24 : CallOk Tryd.prog 24 := ⟨_, Tryd.func24, by kernel_rfl, by kernel_rfl⟩
theorem call25 : CallOk Tryd.prog 25 := ⟨_, Tryd.func25, by kernel_rfl, by kernel_rfl⟩
theorem call26 : CallOk Tryd.prog 26 := ⟨_, Tryd.func26, by kernel_rfl, by kernel_rfl⟩
theorem call27 : CallOk Tryd.prog 27 := ⟨_, Tryd.func27, by kernel_rfl, by kernel_rfl⟩
theorem call28 : CallOk Tryd.prog 28 := ⟨_, Tryd.func28, by kernel_rfl, by kernel_rfl⟩
theorem call29 : CallOk Tryd.prog 29 := ⟨_, Tryd.func29, by kernel_rfl, by kernel_rfl⟩
theorem call30 : CallOk Tryd.prog 30 := ⟨_, Tryd.func30, by kernel_rfl, by kernel_rfl⟩
theorem call31 : CallOk Tryd.prog 31 := ⟨_, Tryd.func31, by kernel_rfl, by kernel_rfl⟩
theorem call32 : CallOk Tryd.prog 32 := ⟨_, Tryd.func32, by kernel_rfl, by kernel_rfl⟩
theorem call33 : CallOk Tryd.prog 33 := ⟨_, Tryd.func33, by kernel_rfl, by kernel_rfl⟩
theorem call34 : CallOk Tryd.prog 34 := ⟨_, Tryd.func34, by kernel_rfl, by kernel_rfl⟩
theorem call35 : CallOk Tryd.prog 35 := ⟨_, Tryd.func35, by kernel_rfl, by kernel_rfl⟩
theorem call36 : CallOk Tryd.prog 36 := ⟨_, Tryd.func36, by kernel_rfl, by kernel_rfl⟩
theorem call37 : CallOk Tryd.prog 37 := ⟨_, Tryd.func37, by kernel_rfl, by kernel_rfl⟩
theorem call38 : CallOk Tryd.prog 38 := ⟨_, Tryd.func38, by kernel_rfl, by kernel_rfl⟩
theorem call39 : CallOk Tryd.prog 39 := ⟨_, Tryd.func39, by kernel_rfl, by kernel_rfl⟩
theorem call40 : CallOk Tryd.prog 40 := ⟨_, Tryd.func40, by kernel_rfl, by kernel_rfl⟩
theorem call41 : CallOk Tryd.prog 41 := ⟨_, Tryd.func41, by kernel_rfl, by kernel_rfl⟩
theorem call42 : CallOk Tryd.prog 42 := ⟨_, Tryd.func42, by kernel_rfl, by kernel_rfl⟩
theorem call43 : CallOk Tryd.prog 43 := ⟨_, Tryd.func43, by kernel_rfl, by kernel_rfl⟩
theorem call44 : CallOk Tryd.prog 44 := ⟨_, Tryd.func44, by kernel_rfl, by kernel_rfl⟩
theorem call45 : CallOk Tryd.prog 45 := ⟨_, Tryd.func45, by kernel_rfl, by kernel_rfl⟩
theorem call46 : CallOk Tryd.prog 46 := ⟨_, Tryd.func46, by kernel_rfl, by kernel_rfl⟩
theorem call47 : CallOk Tryd.prog 47 := ⟨_, Tryd.func47, by kernel_rfl, by kernel_rfl⟩
theorem call48 : CallOk Tryd.prog 48 := ⟨_, Tryd.func48, by kernel_rfl, by kernel_rfl⟩
theorem call49 : CallOk Tryd.prog 49 := ⟨_, Tryd.func49, by kernel_rfl, by kernel_rfl⟩
theorem call50 : CallOk Tryd.prog 50 := ⟨_, Tryd.func50, by kernel_rfl, by kernel_rfl⟩
theorem call51 : CallOk Tryd.prog 51 := ⟨_, Tryd.func51, by kernel_rfl, by kernel_rfl⟩
theorem call52 : CallOk Tryd.prog 52 := ⟨_, Tryd.func52, by kernel_rfl, by kernel_rfl⟩
theorem call53 : CallOk Tryd.prog 53 := ⟨_, Tryd.func53, by kernel_rfl, by kernel_rfl⟩
theorem call54 : CallOk Tryd.prog 54 := ⟨_, Tryd.func54, by kernel_rfl, by kernel_rfl⟩
theorem call55 : CallOk Tryd.prog 55 := ⟨_, Tryd.func55, by kernel_rfl, by kernel_rfl⟩
theorem call58 : CallOk Tryd.prog 58 := ⟨_, Tryd.func58, by kernel_rfl, by kernel_rfl⟩
theorem call59 : CallOk Tryd.prog 59 := ⟨_, Tryd.func59, by kernel_rfl, by kernel_rfl⟩
theorem call60 : CallOk Tryd.prog 60 := ⟨_, Tryd.func60, by kernel_rfl, by kernel_rfl⟩
theorem call61 : CallOk Tryd.prog 61 := ⟨_, Tryd.func61, by kernel_rfl, by kernel_rfl⟩
theorem call62 : CallOk Tryd.prog 62 := ⟨_, Tryd.func62, by kernel_rfl, by kernel_rfl⟩
theorem call63 : CallOk Tryd.prog 63 := ⟨_, Tryd.func63, by kernel_rfl, by kernel_rfl⟩
theorem call64 : CallOk Tryd.prog 64 := ⟨_, Tryd.func64, by kernel_rfl, by kernel_rfl⟩
theorem call65 : CallOk Tryd.prog 65 := ⟨_, Tryd.func65, by kernel_rfl, by kernel_rfl⟩
theorem call66 : CallOk Tryd.prog 66 := ⟨_, Tryd.func66, by kernel_rfl, by kernel_rfl⟩
theorem call67 : CallOk Tryd.prog 67 := ⟨_, Tryd.func67, by kernel_rfl, by kernel_rfl⟩
theorem call68 : CallOk Tryd.prog 68 := ⟨_, Tryd.func68, by kernel_rfl, by kernel_rfl⟩
theorem call69 : CallOk Tryd.prog 69 := ⟨_, Tryd.func69, by kernel_rfl, by kernel_rfl⟩
theorem call70 : CallOk Tryd.prog 70 := ⟨_, Tryd.func70, by kernel_rfl, by kernel_rfl⟩
theorem call71 : CallOk Tryd.prog 71 := ⟨_, Tryd.func71, by kernel_rfl, by kernel_rfl⟩
theorem call72 : CallOk Tryd.prog 72 := ⟨_, Tryd.func72, by kernel_rfl, by kernel_rfl⟩
theorem call73 : CallOk Tryd.prog 73 := ⟨_, Tryd.func73, by kernel_rfl, by kernel_rfl⟩
theorem call74 : CallOk Tryd.prog 74 := ⟨_, Tryd.func74, by kernel_rfl, by kernel_rfl⟩
theorem call75 : CallOk Tryd.prog 75 := ⟨_, Tryd.func75, by kernel_rfl, by kernel_rfl⟩
end Go.Proofs.YtljbcclpmlkpnaaDoor.V

