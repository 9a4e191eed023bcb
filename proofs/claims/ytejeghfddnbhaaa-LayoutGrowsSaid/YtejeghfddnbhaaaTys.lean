/-
  The types of the program, as the symbolic run reads them.
-/
import Derived.Test.YtejeghfddnbhaaaProg
import Derived.Test.YtejeghfddnbhaaaKitVk
namespace Go.Proofs.Ytejeghfddnbhaaa.V
open Go.RowKit Go.Proofs.Ytejeghfddnbhaaa
def ty1 : Ty := ⟨1, [.val .nilFunc], [], false, (0, 0), 8, .oth, none, none⟩
def ty2 : Ty := ⟨1, [.il .i64 0], [], false, (0, 0), 8, (.int .i64), (some (.int .i64)), none⟩
def ty3 : Ty := ⟨1, [.il .i64 0], [], false, (0, 0), 8, (.int .i64), (some (.int .i64)), none⟩
def ty4 : Ty := ⟨1, [.bl false], [], false, (0, 0), 1, .bool, (some .bool), none⟩
def ty5 : Ty := ⟨1, [.il .u8 0], [], false, (0, 0), 1, (.int .u8), (some (.int .u8)), none⟩
def ty9 : Ty := ⟨1, [.val (.string ByteArray.empty)], [], false, (0, 0), 16, .str, (some .str), none⟩
def ty12 : Ty := ⟨1, [.il .u64 0], [], false, (0, 0), 8, (.int .u64), (some (.int .u64)), none⟩
def ty17 : Ty := ⟨1, [.val (.pointer none)], [], false, (0, 0), 8, (.ptr 106), none, none⟩
def ty21 : Ty := ⟨1, [.il .i32 0], [], false, (0, 0), 4, (.int .i32), (some (.int .i32)), none⟩
def ty22 : Ty := ⟨7, [.il .i64 0, .il .i64 0, .il .i64 0, .il .i64 0, .il .i64 0, .il .i64 0, .il .i64 0], [(0, 1, 3), (1, 1, 3), (2, 1, 3), (3, 1, 3), (4, 1, 3), (5, 1, 3), (6, 1, 3)], true, (0, 0), 56, .oth, (some (.pair (.int .i64) (.pair (.int .i64) (.pair (.int .i64) (.pair (.int .i64) (.pair (.int .i64) (.pair (.int .i64) (.int .i64)))))))), (some [.int .i64, .int .i64, .int .i64, .int .i64, .int .i64, .int .i64, .int .i64])⟩
def ty23 : Ty := ⟨7, [.il .i64 0, .il .i64 0, .il .i64 0, .il .i64 0, .il .i64 0, .il .i64 0, .il .i64 0], [(0, 1, 3), (1, 1, 3), (2, 1, 3), (3, 1, 3), (4, 1, 3), (5, 1, 3), (6, 1, 3)], true, (0, 0), 56, .oth, (some (.pair (.int .i64) (.pair (.int .i64) (.pair (.int .i64) (.pair (.int .i64) (.pair (.int .i64) (.pair (.int .i64) (.int .i64)))))))), (some [.int .i64, .int .i64, .int .i64, .int .i64, .int .i64, .int .i64, .int .i64])⟩
def ty24 : Ty := ⟨9, [.il .i64 0, .il .i64 0, .il .i64 0, .il .i64 0, .il .i64 0, .il .i64 0, .il .i64 0, .il .i64 0, .il .i64 0], [(0, 7, 23), (7, 1, 3), (8, 1, 3)], true, (0, 0), 72, .oth, (some (.pair (.pair (.int .i64) (.pair (.int .i64) (.pair (.int .i64) (.pair (.int .i64) (.pair (.int .i64) (.pair (.int .i64) (.int .i64))))))) (.pair (.int .i64) (.int .i64)))), (some [.int .i64, .int .i64, .int .i64, .int .i64, .int .i64, .int .i64, .int .i64, .int .i64, .int .i64])⟩
def ty25 : Ty := ⟨9, [.il .i64 0, .il .i64 0, .il .i64 0, .il .i64 0, .il .i64 0, .il .i64 0, .il .i64 0, .il .i64 0, .il .i64 0], [(0, 7, 23), (7, 1, 3), (8, 1, 3)], true, (0, 0), 72, .oth, (some (.pair (.pair (.int .i64) (.pair (.int .i64) (.pair (.int .i64) (.pair (.int .i64) (.pair (.int .i64) (.pair (.int .i64) (.int .i64))))))) (.pair (.int .i64) (.int .i64)))), (some [.int .i64, .int .i64, .int .i64, .int .i64, .int .i64, .int .i64, .int .i64, .int .i64, .int .i64])⟩
def ty26 : Ty := ⟨1, [.val .nilFunc], [], false, (0, 0), 8, .oth, none, none⟩
def ty27 : Ty := ⟨1, [.il .u64 0], [], false, (0, 0), 8, (.int .u64), (some (.int .u64)), none⟩
def ty28 : Ty := ⟨1, [.val .nilFunc], [], false, (0, 0), 8, .oth, none, none⟩
def ty29 : Ty := ⟨1, [.val .nilFunc], [], false, (0, 0), 8, .oth, none, none⟩
def ty30 : Ty := ⟨1, [.val .nilFunc], [], false, (0, 0), 8, .oth, none, none⟩
def ty31 : Ty := ⟨1, [.val .nilFunc], [], false, (0, 0), 8, .oth, none, none⟩
def ty32 : Ty := ⟨1, [.val .nilFunc], [], false, (0, 0), 8, .oth, none, none⟩
def ty33 : Ty := ⟨1, [.val (.slice none 0 0)], [], false, (0, 0), 24, (.slice 68), (some (.sl (.arr 8 .u64))), none⟩
def ty34 : Ty := ⟨1, [.val (.slice none 0 0)], [], false, (0, 0), 24, (.slice 27), (some (.sl (.int .u64))), none⟩
def ty35 : Ty := ⟨1, [.il .i64 0], [], false, (0, 0), 8, (.int .i64), (some (.int .i64)), none⟩
def ty37 : Ty := ⟨1, [.val .nilFunc], [], false, (0, 0), 8, .oth, none, none⟩
def ty39 : Ty := ⟨1, [.val .nilFunc], [], false, (0, 0), 8, .oth, none, none⟩
def ty40 : Ty := ⟨1, [.val .nilFunc], [], false, (0, 0), 8, .oth, none, none⟩
def ty41 : Ty := ⟨1, [.val .nilFunc], [], false, (0, 0), 8, .oth, none, none⟩
def ty42 : Ty := ⟨1, [.val .nilFunc], [], false, (0, 0), 8, .oth, none, none⟩
def ty43 : Ty := ⟨1, [.val .nilFunc], [], false, (0, 0), 8, .oth, none, none⟩
def ty44 : Ty := ⟨1, [.val .nilFunc], [], false, (0, 0), 8, .oth, none, none⟩
def ty45 : Ty := ⟨3, [.run .u8 3 (List.replicate 3 0)], [], true, (3, 5), 3, .oth, (some (.arr 3 .u8)), (some [.int .u8, .int .u8, .int .u8])⟩
def ty46 : Ty := ⟨1, [.val .nilFunc], [], false, (0, 0), 8, .oth, none, none⟩
def ty47 : Ty := ⟨1, [.val .nilFunc], [], false, (0, 0), 8, .oth, none, none⟩
def ty48 : Ty := ⟨1, [.val .nilFunc], [], false, (0, 0), 8, .oth, none, none⟩
def ty49 : Ty := ⟨0, [], [], true, (0, 0), 0, .oth, (some .unit), (some [])⟩
def ty50 : Ty := ⟨0, [], [], true, (0, 0), 0, .oth, (some .unit), (some [])⟩
def ty51 : Ty := ⟨0, [], [], true, (0, 0), 0, .oth, (some .unit), (some [])⟩
def ty52 : Ty := ⟨1, [.il .u32 0], [], false, (0, 0), 4, (.int .u32), (some (.int .u32)), none⟩
def ty55 : Ty := ⟨2, [.il .i32 0, .il .u32 0], [(0, 1, 21), (1, 1, 52)], true, (0, 0), 8, .oth, (some (.pair (.int .i32) (.int .u32))), (some [.int .i32, .int .u32])⟩
def ty61 : Ty := ⟨8, [.il .u32 0, .il .i32 0, .il .u32 0, .bl false, .il .i64 0, .il .i64 0, .il .i64 0, .il .i64 0], [(0, 3, 60), (3, 1, 4), (4, 1, 3), (5, 1, 3), (6, 1, 3), (7, 1, 3)], true, (0, 0), 48, .oth, (some (.pair (.pair .unit (.pair (.pair .unit (.int .u32)) (.pair .unit (.pair (.int .i32) (.int .u32))))) (.pair .bool (.pair (.int .i64) (.pair (.int .i64) (.pair (.int .i64) (.int .i64))))))), none⟩
def ty62 : Ty := ⟨8, [.il .u32 0, .il .i32 0, .il .u32 0, .bl false, .il .i64 0, .il .i64 0, .il .i64 0, .il .i64 0], [(0, 3, 60), (3, 1, 4), (4, 1, 3), (5, 1, 3), (6, 1, 3), (7, 1, 3)], true, (0, 0), 48, .oth, (some (.pair (.pair .unit (.pair (.pair .unit (.int .u32)) (.pair .unit (.pair (.int .i32) (.int .u32))))) (.pair .bool (.pair (.int .i64) (.pair (.int .i64) (.pair (.int .i64) (.int .i64))))))), none⟩
def ty63 : Ty := ⟨1, [.val (.pointer none)], [], false, (0, 0), 8, (.ptr 62), none, none⟩
def ty64 : Ty := ⟨1, [.val .nilFunc], [], false, (0, 0), 8, .oth, none, none⟩
def ty65 : Ty := ⟨1, [.val .nilFunc], [], false, (0, 0), 8, .oth, none, none⟩
def ty66 : Ty := ⟨1, [.val .nilFunc], [], false, (0, 0), 8, .oth, none, none⟩
def ty67 : Ty := ⟨8, [.run .u64 8 (List.replicate 8 0)], [], true, (8, 27), 64, .oth, (some (.arr 8 .u64)), (some [.int .u64, .int .u64, .int .u64, .int .u64, .int .u64, .int .u64, .int .u64, .int .u64])⟩
def ty68 : Ty := ⟨8, [.run .u64 8 (List.replicate 8 0)], [], true, (8, 27), 64, .oth, (some (.arr 8 .u64)), (some [.int .u64, .int .u64, .int .u64, .int .u64, .int .u64, .int .u64, .int .u64, .int .u64])⟩
def ty69 : Ty := ⟨1, [.val .nilFunc], [], false, (0, 0), 8, .oth, none, none⟩
def ty70 : Ty := ⟨1, [.val .nilFunc], [], false, (0, 0), 8, .oth, none, none⟩
def ty71 : Ty := ⟨1, [.val .nilFunc], [], false, (0, 0), 8, .oth, none, none⟩
def ty72 : Ty := ⟨1, [.val (.pointer none)], [], false, (0, 0), 8, (.ptr 60), none, none⟩
def ty73 : Ty := ⟨1, [.val (.pointer none)], [], false, (0, 0), 8, (.ptr 54), none, none⟩
def ty74 : Ty := ⟨1, [.val .nilFunc], [], false, (0, 0), 8, .oth, none, none⟩
def ty75 : Ty := ⟨1, [.val (.pointer none)], [], false, (0, 0), 8, (.ptr 52), none, none⟩
def ty76 : Ty := ⟨1, [.val .nilFunc], [], false, (0, 0), 8, .oth, none, none⟩
def ty77 : Ty := ⟨1, [.val .nilFunc], [], false, (0, 0), 8, .oth, none, none⟩
def ty78 : Ty := ⟨1, [.val (.pointer none)], [], false, (0, 0), 8, (.ptr 58), none, none⟩
def ty79 : Ty := ⟨1, [.val .nilFunc], [], false, (0, 0), 8, .oth, none, none⟩
def ty80 : Ty := ⟨1, [.val .nilFunc], [], false, (0, 0), 8, .oth, none, none⟩
def ty81 : Ty := ⟨1, [.val (.pointer none)], [], false, (0, 0), 8, (.ptr 56), none, none⟩
def ty82 : Ty := ⟨1, [.val .nilFunc], [], false, (0, 0), 8, .oth, none, none⟩
def ty83 : Ty := ⟨1, [.val (.pointer none)], [], false, (0, 0), 8, (.ptr 21), none, none⟩
def ty84 : Ty := ⟨1, [.val .nilFunc], [], false, (0, 0), 8, .oth, none, none⟩
def ty86 : Ty := ⟨1, [.val .nilFunc], [], false, (0, 0), 8, .oth, none, none⟩
def ty87 : Ty := ⟨1, [.val .nilFunc], [], false, (0, 0), 8, .oth, none, none⟩
def ty88 : Ty := ⟨1, [.il .u64 0], [], false, (0, 0), 8, (.int .u64), (some (.int .u64)), none⟩
def ty89 : Ty := ⟨1, [.val .nilFunc], [], false, (0, 0), 8, .oth, none, none⟩
def ty90 : Ty := ⟨1, [.val .nilFunc], [], false, (0, 0), 8, .oth, none, none⟩
def ty91 : Ty := ⟨1, [.val .nilFunc], [], false, (0, 0), 8, .oth, none, none⟩
def ty92 : Ty := ⟨1, [.val .nilFunc], [], false, (0, 0), 8, .oth, none, none⟩
def ty98 : Ty := ⟨1, [.val .nilFunc], [], false, (0, 0), 8, .oth, none, none⟩
def ty101 : Ty := ⟨1, [.val .nilFunc], [], false, (0, 0), 8, .oth, none, none⟩
def ty102 : Ty := ⟨1, [.val (.pointer none)], [], false, (0, 0), 8, (.ptr 5), none, none⟩
def ty105 : Ty := ⟨11, [.il .u64 0, .il .u64 0, .il .u32 0, .il .u8 0, .il .u8 0, .il .u8 0, .il .u8 0, .val .nilFunc, .val (.pointer none), .il .i32 0, .il .i32 0], [(0, 1, 12), (1, 1, 12), (2, 1, 52), (3, 1, 99), (4, 1, 5), (5, 1, 5), (6, 1, 100), (7, 1, 101), (8, 1, 102), (9, 1, 103), (10, 1, 104)], true, (0, 0), 48, .oth, none, none⟩
def Tbl : Tb
  | 1 => some ty1
  | 2 => some ty2
  | 3 => some ty3
  | 4 => some ty4
  | 5 => some ty5
  | 9 => some ty9
  | 12 => some ty12
  | 17 => some ty17
  | 21 => some ty21
  | 22 => some ty22
  | 23 => some ty23
  | 24 => some ty24
  | 25 => some ty25
  | 26 => some ty26
  | 27 => some ty27
  | 28 => some ty28
  | 29 => some ty29
  | 30 => some ty30
  | 31 => some ty31
  | 32 => some ty32
  | 33 => some ty33
  | 34 => some ty34
  | 35 => some ty35
  | 37 => some ty37
  | 39 => some ty39
  | 40 => some ty40
  | 41 => some ty41
  | 42 => some ty42
  | 43 => some ty43
  | 44 => some ty44
  | 45 => some ty45
  | 46 => some ty46
  | 47 => some ty47
  | 48 => some ty48
  | 49 => some ty49
  | 50 => some ty50
  | 51 => some ty51
  | 52 => some ty52
  | 55 => some ty55
  | 61 => some ty61
  | 62 => some ty62
  | 63 => some ty63
  | 64 => some ty64
  | 65 => some ty65
  | 66 => some ty66
  | 67 => some ty67
  | 68 => some ty68
  | 69 => some ty69
  | 70 => some ty70
  | 71 => some ty71
  | 72 => some ty72
  | 73 => some ty73
  | 74 => some ty74
  | 75 => some ty75
  | 76 => some ty76
  | 77 => some ty77
  | 78 => some ty78
  | 79 => some ty79
  | 80 => some ty80
  | 81 => some ty81
  | 82 => some ty82
  | 83 => some ty83
  | 84 => some ty84
  | 86 => some ty86
  | 87 => some ty87
  | 88 => some ty88
  | 89 => some ty89
  | 90 => some ty90
  | 91 => some ty91
  | 92 => some ty92
  | 98 => some ty98
  | 101 => some ty101
  | 102 => some ty102
  | 105 => some ty105
  | _ => none
theorem tyOk1 : TyOk Try.prog 1 ty1 := tyB_ok (by kernel_rfl)
theorem tyOk2 : TyOk Try.prog 2 ty2 := tyB_ok (by kernel_rfl)
theorem tyOk3 : TyOk Try.prog 3 ty3 := tyB_ok (by kernel_rfl)
theorem tyOk4 : TyOk Try.prog 4 ty4 := tyB_ok (by kernel_rfl)
theorem tyOk5 : TyOk Try.prog 5 ty5 := tyB_ok (by kernel_rfl)
theorem tyOk9 : TyOk Try.prog 9 ty9 := tyB_ok (by kernel_rfl)
theorem tyOk12 : TyOk Try.prog 12 ty12 := tyB_ok (by kernel_rfl)
theorem tyOk17 : TyOk Try.prog 17 ty17 := tyB_ok (by kernel_rfl)
theorem tyOk21 : TyOk Try.prog 21 ty21 := tyB_ok (by kernel_rfl)
theorem tyOk22 : TyOk Try.prog 22 ty22 := tyB_ok (by kernel_rfl)
theorem tyOk23 : TyOk Try.prog 23 ty23 := tyB_ok (by kernel_rfl)
theorem tyOk24 : TyOk Try.prog 24 ty24 := tyB_ok (by kernel_rfl)
theorem tyOk25 : TyOk Try.prog 25 ty25 := tyB_ok (by kernel_rfl)
theorem tyOk26 : TyOk Try.prog 26 ty26 := tyB_ok (by kernel_rfl)
theorem tyOk27 : TyOk Try.prog 27 ty27 := tyB_ok (by kernel_rfl)
theorem tyOk28 : TyOk Try.prog 28 ty28 := tyB_ok (by kernel_rfl)
theorem tyOk29 : TyOk Try.prog 29 ty29 := tyB_ok (by kernel_rfl)
theorem tyOk30 : TyOk Try.prog 30 ty30 := tyB_ok (by kernel_rfl)
theorem tyOk31 : TyOk Try.prog 31 ty31 := tyB_ok (by kernel_rfl)
theorem tyOk32 : TyOk Try.prog 32 ty32 := tyB_ok (by kernel_rfl)
theorem tyOk33 : TyOk Try.prog 33 ty33 := tyB_ok (by kernel_rfl)
theorem tyOk34 : TyOk Try.prog 34 ty34 := tyB_ok (by kernel_rfl)
theorem tyOk35 : TyOk Try.prog 35 ty35 := tyB_ok (by kernel_rfl)
theorem tyOk37 : TyOk Try.prog 37 ty37 := tyB_ok (by kernel_rfl)
theorem tyOk39 : TyOk Try.prog 39 ty39 := tyB_ok (by kernel_rfl)
theorem tyOk40 : TyOk Try.prog 40 ty40 := tyB_ok (by kernel_rfl)
theorem tyOk41 : TyOk Try.prog 41 ty41 := tyB_ok (by kernel_rfl)
theorem tyOk42 : TyOk Try.prog 42 ty42 := tyB_ok (by kernel_rfl)
theorem tyOk43 : TyOk Try.prog 43 ty43 := tyB_ok (by kernel_rfl)
theorem tyOk44 : TyOk Try.prog 44 ty44 := tyB_ok (by kernel_rfl)
theorem tyOk45 : TyOk Try.prog 45 ty45 := tyB_ok (by kernel_rfl)
theorem tyOk46 : TyOk Try.prog 46 ty46 := tyB_ok (by kernel_rfl)
theorem tyOk47 : TyOk Try.prog 47 ty47 := tyB_ok (by kernel_rfl)
theorem tyOk48 : TyOk Try.prog 48 ty48 := tyB_ok (by kernel_rfl)
theorem tyOk49 : TyOk Try.prog 49 ty49 := tyB_ok (by kernel_rfl)
theorem tyOk50 : TyOk Try.prog 50 ty50 := tyB_ok (by kernel_rfl)
theorem tyOk51 : TyOk Try.prog 51 ty51 := tyB_ok (by kernel_rfl)
theorem tyOk52 : TyOk Try.prog 52 ty52 := tyB_ok (by kernel_rfl)
theorem tyOk55 : TyOk Try.prog 55 ty55 := tyB_ok (by kernel_rfl)
theorem tyOk61 : TyOk Try.prog 61 ty61 := tyB_ok (by kernel_rfl)
theorem tyOk62 : TyOk Try.prog 62 ty62 := tyB_ok (by kernel_rfl)
theorem tyOk63 : TyOk Try.prog 63 ty63 := tyB_ok (by kernel_rfl)
theorem tyOk64 : TyOk Try.prog 64 ty64 := tyB_ok (by kernel_rfl)
theorem tyOk65 : TyOk Try.prog 65 ty65 := tyB_ok (by kernel_rfl)
theorem tyOk66 : TyOk Try.prog 66 ty66 := tyB_ok (by kernel_rfl)
theorem tyOk67 : TyOk Try.prog 67 ty67 := tyB_ok (by kernel_rfl)
theorem tyOk68 : TyOk Try.prog 68 ty68 := tyB_ok (by kernel_rfl)
theorem tyOk69 : TyOk Try.prog 69 ty69 := tyB_ok (by kernel_rfl)
theorem tyOk70 : TyOk Try.prog 70 ty70 := tyB_ok (by kernel_rfl)
theorem tyOk71 : TyOk Try.prog 71 ty71 := tyB_ok (by kernel_rfl)
theorem tyOk72 : TyOk Try.prog 72 ty72 := tyB_ok (by kernel_rfl)
theorem tyOk73 : TyOk Try.prog 73 ty73 := tyB_ok (by kernel_rfl)
theorem tyOk74 : TyOk Try.prog 74 ty74 := tyB_ok (by kernel_rfl)
theorem tyOk75 : TyOk Try.prog 75 ty75 := tyB_ok (by kernel_rfl)
theorem tyOk76 : TyOk Try.prog 76 ty76 := tyB_ok (by kernel_rfl)
theorem tyOk77 : TyOk Try.prog 77 ty77 := tyB_ok (by kernel_rfl)
theorem tyOk78 : TyOk Try.prog 78 ty78 := tyB_ok (by kernel_rfl)
theorem tyOk79 : TyOk Try.prog 79 ty79 := tyB_ok (by kernel_rfl)
theorem tyOk80 : TyOk Try.prog 80 ty80 := tyB_ok (by kernel_rfl)
theorem tyOk81 : TyOk Try.prog 81 ty81 := tyB_ok (by kernel_rfl)
theorem tyOk82 : TyOk Try.prog 82 ty82 := tyB_ok (by kernel_rfl)
theorem tyOk83 : TyOk Try.prog 83 ty83 := tyB_ok (by kernel_rfl)
theorem tyOk84 : TyOk Try.prog 84 ty84 := tyB_ok (by kernel_rfl)
theorem tyOk86 : TyOk Try.prog 86 ty86 := tyB_ok (by kernel_rfl)
theorem tyOk87 : TyOk Try.prog 87 ty87 := tyB_ok (by kernel_rfl)
theorem tyOk88 : TyOk Try.prog 88 ty88 := tyB_ok (by kernel_rfl)
theorem tyOk89 : TyOk Try.prog 89 ty89 := tyB_ok (by kernel_rfl)
theorem tyOk90 : TyOk Try.prog 90 ty90 := tyB_ok (by kernel_rfl)
theorem tyOk91 : TyOk Try.prog 91 ty91 := tyB_ok (by kernel_rfl)
theorem tyOk92 : TyOk Try.prog 92 ty92 := tyB_ok (by kernel_rfl)
theorem tyOk98 : TyOk Try.prog 98 ty98 := tyB_ok (by kernel_rfl)
theorem tyOk101 : TyOk Try.prog 101 ty101 := tyB_ok (by kernel_rfl)
theorem tyOk102 : TyOk Try.prog 102 ty102 := tyB_ok (by kernel_rfl)
theorem tyOk105 : TyOk Try.prog 105 ty105 := tyB_ok (by kernel_rfl)
theorem Tbl_ok : ∀ t i, Tbl t = some i → TyOk Try.prog t i := by
  intro t i h
  unfold Tbl at h
  split at h <;> cases h
  · exact tyOk1
  · exact tyOk2
  · exact tyOk3
  · exact tyOk4
  · exact tyOk5
  · exact tyOk9
  · exact tyOk12
  · exact tyOk17
  · exact tyOk21
  · exact tyOk22
  · exact tyOk23
  · exact tyOk24
  · exact tyOk25
  · exact tyOk26
  · exact tyOk27
  · exact tyOk28
  · exact tyOk29
  · exact tyOk30
  · exact tyOk31
  · exact tyOk32
  · exact tyOk33
  · exact tyOk34
  · exact tyOk35
  · exact tyOk37
  · exact tyOk39
  · exact tyOk40
  · exact tyOk41
  · exact tyOk42
  · exact tyOk43
  · exact tyOk44
  · exact tyOk45
  · exact tyOk46
  · exact tyOk47
  · exact tyOk48
  · exact tyOk49
  · exact tyOk50
  · exact tyOk51
  · exact tyOk52
  · exact tyOk55
  · exact tyOk61
  · exact tyOk62
  · exact tyOk63
  · exact tyOk64
  · exact tyOk65
  · exact tyOk66
  · exact tyOk67
  · exact tyOk68
  · exact tyOk69
  · exact tyOk70
  · exact tyOk71
  · exact tyOk72
  · exact tyOk73
  · exact tyOk74
  · exact tyOk75
  · exact tyOk76
  · exact tyOk77
  · exact tyOk78
  · exact tyOk79
  · exact tyOk80
  · exact tyOk81
  · exact tyOk82
  · exact tyOk83
  · exact tyOk84
  · exact tyOk86
  · exact tyOk87
  · exact tyOk88
  · exact tyOk89
  · exact tyOk90
  · exact tyOk91
  · exact tyOk92
  · exact tyOk98
  · exact tyOk101
  · exact tyOk102
  · exact tyOk105
theorem mixed : Try.prog.follows .mixedOrders = true := by kernel_rfl
theorem call3 : CallOk Try.prog 3 := ⟨_, Try.func3, by kernel_rfl, by kernel_rfl⟩
theorem call4 : CallOk Try.prog 4 := ⟨_, Try.func4, by kernel_rfl, by kernel_rfl⟩
theorem call5 : CallOk Try.prog 5 := ⟨_, Try.func5, by kernel_rfl, by kernel_rfl⟩
theorem call6 : CallOk Try.prog 6 := ⟨_, Try.func6, by kernel_rfl, by kernel_rfl⟩
theorem call7 : CallOk Try.prog 7 := ⟨_, Try.func7, by kernel_rfl, by kernel_rfl⟩
theorem call8 : CallOk Try.prog 8 := ⟨_, Try.func8, by kernel_rfl, by kernel_rfl⟩
theorem call9 : CallOk Try.prog 9 := ⟨_, Try.func9, by kernel_rfl, by kernel_rfl⟩
theorem call10 : CallOk Try.prog 10 := ⟨_, Try.func10, by kernel_rfl, by kernel_rfl⟩
theorem call11 : CallOk Try.prog 11 := ⟨_, Try.func11, by kernel_rfl, by kernel_rfl⟩
theorem call12 : CallOk Try.prog 12 := ⟨_, Try.func12, by kernel_rfl, by kernel_rfl⟩
theorem call13 : CallOk Try.prog 13 := ⟨_, Try.func13, by kernel_rfl, by kernel_rfl⟩
theorem call14 : CallOk Try.prog 14 := ⟨_, Try.func14, by kernel_rfl, by kernel_rfl⟩
theorem call15 : CallOk Try.prog 15 := ⟨_, Try.func15, by kernel_rfl, by kernel_rfl⟩
theorem call16 : CallOk Try.prog 16 := ⟨_, Try.func16, by kernel_rfl, by kernel_rfl⟩
theorem call17 : CallOk Try.prog 17 := ⟨_, Try.func17, by kernel_rfl, by kernel_rfl⟩
theorem call18 : CallOk Try.prog 18 := ⟨_, Try.func18, by kernel_rfl, by kernel_rfl⟩
theorem call19 : CallOk Try.prog 19 := ⟨_, Try.func19, by kernel_rfl, by kernel_rfl⟩
theorem call20 : CallOk Try.prog 20 := ⟨_, Try.func20, by kernel_rfl, by kernel_rfl⟩
theorem call21 : CallOk Try.prog 21 := ⟨_, Try.func21, by kernel_rfl, by kernel_rfl⟩
theorem call22 : CallOk Try.prog 22 := ⟨_, Try.func22, by kernel_rfl, by kernel_rfl⟩
theorem call23 : CallOk Try.prog 23 := ⟨_, Try.func23, by kernel_rfl, by kernel_rfl⟩
theorem call24 : CallOk Try.prog 24 := ⟨_, Try.func24, by kernel_rfl, by kernel_rfl⟩
theorem call25 : CallOk Try.prog 25 := ⟨_, Try.func25, by kernel_rfl, by kernel_rfl⟩
theorem call26 : CallOk Try.prog 26 := ⟨_, Try.func26, by kernel_rfl, by kernel_rfl⟩
theorem call27 : CallOk Try.prog 27 := ⟨_, Try.func27, by kernel_rfl, by kernel_rfl⟩
theorem call28 : CallOk Try.prog 28 := ⟨_, Try.func28, by kernel_rfl, by kernel_rfl⟩
theorem call29 : CallOk Try.prog 29 := ⟨_, Try.func29, by kernel_rfl, by kernel_rfl⟩
theorem call30 : CallOk Try.prog 30 := ⟨_, Try.func30, by kernel_rfl, by kernel_rfl⟩
theorem call31 : CallOk Try.prog 31 := ⟨_, Try.func31, by kernel_rfl, by kernel_rfl⟩
theorem call32 : CallOk Try.prog 32 := ⟨_, Try.func32, by kernel_rfl, by kernel_rfl⟩
theorem call33 : CallOk Try.prog 33 := ⟨_, Try.func33, by kernel_rfl, by kernel_rfl⟩
theorem call34 : CallOk Try.prog 34 := ⟨_, Try.func34, by kernel_rfl, by kernel_rfl⟩
theorem call35 : CallOk Try.prog 35 := ⟨_, Try.func35, by kernel_rfl, by kernel_rfl⟩
theorem call36 : CallOk Try.prog 36 := ⟨_, Try.func36, by kernel_rfl, by kernel_rfl⟩
theorem call37 : CallOk Try.prog 37 := ⟨_, Try.func37, by kernel_rfl, by kernel_rfl⟩
theorem call38 : CallOk Try.prog 38 := ⟨_, Try.func38, by kernel_rfl, by kernel_rfl⟩
theorem call39 : CallOk Try.prog 39 := ⟨_, Try.func39, by kernel_rfl, by kernel_rfl⟩
theorem call40 : CallOk Try.prog 40 := ⟨_, Try.func40, by kernel_rfl, by kernel_rfl⟩
theorem call42 : CallOk Try.prog 42 := ⟨_, Try.func42, by kernel_rfl, by kernel_rfl⟩
theorem call43 : CallOk Try.prog 43 := ⟨_, Try.func43, by kernel_rfl, by kernel_rfl⟩
theorem call44 : CallOk Try.prog 44 := ⟨_, Try.func44, by kernel_rfl, by kernel_rfl⟩
theorem call45 : CallOk Try.prog 45 := ⟨_, Try.func45, by kernel_rfl, by kernel_rfl⟩
theorem call46 : CallOk Try.prog 46 := ⟨_, Try.func46, by kernel_rfl, by kernel_rfl⟩
theorem call47 : CallOk Try.prog 47 := ⟨_, Try.func47, by kernel_rfl, by kernel_rfl⟩
theorem call49 : CallOk Try.prog 49 := ⟨_, Try.func49, by kernel_rfl, by kernel_rfl⟩
theorem call54 : CallOk Try.prog 54 := ⟨_, Try.func54, by kernel_rfl, by kernel_rfl⟩
theorem call57 : CallOk Try.prog 57 := ⟨_, Try.func57, by kernel_rfl, by kernel_rfl⟩
end Go.Proofs.Ytejeghfddnbhaaa.V

