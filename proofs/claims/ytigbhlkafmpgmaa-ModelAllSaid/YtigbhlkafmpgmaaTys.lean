/-
  The types of the program, as the symbolic run reads them.
-/
import Derived.Test.YtigbhlkafmpgmaaProg
import Derived.Test.YtigbhlkafmpgmaaKitVk
namespace Go.Proofs.Ytigbhlkafmpgmaa.V
open Go.RowKit Go.Proofs.Ytigbhlkafmpgmaa
def ty1 : Ty := ⟨1, [.val .nilFunc], [], false, (0, 0), 8, .oth, none, none⟩
def ty2 : Ty := ⟨1, [.il .i64 0], [], false, (0, 0), 8, (.int .i64), (some (.int .i64)), none⟩
def ty3 : Ty := ⟨1, [.il .i64 0], [], false, (0, 0), 8, (.int .i64), (some (.int .i64)), none⟩
def ty4 : Ty := ⟨1, [.bl false], [], false, (0, 0), 1, .bool, (some .bool), none⟩
def ty5 : Ty := ⟨1, [.il .u8 0], [], false, (0, 0), 1, (.int .u8), (some (.int .u8)), none⟩
def ty9 : Ty := ⟨1, [.val (.string ByteArray.empty)], [], false, (0, 0), 16, .str, (some .str), none⟩
def ty12 : Ty := ⟨1, [.il .u64 0], [], false, (0, 0), 8, (.int .u64), (some (.int .u64)), none⟩
def ty17 : Ty := ⟨1, [.val (.pointer none)], [], false, (0, 0), 8, (.ptr 80), none, none⟩
def ty21 : Ty := ⟨1, [.il .i32 0], [], false, (0, 0), 4, (.int .i32), (some (.int .i32)), none⟩
def ty22 : Ty := ⟨1, [.val (.slice none 0 0)], [], false, (0, 0), 24, (.slice 37), (some (.sl (.int .u64))), none⟩
def ty23 : Ty := ⟨1, [.val (.slice none 0 0)], [], false, (0, 0), 24, (.slice 39), (some (.sl (.pair (.int .i64) (.pair (.int .i64) (.int .u64))))), none⟩
def ty24 : Ty := ⟨2, [.val (.slice none 0 0), .bl false], [(0, 1, 23), (1, 1, 4)], true, (0, 0), 32, .oth, (some (.pair (.sl (.pair (.int .i64) (.pair (.int .i64) (.int .u64)))) .bool)), none⟩
def ty25 : Ty := ⟨2, [.val (.slice none 0 0), .bl false], [(0, 1, 23), (1, 1, 4)], true, (0, 0), 32, .oth, (some (.pair (.sl (.pair (.int .i64) (.pair (.int .i64) (.int .u64)))) .bool)), none⟩
def ty26 : Ty := ⟨1, [.val .nilFunc], [], false, (0, 0), 8, .oth, none, none⟩
def ty27 : Ty := ⟨1, [.il .i64 0], [], false, (0, 0), 8, (.int .i64), (some (.int .i64)), none⟩
def ty29 : Ty := ⟨1, [.val .nilFunc], [], false, (0, 0), 8, .oth, none, none⟩
def ty30 : Ty := ⟨1, [.val (.slice none 0 0)], [], false, (0, 0), 24, (.slice 25), (some (.sl (.pair (.sl (.pair (.int .i64) (.pair (.int .i64) (.int .u64)))) .bool))), none⟩
def ty31 : Ty := ⟨1, [.val .nilFunc], [], false, (0, 0), 8, .oth, none, none⟩
def ty32 : Ty := ⟨3, [.val (.slice none 0 0), .val (.slice none 0 0), .il .i64 0], [(0, 1, 22), (1, 1, 22), (2, 1, 3)], true, (0, 0), 56, .oth, (some (.pair (.sl (.int .u64)) (.pair (.sl (.int .u64)) (.int .i64)))), none⟩
def ty33 : Ty := ⟨3, [.val (.slice none 0 0), .val (.slice none 0 0), .il .i64 0], [(0, 1, 22), (1, 1, 22), (2, 1, 3)], true, (0, 0), 56, .oth, (some (.pair (.sl (.int .u64)) (.pair (.sl (.int .u64)) (.int .i64)))), none⟩
def ty34 : Ty := ⟨1, [.val .nilFunc], [], false, (0, 0), 8, .oth, none, none⟩
def ty35 : Ty := ⟨1, [.val .nilFunc], [], false, (0, 0), 8, .oth, none, none⟩
def ty36 : Ty := ⟨1, [.val .nilFunc], [], false, (0, 0), 8, .oth, none, none⟩
def ty37 : Ty := ⟨1, [.il .u64 0], [], false, (0, 0), 8, (.int .u64), (some (.int .u64)), none⟩
def ty38 : Ty := ⟨3, [.il .i64 0, .il .i64 0, .il .u64 0], [(0, 1, 3), (1, 1, 3), (2, 1, 37)], true, (0, 0), 24, .oth, (some (.pair (.int .i64) (.pair (.int .i64) (.int .u64)))), (some [.int .i64, .int .i64, .int .u64])⟩
def ty39 : Ty := ⟨3, [.il .i64 0, .il .i64 0, .il .u64 0], [(0, 1, 3), (1, 1, 3), (2, 1, 37)], true, (0, 0), 24, .oth, (some (.pair (.int .i64) (.pair (.int .i64) (.int .u64)))), (some [.int .i64, .int .i64, .int .u64])⟩
def ty40 : Ty := ⟨1, [.val (.slice none 0 0)], [], false, (0, 0), 24, (.slice 22), (some (.sl (.sl (.int .u64)))), none⟩
def ty42 : Ty := ⟨1, [.val .nilFunc], [], false, (0, 0), 8, .oth, none, none⟩
def ty43 : Ty := ⟨1, [.val .nilFunc], [], false, (0, 0), 8, .oth, none, none⟩
def ty44 : Ty := ⟨1, [.val .nilFunc], [], false, (0, 0), 8, .oth, none, none⟩
def ty45 : Ty := ⟨1, [.val .nilFunc], [], false, (0, 0), 8, .oth, none, none⟩
def ty46 : Ty := ⟨2, [.run .u64 2 (List.replicate 2 0)], [], true, (2, 37), 16, .oth, (some (.arr 2 .u64)), (some [.int .u64, .int .u64])⟩
def ty47 : Ty := ⟨1, [.val .nilFunc], [], false, (0, 0), 8, .oth, none, none⟩
def ty48 : Ty := ⟨1, [.val (.slice none 0 0)], [], false, (0, 0), 24, (.slice 3), (some (.sl (.int .i64))), none⟩
def ty50 : Ty := ⟨1, [.val .nilFunc], [], false, (0, 0), 8, .oth, none, none⟩
def ty51 : Ty := ⟨1, [.val .nilFunc], [], false, (0, 0), 8, .oth, none, none⟩
def ty52 : Ty := ⟨1, [.val .nilFunc], [], false, (0, 0), 8, .oth, none, none⟩
def ty53 : Ty := ⟨1, [.val (.pointer none)], [], false, (0, 0), 8, (.ptr 56), none, none⟩
def ty55 : Ty := ⟨5, [.val (.slice none 0 0), .il .i64 0, .val (.map none), .il .i64 0, .val (.slice none 0 0)], [(0, 1, 22), (1, 1, 3), (2, 1, 54), (3, 1, 3), (4, 1, 22)], true, (0, 0), 72, .oth, none, none⟩
def ty56 : Ty := ⟨5, [.val (.slice none 0 0), .il .i64 0, .val (.map none), .il .i64 0, .val (.slice none 0 0)], [(0, 1, 22), (1, 1, 3), (2, 1, 54), (3, 1, 3), (4, 1, 22)], true, (0, 0), 72, .oth, none, none⟩
def ty57 : Ty := ⟨1, [.val .nilFunc], [], false, (0, 0), 8, .oth, none, none⟩
def ty58 : Ty := ⟨1, [.val .nilFunc], [], false, (0, 0), 8, .oth, none, none⟩
def ty59 : Ty := ⟨1, [.val .nilFunc], [], false, (0, 0), 8, .oth, none, none⟩
def ty60 : Ty := ⟨1, [.val .nilFunc], [], false, (0, 0), 8, .oth, none, none⟩
def ty61 : Ty := ⟨1, [.val .nilFunc], [], false, (0, 0), 8, .oth, none, none⟩
def ty62 : Ty := ⟨1, [.val .nilFunc], [], false, (0, 0), 8, .oth, none, none⟩
def ty63 : Ty := ⟨1, [.val .nilFunc], [], false, (0, 0), 8, .oth, none, none⟩
def ty65 : Ty := ⟨1, [.val .nilFunc], [], false, (0, 0), 8, .oth, none, none⟩
def ty71 : Ty := ⟨1, [.val .nilFunc], [], false, (0, 0), 8, .oth, none, none⟩
def ty72 : Ty := ⟨1, [.il .u32 0], [], false, (0, 0), 4, (.int .u32), (some (.int .u32)), none⟩
def ty75 : Ty := ⟨1, [.val .nilFunc], [], false, (0, 0), 8, .oth, none, none⟩
def ty76 : Ty := ⟨1, [.val (.pointer none)], [], false, (0, 0), 8, (.ptr 5), none, none⟩
def ty79 : Ty := ⟨11, [.il .u64 0, .il .u64 0, .il .u32 0, .il .u8 0, .il .u8 0, .il .u8 0, .il .u8 0, .val .nilFunc, .val (.pointer none), .il .i32 0, .il .i32 0], [(0, 1, 12), (1, 1, 12), (2, 1, 72), (3, 1, 73), (4, 1, 5), (5, 1, 5), (6, 1, 74), (7, 1, 75), (8, 1, 76), (9, 1, 77), (10, 1, 78)], true, (0, 0), 48, .oth, none, none⟩
def Tbl : Tb
  | 1 => some ty1
  | 2 => some ty2
  | 3 => some ty3
  | 4 => some ty4
  | 5 => some ty5
  | 9 => some ty9
  | 12 => some ty12
  | 17 => some ty17
  | 21 => some ty21
  | 22 => some ty22
  | 23 => some ty23
  | 24 => some ty24
  | 25 => some ty25
  | 26 => some ty26
  | 27 => some ty27
  | 29 => some ty29
  | 30 => some ty30
  | 31 => some ty31
  | 32 => some ty32
  | 33 => some ty33
  | 34 => some ty34
  | 35 => some ty35
  | 36 => some ty36
  | 37 => some ty37
  | 38 => some ty38
  | 39 => some ty39
  | 40 => some ty40
  | 42 => some ty42
  | 43 => some ty43
  | 44 => some ty44
  | 45 => some ty45
  | 46 => some ty46
  | 47 => some ty47
  | 48 => some ty48
  | 50 => some ty50
  | 51 => some ty51
  | 52 => some ty52
  | 53 => some ty53
  | 55 => some ty55
  | 56 => some ty56
  | 57 => some ty57
  | 58 => some ty58
  | 59 => some ty59
  | 60 => some ty60
  | 61 => some ty61
  | 62 => some ty62
  | 63 => some ty63
  | 65 => some ty65
  | 71 => some ty71
  | 72 => some ty72
  | 75 => some ty75
  | 76 => some ty76
  | 79 => some ty79
  | _ => none
theorem tyOk1 : TyOk Try.prog 1 ty1 := tyB_ok (by kernel_rfl)
theorem tyOk2 : TyOk Try.prog 2 ty2 := tyB_ok (by kernel_rfl)
theorem tyOk3 : TyOk Try.prog 3 ty3 := tyB_ok (by kernel_rfl)
theorem tyOk4 : TyOk Try.prog 4 ty4 := tyB_ok (by kernel_rfl)
theorem tyOk5 : TyOk Try.prog 5 ty5 := tyB_ok (by kernel_rfl)
theorem tyOk9 : TyOk Try.prog 9 ty9 := tyB_ok (by kernel_rfl)
theorem tyOk12 : TyOk Try.prog 12 ty12 := tyB_ok (by kernel_rfl)
theorem tyOk17 : TyOk Try.prog 17 ty17 := tyB_ok (by kernel_rfl)
theorem tyOk21 : TyOk Try.prog 21 ty21 := tyB_ok (by kernel_rfl)
theorem tyOk22 : TyOk Try.prog 22 ty22 := tyB_ok (by kernel_rfl)
theorem tyOk23 : TyOk Try.prog 23 ty23 := tyB_ok (by kernel_rfl)
theorem tyOk24 : TyOk Try.prog 24 ty24 := tyB_ok (by kernel_rfl)
theorem tyOk25 : TyOk Try.prog 25 ty25 := tyB_ok (by kernel_rfl)
theorem tyOk26 : TyOk Try.prog 26 ty26 := tyB_ok (by kernel_rfl)
theorem tyOk27 : TyOk Try.prog 27 ty27 := tyB_ok (by kernel_rfl)
theorem tyOk29 : TyOk Try.prog 29 ty29 := tyB_ok (by kernel_rfl)
theorem tyOk30 : TyOk Try.prog 30 ty30 := tyB_ok (by kernel_rfl)
theorem tyOk31 : TyOk Try.prog 31 ty31 := tyB_ok (by kernel_rfl)
theorem tyOk32 : TyOk Try.prog 32 ty32 := tyB_ok (by kernel_rfl)
theorem tyOk33 : TyOk Try.prog 33 ty33 := tyB_ok (by kernel_rfl)
theorem tyOk34 : TyOk Try.prog 34 ty34 := tyB_ok (by kernel_rfl)
theorem tyOk35 : TyOk Try.prog 35 ty35 := tyB_ok (by kernel_rfl)
theorem tyOk36 : TyOk Try.prog 36 ty36 := tyB_ok (by kernel_rfl)
theorem tyOk37 : TyOk Try.prog 37 ty37 := tyB_ok (by kernel_rfl)
theorem tyOk38 : TyOk Try.prog 38 ty38 := tyB_ok (by kernel_rfl)
theorem tyOk39 : TyOk Try.prog 39 ty39 := tyB_ok (by kernel_rfl)
theorem tyOk40 : TyOk Try.prog 40 ty40 := tyB_ok (by kernel_rfl)
theorem tyOk42 : TyOk Try.prog 42 ty42 := tyB_ok (by kernel_rfl)
theorem tyOk43 : TyOk Try.prog 43 ty43 := tyB_ok (by kernel_rfl)
theorem tyOk44 : TyOk Try.prog 44 ty44 := tyB_ok (by kernel_rfl)
theorem tyOk45 : TyOk Try.prog 45 ty45 := tyB_ok (by kernel_rfl)
theorem tyOk46 : TyOk Try.prog 46 ty46 := tyB_ok (by kernel_rfl)
theorem tyOk47 : TyOk Try.prog 47 ty47 := tyB_ok (by kernel_rfl)
theorem tyOk48 : TyOk Try.prog 48 ty48 := tyB_ok (by kernel_rfl)
theorem tyOk50 : TyOk Try.prog 50 ty50 := tyB_ok (by kernel_rfl)
theorem tyOk51 : TyOk Try.prog 51 ty51 := tyB_ok (by kernel_rfl)
theorem tyOk52 : TyOk Try.prog 52 ty52 := tyB_ok (by kernel_rfl)
theorem tyOk53 : TyOk Try.prog 53 ty53 := tyB_ok (by kernel_rfl)
theorem tyOk55 : TyOk Try.prog 55 ty55 := tyB_ok (by kernel_rfl)
theorem tyOk56 : TyOk Try.prog 56 ty56 := tyB_ok (by kernel_rfl)
theorem tyOk57 : TyOk Try.prog 57 ty57 := tyB_ok (by kernel_rfl)
theorem tyOk58 : TyOk Try.prog 58 ty58 := tyB_ok (by kernel_rfl)
theorem tyOk59 : TyOk Try.prog 59 ty59 := tyB_ok (by kernel_rfl)
theorem tyOk60 : TyOk Try.prog 60 ty60 := tyB_ok (by kernel_rfl)
theorem tyOk61 : TyOk Try.prog 61 ty61 := tyB_ok (by kernel_rfl)
theorem tyOk62 : TyOk Try.prog 62 ty62 := tyB_ok (by kernel_rfl)
theorem tyOk63 : TyOk Try.prog 63 ty63 := tyB_ok (by kernel_rfl)
theorem tyOk65 : TyOk Try.prog 65 ty65 := tyB_ok (by kernel_rfl)
theorem tyOk71 : TyOk Try.prog 71 ty71 := tyB_ok (by kernel_rfl)
theorem tyOk72 : TyOk Try.prog 72 ty72 := tyB_ok (by kernel_rfl)
theorem tyOk75 : TyOk Try.prog 75 ty75 := tyB_ok (by kernel_rfl)
theorem tyOk76 : TyOk Try.prog 76 ty76 := tyB_ok (by kernel_rfl)
theorem tyOk79 : TyOk Try.prog 79 ty79 := tyB_ok (by kernel_rfl)
theorem Tbl_ok : ∀ t i, Tbl t = some i → TyOk Try.prog t i := by
  intro t i h
  unfold Tbl at h
  split at h <;> cases h
  · exact tyOk1
  · exact tyOk2
  · exact tyOk3
  · exact tyOk4
  · exact tyOk5
  · exact tyOk9
  · exact tyOk12
  · exact tyOk17
  · exact tyOk21
  · exact tyOk22
  · exact tyOk23
  · exact tyOk24
  · exact tyOk25
  · exact tyOk26
  · exact tyOk27
  · exact tyOk29
  · exact tyOk30
  · exact tyOk31
  · exact tyOk32
  · exact tyOk33
  · exact tyOk34
  · exact tyOk35
  · exact tyOk36
  · exact tyOk37
  · exact tyOk38
  · exact tyOk39
  · exact tyOk40
  · exact tyOk42
  · exact tyOk43
  · exact tyOk44
  · exact tyOk45
  · exact tyOk46
  · exact tyOk47
  · exact tyOk48
  · exact tyOk50
  · exact tyOk51
  · exact tyOk52
  · exact tyOk53
  · exact tyOk55
  · exact tyOk56
  · exact tyOk57
  · exact tyOk58
  · exact tyOk59
  · exact tyOk60
  · exact tyOk61
  · exact tyOk62
  · exact tyOk63
  · exact tyOk65
  · exact tyOk71
  · exact tyOk72
  · exact tyOk75
  · exact tyOk76
  · exact tyOk79
theorem mixed : Try.prog.follows .mixedOrders = true := by kernel_rfl
theorem call3 : CallOk Try.prog 3 := ⟨_, Try.func3, by kernel_rfl, by kernel_rfl⟩
theorem call4 : CallOk Try.prog 4 := ⟨_, Try.func4, by kernel_rfl, by kernel_rfl⟩
theorem call5 : CallOk Try.prog 5 := ⟨_, Try.func5, by kernel_rfl, by kernel_rfl⟩
theorem call6 : CallOk Try.prog 6 := ⟨_, Try.func6, by kernel_rfl, by kernel_rfl⟩
theorem call7 : CallOk Try.prog 7 := ⟨_, Try.func7, by kernel_rfl, by kernel_rfl⟩
theorem call8 : CallOk Try.prog 8 := ⟨_, Try.func8, by kernel_rfl, by kernel_rfl⟩
theorem call9 : CallOk Try.prog 9 := ⟨_, Try.func9, by kernel_rfl, by kernel_rfl⟩
theorem call10 : CallOk Try.prog 10 := ⟨_, Try.func10, by kernel_rfl, by kernel_rfl⟩
theorem call11 : CallOk Try.prog 11 := ⟨_, Try.func11, by kernel_rfl, by kernel_rfl⟩
theorem call12 : CallOk Try.prog 12 := ⟨_, Try.func12, by kernel_rfl, by kernel_rfl⟩
theorem call13 : CallOk Try.prog 13 := ⟨_, Try.func13, by kernel_rfl, by kernel_rfl⟩
theorem call14 : CallOk Try.prog 14 := ⟨_, Try.func14, by kernel_rfl, by kernel_rfl⟩
theorem call15 : CallOk Try.prog 15 := ⟨_, Try.func15, by kernel_rfl, by kernel_rfl⟩
theorem call16 : CallOk Try.prog 16 := ⟨_, Try.func16, by kernel_rfl, by kernel_rfl⟩
theorem call17 : CallOk Try.prog 17 := ⟨_, Try.func17, by kernel_rfl, by kernel_rfl⟩
theorem call18 : CallOk Try.prog 18 := ⟨_, Try.func18, by kernel_rfl, by kernel_rfl⟩
theorem call19 : CallOk Try.prog 19 := ⟨_, Try.func19, by kernel_rfl, by kernel_rfl⟩
theorem call20 : CallOk Try.prog 20 := ⟨_, Try.func20, by kernel_rfl, by kernel_rfl⟩
theorem call21 : CallOk Try.prog 21 := ⟨_, Try.func21, by kernel_rfl, by kernel_rfl⟩
theorem call22 : CallOk Try.prog 22 := ⟨_, Try.func22, by kernel_rfl, by kernel_rfl⟩
theorem call23 : CallOk Try.prog 23 := ⟨_, Try.func23, by kernel_rfl, by kernel_rfl⟩
theorem call24 : CallOk Try.prog 24 := ⟨_, Try.func24, by kernel_rfl, by kernel_rfl⟩
theorem call25 : CallOk Try.prog 25 := ⟨_, Try.func25, by kernel_rfl, by kernel_rfl⟩
theorem call26 : CallOk Try.prog 26 := ⟨_, Try.func26, by kernel_rfl, by kernel_rfl⟩
end Go.Proofs.Ytigbhlkafmpgmaa.V

