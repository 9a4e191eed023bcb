/-
  The types of the program, as the symbolic run reads them.
-/
import Derived.Test.YtnbbooilapelmaaGreatDoorProg
import Derived.Test.YtnbbooilapelmaaGreatDoorKitVk
namespace Go.Proofs.YtnbbooilapelmaaGreatDoor.V
open Go.RowKit Go.Proofs.YtnbbooilapelmaaGreatDoor
def ty1 : Ty := ⟨1, [.val .nilFunc], [], false, (0, 0), 8, .oth, none, none⟩
def ty2 : Ty := ⟨1, [.il .i64 0], [], false, (0, 0), 8, (.int .i64), (some (.int .i64)), none⟩
def ty3 : Ty := ⟨1, [.il .i64 0], [], false, (0, 0), 8, (.int .i64), (some (.int .i64)), none⟩
def ty4 : Ty := ⟨1, [.bl false], [], false, (0, 0), 1, .bool, (some .bool), none⟩
def ty5 : Ty := ⟨1, [.il .u8 0], [], false, (0, 0), 1, (.int .u8), (some (.int .u8)), none⟩
def ty9 : Ty := ⟨1, [.val (.string ByteArray.empty)], [], false, (0, 0), 16, .str, (some .str), none⟩
def ty12 : Ty := ⟨1, [.il .u64 0], [], false, (0, 0), 8, (.int .u64), (some (.int .u64)), none⟩
def ty17 : Ty := ⟨1, [.val (.pointer none)], [], false, (0, 0), 8, (.ptr 196), none, none⟩
def ty21 : Ty := ⟨1, [.il .i32 0], [], false, (0, 0), 4, (.int .i32), (some (.int .i32)), none⟩
def ty22 : Ty := ⟨1, [.val (.slice none 0 0)], [], false, (0, 0), 24, (.slice 9), (some (.sl .str)), none⟩
def ty23 : Ty := ⟨1, [.val .nilFunc], [], false, (0, 0), 8, .oth, none, none⟩
def ty24 : Ty := ⟨1, [.val .nilFunc], [], false, (0, 0), 8, .oth, none, none⟩
def ty25 : Ty := ⟨1, [.val (.slice none 0 0)], [], false, (0, 0), 24, (.slice 40), (some (.sl (.pair (.int .i64) (.pair (.int .i64) (.pair (.int .i64) (.pair (.int .i64) (.int .i64))))))), none⟩
def ty26 : Ty := ⟨1, [.il .i64 0], [], false, (0, 0), 8, (.int .i64), (some (.int .i64)), none⟩
def ty28 : Ty := ⟨1, [.val .nilFunc], [], false, (0, 0), 8, .oth, none, none⟩
def ty30 : Ty := ⟨1, [.val .nilFunc], [], false, (0, 0), 8, .oth, none, none⟩
def ty31 : Ty := ⟨1, [.val .nilFunc], [], false, (0, 0), 8, .oth, none, none⟩
def ty32 : Ty := ⟨1, [.val (.slice none 0 0)], [], false, (0, 0), 24, (.slice 67), (some (.sl (.int .u64))), none⟩
def ty34 : Ty := ⟨1, [.val .nilFunc], [], false, (0, 0), 8, .oth, none, none⟩
def ty36 : Ty := ⟨1, [.val .nilFunc], [], false, (0, 0), 8, .oth, none, none⟩
def ty38 : Ty := ⟨1, [.val .nilFunc], [], false, (0, 0), 8, .oth, none, none⟩
def ty39 : Ty := ⟨5, [.il .i64 0, .il .i64 0, .il .i64 0, .il .i64 0, .il .i64 0], [(0, 1, 3), (1, 1, 3), (2, 1, 3), (3, 1, 3), (4, 1, 2)], true, (0, 0), 40, .oth, (some (.pair (.int .i64) (.pair (.int .i64) (.pair (.int .i64) (.pair (.int .i64) (.int .i64)))))), (some [.int .i64, .int .i64, .int .i64, .int .i64, .int .i64])⟩
def ty40 : Ty := ⟨5, [.il .i64 0, .il .i64 0, .il .i64 0, .il .i64 0, .il .i64 0], [(0, 1, 3), (1, 1, 3), (2, 1, 3), (3, 1, 3), (4, 1, 2)], true, (0, 0), 40, .oth, (some (.pair (.int .i64) (.pair (.int .i64) (.pair (.int .i64) (.pair (.int .i64) (.int .i64)))))), (some [.int .i64, .int .i64, .int .i64, .int .i64, .int .i64])⟩
def ty42 : Ty := ⟨1, [.val .nilFunc], [], false, (0, 0), 8, .oth, none, none⟩
def ty43 : Ty := ⟨1, [.val .nilFunc], [], false, (0, 0), 8, .oth, none, none⟩
def ty44 : Ty := ⟨1, [.val .nilFunc], [], false, (0, 0), 8, .oth, none, none⟩
def ty45 : Ty := ⟨1, [.val .nilFunc], [], false, (0, 0), 8, .oth, none, none⟩
def ty46 : Ty := ⟨1, [.val .nilFunc], [], false, (0, 0), 8, .oth, none, none⟩
def ty47 : Ty := ⟨1, [.val .nilFunc], [], false, (0, 0), 8, .oth, none, none⟩
def ty48 : Ty := ⟨1, [.val .nilFunc], [], false, (0, 0), 8, .oth, none, none⟩
def ty49 : Ty := ⟨1, [.val (.pointer none)], [], false, (0, 0), 8, (.ptr 53), none, none⟩
def ty50 : Ty := ⟨1, [.val (.map none)], [], false, (0, 0), 8, (.map 9 3), none, none⟩
def ty51 : Ty := ⟨1, [.val (.slice none 0 0)], [], false, (0, 0), 24, (.slice 56), (some (.sl (.pair (.int .i64) (.pair (.int .i64) .str)))), none⟩
def ty52 : Ty := ⟨3, [.val (.slice none 0 0), .val (.map none), .val (.slice none 0 0)], [(0, 1, 25), (1, 1, 50), (2, 1, 51)], true, (0, 0), 56, .oth, none, none⟩
def ty53 : Ty := ⟨3, [.val (.slice none 0 0), .val (.map none), .val (.slice none 0 0)], [(0, 1, 25), (1, 1, 50), (2, 1, 51)], true, (0, 0), 56, .oth, none, none⟩
def ty54 : Ty := ⟨1, [.val .nilFunc], [], false, (0, 0), 8, .oth, none, none⟩
def ty55 : Ty := ⟨3, [.il .i64 0, .il .i64 0, .val (.string ByteArray.empty)], [(0, 1, 3), (1, 1, 3), (2, 1, 9)], true, (0, 0), 32, .oth, (some (.pair (.int .i64) (.pair (.int .i64) .str))), (some [.int .i64, .int .i64, .str])⟩
def ty56 : Ty := ⟨3, [.il .i64 0, .il .i64 0, .val (.string ByteArray.empty)], [(0, 1, 3), (1, 1, 3), (2, 1, 9)], true, (0, 0), 32, .oth, (some (.pair (.int .i64) (.pair (.int .i64) .str))), (some [.int .i64, .int .i64, .str])⟩
def ty58 : Ty := ⟨1, [.val (.slice none 0 0)], [], false, (0, 0), 24, (.slice 63), (some (.sl (.pair .str (.int .i64)))), none⟩
def ty59 : Ty := ⟨1, [.val (.slice none 0 0)], [], false, (0, 0), 24, (.slice 3), (some (.sl (.int .i64))), none⟩
def ty60 : Ty := ⟨1, [.val .nilFunc], [], false, (0, 0), 8, .oth, none, none⟩
def ty61 : Ty := ⟨1, [.val .nilFunc], [], false, (0, 0), 8, .oth, none, none⟩
def ty62 : Ty := ⟨2, [.val (.string ByteArray.empty), .il .i64 0], [(0, 1, 9), (1, 1, 3)], true, (0, 0), 24, .oth, (some (.pair .str (.int .i64))), (some [.str, .int .i64])⟩
def ty63 : Ty := ⟨2, [.val (.string ByteArray.empty), .il .i64 0], [(0, 1, 9), (1, 1, 3)], true, (0, 0), 24, .oth, (some (.pair .str (.int .i64))), (some [.str, .int .i64])⟩
def ty65 : Ty := ⟨1, [.val .nilFunc], [], false, (0, 0), 8, .oth, none, none⟩
def ty66 : Ty := ⟨1, [.val .nilFunc], [], false, (0, 0), 8, .oth, none, none⟩
def ty67 : Ty := ⟨1, [.il .u64 0], [], false, (0, 0), 8, (.int .u64), (some (.int .u64)), none⟩
def ty69 : Ty := ⟨1, [.val .nilFunc], [], false, (0, 0), 8, .oth, none, none⟩
def ty71 : Ty := ⟨1, [.val .nilFunc], [], false, (0, 0), 8, .oth, none, none⟩
def ty72 : Ty := ⟨1, [.val .nilFunc], [], false, (0, 0), 8, .oth, none, none⟩
def ty73 : Ty := ⟨1, [.val .nilFunc], [], false, (0, 0), 8, .oth, none, none⟩
def ty74 : Ty := ⟨1, [.val .nilFunc], [], false, (0, 0), 8, .oth, none, none⟩
def ty75 : Ty := ⟨1, [.val .nilFunc], [], false, (0, 0), 8, .oth, none, none⟩
def ty76 : Ty := ⟨23, [.val (.string ByteArray.empty), .val (.string ByteArray.empty), .val (.string ByteArray.empty), .val (.string ByteArray.empty), .val (.string ByteArray.empty), .val (.string ByteArray.empty), .val (.string ByteArray.empty), .val (.string ByteArray.empty), .val (.string ByteArray.empty), .val (.string ByteArray.empty), .val (.string ByteArray.empty), .val (.string ByteArray.empty), .val (.string ByteArray.empty), .val (.string ByteArray.empty), .val (.string ByteArray.empty), .val (.string ByteArray.empty), .val (.string ByteArray.empty), .val (.string ByteArray.empty), .val (.string ByteArray.empty), .val (.string ByteArray.empty), .val (.string ByteArray.empty), .val (.string ByteArray.empty), .val (.string ByteArray.empty)], [], true, (23, 9), 368, .oth, none, (some [.str, .str, .str, .str, .str, .str, .str, .str, .str, .str, .str, .str, .str, .str, .str, .str, .str, .str, .str, .str, .str, .str, .str])⟩
def ty77 : Ty := ⟨1, [.val .nilFunc], [], false, (0, 0), 8, .oth, none, none⟩
def ty78 : Ty := ⟨1, [.val .nilFunc], [], false, (0, 0), 8, .oth, none, none⟩
def ty80 : Ty := ⟨1, [.val .nilFunc], [], false, (0, 0), 8, .oth, none, none⟩
def ty81 : Ty := ⟨1, [.val .nilFunc], [], false, (0, 0), 8, .oth, none, none⟩
def ty82 : Ty := ⟨1, [.val .nilFunc], [], false, (0, 0), 8, .oth, none, none⟩
def ty84 : Ty := ⟨1, [.val .nilFunc], [], false, (0, 0), 8, .oth, none, none⟩
def ty85 : Ty := ⟨1, [.val .nilFunc], [], false, (0, 0), 8, .oth, none, none⟩
def ty86 : Ty := ⟨1, [.il .u64 0], [], false, (0, 0), 8, (.int .u64), (some (.int .u64)), none⟩
def ty87 : Ty := ⟨1, [.val .nilFunc], [], false, (0, 0), 8, .oth, none, none⟩
def ty88 : Ty := ⟨1, [.val .nilFunc], [], false, (0, 0), 8, .oth, none, none⟩
def ty89 : Ty := ⟨0, [], [], true, (0, 0), 0, .oth, (some .unit), (some [])⟩
def ty90 : Ty := ⟨0, [], [], true, (0, 0), 0, .oth, (some .unit), (some [])⟩
def ty91 : Ty := ⟨0, [], [], true, (0, 0), 0, .oth, (some .unit), (some [])⟩
def ty92 : Ty := ⟨1, [.il .u32 0], [], false, (0, 0), 4, (.int .u32), (some (.int .u32)), none⟩
def ty95 : Ty := ⟨2, [.il .i32 0, .il .u32 0], [(0, 1, 21), (1, 1, 92)], true, (0, 0), 8, .oth, (some (.pair (.int .i32) (.int .u32))), (some [.int .i32, .int .u32])⟩
def ty101 : Ty := ⟨26, [.il .u32 0, .il .i32 0, .il .u32 0, .val (.string ByteArray.empty), .val (.string ByteArray.empty), .val (.string ByteArray.empty), .val (.string ByteArray.empty), .val (.string ByteArray.empty), .val (.string ByteArray.empty), .val (.string ByteArray.empty), .val (.string ByteArray.empty), .val (.string ByteArray.empty), .val (.string ByteArray.empty), .val (.string ByteArray.empty), .val (.string ByteArray.empty), .val (.string ByteArray.empty), .val (.string ByteArray.empty), .val (.string ByteArray.empty), .val (.string ByteArray.empty), .val (.string ByteArray.empty), .val (.string ByteArray.empty), .val (.string ByteArray.empty), .val (.string ByteArray.empty), .val (.string ByteArray.empty), .val (.string ByteArray.empty), .val (.string ByteArray.empty)], [(0, 3, 100), (3, 23, 76)], true, (0, 0), 384, .oth, none, none⟩
def ty102 : Ty := ⟨26, [.il .u32 0, .il .i32 0, .il .u32 0, .val (.string ByteArray.empty), .val (.string ByteArray.empty), .val (.string ByteArray.empty), .val (.string ByteArray.empty), .val (.string ByteArray.empty), .val (.string ByteArray.empty), .val (.string ByteArray.empty), .val (.string ByteArray.empty), .val (.string ByteArray.empty), .val (.string ByteArray.empty), .val (.string ByteArray.empty), .val (.string ByteArray.empty), .val (.string ByteArray.empty), .val (.string ByteArray.empty), .val (.string ByteArray.empty), .val (.string ByteArray.empty), .val (.string ByteArray.empty), .val (.string ByteArray.empty), .val (.string ByteArray.empty), .val (.string ByteArray.empty), .val (.string ByteArray.empty), .val (.string ByteArray.empty), .val (.string ByteArray.empty)], [(0, 3, 100), (3, 23, 76)], true, (0, 0), 384, .oth, none, none⟩
def ty103 : Ty := ⟨1, [.val .nilFunc], [], false, (0, 0), 8, .oth, none, none⟩
def ty104 : Ty := ⟨1, [.val (.pointer none)], [], false, (0, 0), 8, (.ptr 107), none, none⟩
def ty105 : Ty := ⟨1, [.val (.slice none 0 0)], [], false, (0, 0), 24, (.slice 5), (some (.sl (.int .u8))), none⟩
def ty106 : Ty := ⟨2, [.val (.pointer none), .val (.slice none 0 0)], [(0, 1, 104), (1, 1, 105)], true, (0, 0), 32, .oth, none, none⟩
def ty107 : Ty := ⟨2, [.val (.pointer none), .val (.slice none 0 0)], [(0, 1, 104), (1, 1, 105)], true, (0, 0), 32, .oth, none, none⟩
def ty108 : Ty := ⟨1, [.val .nilFunc], [], false, (0, 0), 8, .oth, none, none⟩
def ty112 : Ty := ⟨1, [.val .nilFunc], [], false, (0, 0), 8, .oth, none, none⟩
def ty113 : Ty := ⟨1, [.val .nilFunc], [], false, (0, 0), 8, .oth, none, none⟩
def ty114 : Ty := ⟨1, [.val .nilFunc], [], false, (0, 0), 8, .oth, none, none⟩
def ty115 : Ty := ⟨1, [.val .nilFunc], [], false, (0, 0), 8, .oth, none, none⟩
def ty116 : Ty := ⟨1, [.val .nilFunc], [], false, (0, 0), 8, .oth, none, none⟩
def ty117 : Ty := ⟨1, [.val .nilFunc], [], false, (0, 0), 8, .oth, none, none⟩
def ty118 : Ty := ⟨1, [.val .nilFunc], [], false, (0, 0), 8, .oth, none, none⟩
def ty119 : Ty := ⟨1, [.val .nilFunc], [], false, (0, 0), 8, .oth, none, none⟩
def ty120 : Ty := ⟨1, [.val (.pointer none)], [], false, (0, 0), 8, (.ptr 100), none, none⟩
def ty121 : Ty := ⟨1, [.val (.pointer none)], [], false, (0, 0), 8, (.ptr 102), none, none⟩
def ty122 : Ty := ⟨1, [.val (.map none)], [], false, (0, 0), 8, (.map 3 9), none, none⟩
def ty123 : Ty := ⟨24, [.run .u8 24 (List.replicate 24 0)], [], true, (24, 5), 24, .oth, (some (.arr 24 .u8)), (some [.int .u8, .int .u8, .int .u8, .int .u8, .int .u8, .int .u8, .int .u8, .int .u8, .int .u8, .int .u8, .int .u8, .int .u8, .int .u8, .int .u8, .int .u8, .int .u8, .int .u8, .int .u8, .int .u8, .int .u8, .int .u8, .int .u8, .int .u8, .int .u8])⟩
def ty124 : Ty := ⟨1, [.val .nilFunc], [], false, (0, 0), 8, .oth, none, none⟩
def ty125 : Ty := ⟨1, [.val .nilFunc], [], false, (0, 0), 8, .oth, none, none⟩
def ty127 : Ty := ⟨1, [.val .nilFunc], [], false, (0, 0), 8, .oth, none, none⟩
def ty128 : Ty := ⟨1, [.val (.pointer none)], [], false, (0, 0), 8, (.ptr 5), none, none⟩
def ty130 : Ty := ⟨1, [.val .nilFunc], [], false, (0, 0), 8, .oth, none, none⟩
def ty131 : Ty := ⟨1, [.val .nilFunc], [], false, (0, 0), 8, .oth, none, none⟩
def ty132 : Ty := ⟨1, [.val (.pointer none)], [], false, (0, 0), 8, (.ptr 94), none, none⟩
def ty133 : Ty := ⟨1, [.val .nilFunc], [], false, (0, 0), 8, .oth, none, none⟩
def ty134 : Ty := ⟨1, [.val (.pointer none)], [], false, (0, 0), 8, (.ptr 92), none, none⟩
def ty135 : Ty := ⟨1, [.val .nilFunc], [], false, (0, 0), 8, .oth, none, none⟩
def ty136 : Ty := ⟨1, [.val .nilFunc], [], false, (0, 0), 8, .oth, none, none⟩
def ty137 : Ty := ⟨1, [.val .nilFunc], [], false, (0, 0), 8, .oth, none, none⟩
def ty138 : Ty := ⟨20, [.run .u64 20 (List.replicate 20 0)], [], true, (20, 67), 160, .oth, (some (.arr 20 .u64)), (some [.int .u64, .int .u64, .int .u64, .int .u64, .int .u64, .int .u64, .int .u64, .int .u64, .int .u64, .int .u64, .int .u64, .int .u64, .int .u64, .int .u64, .int .u64, .int .u64, .int .u64, .int .u64, .int .u64, .int .u64])⟩
def ty139 : Ty := ⟨65, [.run .u8 65 (List.replicate 65 0)], [], true, (65, 5), 65, .oth, (some (.arr 65 .u8)), none⟩
def ty140 : Ty := ⟨1, [.val .nilFunc], [], false, (0, 0), 8, .oth, none, none⟩
def ty142 : Ty := ⟨1, [.val .nilFunc], [], false, (0, 0), 8, .oth, none, none⟩
def ty143 : Ty := ⟨1, [.val .nilFunc], [], false, (0, 0), 8, .oth, none, none⟩
def ty144 : Ty := ⟨1, [.val .nilFunc], [], false, (0, 0), 8, .oth, none, none⟩
def ty145 : Ty := ⟨1, [.val .nilFunc], [], false, (0, 0), 8, .oth, none, none⟩
def ty147 : Ty := ⟨1, [.val .nilFunc], [], false, (0, 0), 8, .oth, none, none⟩
def ty148 : Ty := ⟨1, [.val .nilFunc], [], false, (0, 0), 8, .oth, none, none⟩
def ty149 : Ty := ⟨1, [.val (.pointer none)], [], false, (0, 0), 8, (.ptr 98), none, none⟩
def ty150 : Ty := ⟨1, [.val .nilFunc], [], false, (0, 0), 8, .oth, none, none⟩
def ty151 : Ty := ⟨1, [.val .nilFunc], [], false, (0, 0), 8, .oth, none, none⟩
def ty152 : Ty := ⟨1, [.val .nilFunc], [], false, (0, 0), 8, .oth, none, none⟩
def ty155 : Ty := ⟨1, [.val .nilFunc], [], false, (0, 0), 8, .oth, none, none⟩
def ty156 : Ty := ⟨1, [.val (.pointer none)], [], false, (0, 0), 8, (.ptr 172), none, none⟩
def ty157 : Ty := ⟨1, [.val .nilFunc], [], false, (0, 0), 8, .oth, none, none⟩
def ty158 : Ty := ⟨1, [.val .nilFunc], [], false, (0, 0), 8, .oth, none, none⟩
def ty160 : Ty := ⟨1, [.val .nilFunc], [], false, (0, 0), 8, .oth, none, none⟩
def ty161 : Ty := ⟨1, [.val (.pointer none)], [], false, (0, 0), 8, (.ptr 96), none, none⟩
def ty162 : Ty := ⟨1, [.val .nilFunc], [], false, (0, 0), 8, .oth, none, none⟩
def ty163 : Ty := ⟨1, [.val (.pointer none)], [], false, (0, 0), 8, (.ptr 21), none, none⟩
def ty164 : Ty := ⟨1, [.val .nilFunc], [], false, (0, 0), 8, .oth, none, none⟩
def ty165 : Ty := ⟨1, [.val .nilFunc], [], false, (0, 0), 8, .oth, none, none⟩
def ty166 : Ty := ⟨1, [.val .nilFunc], [], false, (0, 0), 8, .oth, none, none⟩
def ty167 : Ty := ⟨32, [.run .u8 32 (List.replicate 32 0)], [], true, (32, 5), 32, .oth, (some (.arr 32 .u8)), (some [.int .u8, .int .u8, .int .u8, .int .u8, .int .u8, .int .u8, .int .u8, .int .u8, .int .u8, .int .u8, .int .u8, .int .u8, .int .u8, .int .u8, .int .u8, .int .u8, .int .u8, .int .u8, .int .u8, .int .u8, .int .u8, .int .u8, .int .u8, .int .u8, .int .u8, .int .u8, .int .u8, .int .u8, .int .u8, .int .u8, .int .u8, .int .u8])⟩
def ty168 : Ty := ⟨64, [.run .u8 64 (List.replicate 64 0)], [], true, (64, 5), 64, .oth, (some (.arr 64 .u8)), none⟩
def ty169 : Ty := ⟨1, [.val .nilFunc], [], false, (0, 0), 8, .oth, none, none⟩
def ty170 : Ty := ⟨1, [.val .nilFunc], [], false, (0, 0), 8, .oth, none, none⟩
def ty171 : Ty := ⟨3, [.val (.string ByteArray.empty), .val (.string ByteArray.empty), .val .nilIface], [(0, 1, 9), (1, 1, 9), (2, 1, 110)], true, (0, 0), 48, .oth, none, none⟩
def ty172 : Ty := ⟨3, [.val (.string ByteArray.empty), .val (.string ByteArray.empty), .val .nilIface], [(0, 1, 9), (1, 1, 9), (2, 1, 110)], true, (0, 0), 48, .oth, none, none⟩
def ty173 : Ty := ⟨1, [.val .nilFunc], [], false, (0, 0), 8, .oth, none, none⟩
def ty174 : Ty := ⟨256, [.run .u8 256 (List.replicate 256 0)], [], true, (256, 5), 256, .oth, (some (.arr 256 .u8)), none⟩
def ty175 : Ty := ⟨2, [.il .u8 0, .il .u8 0], [(0, 1, 5), (1, 1, 5)], true, (0, 0), 2, .oth, (some (.pair (.int .u8) (.int .u8))), (some [.int .u8, .int .u8])⟩
def ty176 : Ty := ⟨2, [.il .u8 0, .il .u8 0], [(0, 1, 5), (1, 1, 5)], true, (0, 0), 2, .oth, (some (.pair (.int .u8) (.int .u8))), (some [.int .u8, .int .u8])⟩
def ty177 : Ty := ⟨32, [.il .u8 0, .il .u8 0, .il .u8 0, .il .u8 0, .il .u8 0, .il .u8 0, .il .u8 0, .il .u8 0, .il .u8 0, .il .u8 0, .il .u8 0, .il .u8 0, .il .u8 0, .il .u8 0, .il .u8 0, .il .u8 0, .il .u8 0, .il .u8 0, .il .u8 0, .il .u8 0, .il .u8 0, .il .u8 0, .il .u8 0, .il .u8 0, .il .u8 0, .il .u8 0, .il .u8 0, .il .u8 0, .il .u8 0, .il .u8 0, .il .u8 0, .il .u8 0], [], true, (16, 176), 32, .oth, none, (some [.int .u8, .int .u8, .int .u8, .int .u8, .int .u8, .int .u8, .int .u8, .int .u8, .int .u8, .int .u8, .int .u8, .int .u8, .int .u8, .int .u8, .int .u8, .int .u8, .int .u8, .int .u8, .int .u8, .int .u8, .int .u8, .int .u8, .int .u8, .int .u8, .int .u8, .int .u8, .int .u8, .int .u8, .int .u8, .int .u8, .int .u8, .int .u8])⟩
def ty178 : Ty := ⟨1, [.val .nilFunc], [], false, (0, 0), 8, .oth, none, none⟩
def ty179 : Ty := ⟨1, [.val .nilFunc], [], false, (0, 0), 8, .oth, none, none⟩
def ty180 : Ty := ⟨1, [.val .nilFunc], [], false, (0, 0), 8, .oth, none, none⟩
def ty181 : Ty := ⟨1, [.val (.pointer none)], [], false, (0, 0), 8, (.ptr 183), none, none⟩
def ty182 : Ty := ⟨1, [.val (.string ByteArray.empty)], [(0, 1, 9)], true, (0, 0), 16, .oth, (some .str), (some [.str])⟩
def ty183 : Ty := ⟨1, [.val (.string ByteArray.empty)], [(0, 1, 9)], true, (0, 0), 16, .oth, (some .str), (some [.str])⟩
def ty189 : Ty := ⟨1, [.val .nilFunc], [], false, (0, 0), 8, .oth, none, none⟩
def ty192 : Ty := ⟨1, [.val .nilFunc], [], false, (0, 0), 8, .oth, none, none⟩
def ty195 : Ty := ⟨11, [.il .u64 0, .il .u64 0, .il .u32 0, .il .u8 0, .il .u8 0, .il .u8 0, .il .u8 0, .val .nilFunc, .val (.pointer none), .il .i32 0, .il .i32 0], [(0, 1, 12), (1, 1, 12), (2, 1, 92), (3, 1, 190), (4, 1, 5), (5, 1, 5), (6, 1, 191), (7, 1, 192), (8, 1, 128), (9, 1, 193), (10, 1, 194)], true, (0, 0), 48, .oth, none, none⟩
def Tbl : Tb
  | 1 => some ty1
  | 2 => some ty2
  | 3 => some ty3
  | 4 => some ty4
  | 5 => some ty5
  | 9 => some ty9
  | 12 => some ty12
  | 17 => some ty17
  | 21 => some ty21
  | 22 => some ty22
  | 23 => some ty23
  | 24 => some ty24
  | 25 => some ty25
  | 26 => some ty26
  | 28 => some ty28
  | 30 => some ty30
  | 31 => some ty31
  | 32 => some ty32
  | 34 => some ty34
  | 36 => some ty36
  | 38 => some ty38
  | 39 => some ty39
  | 40 => some ty40
  | 42 => some ty42
  | 43 => some ty43
  | 44 => some ty44
  | 45 => some ty45
  | 46 => some ty46
  | 47 => some ty47
  | 48 => some ty48
  | 49 => some ty49
  | 50 => some ty50
  | 51 => some ty51
  | 52 => some ty52
  | 53 => some ty53
  | 54 => some ty54
  | 55 => some ty55
  | 56 => some ty56
  | 58 => some ty58
  | 59 => some ty59
  | 60 => some ty60
  | 61 => some ty61
  | 62 => some ty62
  | 63 => some ty63
  | 65 => some ty65
  | 66 => some ty66
  | 67 => some ty67
  | 69 => some ty69
  | 71 => some ty71
  | 72 => some ty72
  | 73 => some ty73
  | 74 => some ty74
  | 75 => some ty75
  | 76 => some ty76
  | 77 => some ty77
  | 78 => some ty78
  | 80 => some ty80
  | 81 => some ty81
  | 82 => some ty82
  | 84 => some ty84
  | 85 => some ty85
  | 86 => some ty86
  | 87 => some ty87
  | 88 => some ty88
  | 89 => some ty89
  | 90 => some ty90
  | 91 => some ty91
  | 92 => some ty92
  | 95 => some ty95
  | 101 => some ty101
  | 102 => some ty102
  | 103 => some ty103
  | 104 => some ty104
  | 105 => some ty105
  | 106 => some ty106
  | 107 => some ty107
  | 108 => some ty108
  | 112 => some ty112
  | 113 => some ty113
  | 114 => some ty114
  | 115 => some ty115
  | 116 => some ty116
  | 117 => some ty117
  | 118 => some ty118
  | 119 => some ty119
  | 120 => some ty120
  | 121 => some ty121
  | 122 => some ty122
  | 123 => some ty123
  | 124 => some ty124
  | 125 => some ty125
  | 127 => some ty127
  | 128 => some ty128
  | 130 => some ty130
  | 131 => some ty131
  | 132 => some ty132
  | 133 => some ty133
  | 134 => some ty134
  | 135 => some ty135
  | 136 => some ty136
  | 137 => some ty137
  | 138 => some ty138
  | 139 => some ty139
  | 140 => some ty140
  | 142 => some ty142
  | 143 => some ty143
  | 144 => some ty144
  | 145 => some ty145
  | 147 => some ty147
  | 148 => some ty148
  | 149 => some ty149
  | 150 => some ty150
  | 151 => some ty151
  | 152 => some ty152
  | 155 => some ty155
  | 156 => some ty156
  | 157 => some ty157
  | 158 => some ty158
  | 160 => some ty160
  | 161 => some ty161
  | 162 => some ty162
  | 163 => some ty163
  | 164 => some ty164
  | 165 => some ty165
  | 166 => some ty166
  | 167 => some ty167
  | 168 => some ty168
  | 169 => some ty169
  | 170 => some ty170
  | 171 => some ty171
  | 172 => some ty172
  | 173 => some ty173
  | 174 => some ty174
  | 175 => some ty175
  | 176 => some ty176
  | 177 => some ty177
  | 178 => some ty178
  | 179 => some ty179
  | 180 => some ty180
  | 181 => some ty181
  | 182 => some ty182
  | 183 => some ty183
  | 189 => some ty189
  | 192 => some ty192
  | 195 => some ty195
  | _ => none
theorem tyOk1 : TyOk Tryz.prog 1 ty1 := tyB_ok (by kernel_rfl)
theorem tyOk2 : TyOk Tryz.prog 2 ty2 := tyB_ok (by kernel_rfl)
theorem tyOk3 : TyOk Tryz.prog 3 ty3 := tyB_ok (by kernel_rfl)
theorem tyOk4 : TyOk Tryz.prog 4 ty4 := tyB_ok (by kernel_rfl)
theorem tyOk5 : TyOk Tryz.prog 5 ty5 := tyB_ok (by kernel_rfl)
theorem tyOk9 : TyOk Tryz.prog 9 ty9 := tyB_ok (by kernel_rfl)
theorem tyOk12 : TyOk Tryz.prog 12 ty12 := tyB_ok (by kernel_rfl)
theorem tyOk17 : TyOk Tryz.prog 17 ty17 := tyB_ok (by kernel_rfl)
theorem tyOk21 : TyOk Tryz.prog 21 ty21 := tyB_ok (by kernel_rfl)
theorem tyOk22 : TyOk Tryz.prog 22 ty22 := tyB_ok (by kernel_rfl)
theorem tyOk23 : TyOk Tryz.prog 23 ty23 := tyB_ok (by kernel_rfl)
theorem tyOk24 : TyOk Tryz.prog 24 ty24 := tyB_ok (by kernel_rfl)
theorem tyOk25 : TyOk Tryz.prog 25 ty25 := tyB_ok (by kernel_rfl)
theorem tyOk26 : TyOk Tryz.prog 26 ty26 := tyB_ok (by kernel_rfl)
theorem tyOk28 : TyOk Tryz.prog 28 ty28 := tyB_ok (by kernel_rfl)
theorem tyOk30 : TyOk Tryz.prog 30 ty30 := tyB_ok (by kernel_rfl)
theorem tyOk31 : TyOk Tryz.prog 31 ty31 := tyB_ok (by kernel_rfl)
theorem tyOk32 : TyOk Tryz.prog 32 ty32 := tyB_ok (by kernel_rfl)
theorem tyOk34 : TyOk Tryz.prog 34 ty34 := tyB_ok (by kernel_rfl)
theorem tyOk36 : TyOk Tryz.prog 36 ty36 := tyB_ok (by kernel_rfl)
theorem tyOk38 : TyOk Tryz.prog 38 ty38 := tyB_ok (by kernel_rfl)
theorem tyOk39 : TyOk Tryz.prog 39 ty39 := tyB_ok (by kernel_rfl)
theorem tyOk40 : TyOk Tryz.prog 40 ty40 := tyB_ok (by kernel_rfl)
theorem tyOk42 : TyOk Tryz.prog 42 ty42 := tyB_ok (by kernel_rfl)
theorem tyOk43 : TyOk Tryz.prog 43 ty43 := tyB_ok (by kernel_rfl)
theorem tyOk44 : TyOk Tryz.prog 44 ty44 := tyB_ok (by kernel_rfl)
theorem tyOk45 : TyOk Tryz.prog 45 ty45 := tyB_ok (by kernel_rfl)
theorem tyOk46 : TyOk Tryz.prog 46 ty46 := tyB_ok (by kernel_rfl)
theorem tyOk47 : TyOk Tryz.prog 47 ty47 := tyB_ok (by kernel_rfl)
theorem tyOk48 : TyOk Tryz.prog 48 ty48 := tyB_ok (by kernel_rfl)
theorem tyOk49 : TyOk Tryz.prog 49 ty49 := tyB_ok (by kernel_rfl)
theorem tyOk50 : TyOk Tryz.prog 50 ty50 := tyB_ok (by kernel_rfl)
theorem tyOk51 : TyOk Tryz.prog 51 ty51 := tyB_ok (by kernel_rfl)
theorem tyOk52 : TyOk Tryz.prog 52 ty52 := tyB_ok (by kernel_rfl)
theorem tyOk53 : TyOk Tryz.prog 53 ty53 := tyB_ok (by kernel_rfl)
theorem tyOk54 : TyOk Tryz.prog 54 ty54 := tyB_ok (by kernel_rfl)
theorem tyOk55 : TyOk Tryz.prog 55 ty55 := tyB_ok (by kernel_rfl)
theorem tyOk56 : TyOk Tryz.prog 56 ty56 := tyB_ok (by kernel_rfl)
theorem tyOk58 : TyOk Tryz.prog 58 ty58 := tyB_ok (by kernel_rfl)
theorem tyOk59 : TyOk Tryz.prog 59 ty59 := tyB_ok (by kernel_rfl)
theorem tyOk60 : TyOk Tryz.prog 60 ty60 := tyB_ok (by kernel_rfl)
theorem tyOk61 : TyOk Tryz.prog 61 ty61 := tyB_ok (by kernel_rfl)
theorem tyOk62 : TyOk Tryz.prog 62 ty62 := tyB_ok (by kernel_rfl)
theorem tyOk63 : TyOk Tryz.prog 63 ty63 := tyB_ok (by kernel_rfl)
theorem tyOk65 : TyOk Tryz.prog 65 ty65 := tyB_ok (by kernel_rfl)
theorem tyOk66 : TyOk Tryz.prog 66 ty66 := tyB_ok (by kernel_rfl)
theorem tyOk67 : TyOk Tryz.prog 67 ty67 := tyB_ok (by kernel_rfl)
theorem tyOk69 : TyOk Tryz.prog 69 ty69 := tyB_ok (by kernel_rfl)
theorem tyOk71 : TyOk Tryz.prog 71 ty71 := tyB_ok (by kernel_rfl)
theorem tyOk72 : TyOk Tryz.prog 72 ty72 := tyB_ok (by kernel_rfl)
theorem tyOk73 : TyOk Tryz.prog 73 ty73 := tyB_ok (by kernel_rfl)
theorem tyOk74 : TyOk Tryz.prog 74 ty74 := tyB_ok (by kernel_rfl)
theorem tyOk75 : TyOk Tryz.prog 75 ty75 := tyB_ok (by kernel_rfl)
theorem tyOk76 : TyOk Tryz.prog 76 ty76 := tyB_ok (by kernel_rfl)
theorem tyOk77 : TyOk Tryz.prog 77 ty77 := tyB_ok (by kernel_rfl)
theorem tyOk78 : TyOk Tryz.prog 78 ty78 := tyB_ok (by kernel_rfl)
theorem tyOk80 : TyOk Tryz.prog 80 ty80 := tyB_ok (by kernel_rfl)
theorem tyOk81 : TyOk Tryz.prog 81 ty81 := tyB_ok (by kernel_rfl)
theorem tyOk82 : TyOk Tryz.prog 82 ty82 := tyB_ok (by kernel_rfl)
theorem tyOk84 : TyOk Tryz.prog 84 ty84 := tyB_ok (by kernel_rfl)
theorem tyOk85 : TyOk Tryz.prog 85 ty85 := tyB_ok (by kernel_rfl)
theorem tyOk86 : TyOk Tryz.prog 86 ty86 := tyB_ok (by kernel_rfl)
theorem tyOk87 : TyOk Tryz.prog 87 ty87 := tyB_ok (by kernel_rfl)
theorem tyOk88 : TyOk Tryz.prog 88 ty88 := tyB_ok (by kernel_rfl)
theorem tyOk89 : TyOk Tryz.prog 89 ty89 := tyB_ok (by kernel_rfl)
theorem tyOk90 : TyOk Tryz.prog 90 ty90 := tyB_ok (by kernel_rfl)
theorem tyOk91 : TyOk Tryz.prog 91 ty91 := tyB_ok (by kernel_rfl)
theorem tyOk92 : TyOk Tryz.prog 92 ty92 := tyB_ok (by kernel_rfl)
theorem tyOk95 : TyOk Tryz.prog 95 ty95 := tyB_ok (by kernel_rfl)
theorem tyOk101 : TyOk Tryz.prog 101 ty101 := tyB_ok (by kernel_rfl)
theorem tyOk102 : TyOk Tryz.prog 102 ty102 := tyB_ok (by kernel_rfl)
theorem tyOk103 : TyOk Tryz.prog 103 ty103 := tyB_ok (by kernel_rfl)
theorem tyOk104 : TyOk Tryz.prog 104 ty104 := tyB_ok (by kernel_rfl)
theorem tyOk105 : TyOk Tryz.prog 105 ty105 := tyB_ok (by kernel_rfl)
theorem tyOk106 : TyOk Tryz.prog 106 ty106 := tyB_ok (by kernel_rfl)
theorem tyOk107 : TyOk Tryz.prog 107 ty107 := tyB_ok (by kernel_rfl)
theorem tyOk108 : TyOk Tryz.prog 108 ty108 := tyB_ok (by kernel_rfl)
theorem tyOk112 : TyOk Tryz.prog 112 ty112 := tyB_ok (by kernel_rfl)
theorem tyOk113 : TyOk Tryz.prog 113 ty113 := tyB_ok (by kernel_rfl)
theorem tyOk114 : TyOk Tryz.prog 114 ty114 := tyB_ok (by kernel_rfl)
theorem tyOk115 : TyOk Tryz.prog 115 ty115 := tyB_ok (by kernel_rfl)
theorem tyOk116 : TyOk Tryz.prog 116 ty116 := tyB_ok (by kernel_rfl)
theorem tyOk117 : TyOk Tryz.prog 117 ty117 := tyB_ok (by kernel_rfl)
theorem tyOk118 : TyOk Tryz.prog 118 ty118 := tyB_ok (by kernel_rfl)
theorem tyOk119 : TyOk Tryz.prog 119 ty119 := tyB_ok (by kernel_rfl)
theorem tyOk120 : TyOk Tryz.prog 120 ty120 := tyB_ok (by kernel_rfl)
theorem tyOk121 : TyOk Tryz.prog 121 ty121 := tyB_ok (by kernel_rfl)
theorem tyOk122 : TyOk Tryz.prog 122 ty122 := tyB_ok (by kernel_rfl)
theorem tyOk123 : TyOk Tryz.prog 123 ty123 := tyB_ok (by kernel_rfl)
theorem tyOk124 : TyOk Tryz.prog 124 ty124 := tyB_ok (by kernel_rfl)
theorem tyOk125 : TyOk Tryz.prog 125 ty125 := tyB_ok (by kernel_rfl)
theorem tyOk127 : TyOk Tryz.prog 127 ty127 := tyB_ok (by kernel_rfl)
theorem tyOk128 : TyOk Tryz.prog 128 ty128 := tyB_ok (by kernel_rfl)
theorem tyOk130 : TyOk Tryz.prog 130 ty130 := tyB_ok (by kernel_rfl)
theorem tyOk131 : TyOk Tryz.prog 131 ty131 := tyB_ok (by kernel_rfl)
theorem tyOk132 : TyOk Tryz.prog 132 ty132 := tyB_ok (by kernel_rfl)
theorem tyOk133 : TyOk Tryz.prog 133 ty133 := tyB_ok (by kernel_rfl)
theorem tyOk134 : TyOk Tryz.prog 134 ty134 := tyB_ok (by kernel_rfl)
theorem tyOk135 : TyOk Tryz.prog 135 ty135 := tyB_ok (by kernel_rfl)
theorem tyOk136 : TyOk Tryz.prog 136 ty136 := tyB_ok (by kernel_rfl)
theorem tyOk137 : TyOk Tryz.prog 137 ty137 := tyB_ok (by kernel_rfl)
theorem tyOk138 : TyOk Tryz.prog 138 ty138 := tyB_ok (by kernel_rfl)
theorem tyOk139 : TyOk Tryz.prog 139 ty139 := tyB_ok (by kernel_rfl)
theorem tyOk140 : TyOk Tryz.prog 140 ty140 := tyB_ok (by kernel_rfl)
theorem tyOk142 : TyOk Tryz.prog 142 ty142 := tyB_ok (by kernel_rfl)
theorem tyOk143 : TyOk Tryz.prog 143 ty143 := tyB_ok (by kernel_rfl)
theorem tyOk144 : TyOk Tryz.prog 144 ty144 := tyB_ok (by kernel_rfl)
theorem tyOk145 : TyOk Tryz.prog 145 ty145 := tyB_ok (by kernel_rfl)
theorem tyOk147 : TyOk Tryz.prog 147 ty147 := tyB_ok (by kernel_rfl)
theorem tyOk148 : TyOk Tryz.prog 148 ty148 := tyB_ok (by kernel_rfl)
theorem tyOk149 : TyOk Tryz.prog 149 ty149 := tyB_ok (by kernel_rfl)
theorem tyOk150 : TyOk Tryz.prog 150 ty150 := tyB_ok (by kernel_rfl)
theorem tyOk151 : TyOk Tryz.prog 151 ty151 := tyB_ok (by kernel_rfl)
theorem tyOk152 : TyOk Tryz.prog 152 ty152 := tyB_ok (by kernel_rfl)
theorem tyOk155 : TyOk Tryz.prog 155 ty155 := tyB_ok (by kernel_rfl)
theorem tyOk156 : TyOk Tryz.prog 156 ty156 := tyB_ok (by kernel_rfl)
theorem tyOk157 : TyOk Tryz.prog 157 ty157 := tyB_ok (by kernel_rfl)
theorem tyOk158 : TyOk Tryz.prog 158 ty158 := tyB_ok (by kernel_rfl)
theorem tyOk160 : TyOk Tryz.prog 160 ty160 := tyB_ok (by kernel_rfl)
theorem tyOk161 : TyOk Tryz.prog 161 ty161 := tyB_ok (by kernel_rfl)
theorem tyOk162 : TyOk Tryz.prog 162 ty162 := tyB_ok (by kernel_rfl)
theorem tyOk163 : TyOk Tryz.prog 163 ty163 := tyB_ok (by kernel_rfl)
theorem tyOk164 : TyOk Tryz.prog 164 ty164 := tyB_ok (by kernel_rfl)
theorem tyOk165 : TyOk Tryz.prog 165 ty165 := tyB_ok (by kernel_rfl)
theorem tyOk166 : TyOk Tryz.prog 166 ty166 := tyB_ok (by kernel_rfl)
theorem tyOk167 : TyOk Tryz.prog 167 ty167 := tyB_ok (by kernel_rfl)
theorem tyOk168 : TyOk Tryz.prog 168 ty168 := tyB_ok (by kernel_rfl)
theorem tyOk169 : TyOk Tryz.prog 169 ty169 := tyB_ok (by kernel_rfl)
theorem tyOk170 : TyOk Tryz.prog 170 ty170 := tyB_ok (by kernel_rfl)
theorem tyOk171 : TyOk Tryz.prog 171 ty171 := tyB_ok (by kernel_rfl)
theorem tyOk172 : TyOk Tryz.prog 172 ty172 := tyB_ok (by kernel_rfl)
theorem tyOk173 : TyOk Tryz.prog 173 ty173 := tyB_ok (by kernel_rfl)
theorem tyOk174 : TyOk Tryz.prog 174 ty174 := tyB_ok (by kernel_rfl)
theorem tyOk175 : TyOk Tryz.prog 175 ty175 := tyB_ok (by kernel_rfl)
theorem tyOk176 : TyOk Tryz.prog 176 ty176 := tyB_ok (by kernel_rfl)
theorem tyOk177 : TyOk Tryz.prog 177 ty177 := tyB_ok (by kernel_rfl)
theorem tyOk178 : TyOk Tryz.prog 178 ty178 := tyB_ok (by kernel_rfl)
theorem tyOk179 : TyOk Tryz.prog 179 ty179 := tyB_ok (by kernel_rfl)
theorem tyOk180 : TyOk Tryz.prog 180 ty180 := tyB_ok (by kernel_rfl)
theorem tyOk181 : TyOk Tryz.prog 181 ty181 := tyB_ok (by kernel_rfl)
theorem tyOk182 : TyOk Tryz.prog 182 ty182 := tyB_ok (by kernel_rfl)
theorem tyOk183 : TyOk Tryz.prog 183 ty183 := tyB_ok (by kernel_rfl)
theorem tyOk189 : TyOk Tryz.prog 189 ty189 := tyB_ok (by kernel_rfl)
theorem tyOk192 : TyOk Tryz.prog 192 ty192 := tyB_ok (by kernel_rfl)
theorem tyOk195 : TyOk Tryz.prog 195 ty195 := tyB_ok (by kernel_rfl)
theorem Tbl_ok : ∀ t i, Tbl t = some i → TyOk Tryz.prog t i := by
  intro t i h
  unfold Tbl at h
  split at h <;> cases h
  · exact tyOk1
  · exact tyOk2
  · exact tyOk3
  · exact tyOk4
  · exact tyOk5
  · exact tyOk9
  · exact tyOk12
  · exact tyOk17
  · exact tyOk21
  · exact tyOk22
  · exact tyOk23
  · exact tyOk24
  · exact tyOk25
  · exact tyOk26
  · exact tyOk28
  · exact tyOk30
  · exact tyOk31
  · exact tyOk32
  · exact tyOk34
  · exact tyOk36
  · exact tyOk38
  · exact tyOk39
  · exact tyOk40
  · exact tyOk42
  · exact tyOk43
  · exact tyOk44
  · exact tyOk45
  · exact tyOk46
  · exact tyOk47
  · exact tyOk48
  · exact tyOk49
  · exact tyOk50
  · exact tyOk51
  · exact tyOk52
  · exact tyOk53
  · exact tyOk54
  · exact tyOk55
  · exact tyOk56
  · exact tyOk58
  · exact tyOk59
  · exact tyOk60
  · exact tyOk61
  · exact tyOk62
  · exact tyOk63
  · exact tyOk65
  · exact tyOk66
  · exact tyOk67
  · exact tyOk69
  · exact tyOk71
  · exact tyOk72
  · exact tyOk73
  · exact tyOk74
  · exact tyOk75
  · exact tyOk76
  · exact tyOk77
  · exact tyOk78
  · exact tyOk80
  · exact tyOk81
  · exact tyOk82
  · exact tyOk84
  · exact tyOk85
  · exact tyOk86
  · exact tyOk87
  · exact tyOk88
  · exact tyOk89
  · exact tyOk90
  · exact tyOk91
  · exact tyOk92
  · exact tyOk95
  · exact tyOk101
  · exact tyOk102
  · exact tyOk103
  · exact tyOk104
  · exact tyOk105
  · exact tyOk106
  · exact tyOk107
  · exact tyOk108
  · exact tyOk112
  · exact tyOk113
  · exact tyOk114
  · exact tyOk115
  · exact tyOk116
  · exact tyOk117
  · exact tyOk118
  · exact tyOk119
  · exact tyOk120
  · exact tyOk121
  · exact tyOk122
  · exact tyOk123
  · exact tyOk124
  · exact tyOk125
  · exact tyOk127
  · exact tyOk128
  · exact tyOk130
  · exact tyOk131
  · exact tyOk132
  · exact tyOk133
  · exact tyOk134
  · exact tyOk135
  · exact tyOk136
  · exact tyOk137
  · exact tyOk138
  · exact tyOk139
  · exact tyOk140
  · exact tyOk142
  · exact tyOk143
  · exact tyOk144
  · exact tyOk145
  · exact tyOk147
  · exact tyOk148
  · exact tyOk149
  · exact tyOk150
  · exact tyOk151
  · exact tyOk152
  · exact tyOk155
  · exact tyOk156
  · exact tyOk157
  · exact tyOk158
  · exact tyOk160
  · exact tyOk161
  · exact tyOk162
  · exact tyOk163
  · exact tyOk164
  · exact tyOk165
  · exact tyOk166
  · exact tyOk167
  · exact tyOk168
  · exact tyOk169
  · exact tyOk170
  · exact tyOk171
  · exact tyOk172
  · exact tyOk173
  · exact tyOk174
  · exact tyOk175
  · exact tyOk176
  · exact tyOk177
  · exact tyOk178
  · exact tyOk179
  · exact tyOk180
  · exact tyOk181
  · exact tyOk182
  · exact tyOk183
  · exact tyOk189
  · exact tyOk192
  · exact tyOk195
theorem mixed : Tryz.prog.follows .mixedOrders = true := by kernel_rfl
theorem call3 : CallOk Tryz.prog 3 := ⟨_, Tryz.func3, by kernel_rfl, by kernel_rfl⟩
theorem call4 : CallOk Tryz.prog 4 := ⟨_, Tryz.func4, by kernel_rfl, by kernel_rfl⟩
theorem call5 : CallOk Tryz.prog 5 := ⟨_, Tryz.func5, by kernel_rfl, by kernel_rfl⟩
theorem call6 : CallOk Tryz.prog 6 := ⟨_, Tryz.func6, by kernel_rfl, by kernel_rfl⟩
theorem call7 : CallOk Tryz.prog 7 := ⟨_, Tryz.func7, by kernel_rfl, by kernel_rfl⟩
theorem call8 : CallOk Tryz.prog 8 := ⟨_, Tryz.func8, by kernel_rfl, by kernel_rfl⟩
theorem call9 : CallOk Tryz.prog 9 := ⟨_, Tryz.func9, by kernel_rfl, by kernel_rfl⟩
theorem call10 : CallOk Tryz.prog 10 := ⟨_, Tryz.func10, by kernel_rfl, by kernel_rfl⟩
theorem call11 : CallOk Tryz.prog 11 := ⟨_, Tryz.func11, by kernel_rfl, by kernel_rfl⟩
theorem call12 : CallOk Tryz.prog 12 := ⟨_, Tryz.func12, by kernel_rfl, by kernel_rfl⟩
theorem call13 : CallOk Tryz.prog 13 := ⟨_, Tryz.func13, by kernel_rfl, by kernel_rfl⟩
theorem call14 : CallOk Tryz.prog 14 := ⟨_, Tryz.func14, by kernel_rfl, by kernel_rfl⟩
theorem call15 : CallOk Tryz.prog 15 := ⟨_, Tryz.func15, by kernel_rfl, by kernel_rfl⟩
theorem call16 : CallOk Tryz.prog 16 := ⟨_, Tryz.func16, by kernel_rfl, by kernel_rfl⟩
theorem call17 : CallOk Tryz.prog 17 := ⟨_, Tryz.func17, by kernel_rfl, by kernel_rfl⟩
theorem call18 : CallOk Tryz.prog 18 := ⟨_, Tryz.func18, by kernel_rfl, by kernel_rfl⟩
theorem call19 : CallOk Tryz.prog 19 := ⟨_, Tryz.func19, by kernel_rfl, by kernel_rfl⟩
theorem call20 : CallOk Tryz.prog 20 := ⟨_, Tryz.func20, by kernel_rfl, by kernel_rfl⟩
theorem call21 : CallOk Tryz.prog 21 := ⟨_, Tryz.func21, by kernel_rfl, by kernel_rfl⟩
theorem call22 : CallOk Tryz.prog 22 := ⟨_, Tryz.func22, by kernel_rfl, by kernel_rfl⟩
theorem call23 : CallOk Tryz.prog 23 := ⟨_, Tryz.func23, by kernel_rfl, by kernel_rfl⟩
theorem call24 : CallOk Tryz.prog 24 := ⟨_, Tryz.func24, by kernel_rfl, by kernel_rfl⟩
theorem call25 : CallOk Tryz.prog 25 := ⟨_, Tryz.func25, by kernel_rfl, by kernel_rfl⟩
theorem call26 : CallOk Tryz.prog 26 := ⟨_, Tryz.func26, by kernel_rfl, by kernel_rfl⟩
theorem call27 : CallOk Tryz.prog 27 := ⟨_, Tryz.func27, by kernel_rfl, by kernel_rfl⟩
theorem call28 : CallOk Tryz.prog 28 := ⟨_, Tryz.func28, by kernel_rfl, by kernel_rfl⟩
theorem call29 : CallOk Tryz.prog 29 := ⟨_, Tryz.func29, by kernel_rfl, by kernel_rfl⟩
theorem call30 : CallOk Tryz.prog 30 := ⟨_, Tryz.func30, by kernel_rfl, by kernel_rfl⟩
theorem call31 : CallOk Tryz.prog 31 := ⟨_, Tryz.func31, by kernel_rfl, by kernel_rfl⟩
theorem call32 : CallOk Tryz.prog 32 := ⟨_, Tryz.func32, by kernel_rfl, by kernel_rfl⟩
theorem call33 : CallOk Tryz.prog 33 := ⟨_, Tryz.func33, by kernel_rfl, by kernel_rfl⟩
theorem call34 : CallOk Tryz.prog 34 := ⟨_, Tryz.func34, by kernel_rfl, by kernel_rfl⟩
theorem call35 : CallOk Tryz.prog 35 := ⟨_, Tryz.func35, by kernel_rfl, by kernel_rfl⟩
theorem call36 : CallOk Tryz.prog 36 := ⟨_, Tryz.func36, by kernel_rfl, by kernel_rfl⟩
theorem call37 : CallOk Tryz.prog 37 := ⟨_, Tryz.func37, by kernel_rfl, by kernel_rfl⟩
theorem call38 : CallOk Tryz.prog 38 := ⟨_, Tryz.func38, by kernel_rfl, by kernel_rfl⟩
theorem call39 : CallOk Tryz.prog 39 := ⟨_, Tryz.func39, by kernel_rfl, by kernel_rfl⟩
theorem call40 : CallOk Tryz.prog 40 := ⟨_, Tryz.func40, by kernel_rfl, by kernel_rfl⟩
theorem call41 : CallOk Tryz.prog 41 := ⟨_, Tryz.func41, by kernel_rfl, by kernel_rfl⟩
theorem call42 : CallOk Tryz.prog 42 := ⟨_, Tryz.func42, by kernel_rfl, by kernel_rfl⟩
theorem call43 : CallOk Tryz.prog 43 := ⟨_, Tryz.func43, by kernel_rfl, by kernel_rfl⟩
theorem call44 : CallOk Tryz.prog 44 := ⟨_, Tryz.func44, by kernel_rfl, by kernel_rfl⟩
theorem call45 : CallOk Tryz.prog 45 := ⟨_, Tryz.func45, by kernel_rfl, by kernel_rfl⟩
theorem call46 : CallOk Tryz.prog 46 := ⟨_, Tryz.func46, by kernel_rfl, by kernel_rfl⟩
theorem call47 : CallOk Tryz.prog 47 := ⟨_, Tryz.func47, by kernel_rfl, by kernel_rfl⟩
theorem call48 : CallOk Tryz.prog 48 := ⟨_, Tryz.func48, by kernel_rfl, by kernel_rfl⟩
theorem call49 : CallOk Tryz.prog 49 := ⟨_, Tryz.func49, by kernel_rfl, by kernel_rfl⟩
theorem call50 : CallOk Tryz.prog 50 := ⟨_, Tryz.func50, by kernel_rfl, by kernel_rfl⟩
theorem call51 : CallOk Tryz.prog 51 := ⟨_, Tryz.func51, by kernel_rfl, by kernel_rfl⟩
theorem call52 : CallOk Tryz.prog 52 := ⟨_, Tryz.func52, by kernel_rfl, by kernel_rfl⟩
theorem call53 : CallOk Tryz.prog 53 := ⟨_, Tryz.func53, by kernel_rfl, by kernel_rfl⟩
theorem call54 : CallOk Tryz.prog 54 := ⟨_, Tryz.func54, by kernel_rfl, by kernel_rfl⟩
theorem call55 : CallOk Tryz.prog 55 := ⟨_, Tryz.func55, by kernel_rfl, by kernel_rfl⟩
theorem call56 : CallOk Tryz.prog 56 := ⟨_, Tryz.func56, by kernel_rfl, by kernel_rfl⟩
theorem call57 : CallOk Tryz.prog 57 := ⟨_, Tryz.func57, by kernel_rfl, by kernel_rfl⟩
theorem call58 : CallOk Tryz.prog 58 := ⟨_, Tryz.func58, by kernel_rfl, by kernel_rfl⟩
theorem call59 : CallOk Tryz.prog 59 := ⟨_, Tryz.func59, by kernel_rfl, by kernel_rfl⟩
theorem call60 : CallOk Tryz.prog 60 := ⟨_, Tryz.func60, by kernel_rfl, by kernel_rfl⟩
theorem call61 : CallOk Tryz.prog 61 := ⟨_, Tryz.func61, by kernel_rfl, by kernel_rfl⟩
theorem call62 : CallOk Tryz.prog 62 := ⟨_, Tryz.func62, by kernel_rfl, by kernel_rfl⟩
theorem call63 : CallOk Tryz.prog 63 := ⟨_, Tryz.func63, by kernel_rfl, by kernel_rfl⟩
theorem call64 : CallOk Tryz.prog 64 := ⟨_, Tryz.func64, by kernel_rfl, by kernel_rfl⟩
theorem call65 : CallOk Tryz.prog 65 := ⟨_, Tryz.func65, by kernel_rfl, by kernel_rfl⟩
theorem call66 : CallOk Tryz.prog 66 := ⟨_, Tryz.func66, by kernel_rfl, by kernel_rfl⟩
theorem call67 : CallOk Tryz.prog 67 := ⟨_, Tryz.func67, by kernel_rfl, by kernel_rfl⟩
theorem call68 : CallOk Tryz.prog 68 := ⟨_, Tryz.func68, by kernel_rfl, by kernel_rfl⟩
theorem call69 : CallOk Tryz.prog 69 := ⟨_, Tryz.func69, by kernel_rfl, by kernel_rfl⟩
theorem call70 : CallOk Tryz.prog 70 := ⟨_, Tryz.func70, by kernel_rfl, by kernel_rfl⟩
theorem call71 : CallOk Tryz.prog 71 := ⟨_, Tryz.func71, by kernel_rfl, by kernel_rfl⟩
theorem call72 : CallOk Tryz.prog 72 := ⟨_, Tryz.func72, by kernel_rfl, by kernel_rfl⟩
theorem call73 : CallOk Tryz.prog 73 := ⟨_, Tryz.func73, by kernel_rfl, by kernel_rfl⟩
theorem call74 : CallOk Tryz.prog 74 := ⟨_, Tryz.func74, by kernel_rfl, by kernel_rfl⟩
theorem call75 : CallOk Tryz.prog 75 := ⟨_, Tryz.func75, by kernel_rfl, by kernel_rfl⟩
theorem call77 : CallOk Tryz.prog 77 := ⟨_, Tryz.func77, by kernel_rfl, by kernel_rfl⟩
theorem call78 : CallOk Tryz.prog 78 := ⟨_, Tryz.func78, by kernel_rfl, by kernel_rfl⟩
theorem call79 : CallOk Tryz.prog 79 := ⟨_, Tryz.func79, by kernel_rfl, by kernel_rfl⟩
theorem call80 : CallOk Tryz.prog 80 := ⟨_, Tryz.func80, by kernel_rfl, by kernel_rfl⟩
theorem call81 : CallOk Tryz.prog 81 := ⟨_, Tryz.func81, by kernel_rfl, by kernel_rfl⟩
theorem call82 : CallOk Tryz.prog 82 := ⟨_, Tryz.func82, by kernel_rfl, by kernel_rfl⟩
theorem call83 : CallOk Tryz.prog 83 := ⟨_, Tryz.func83, by kernel_rfl, by kernel_rfl⟩
theorem call84 : CallOk Tryz.prog 84 := ⟨_, Tryz.func84, by kernel_rfl, by kernel_rfl⟩
theorem call87 : CallOk Tryz.prog 87 := ⟨_, Tryz.func87, by kernel_rfl, by kernel_rfl⟩
theorem call88 : CallOk Tryz.prog 88 := ⟨_, Tryz.func88, by kernel_rfl, by kernel_rfl⟩
theorem call89 : CallOk Tryz.prog 89 := ⟨_, Tryz.func89, by kernel_rfl, by kernel_rfl⟩
theorem call90 : CallOk Tryz.prog 90 := ⟨_, Tryz.func90, by kernel_rfl, by kernel_rfl⟩
theorem call92 : CallOk Tryz.prog 92 := ⟨_, Tryz.func92, by kernel_rfl, by kernel_rfl⟩
theorem call94 : CallOk Tryz.prog 94 := ⟨_, Tryz.func94, by kernel_rfl, by kernel_rfl⟩
theorem call95 : CallOk Tryz.prog 95 := ⟨_, Tryz.func95, by kernel_rfl, by kernel_rfl⟩
theorem call96 : CallOk Tryz.prog 96 := ⟨_, Tryz.func96, by kernel_rfl, by kernel_rfl⟩
theorem call97 : CallOk Tryz.prog 97 := ⟨_, Tryz.func97, by kernel_rfl, by kernel_rfl⟩
theorem call99 : CallOk Tryz.prog 99 := ⟨_, Tryz.func99, by kernel_rfl, by kernel_rfl⟩
theorem call100 : CallOk Tryz.prog 100 := ⟨_, Tryz.func100, by kernel_rfl, by kernel_rfl⟩
theorem call101 : CallOk Tryz.prog 101 := ⟨_, Tryz.func101, by kernel_rfl, by kernel_rfl⟩
theorem call102 : CallOk Tryz.prog 102 := ⟨_, Tryz.func102, by kernel_rfl, by kernel_rfl⟩
theorem call103 : CallOk Tryz.prog 103 := ⟨_, Tryz.func103, by kernel_rfl, by kernel_rfl⟩
theorem call104 : CallOk Tryz.prog 104 := ⟨_, Tryz.func104, by kernel_rfl, by kernel_rfl⟩
theorem call105 : CallOk Tryz.prog 105 := ⟨_, Tryz.func105, by kernel_rfl, by kernel_rfl⟩
theorem call106 : CallOk Tryz.prog 106 := ⟨_, Tryz.func106, by kernel_rfl, by kernel_rfl⟩
theorem call107 : CallOk Tryz.prog 107 := ⟨_, Tryz.func107, by kernel_rfl, by kernel_rfl⟩
theorem call109 : CallOk Tryz.prog 109 := ⟨_, Tryz.func109, by kernel_rfl, by kernel_rfl⟩
theorem call114 : CallOk Tryz.prog 114 := ⟨_, Tryz.func114, by kernel_rfl, by kernel_rfl⟩
theorem call117 : CallOk Tryz.prog 117 := ⟨_, Tryz.func117, by kernel_rfl, by kernel_rfl⟩
theorem call118 : CallOk Tryz.prog 118 := ⟨_, Tryz.func118, by kernel_rfl, by kernel_rfl⟩
theorem call119 : CallOk Tryz.prog 119 := ⟨_, Tryz.func119, by kernel_rfl, by kernel_rfl⟩
theorem call120 : CallOk Tryz.prog 120 := ⟨_, Tryz.func120, by kernel_rfl, by kernel_rfl⟩
theorem call121 : CallOk Tryz.prog 121 := ⟨_, Tryz.func121, by kernel_rfl, by kernel_rfl⟩
end Go.Proofs.YtnbbooilapelmaaGreatDoor.V

