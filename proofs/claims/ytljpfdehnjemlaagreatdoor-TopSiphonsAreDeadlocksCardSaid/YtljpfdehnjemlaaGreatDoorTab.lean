/-
 The table of types of this seat's translation, by a program.
-/
import Derived.Test.YtljpfdehnjemlaaGreatDoorE2
import Derived.Test.YtljpfdehnjemlaaGreatDoorRows
set_option linter.unusedSimpArgs false
set_option linter.unusedVariables false
namespace Go.Proofs.YtljpfdehnjemlaaGreatDoor
open Go.Eng
def tyL : List TyRow := [
 noTy,
 ⟨1, 8, [.raw .nilFunc], .one, false⟩,
 ⟨1, 8, [.int .i64 0], .int .i64, false⟩,
 ⟨1, 8, [.int .i64 0], .int .i64, false⟩,
 ⟨1, 1, [.bool false], .bool, false⟩,
 ⟨1, 1, [.int .u8 0], .int .u8, false⟩,
 ⟨1, 1, [.int .u8 0], .int .u8, false⟩,
 ⟨4, 24, [.int .i64 0, .int .i64 0, .bool false, .int .u8 0], .struct [(0, 2), (1, 3), (2, 4), (3, 6)], false⟩,
 ⟨4, 24, [.int .i64 0, .int .i64 0, .bool false, .int .u8 0], .struct [(0, 2), (1, 3), (2, 4), (3, 6)], false⟩,
 ⟨1, 16, [.str []], .string, false⟩,
 ⟨1, 16, [.str []], .string, false⟩,
 ⟨1, 16, [.str []], .string, false⟩,
 ⟨1, 8, [.int .u64 0], .int .u64, false⟩,
 ⟨2, 24, [.str [], .int .u64 0], .struct [(0, 9), (1, 12)], false⟩,
 ⟨2, 24, [.str [], .int .u64 0], .struct [(0, 9), (1, 12)], false⟩,
 ⟨1, 8, [.raw (.pointer none)], .one, false⟩,
 ⟨1, 8, [.raw (.pointer none)], .one, false⟩,
 ⟨1, 8, [.raw (.pointer none)], .one, false⟩,
 ⟨1, 8, [.raw (.pointer none)], .struct [(0, 17)], false⟩,
 ⟨1, 8, [.raw (.pointer none)], .struct [(0, 17)], false⟩,
 noTy,
 ⟨1, 4, [.int .i32 0], .int .i32, false⟩,
 ⟨5, 5, [.int .u8 0, .int .u8 0, .int .u8 0, .int .u8 0, .int .u8 0], .array 5 5, false⟩,
 ⟨25, 25, [.int .u8 0, .int .u8 0, .int .u8 0, .int .u8 0, .int .u8 0, .int .u8 0, .int .u8 0, .int .u8 0, .int .u8 0, .int .u8 0, .int .u8 0, .int .u8 0, .int .u8 0, .int .u8 0, .int .u8 0, .int .u8 0, .int .u8 0, .int .u8 0, .int .u8 0, .int .u8 0, .int .u8 0, .int .u8 0, .int .u8 0, .int .u8 0, .int .u8 0], .array 5 22, false⟩,
 ⟨37, 37, [.int .u8 0, .int .u8 0, .int .u8 0, .int .u8 0, .int .u8 0, .int .u8 0, .int .u8 0, .int .u8 0, .int .u8 0, .int .u8 0, .int .u8 0, .int .u8 0, .int .u8 0, .int .u8 0, .int .u8 0, .int .u8 0, .int .u8 0, .int .u8 0, .int .u8 0, .int .u8 0, .int .u8 0, .int .u8 0, .int .u8 0, .int .u8 0, .int .u8 0, .int .u8 0, .int .u8 0, .int .u8 0, .int .u8 0, .int .u8 0, .int .u8 0, .int .u8 0, .int .u8 0, .int .u8 0, .int .u8 0, .int .u8 0, .int .u8 0], .struct [(0, 5), (1, 5), (2, 22), (7, 22), (12, 23)], false⟩,
 ⟨37, 37, [.int .u8 0, .int .u8 0, .int .u8 0, .int .u8 0, .int .u8 0, .int .u8 0, .int .u8 0, .int .u8 0, .int .u8 0, .int .u8 0, .int .u8 0, .int .u8 0, .int .u8 0, .int .u8 0, .int .u8 0, .int .u8 0, .int .u8 0, .int .u8 0, .int .u8 0, .int .u8 0, .int .u8 0, .int .u8 0, .int .u8 0, .int .u8 0, .int .u8 0, .int .u8 0, .int .u8 0, .int .u8 0, .int .u8 0, .int .u8 0, .int .u8 0, .int .u8 0, .int .u8 0, .int .u8 0, .int .u8 0, .int .u8 0, .int .u8 0], .struct [(0, 5), (1, 5), (2, 22), (7, 22), (12, 23)], false⟩,
 ⟨1, 1, [.int .i8 0], .int .i8, false⟩,
 ⟨6, 6, [.int .i8 0, .int .i8 0, .int .i8 0, .int .i8 0, .int .i8 0, .int .i8 0], .array 6 26, false⟩,
 ⟨1, 8, [.raw .nilFunc], .one, false⟩,
 ⟨1, 24, [.nil], .slice 3, false⟩,
 ⟨1, 24, [.nil], .slice 66, false⟩,
 ⟨2, 48, [.nil, .nil], .struct [(0, 29), (1, 30)], false⟩,
 ⟨2, 48, [.nil, .nil], .struct [(0, 29), (1, 30)], false⟩,
 ⟨1, 8, [.raw .nilFunc], .one, false⟩,
 ⟨1, 8, [.raw .nilFunc], .one, false⟩,
 ⟨2, 32, [.nil, .int .i64 0], .struct [(0, 29), (1, 3)], false⟩,
 ⟨2, 32, [.nil, .int .i64 0], .struct [(0, 29), (1, 3)], false⟩,
 ⟨1, 8, [.raw .nilFunc], .one, false⟩,
 ⟨5, 5, [.int .i8 0, .int .i8 0, .int .i8 0, .int .i8 0, .int .i8 0], .array 5 26, false⟩,
 ⟨1, 24, [.nil], .slice 96, false⟩,
 ⟨4, 80, [.nil, .int .i64 0, .nil, .nil], .struct [(0, 29), (1, 3), (2, 29), (3, 39)], false⟩,
 ⟨4, 80, [.nil, .int .i64 0, .nil, .nil], .struct [(0, 29), (1, 3), (2, 29), (3, 39)], false⟩,
 ⟨1, 24, [.nil], .slice 29, false⟩,
 ⟨1, 8, [.int .i64 0], .int .i64, false⟩,
 noTy,
 ⟨1, 8, [.raw .nilFunc], .one, false⟩,
 noTy,
 ⟨1, 8, [.raw .nilFunc], .one, false⟩,
 ⟨1, 24, [.nil], .slice 142, false⟩,
 ⟨3, 72, [.nil, .nil, .nil], .struct [(0, 29), (1, 29), (2, 48)], false⟩,
 ⟨3, 72, [.nil, .nil, .nil], .struct [(0, 29), (1, 29), (2, 48)], false⟩,
 ⟨9, 184, [.nil, .nil, .nil, .int .i64 0, .nil, .int .i64 0, .nil, .nil, .nil], .struct [(0, 50), (3, 3), (4, 41), (8, 29)], false⟩,
 ⟨9, 184, [.nil, .nil, .nil, .int .i64 0, .nil, .int .i64 0, .nil, .nil, .nil], .struct [(0, 50), (3, 3), (4, 41), (8, 29)], false⟩,
 noTy,
 ⟨1, 8, [.raw .nilFunc], .one, false⟩,
 noTy,
 ⟨1, 8, [.raw .nilFunc], .one, false⟩,
 ⟨1, 8, [.raw .nilFunc], .one, false⟩,
 ⟨1, 8, [.raw .nilFunc], .one, false⟩,
 ⟨1, 8, [.raw .nilFunc], .one, false⟩,
 ⟨1, 2, [.int .u16 0], .int .u16, false⟩,
 ⟨39, 40, [.int .u8 0, .int .u8 0, .int .u8 0, .int .u8 0, .int .u8 0, .int .u8 0, .int .u8 0, .int .u8 0, .int .u8 0, .int .u8 0, .int .u8 0, .int .u8 0, .int .u8 0, .int .u8 0, .int .u8 0, .int .u8 0, .int .u8 0, .int .u8 0, .int .u8 0, .int .u8 0, .int .u8 0, .int .u8 0, .int .u8 0, .int .u8 0, .int .u8 0, .int .u8 0, .int .u8 0, .int .u8 0, .int .u8 0, .int .u8 0, .int .u8 0, .int .u8 0, .int .u8 0, .int .u8 0, .int .u8 0, .int .u8 0, .int .u8 0, .bool false, .int .u16 0], .struct [(0, 25), (37, 4), (38, 60)], false⟩,
 ⟨39, 40, [.int .u8 0, .int .u8 0, .int .u8 0, .int .u8 0, .int .u8 0, .int .u8 0, .int .u8 0, .int .u8 0, .int .u8 0, .int .u8 0, .int .u8 0, .int .u8 0, .int .u8 0, .int .u8 0, .int .u8 0, .int .u8 0, .int .u8 0, .int .u8 0, .int .u8 0, .int .u8 0, .int .u8 0, .int .u8 0, .int .u8 0, .int .u8 0, .int .u8 0, .int .u8 0, .int .u8 0, .int .u8 0, .int .u8 0, .int .u8 0, .int .u8 0, .int .u8 0, .int .u8 0, .int .u8 0, .int .u8 0, .int .u8 0, .int .u8 0, .bool false, .int .u16 0], .struct [(0, 25), (37, 4), (38, 60)], false⟩,
 ⟨1, 8, [.raw .nilFunc], .one, false⟩,
 ⟨1, 24, [.nil], .slice 84, false⟩,
 ⟨3, 56, [.int .i64 0, .nil, .nil], .struct [(0, 3), (1, 64), (2, 64)], false⟩,
 ⟨3, 56, [.int .i64 0, .nil, .nil], .struct [(0, 3), (1, 64), (2, 64)], false⟩,
 noTy,
 ⟨1, 8, [.raw .nilFunc], .one, false⟩,
 noTy,
 ⟨1, 8, [.raw .nilFunc], .one, false⟩,
 ⟨1, 8, [.raw .nilFunc], .one, false⟩,
 noTy,
 ⟨1, 8, [.raw .nilFunc], .one, false⟩,
 ⟨1, 8, [.raw .nilFunc], .one, false⟩,
 ⟨1, 8, [.raw .nilFunc], .one, false⟩,
 ⟨1, 24, [.nil], .slice 172, false⟩,
 ⟨3, 72, [.nil, .nil, .nil], .struct [(0, 76), (1, 32)], false⟩,
 ⟨3, 72, [.nil, .nil, .nil], .struct [(0, 76), (1, 32)], false⟩,
 noTy,
 ⟨1, 8, [.raw .nilFunc], .one, false⟩,
 ⟨1, 8, [.raw .nilFunc], .one, false⟩,
 ⟨1, 8, [.raw .nilFunc], .one, false⟩,
 ⟨2, 16, [.int .i64 0, .int .i64 0], .struct [(0, 3), (1, 3)], false⟩,
 ⟨2, 16, [.int .i64 0, .int .i64 0], .struct [(0, 3), (1, 3)], true⟩,
 ⟨1, 8, [.raw .nilFunc], .one, false⟩,
 ⟨1, 8, [.raw .nilFunc], .one, false⟩,
 ⟨1, 8, [.raw (.pointer none)], .one, false⟩,
 noTy,
 ⟨1, 8, [.raw .nilFunc], .one, false⟩,
 ⟨1, 8, [.raw (.map none)], .map 98 3, false⟩,
 ⟨1, 24, [.nil], .slice 103, false⟩,
 ⟨1, 8, [.raw (.map none)], .map 9 3, false⟩,
 ⟨4, 64, [.nil, .nil, .raw (.map none), .int .i64 0], .struct [(0, 91), (1, 39), (2, 92), (3, 3)], false⟩,
 ⟨4, 64, [.nil, .nil, .raw (.map none), .int .i64 0], .struct [(0, 91), (1, 39), (2, 92), (3, 3)], false⟩,
 ⟨3, 24, [.int .i64 0, .int .i64 0, .int .i64 0], .struct [(0, 3), (1, 3), (2, 3)], false⟩,
 ⟨3, 24, [.int .i64 0, .int .i64 0, .int .i64 0], .struct [(0, 3), (1, 3), (2, 3)], true⟩,
 ⟨2, 16, [.int .i64 0, .int .i64 0], .struct [(0, 3), (1, 3)], false⟩,
 ⟨2, 16, [.int .i64 0, .int .i64 0], .struct [(0, 3), (1, 3)], true⟩,
 noTy,
 ⟨1, 8, [.raw .nilFunc], .one, false⟩,
 ⟨1, 8, [.raw (.map none)], .map 3 3, false⟩,
 ⟨3, 40, [.nil, .int .i64 0, .int .i64 0], .struct [(0, 29), (1, 3), (2, 3)], false⟩,
 ⟨3, 40, [.nil, .int .i64 0, .int .i64 0], .struct [(0, 29), (1, 3), (2, 3)], false⟩,
 ⟨1, 8, [.raw .nilFunc], .one, false⟩,
 ⟨1, 8, [.raw .nilFunc], .one, false⟩,
 ⟨1, 8, [.raw .nilFunc], .one, false⟩,
 ⟨1, 8, [.raw .nilFunc], .one, false⟩,
 ⟨1, 8, [.raw .nilFunc], .one, false⟩,
 ⟨1, 8, [.raw .nilFunc], .one, false⟩,
 ⟨1, 8, [.raw .nilFunc], .one, false⟩,
 ⟨1, 8, [.raw .nilFunc], .one, false⟩,
 ⟨1, 8, [.raw .nilFunc], .one, false⟩,
 ⟨1, 8, [.raw .nilFunc], .one, false⟩,
 ⟨1, 8, [.raw .nilFunc], .one, false⟩,
 ⟨1, 8, [.raw .nilFunc], .one, false⟩,
 ⟨1, 8, [.raw .nilFunc], .one, false⟩,
 noTy,
 ⟨1, 8, [.raw .nilFunc], .one, false⟩,
 noTy,
 ⟨1, 8, [.raw .nilFunc], .one, false⟩,
 ⟨1, 8, [.raw .nilFunc], .one, false⟩,
 ⟨1, 8, [.raw .nilFunc], .one, false⟩,
 ⟨1, 8, [.raw .nilFunc], .one, false⟩,
 ⟨1, 8, [.raw .nilFunc], .one, false⟩,
 ⟨1, 8, [.raw .nilFunc], .one, false⟩,
 ⟨1, 8, [.raw .nilFunc], .one, false⟩,
 noTy,
 ⟨1, 8, [.raw .nilFunc], .one, false⟩,
 noTy,
 ⟨1, 8, [.raw .nilFunc], .one, false⟩,
 noTy,
 ⟨1, 8, [.raw .nilFunc], .one, false⟩,
 ⟨1, 24, [.nil], .slice 64, false⟩,
 ⟨1, 8, [.raw .nilFunc], .one, false⟩,
 ⟨1, 8, [.raw .nilFunc], .one, false⟩,
 ⟨1, 8, [.raw .nilFunc], .one, false⟩,
 ⟨1, 8, [.raw .nilFunc], .one, false⟩,
 ⟨1, 8, [.raw .nilFunc], .one, false⟩,
 ⟨1, 8, [.raw (.pointer none)], .one, false⟩,
 ⟨1, 8, [.raw .nilFunc], .one, false⟩,
 ⟨4, 32, [.int .i64 0, .int .i64 0, .int .i64 0, .int .i64 0], .struct [(0, 3), (1, 3), (2, 3), (3, 3)], false⟩,
 ⟨4, 32, [.int .i64 0, .int .i64 0, .int .i64 0, .int .i64 0], .struct [(0, 3), (1, 3), (2, 3), (3, 3)], true⟩,
 ⟨1, 8, [.raw .nilFunc], .one, false⟩,
 ⟨1, 8, [.raw (.map none)], .map 3 29, false⟩,
 ⟨1, 24, [.nil], .slice 4, false⟩,
 ⟨7, 136, [.nil, .int .i64 0, .nil, .nil, .nil, .raw (.map none), .nil], .struct [(0, 41), (4, 29), (5, 144), (6, 145)], false⟩,
 ⟨7, 136, [.nil, .int .i64 0, .nil, .nil, .nil, .raw (.map none), .nil], .struct [(0, 41), (4, 29), (5, 144), (6, 145)], false⟩,
 ⟨1, 8, [.raw .nilFunc], .one, false⟩,
 ⟨1, 8, [.raw .nilFunc], .one, false⟩,
 ⟨1, 8, [.raw .nilFunc], .one, false⟩,
 noTy,
 ⟨1, 8, [.raw .nilFunc], .one, false⟩,
 ⟨1, 8, [.raw .nilFunc], .one, false⟩,
 ⟨1, 8, [.raw .nilFunc], .one, false⟩,
 ⟨1, 8, [.raw .nilFunc], .one, false⟩,
 ⟨1, 8, [.raw .nilFunc], .one, false⟩,
 ⟨1, 8, [.raw .nilFunc], .one, false⟩,
 ⟨1, 8, [.raw .nilFunc], .one, false⟩,
 ⟨1, 8, [.raw (.pointer none)], .one, false⟩,
 ⟨1, 8, [.raw .nilFunc], .one, false⟩,
 noTy,
 ⟨1, 8, [.raw .nilFunc], .one, false⟩,
 ⟨2, 16, [.int .i64 0, .int .i64 0], .array 2 3, false⟩,
 ⟨2, 16, [.int .i64 0, .int .i64 0], .array 2 3, false⟩,
 ⟨1, 8, [.raw .nilFunc], .one, false⟩,
 ⟨1, 8, [.raw .nilFunc], .one, false⟩,
 ⟨1, 8, [.raw .nilFunc], .one, false⟩,
 ⟨1, 8, [.raw .nilFunc], .one, false⟩,
 noTy,
 ⟨1, 8, [.raw .nilFunc], .one, false⟩,
 ⟨3, 56, [.nil, .nil, .int .i64 0], .struct [(0, 29), (1, 36)], false⟩,
 ⟨3, 56, [.nil, .nil, .int .i64 0], .struct [(0, 29), (1, 36)], false⟩,
 ⟨1, 8, [.raw .nilFunc], .one, false⟩,
 noTy,
 ⟨1, 8, [.raw .nilFunc], .one, false⟩,
 ⟨1, 8, [.raw .nilFunc], .one, false⟩,
 ⟨1, 8, [.raw .nilFunc], .one, false⟩,
 ⟨1, 8, [.raw .nilFunc], .one, false⟩,
 ⟨1, 8, [.raw .nilFunc], .one, false⟩,
 ⟨1, 8, [.raw .nilFunc], .one, false⟩,
 noTy,
 ⟨1, 8, [.raw .nilFunc], .one, false⟩,
 ⟨1, 8, [.raw .nilFunc], .one, false⟩,
 noTy,
 ⟨1, 8, [.raw .nilFunc], .one, false⟩,
 ⟨1, 8, [.raw .nilFunc], .one, false⟩,
 ⟨1, 8, [.raw .nilFunc], .one, false⟩,
 ⟨1, 8, [.raw .nilFunc], .one, false⟩,
 ⟨1, 8, [.raw .nilFunc], .one, false⟩,
 ⟨1, 8, [.raw .nilFunc], .one, false⟩,
 ⟨1, 8, [.raw .nilFunc], .one, false⟩,
 ⟨1, 8, [.raw .nilFunc], .one, false⟩,
 ⟨1, 8, [.int .u64 0], .int .u64, false⟩,
 ⟨1, 8, [.raw .nilFunc], .one, false⟩,
 ⟨1, 8, [.raw .nilFunc], .one, false⟩,
 ⟨1, 24, [.nil], .slice 39, false⟩,
 ⟨1, 8, [.raw .nilFunc], .one, false⟩,
 ⟨1, 24, [.nil], .slice 41, false⟩,
 ⟨1, 8, [.raw (.map none)], .map 163 3, false⟩,
 ⟨1, 8, [.raw (.map none)], .map 3 4, false⟩,
 ⟨3, 24, [.raw (.map none), .raw (.map none), .int .i64 0], .struct [(0, 199), (1, 200), (2, 3)], false⟩,
 ⟨3, 24, [.raw (.map none), .raw (.map none), .int .i64 0], .struct [(0, 199), (1, 200), (2, 3)], false⟩,
 ⟨4, 32, [.int .i64 0, .int .i64 0, .int .i64 0, .int .i64 0], .struct [(0, 164), (2, 3), (3, 3)], false⟩,
 ⟨4, 32, [.int .i64 0, .int .i64 0, .int .i64 0, .int .i64 0], .struct [(0, 164), (2, 3), (3, 3)], false⟩,
 ⟨1, 24, [.nil], .slice 204, false⟩,
 ⟨1, 8, [.raw (.map none)], .map 164 4, false⟩,
 ⟨1, 8, [.raw .nilFunc], .one, false⟩,
 ⟨1, 8, [.raw .nilFunc], .one, false⟩,
 ⟨1, 8, [.raw .nilFunc], .one, false⟩,
 ⟨1, 8, [.raw .nilFunc], .one, false⟩,
 ⟨1, 8, [.raw .nilFunc], .one, false⟩,
 ⟨1, 8, [.raw .nilFunc], .one, false⟩,
 ⟨1, 8, [.raw .nilFunc], .one, false⟩,
 ⟨1, 8, [.raw .nilFunc], .one, false⟩,
 ⟨1, 8, [.raw .nilFunc], .one, false⟩,
 ⟨1, 8, [.raw .nilFunc], .one, false⟩,
 ⟨1, 8, [.raw (.pointer none)], .one, false⟩,
 ⟨1, 24, [.nil], .slice 5, false⟩,
 ⟨2, 32, [.raw (.pointer none), .nil], .struct [(0, 217), (1, 218)], false⟩,
 ⟨2, 32, [.raw (.pointer none), .nil], .struct [(0, 217), (1, 218)], false⟩,
 noTy,
 noTy,
 noTy,
 ⟨1, 8, [.raw .nilFunc], .one, false⟩,
 ⟨1, 8, [.raw .nilFunc], .one, false⟩,
 ⟨1, 8, [.raw .nilFunc], .one, false⟩,
 ⟨1, 8, [.raw .nilFunc], .one, false⟩,
 ⟨1, 8, [.raw .nilFunc], .one, false⟩,
 ⟨1, 8, [.int .i64 0], .int .i64, false⟩,
 noTy,
 ⟨1, 8, [.raw .nilFunc], .one, false⟩,
 ⟨1, 8, [.raw .nilFunc], .one, false⟩,
 ⟨1, 8, [.raw .nilFunc], .one, false⟩,
 ⟨1, 8, [.raw .nilFunc], .one, false⟩,
 ⟨1, 8, [.raw .nilFunc], .one, false⟩,
 ⟨1, 4, [.int .u32 0], .int .u32, false⟩,
 ⟨1, 8, [.raw .nilFunc], .one, false⟩,
 ⟨1, 8, [.int .u64 0], .int .u64, false⟩,
 ⟨1, 8, [.raw .nilFunc], .one, false⟩,
 ⟨1, 8, [.raw .nilFunc], .one, false⟩,
 ⟨1, 8, [.raw .nilFunc], .one, false⟩,
 ⟨1, 8, [.raw .nilFunc], .one, false⟩,
 ⟨1, 8, [.raw .nilFunc], .one, false⟩,
 ⟨1, 8, [.raw .nilFunc], .one, false⟩,
 ⟨1, 8, [.raw .nilFunc], .one, false⟩,
 ⟨1, 8, [.raw .nilFunc], .one, false⟩,
 ⟨1, 8, [.raw .nilFunc], .one, false⟩,
 ⟨1, 8, [.raw .nilFunc], .one, false⟩,
 ⟨1, 8, [.raw .nilFunc], .one, false⟩,
 ⟨1, 8, [.raw .nilFunc], .one, false⟩,
 ⟨1, 8, [.raw .nilFunc], .one, false⟩,
 noTy,
 ⟨1, 8, [.raw .nilFunc], .one, false⟩,
 ⟨1, 8, [.raw (.pointer none)], .one, false⟩,
 ⟨1, 8, [.int .u64 0], .int .u64, false⟩,
 ⟨1, 8, [.raw .nilFunc], .one, false⟩,
 ⟨1, 8, [.raw .nilFunc], .one, false⟩,
 ⟨1, 8, [.raw .nilFunc], .one, false⟩,
 ⟨1, 8, [.raw (.pointer none)], .one, false⟩,
 ⟨1, 8, [.raw .nilFunc], .one, false⟩,
 ⟨1, 8, [.raw .nilFunc], .one, false⟩,
 ⟨1, 8, [.raw .nilFunc], .one, false⟩,
 ⟨1, 8, [.raw .nilFunc], .one, false⟩,
 ⟨1, 8, [.raw (.map none)], .map 3 96, false⟩,
 noTy,
 noTy,
 ⟨1, 8, [.raw .nilFunc], .one, false⟩,
 ⟨1, 8, [.raw .nilFunc], .one, false⟩,
 ⟨1, 8, [.raw (.pointer none)], .one, false⟩,
 noTy,
 ⟨1, 8, [.raw .nilFunc], .one, false⟩,
 ⟨1, 8, [.raw .nilFunc], .one, false⟩,
 ⟨1, 8, [.raw .nilFunc], .one, false⟩,
 ⟨1, 8, [.raw .nilFunc], .one, false⟩,
 ⟨1, 8, [.raw .nilFunc], .one, false⟩,
 ⟨1, 8, [.raw .nilFunc], .one, false⟩,
 ⟨1, 8, [.raw .nilFunc], .one, false⟩,
 ⟨24, 24, [.int .u8 0, .int .u8 0, .int .u8 0, .int .u8 0, .int .u8 0, .int .u8 0, .int .u8 0, .int .u8 0, .int .u8 0, .int .u8 0, .int .u8 0, .int .u8 0, .int .u8 0, .int .u8 0, .int .u8 0, .int .u8 0, .int .u8 0, .int .u8 0, .int .u8 0, .int .u8 0, .int .u8 0, .int .u8 0, .int .u8 0, .int .u8 0], .array 24 5, false⟩,
 ⟨1, 8, [.raw .nilFunc], .one, false⟩,
 noTy,
 ⟨1, 8, [.raw .nilFunc], .one, false⟩,
 ⟨1, 8, [.raw .nilFunc], .one, false⟩,
 ⟨1, 8, [.raw .nilFunc], .one, false⟩,
 ⟨1, 8, [.raw .nilFunc], .one, false⟩,
 ⟨1, 8, [.raw .nilFunc], .one, false⟩,
 ⟨20, 160, [.int .u64 0, .int .u64 0, .int .u64 0, .int .u64 0, .int .u64 0, .int .u64 0, .int .u64 0, .int .u64 0, .int .u64 0, .int .u64 0, .int .u64 0, .int .u64 0, .int .u64 0, .int .u64 0, .int .u64 0, .int .u64 0, .int .u64 0, .int .u64 0, .int .u64 0, .int .u64 0], .array 20 238, false⟩,
 ⟨65, 65, [.int .u8 0, .int .u8 0, .int .u8 0, .int .u8 0, .int .u8 0, .int .u8 0, .int .u8 0, .int .u8 0, .int .u8 0, .int .u8 0, .int .u8 0, .int .u8 0, .int .u8 0, .int .u8 0, .int .u8 0, .int .u8 0, .int .u8 0, .int .u8 0, .int .u8 0, .int .u8 0, .int .u8 0, .int .u8 0, .int .u8 0, .int .u8 0, .int .u8 0, .int .u8 0, .int .u8 0, .int .u8 0, .int .u8 0, .int .u8 0, .int .u8 0, .int .u8 0, .int .u8 0, .int .u8 0, .int .u8 0, .int .u8 0, .int .u8 0, .int .u8 0, .int .u8 0, .int .u8 0, .int .u8 0, .int .u8 0, .int .u8 0, .int .u8 0, .int .u8 0, .int .u8 0, .int .u8 0, .int .u8 0, .int .u8 0, .int .u8 0, .int .u8 0, .int .u8 0, .int .u8 0, .int .u8 0, .int .u8 0, .int .u8 0, .int .u8 0, .int .u8 0, .int .u8 0, .int .u8 0, .int .u8 0, .int .u8 0, .int .u8 0, .int .u8 0, .int .u8 0], .array 65 5, false⟩,
 ⟨1, 8, [.raw .nilFunc], .one, false⟩,
 ⟨32, 32, [.int .u8 0, .int .u8 0, .int .u8 0, .int .u8 0, .int .u8 0, .int .u8 0, .int .u8 0, .int .u8 0, .int .u8 0, .int .u8 0, .int .u8 0, .int .u8 0, .int .u8 0, .int .u8 0, .int .u8 0, .int .u8 0, .int .u8 0, .int .u8 0, .int .u8 0, .int .u8 0, .int .u8 0, .int .u8 0, .int .u8 0, .int .u8 0, .int .u8 0, .int .u8 0, .int .u8 0, .int .u8 0, .int .u8 0, .int .u8 0, .int .u8 0, .int .u8 0], .array 32 5, false⟩,
 ⟨64, 64, [.int .u8 0, .int .u8 0, .int .u8 0, .int .u8 0, .int .u8 0, .int .u8 0, .int .u8 0, .int .u8 0, .int .u8 0, .int .u8 0, .int .u8 0, .int .u8 0, .int .u8 0, .int .u8 0, .int .u8 0, .int .u8 0, .int .u8 0, .int .u8 0, .int .u8 0, .int .u8 0, .int .u8 0, .int .u8 0, .int .u8 0, .int .u8 0, .int .u8 0, .int .u8 0, .int .u8 0, .int .u8 0, .int .u8 0, .int .u8 0, .int .u8 0, .int .u8 0, .int .u8 0, .int .u8 0, .int .u8 0, .int .u8 0, .int .u8 0, .int .u8 0, .int .u8 0, .int .u8 0, .int .u8 0, .int .u8 0, .int .u8 0, .int .u8 0, .int .u8 0, .int .u8 0, .int .u8 0, .int .u8 0, .int .u8 0, .int .u8 0, .int .u8 0, .int .u8 0, .int .u8 0, .int .u8 0, .int .u8 0, .int .u8 0, .int .u8 0, .int .u8 0, .int .u8 0, .int .u8 0, .int .u8 0, .int .u8 0, .int .u8 0, .int .u8 0], .array 64 5, false⟩,
 ⟨4, 40, [.raw (.pointer none), .raw (.pointer none), .raw (.pointer none), .str []], .struct [(0, 17), (1, 17), (2, 17), (3, 9)], false⟩,
 ⟨4, 40, [.raw (.pointer none), .raw (.pointer none), .raw (.pointer none), .str []], .struct [(0, 17), (1, 17), (2, 17), (3, 9)], false⟩,
 noTy,
 noTy,
 noTy,
 ⟨1, 1, [.int .u8 0], .int .u8, false⟩,
 ⟨1, 1, [.int .u8 0], .int .u8, false⟩,
 ⟨1, 8, [.raw .nilFunc], .one, false⟩,
 ⟨1, 4, [.int .i32 0], .int .i32, false⟩,
 ⟨1, 4, [.int .i32 0], .int .i32, false⟩,
 ⟨11, 48, [.int .u64 0, .int .u64 0, .int .u32 0, .int .u8 0, .int .u8 0, .int .u8 0, .int .u8 0, .raw .nilFunc, .raw (.pointer none), .int .i32 0, .int .i32 0], .struct [(0, 12), (1, 12), (2, 236), (3, 296), (4, 5), (5, 5), (6, 297), (7, 298), (8, 254), (9, 299), (10, 300)], false⟩,
 ⟨11, 48, [.int .u64 0, .int .u64 0, .int .u32 0, .int .u8 0, .int .u8 0, .int .u8 0, .int .u8 0, .raw .nilFunc, .raw (.pointer none), .int .i32 0, .int .i32 0], .struct [(0, 12), (1, 12), (2, 236), (3, 296), (4, 5), (5, 5), (6, 297), (7, 298), (8, 254), (9, 299), (10, 300)], false⟩,
 ⟨1, 8, [.raw .nilFunc], .one, false⟩]
def Ty : Tab := fun t => tyL.getD t noTy
theorem Ty_ok : TabOk Tryz.prog Ty := tabOk_of _ _ (by kernel_rfl)
theorem mixed : Tryz.prog.follows .mixedOrders = true := by kernel_rfl
theorem Ty_1 : Ty 1 = ⟨1, 8, [.raw .nilFunc], .one, false⟩ := rfl
theorem Ty_2 : Ty 2 = ⟨1, 8, [.int .i64 0], .int .i64, false⟩ := rfl
theorem Ty_3 : Ty 3 = ⟨1, 8, [.int .i64 0], .int .i64, false⟩ := rfl
theorem Ty_4 : Ty 4 = ⟨1, 1, [.bool false], .bool, false⟩ := rfl
theorem Ty_5 : Ty 5 = ⟨1, 1, [.int .u8 0], .int .u8, false⟩ := rfl
theorem Ty_6 : Ty 6 = ⟨1, 1, [.int .u8 0], .int .u8, false⟩ := rfl
theorem Ty_7 : Ty 7 = ⟨4, 24, [.int .i64 0, .int .i64 0, .bool false, .int .u8 0], .struct [(0, 2), (1, 3), (2, 4), (3, 6)], false⟩ := rfl
theorem Ty_8 : Ty 8 = ⟨4, 24, [.int .i64 0, .int .i64 0, .bool false, .int .u8 0], .struct [(0, 2), (1, 3), (2, 4), (3, 6)], false⟩ := rfl
theorem Ty_9 : Ty 9 = ⟨1, 16, [.str []], .string, false⟩ := rfl
theorem Ty_10 : Ty 10 = ⟨1, 16, [.str []], .string, false⟩ := rfl
theorem Ty_11 : Ty 11 = ⟨1, 16, [.str []], .string, false⟩ := rfl
theorem Ty_12 : Ty 12 = ⟨1, 8, [.int .u64 0], .int .u64, false⟩ := rfl
theorem Ty_13 : Ty 13 = ⟨2, 24, [.str [], .int .u64 0], .struct [(0, 9), (1, 12)], false⟩ := rfl
theorem Ty_14 : Ty 14 = ⟨2, 24, [.str [], .int .u64 0], .struct [(0, 9), (1, 12)], false⟩ := rfl
theorem Ty_15 : Ty 15 = ⟨1, 8, [.raw (.pointer none)], .one, false⟩ := rfl
theorem Ty_16 : Ty 16 = ⟨1, 8, [.raw (.pointer none)], .one, false⟩ := rfl
theorem Ty_17 : Ty 17 = ⟨1, 8, [.raw (.pointer none)], .one, false⟩ := rfl
theorem Ty_18 : Ty 18 = ⟨1, 8, [.raw (.pointer none)], .struct [(0, 17)], false⟩ := rfl
theorem Ty_19 : Ty 19 = ⟨1, 8, [.raw (.pointer none)], .struct [(0, 17)], false⟩ := rfl
theorem Ty_21 : Ty 21 = ⟨1, 4, [.int .i32 0], .int .i32, false⟩ := rfl
theorem Ty_22 : Ty 22 = ⟨5, 5, [.int .u8 0, .int .u8 0, .int .u8 0, .int .u8 0, .int .u8 0], .array 5 5, false⟩ := rfl
theorem Ty_23 : Ty 23 = ⟨25, 25, [.int .u8 0, .int .u8 0, .int .u8 0, .int .u8 0, .int .u8 0, .int .u8 0, .int .u8 0, .int .u8 0, .int .u8 0, .int .u8 0, .int .u8 0, .int .u8 0, .int .u8 0, .int .u8 0, .int .u8 0, .int .u8 0, .int .u8 0, .int .u8 0, .int .u8 0, .int .u8 0, .int .u8 0, .int .u8 0, .int .u8 0, .int .u8 0, .int .u8 0], .array 5 22, false⟩ := rfl
theorem Ty_24 : Ty 24 = ⟨37, 37, [.int .u8 0, .int .u8 0, .int .u8 0, .int .u8 0, .int .u8 0, .int .u8 0, .int .u8 0, .int .u8 0, .int .u8 0, .int .u8 0, .int .u8 0, .int .u8 0, .int .u8 0, .int .u8 0, .int .u8 0, .int .u8 0, .int .u8 0, .int .u8 0, .int .u8 0, .int .u8 0, .int .u8 0, .int .u8 0, .int .u8 0, .int .u8 0, .int .u8 0, .int .u8 0, .int .u8 0, .int .u8 0, .int .u8 0, .int .u8 0, .int .u8 0, .int .u8 0, .int .u8 0, .int .u8 0, .int .u8 0, .int .u8 0, .int .u8 0], .struct [(0, 5), (1, 5), (2, 22), (7, 22), (12, 23)], false⟩ := rfl
theorem Ty_25 : Ty 25 = ⟨37, 37, [.int .u8 0, .int .u8 0, .int .u8 0, .int .u8 0, .int .u8 0, .int .u8 0, .int .u8 0, .int .u8 0, .int .u8 0, .int .u8 0, .int .u8 0, .int .u8 0, .int .u8 0, .int .u8 0, .int .u8 0, .int .u8 0, .int .u8 0, .int .u8 0, .int .u8 0, .int .u8 0, .int .u8 0, .int .u8 0, .int .u8 0, .int .u8 0, .int .u8 0, .int .u8 0, .int .u8 0, .int .u8 0, .int .u8 0, .int .u8 0, .int .u8 0, .int .u8 0, .int .u8 0, .int .u8 0, .int .u8 0, .int .u8 0, .int .u8 0], .struct [(0, 5), (1, 5), (2, 22), (7, 22), (12, 23)], false⟩ := rfl
theorem Ty_26 : Ty 26 = ⟨1, 1, [.int .i8 0], .int .i8, false⟩ := rfl
theorem Ty_27 : Ty 27 = ⟨6, 6, [.int .i8 0, .int .i8 0, .int .i8 0, .int .i8 0, .int .i8 0, .int .i8 0], .array 6 26, false⟩ := rfl
theorem Ty_28 : Ty 28 = ⟨1, 8, [.raw .nilFunc], .one, false⟩ := rfl
theorem Ty_29 : Ty 29 = ⟨1, 24, [.nil], .slice 3, false⟩ := rfl
theorem Ty_30 : Ty 30 = ⟨1, 24, [.nil], .slice 66, false⟩ := rfl
theorem Ty_31 : Ty 31 = ⟨2, 48, [.nil, .nil], .struct [(0, 29), (1, 30)], false⟩ := rfl
theorem Ty_32 : Ty 32 = ⟨2, 48, [.nil, .nil], .struct [(0, 29), (1, 30)], false⟩ := rfl
theorem Ty_33 : Ty 33 = ⟨1, 8, [.raw .nilFunc], .one, false⟩ := rfl
theorem Ty_34 : Ty 34 = ⟨1, 8, [.raw .nilFunc], .one, false⟩ := rfl
theorem Ty_35 : Ty 35 = ⟨2, 32, [.nil, .int .i64 0], .struct [(0, 29), (1, 3)], false⟩ := rfl
theorem Ty_36 : Ty 36 = ⟨2, 32, [.nil, .int .i64 0], .struct [(0, 29), (1, 3)], false⟩ := rfl
theorem Ty_37 : Ty 37 = ⟨1, 8, [.raw .nilFunc], .one, false⟩ := rfl
theorem Ty_38 : Ty 38 = ⟨5, 5, [.int .i8 0, .int .i8 0, .int .i8 0, .int .i8 0, .int .i8 0], .array 5 26, false⟩ := rfl
theorem Ty_39 : Ty 39 = ⟨1, 24, [.nil], .slice 96, false⟩ := rfl
theorem Ty_40 : Ty 40 = ⟨4, 80, [.nil, .int .i64 0, .nil, .nil], .struct [(0, 29), (1, 3), (2, 29), (3, 39)], false⟩ := rfl
theorem Ty_41 : Ty 41 = ⟨4, 80, [.nil, .int .i64 0, .nil, .nil], .struct [(0, 29), (1, 3), (2, 29), (3, 39)], false⟩ := rfl
theorem Ty_42 : Ty 42 = ⟨1, 24, [.nil], .slice 29, false⟩ := rfl
theorem Ty_43 : Ty 43 = ⟨1, 8, [.int .i64 0], .int .i64, false⟩ := rfl
theorem Ty_45 : Ty 45 = ⟨1, 8, [.raw .nilFunc], .one, false⟩ := rfl
theorem Ty_47 : Ty 47 = ⟨1, 8, [.raw .nilFunc], .one, false⟩ := rfl
theorem Ty_48 : Ty 48 = ⟨1, 24, [.nil], .slice 142, false⟩ := rfl
theorem Ty_49 : Ty 49 = ⟨3, 72, [.nil, .nil, .nil], .struct [(0, 29), (1, 29), (2, 48)], false⟩ := rfl
theorem Ty_50 : Ty 50 = ⟨3, 72, [.nil, .nil, .nil], .struct [(0, 29), (1, 29), (2, 48)], false⟩ := rfl
theorem Ty_51 : Ty 51 = ⟨9, 184, [.nil, .nil, .nil, .int .i64 0, .nil, .int .i64 0, .nil, .nil, .nil], .struct [(0, 50), (3, 3), (4, 41), (8, 29)], false⟩ := rfl
theorem Ty_52 : Ty 52 = ⟨9, 184, [.nil, .nil, .nil, .int .i64 0, .nil, .int .i64 0, .nil, .nil, .nil], .struct [(0, 50), (3, 3), (4, 41), (8, 29)], false⟩ := rfl
theorem Ty_54 : Ty 54 = ⟨1, 8, [.raw .nilFunc], .one, false⟩ := rfl
theorem Ty_56 : Ty 56 = ⟨1, 8, [.raw .nilFunc], .one, false⟩ := rfl
theorem Ty_57 : Ty 57 = ⟨1, 8, [.raw .nilFunc], .one, false⟩ := rfl
theorem Ty_58 : Ty 58 = ⟨1, 8, [.raw .nilFunc], .one, false⟩ := rfl
theorem Ty_59 : Ty 59 = ⟨1, 8, [.raw .nilFunc], .one, false⟩ := rfl
theorem Ty_60 : Ty 60 = ⟨1, 2, [.int .u16 0], .int .u16, false⟩ := rfl
theorem Ty_61 : Ty 61 = ⟨39, 40, [.int .u8 0, .int .u8 0, .int .u8 0, .int .u8 0, .int .u8 0, .int .u8 0, .int .u8 0, .int .u8 0, .int .u8 0, .int .u8 0, .int .u8 0, .int .u8 0, .int .u8 0, .int .u8 0, .int .u8 0, .int .u8 0, .int .u8 0, .int .u8 0, .int .u8 0, .int .u8 0, .int .u8 0, .int .u8 0, .int .u8 0, .int .u8 0, .int .u8 0, .int .u8 0, .int .u8 0, .int .u8 0, .int .u8 0, .int .u8 0, .int .u8 0, .int .u8 0, .int .u8 0, .int .u8 0, .int .u8 0, .int .u8 0, .int .u8 0, .bool false, .int .u16 0], .struct [(0, 25), (37, 4), (38, 60)], false⟩ := rfl
theorem Ty_62 : Ty 62 = ⟨39, 40, [.int .u8 0, .int .u8 0, .int .u8 0, .int .u8 0, .int .u8 0, .int .u8 0, .int .u8 0, .int .u8 0, .int .u8 0, .int .u8 0, .int .u8 0, .int .u8 0, .int .u8 0, .int .u8 0, .int .u8 0, .int .u8 0, .int .u8 0, .int .u8 0, .int .u8 0, .int .u8 0, .int .u8 0, .int .u8 0, .int .u8 0, .int .u8 0, .int .u8 0, .int .u8 0, .int .u8 0, .int .u8 0, .int .u8 0, .int .u8 0, .int .u8 0, .int .u8 0, .int .u8 0, .int .u8 0, .int .u8 0, .int .u8 0, .int .u8 0, .bool false, .int .u16 0], .struct [(0, 25), (37, 4), (38, 60)], false⟩ := rfl
theorem Ty_63 : Ty 63 = ⟨1, 8, [.raw .nilFunc], .one, false⟩ := rfl
theorem Ty_64 : Ty 64 = ⟨1, 24, [.nil], .slice 84, false⟩ := rfl
theorem Ty_65 : Ty 65 = ⟨3, 56, [.int .i64 0, .nil, .nil], .struct [(0, 3), (1, 64), (2, 64)], false⟩ := rfl
theorem Ty_66 : Ty 66 = ⟨3, 56, [.int .i64 0, .nil, .nil], .struct [(0, 3), (1, 64), (2, 64)], false⟩ := rfl
theorem Ty_68 : Ty 68 = ⟨1, 8, [.raw .nilFunc], .one, false⟩ := rfl
theorem Ty_70 : Ty 70 = ⟨1, 8, [.raw .nilFunc], .one, false⟩ := rfl
theorem Ty_71 : Ty 71 = ⟨1, 8, [.raw .nilFunc], .one, false⟩ := rfl
theorem Ty_73 : Ty 73 = ⟨1, 8, [.raw .nilFunc], .one, false⟩ := rfl
theorem Ty_74 : Ty 74 = ⟨1, 8, [.raw .nilFunc], .one, false⟩ := rfl
theorem Ty_75 : Ty 75 = ⟨1, 8, [.raw .nilFunc], .one, false⟩ := rfl
theorem Ty_76 : Ty 76 = ⟨1, 24, [.nil], .slice 172, false⟩ := rfl
theorem Ty_77 : Ty 77 = ⟨3, 72, [.nil, .nil, .nil], .struct [(0, 76), (1, 32)], false⟩ := rfl
theorem Ty_78 : Ty 78 = ⟨3, 72, [.nil, .nil, .nil], .struct [(0, 76), (1, 32)], false⟩ := rfl
theorem Ty_80 : Ty 80 = ⟨1, 8, [.raw .nilFunc], .one, false⟩ := rfl
theorem Ty_81 : Ty 81 = ⟨1, 8, [.raw .nilFunc], .one, false⟩ := rfl
theorem Ty_82 : Ty 82 = ⟨1, 8, [.raw .nilFunc], .one, false⟩ := rfl
theorem Ty_83 : Ty 83 = ⟨2, 16, [.int .i64 0, .int .i64 0], .struct [(0, 3), (1, 3)], false⟩ := rfl
theorem Ty_84 : Ty 84 = ⟨2, 16, [.int .i64 0, .int .i64 0], .struct [(0, 3), (1, 3)], true⟩ := rfl
theorem Ty_85 : Ty 85 = ⟨1, 8, [.raw .nilFunc], .one, false⟩ := rfl
theorem Ty_86 : Ty 86 = ⟨1, 8, [.raw .nilFunc], .one, false⟩ := rfl
theorem Ty_87 : Ty 87 = ⟨1, 8, [.raw (.pointer none)], .one, false⟩ := rfl
theorem Ty_89 : Ty 89 = ⟨1, 8, [.raw .nilFunc], .one, false⟩ := rfl
theorem Ty_90 : Ty 90 = ⟨1, 8, [.raw (.map none)], .map 98 3, false⟩ := rfl
theorem Ty_91 : Ty 91 = ⟨1, 24, [.nil], .slice 103, false⟩ := rfl
theorem Ty_92 : Ty 92 = ⟨1, 8, [.raw (.map none)], .map 9 3, false⟩ := rfl
theorem Ty_93 : Ty 93 = ⟨4, 64, [.nil, .nil, .raw (.map none), .int .i64 0], .struct [(0, 91), (1, 39), (2, 92), (3, 3)], false⟩ := rfl
theorem Ty_94 : Ty 94 = ⟨4, 64, [.nil, .nil, .raw (.map none), .int .i64 0], .struct [(0, 91), (1, 39), (2, 92), (3, 3)], false⟩ := rfl
theorem Ty_95 : Ty 95 = ⟨3, 24, [.int .i64 0, .int .i64 0, .int .i64 0], .struct [(0, 3), (1, 3), (2, 3)], false⟩ := rfl
theorem Ty_96 : Ty 96 = ⟨3, 24, [.int .i64 0, .int .i64 0, .int .i64 0], .struct [(0, 3), (1, 3), (2, 3)], true⟩ := rfl
theorem Ty_97 : Ty 97 = ⟨2, 16, [.int .i64 0, .int .i64 0], .struct [(0, 3), (1, 3)], false⟩ := rfl
theorem Ty_98 : Ty 98 = ⟨2, 16, [.int .i64 0, .int .i64 0], .struct [(0, 3), (1, 3)], true⟩ := rfl
theorem Ty_100 : Ty 100 = ⟨1, 8, [.raw .nilFunc], .one, false⟩ := rfl
theorem Ty_101 : Ty 101 = ⟨1, 8, [.raw (.map none)], .map 3 3, false⟩ := rfl
theorem Ty_102 : Ty 102 = ⟨3, 40, [.nil, .int .i64 0, .int .i64 0], .struct [(0, 29), (1, 3), (2, 3)], false⟩ := rfl
theorem Ty_103 : Ty 103 = ⟨3, 40, [.nil, .int .i64 0, .int .i64 0], .struct [(0, 29), (1, 3), (2, 3)], false⟩ := rfl
theorem Ty_104 : Ty 104 = ⟨1, 8, [.raw .nilFunc], .one, false⟩ := rfl
theorem Ty_105 : Ty 105 = ⟨1, 8, [.raw .nilFunc], .one, false⟩ := rfl
theorem Ty_106 : Ty 106 = ⟨1, 8, [.raw .nilFunc], .one, false⟩ := rfl
theorem Ty_107 : Ty 107 = ⟨1, 8, [.raw .nilFunc], .one, false⟩ := rfl
theorem Ty_108 : Ty 108 = ⟨1, 8, [.raw .nilFunc], .one, false⟩ := rfl
theorem Ty_109 : Ty 109 = ⟨1, 8, [.raw .nilFunc], .one, false⟩ := rfl
theorem Ty_110 : Ty 110 = ⟨1, 8, [.raw .nilFunc], .one, false⟩ := rfl
theorem Ty_111 : Ty 111 = ⟨1, 8, [.raw .nilFunc], .one, false⟩ := rfl
theorem Ty_112 : Ty 112 = ⟨1, 8, [.raw .nilFunc], .one, false⟩ := rfl
theorem Ty_113 : Ty 113 = ⟨1, 8, [.raw .nilFunc], .one, false⟩ := rfl
theorem Ty_114 : Ty 114 = ⟨1, 8, [.raw .nilFunc], .one, false⟩ := rfl
theorem Ty_115 : Ty 115 = ⟨1, 8, [.raw .nilFunc], .one, false⟩ := rfl
theorem Ty_116 : Ty 116 = ⟨1, 8, [.raw .nilFunc], .one, false⟩ := rfl
theorem Ty_118 : Ty 118 = ⟨1, 8, [.raw .nilFunc], .one, false⟩ := rfl
theorem Ty_120 : Ty 120 = ⟨1, 8, [.raw .nilFunc], .one, false⟩ := rfl
theorem Ty_121 : Ty 121 = ⟨1, 8, [.raw .nilFunc], .one, false⟩ := rfl
theorem Ty_122 : Ty 122 = ⟨1, 8, [.raw .nilFunc], .one, false⟩ := rfl
theorem Ty_123 : Ty 123 = ⟨1, 8, [.raw .nilFunc], .one, false⟩ := rfl
theorem Ty_124 : Ty 124 = ⟨1, 8, [.raw .nilFunc], .one, false⟩ := rfl
theorem Ty_125 : Ty 125 = ⟨1, 8, [.raw .nilFunc], .one, false⟩ := rfl
theorem Ty_126 : Ty 126 = ⟨1, 8, [.raw .nilFunc], .one, false⟩ := rfl
theorem Ty_128 : Ty 128 = ⟨1, 8, [.raw .nilFunc], .one, false⟩ := rfl
theorem Ty_130 : Ty 130 = ⟨1, 8, [.raw .nilFunc], .one, false⟩ := rfl
theorem Ty_132 : Ty 132 = ⟨1, 8, [.raw .nilFunc], .one, false⟩ := rfl
theorem Ty_133 : Ty 133 = ⟨1, 24, [.nil], .slice 64, false⟩ := rfl
theorem Ty_134 : Ty 134 = ⟨1, 8, [.raw .nilFunc], .one, false⟩ := rfl
theorem Ty_135 : Ty 135 = ⟨1, 8, [.raw .nilFunc], .one, false⟩ := rfl
theorem Ty_136 : Ty 136 = ⟨1, 8, [.raw .nilFunc], .one, false⟩ := rfl
theorem Ty_137 : Ty 137 = ⟨1, 8, [.raw .nilFunc], .one, false⟩ := rfl
theorem Ty_138 : Ty 138 = ⟨1, 8, [.raw .nilFunc], .one, false⟩ := rfl
theorem Ty_139 : Ty 139 = ⟨1, 8, [.raw (.pointer none)], .one, false⟩ := rfl
theorem Ty_140 : Ty 140 = ⟨1, 8, [.raw .nilFunc], .one, false⟩ := rfl
theorem Ty_141 : Ty 141 = ⟨4, 32, [.int .i64 0, .int .i64 0, .int .i64 0, .int .i64 0], .struct [(0, 3), (1, 3), (2, 3), (3, 3)], false⟩ := rfl
theorem Ty_142 : Ty 142 = ⟨4, 32, [.int .i64 0, .int .i64 0, .int .i64 0, .int .i64 0], .struct [(0, 3), (1, 3), (2, 3), (3, 3)], true⟩ := rfl
theorem Ty_143 : Ty 143 = ⟨1, 8, [.raw .nilFunc], .one, false⟩ := rfl
theorem Ty_144 : Ty 144 = ⟨1, 8, [.raw (.map none)], .map 3 29, false⟩ := rfl
theorem Ty_145 : Ty 145 = ⟨1, 24, [.nil], .slice 4, false⟩ := rfl
theorem Ty_146 : Ty 146 = ⟨7, 136, [.nil, .int .i64 0, .nil, .nil, .nil, .raw (.map none), .nil], .struct [(0, 41), (4, 29), (5, 144), (6, 145)], false⟩ := rfl
theorem Ty_147 : Ty 147 = ⟨7, 136, [.nil, .int .i64 0, .nil, .nil, .nil, .raw (.map none), .nil], .struct [(0, 41), (4, 29), (5, 144), (6, 145)], false⟩ := rfl
theorem Ty_148 : Ty 148 = ⟨1, 8, [.raw .nilFunc], .one, false⟩ := rfl
theorem Ty_149 : Ty 149 = ⟨1, 8, [.raw .nilFunc], .one, false⟩ := rfl
theorem Ty_150 : Ty 150 = ⟨1, 8, [.raw .nilFunc], .one, false⟩ := rfl
theorem Ty_152 : Ty 152 = ⟨1, 8, [.raw .nilFunc], .one, false⟩ := rfl
theorem Ty_153 : Ty 153 = ⟨1, 8, [.raw .nilFunc], .one, false⟩ := rfl
theorem Ty_154 : Ty 154 = ⟨1, 8, [.raw .nilFunc], .one, false⟩ := rfl
theorem Ty_155 : Ty 155 = ⟨1, 8, [.raw .nilFunc], .one, false⟩ := rfl
theorem Ty_156 : Ty 156 = ⟨1, 8, [.raw .nilFunc], .one, false⟩ := rfl
theorem Ty_157 : Ty 157 = ⟨1, 8, [.raw .nilFunc], .one, false⟩ := rfl
theorem Ty_158 : Ty 158 = ⟨1, 8, [.raw .nilFunc], .one, false⟩ := rfl
theorem Ty_159 : Ty 159 = ⟨1, 8, [.raw (.pointer none)], .one, false⟩ := rfl
theorem Ty_160 : Ty 160 = ⟨1, 8, [.raw .nilFunc], .one, false⟩ := rfl
theorem Ty_162 : Ty 162 = ⟨1, 8, [.raw .nilFunc], .one, false⟩ := rfl
theorem Ty_163 : Ty 163 = ⟨2, 16, [.int .i64 0, .int .i64 0], .array 2 3, false⟩ := rfl
theorem Ty_164 : Ty 164 = ⟨2, 16, [.int .i64 0, .int .i64 0], .array 2 3, false⟩ := rfl
theorem Ty_165 : Ty 165 = ⟨1, 8, [.raw .nilFunc], .one, false⟩ := rfl
theorem Ty_166 : Ty 166 = ⟨1, 8, [.raw .nilFunc], .one, false⟩ := rfl
theorem Ty_167 : Ty 167 = ⟨1, 8, [.raw .nilFunc], .one, false⟩ := rfl
theorem Ty_168 : Ty 168 = ⟨1, 8, [.raw .nilFunc], .one, false⟩ := rfl
theorem Ty_170 : Ty 170 = ⟨1, 8, [.raw .nilFunc], .one, false⟩ := rfl
theorem Ty_171 : Ty 171 = ⟨3, 56, [.nil, .nil, .int .i64 0], .struct [(0, 29), (1, 36)], false⟩ := rfl
theorem Ty_172 : Ty 172 = ⟨3, 56, [.nil, .nil, .int .i64 0], .struct [(0, 29), (1, 36)], false⟩ := rfl
theorem Ty_173 : Ty 173 = ⟨1, 8, [.raw .nilFunc], .one, false⟩ := rfl
theorem Ty_175 : Ty 175 = ⟨1, 8, [.raw .nilFunc], .one, false⟩ := rfl
theorem Ty_176 : Ty 176 = ⟨1, 8, [.raw .nilFunc], .one, false⟩ := rfl
theorem Ty_177 : Ty 177 = ⟨1, 8, [.raw .nilFunc], .one, false⟩ := rfl
theorem Ty_178 : Ty 178 = ⟨1, 8, [.raw .nilFunc], .one, false⟩ := rfl
theorem Ty_179 : Ty 179 = ⟨1, 8, [.raw .nilFunc], .one, false⟩ := rfl
theorem Ty_180 : Ty 180 = ⟨1, 8, [.raw .nilFunc], .one, false⟩ := rfl
theorem Ty_182 : Ty 182 = ⟨1, 8, [.raw .nilFunc], .one, false⟩ := rfl
theorem Ty_183 : Ty 183 = ⟨1, 8, [.raw .nilFunc], .one, false⟩ := rfl
theorem Ty_185 : Ty 185 = ⟨1, 8, [.raw .nilFunc], .one, false⟩ := rfl
theorem Ty_186 : Ty 186 = ⟨1, 8, [.raw .nilFunc], .one, false⟩ := rfl
theorem Ty_187 : Ty 187 = ⟨1, 8, [.raw .nilFunc], .one, false⟩ := rfl
theorem Ty_188 : Ty 188 = ⟨1, 8, [.raw .nilFunc], .one, false⟩ := rfl
theorem Ty_189 : Ty 189 = ⟨1, 8, [.raw .nilFunc], .one, false⟩ := rfl
theorem Ty_190 : Ty 190 = ⟨1, 8, [.raw .nilFunc], .one, false⟩ := rfl
theorem Ty_191 : Ty 191 = ⟨1, 8, [.raw .nilFunc], .one, false⟩ := rfl
theorem Ty_192 : Ty 192 = ⟨1, 8, [.raw .nilFunc], .one, false⟩ := rfl
theorem Ty_193 : Ty 193 = ⟨1, 8, [.int .u64 0], .int .u64, false⟩ := rfl
theorem Ty_194 : Ty 194 = ⟨1, 8, [.raw .nilFunc], .one, false⟩ := rfl
theorem Ty_195 : Ty 195 = ⟨1, 8, [.raw .nilFunc], .one, false⟩ := rfl
theorem Ty_196 : Ty 196 = ⟨1, 24, [.nil], .slice 39, false⟩ := rfl
theorem Ty_197 : Ty 197 = ⟨1, 8, [.raw .nilFunc], .one, false⟩ := rfl
theorem Ty_198 : Ty 198 = ⟨1, 24, [.nil], .slice 41, false⟩ := rfl
theorem Ty_199 : Ty 199 = ⟨1, 8, [.raw (.map none)], .map 163 3, false⟩ := rfl
theorem Ty_200 : Ty 200 = ⟨1, 8, [.raw (.map none)], .map 3 4, false⟩ := rfl
theorem Ty_201 : Ty 201 = ⟨3, 24, [.raw (.map none), .raw (.map none), .int .i64 0], .struct [(0, 199), (1, 200), (2, 3)], false⟩ := rfl
theorem Ty_202 : Ty 202 = ⟨3, 24, [.raw (.map none), .raw (.map none), .int .i64 0], .struct [(0, 199), (1, 200), (2, 3)], false⟩ := rfl
theorem Ty_203 : Ty 203 = ⟨4, 32, [.int .i64 0, .int .i64 0, .int .i64 0, .int .i64 0], .struct [(0, 164), (2, 3), (3, 3)], false⟩ := rfl
theorem Ty_204 : Ty 204 = ⟨4, 32, [.int .i64 0, .int .i64 0, .int .i64 0, .int .i64 0], .struct [(0, 164), (2, 3), (3, 3)], false⟩ := rfl
theorem Ty_205 : Ty 205 = ⟨1, 24, [.nil], .slice 204, false⟩ := rfl
theorem Ty_206 : Ty 206 = ⟨1, 8, [.raw (.map none)], .map 164 4, false⟩ := rfl
theorem Ty_207 : Ty 207 = ⟨1, 8, [.raw .nilFunc], .one, false⟩ := rfl
theorem Ty_208 : Ty 208 = ⟨1, 8, [.raw .nilFunc], .one, false⟩ := rfl
theorem Ty_209 : Ty 209 = ⟨1, 8, [.raw .nilFunc], .one, false⟩ := rfl
theorem Ty_210 : Ty 210 = ⟨1, 8, [.raw .nilFunc], .one, false⟩ := rfl
theorem Ty_211 : Ty 211 = ⟨1, 8, [.raw .nilFunc], .one, false⟩ := rfl
theorem Ty_212 : Ty 212 = ⟨1, 8, [.raw .nilFunc], .one, false⟩ := rfl
theorem Ty_213 : Ty 213 = ⟨1, 8, [.raw .nilFunc], .one, false⟩ := rfl
theorem Ty_214 : Ty 214 = ⟨1, 8, [.raw .nilFunc], .one, false⟩ := rfl
theorem Ty_215 : Ty 215 = ⟨1, 8, [.raw .nilFunc], .one, false⟩ := rfl
theorem Ty_216 : Ty 216 = ⟨1, 8, [.raw .nilFunc], .one, false⟩ := rfl
theorem Ty_217 : Ty 217 = ⟨1, 8, [.raw (.pointer none)], .one, false⟩ := rfl
theorem Ty_218 : Ty 218 = ⟨1, 24, [.nil], .slice 5, false⟩ := rfl
theorem Ty_219 : Ty 219 = ⟨2, 32, [.raw (.pointer none), .nil], .struct [(0, 217), (1, 218)], false⟩ := rfl
theorem Ty_220 : Ty 220 = ⟨2, 32, [.raw (.pointer none), .nil], .struct [(0, 217), (1, 218)], false⟩ := rfl
theorem Ty_224 : Ty 224 = ⟨1, 8, [.raw .nilFunc], .one, false⟩ := rfl
theorem Ty_225 : Ty 225 = ⟨1, 8, [.raw .nilFunc], .one, false⟩ := rfl
theorem Ty_226 : Ty 226 = ⟨1, 8, [.raw .nilFunc], .one, false⟩ := rfl
theorem Ty_227 : Ty 227 = ⟨1, 8, [.raw .nilFunc], .one, false⟩ := rfl
theorem Ty_228 : Ty 228 = ⟨1, 8, [.raw .nilFunc], .one, false⟩ := rfl
theorem Ty_229 : Ty 229 = ⟨1, 8, [.int .i64 0], .int .i64, false⟩ := rfl
theorem Ty_231 : Ty 231 = ⟨1, 8, [.raw .nilFunc], .one, false⟩ := rfl
theorem Ty_232 : Ty 232 = ⟨1, 8, [.raw .nilFunc], .one, false⟩ := rfl
theorem Ty_233 : Ty 233 = ⟨1, 8, [.raw .nilFunc], .one, false⟩ := rfl
theorem Ty_234 : Ty 234 = ⟨1, 8, [.raw .nilFunc], .one, false⟩ := rfl
theorem Ty_235 : Ty 235 = ⟨1, 8, [.raw .nilFunc], .one, false⟩ := rfl
theorem Ty_236 : Ty 236 = ⟨1, 4, [.int .u32 0], .int .u32, false⟩ := rfl
theorem Ty_237 : Ty 237 = ⟨1, 8, [.raw .nilFunc], .one, false⟩ := rfl
theorem Ty_238 : Ty 238 = ⟨1, 8, [.int .u64 0], .int .u64, false⟩ := rfl
theorem Ty_239 : Ty 239 = ⟨1, 8, [.raw .nilFunc], .one, false⟩ := rfl
theorem Ty_240 : Ty 240 = ⟨1, 8, [.raw .nilFunc], .one, false⟩ := rfl
theorem Ty_241 : Ty 241 = ⟨1, 8, [.raw .nilFunc], .one, false⟩ := rfl
theorem Ty_242 : Ty 242 = ⟨1, 8, [.raw .nilFunc], .one, false⟩ := rfl
theorem Ty_243 : Ty 243 = ⟨1, 8, [.raw .nilFunc], .one, false⟩ := rfl
theorem Ty_244 : Ty 244 = ⟨1, 8, [.raw .nilFunc], .one, false⟩ := rfl
theorem Ty_245 : Ty 245 = ⟨1, 8, [.raw .nilFunc], .one, false⟩ := rfl
theorem Ty_246 : Ty 246 = ⟨1, 8, [.raw .nilFunc], .one, false⟩ := rfl
theorem Ty_247 : Ty 247 = ⟨1, 8, [.raw .nilFunc], .one, false⟩ := rfl
theorem Ty_248 : Ty 248 = ⟨1, 8, [.raw .nilFunc], .one, false⟩ := rfl
theorem Ty_249 : Ty 249 = ⟨1, 8, [.raw .nilFunc], .one, false⟩ := rfl
theorem Ty_250 : Ty 250 = ⟨1, 8, [.raw .nilFunc], .one, false⟩ := rfl
theorem Ty_251 : Ty 251 = ⟨1, 8, [.raw .nilFunc], .one, false⟩ := rfl
theorem Ty_253 : Ty 253 = ⟨1, 8, [.raw .nilFunc], .one, false⟩ := rfl
theorem Ty_254 : Ty 254 = ⟨1, 8, [.raw (.pointer none)], .one, false⟩ := rfl
theorem Ty_255 : Ty 255 = ⟨1, 8, [.int .u64 0], .int .u64, false⟩ := rfl
theorem Ty_256 : Ty 256 = ⟨1, 8, [.raw .nilFunc], .one, false⟩ := rfl
theorem Ty_257 : Ty 257 = ⟨1, 8, [.raw .nilFunc], .one, false⟩ := rfl
theorem Ty_258 : Ty 258 = ⟨1, 8, [.raw .nilFunc], .one, false⟩ := rfl
theorem Ty_259 : Ty 259 = ⟨1, 8, [.raw (.pointer none)], .one, false⟩ := rfl
theorem Ty_260 : Ty 260 = ⟨1, 8, [.raw .nilFunc], .one, false⟩ := rfl
theorem Ty_261 : Ty 261 = ⟨1, 8, [.raw .nilFunc], .one, false⟩ := rfl
theorem Ty_262 : Ty 262 = ⟨1, 8, [.raw .nilFunc], .one, false⟩ := rfl
theorem Ty_263 : Ty 263 = ⟨1, 8, [.raw .nilFunc], .one, false⟩ := rfl
theorem Ty_264 : Ty 264 = ⟨1, 8, [.raw (.map none)], .map 3 96, false⟩ := rfl
theorem Ty_267 : Ty 267 = ⟨1, 8, [.raw .nilFunc], .one, false⟩ := rfl
theorem Ty_268 : Ty 268 = ⟨1, 8, [.raw .nilFunc], .one, false⟩ := rfl
theorem Ty_269 : Ty 269 = ⟨1, 8, [.raw (.pointer none)], .one, false⟩ := rfl
theorem Ty_271 : Ty 271 = ⟨1, 8, [.raw .nilFunc], .one, false⟩ := rfl
theorem Ty_272 : Ty 272 = ⟨1, 8, [.raw .nilFunc], .one, false⟩ := rfl
theorem Ty_273 : Ty 273 = ⟨1, 8, [.raw .nilFunc], .one, false⟩ := rfl
theorem Ty_274 : Ty 274 = ⟨1, 8, [.raw .nilFunc], .one, false⟩ := rfl
theorem Ty_275 : Ty 275 = ⟨1, 8, [.raw .nilFunc], .one, false⟩ := rfl
theorem Ty_276 : Ty 276 = ⟨1, 8, [.raw .nilFunc], .one, false⟩ := rfl
theorem Ty_277 : Ty 277 = ⟨1, 8, [.raw .nilFunc], .one, false⟩ := rfl
theorem Ty_278 : Ty 278 = ⟨24, 24, [.int .u8 0, .int .u8 0, .int .u8 0, .int .u8 0, .int .u8 0, .int .u8 0, .int .u8 0, .int .u8 0, .int .u8 0, .int .u8 0, .int .u8 0, .int .u8 0, .int .u8 0, .int .u8 0, .int .u8 0, .int .u8 0, .int .u8 0, .int .u8 0, .int .u8 0, .int .u8 0, .int .u8 0, .int .u8 0, .int .u8 0, .int .u8 0], .array 24 5, false⟩ := rfl
theorem Ty_279 : Ty 279 = ⟨1, 8, [.raw .nilFunc], .one, false⟩ := rfl
theorem Ty_281 : Ty 281 = ⟨1, 8, [.raw .nilFunc], .one, false⟩ := rfl
theorem Ty_282 : Ty 282 = ⟨1, 8, [.raw .nilFunc], .one, false⟩ := rfl
theorem Ty_283 : Ty 283 = ⟨1, 8, [.raw .nilFunc], .one, false⟩ := rfl
theorem Ty_284 : Ty 284 = ⟨1, 8, [.raw .nilFunc], .one, false⟩ := rfl
theorem Ty_285 : Ty 285 = ⟨1, 8, [.raw .nilFunc], .one, false⟩ := rfl
theorem Ty_286 : Ty 286 = ⟨20, 160, [.int .u64 0, .int .u64 0, .int .u64 0, .int .u64 0, .int .u64 0, .int .u64 0, .int .u64 0, .int .u64 0, .int .u64 0, .int .u64 0, .int .u64 0, .int .u64 0, .int .u64 0, .int .u64 0, .int .u64 0, .int .u64 0, .int .u64 0, .int .u64 0, .int .u64 0, .int .u64 0], .array 20 238, false⟩ := rfl
theorem Ty_287 : Ty 287 = ⟨65, 65, [.int .u8 0, .int .u8 0, .int .u8 0, .int .u8 0, .int .u8 0, .int .u8 0, .int .u8 0, .int .u8 0, .int .u8 0, .int .u8 0, .int .u8 0, .int .u8 0, .int .u8 0, .int .u8 0, .int .u8 0, .int .u8 0, .int .u8 0, .int .u8 0, .int .u8 0, .int .u8 0, .int .u8 0, .int .u8 0, .int .u8 0, .int .u8 0, .int .u8 0, .int .u8 0, .int .u8 0, .int .u8 0, .int .u8 0, .int .u8 0, .int .u8 0, .int .u8 0, .int .u8 0, .int .u8 0, .int .u8 0, .int .u8 0, .int .u8 0, .int .u8 0, .int .u8 0, .int .u8 0, .int .u8 0, .int .u8 0, .int .u8 0, .int .u8 0, .int .u8 0, .int .u8 0, .int .u8 0, .int .u8 0, .int .u8 0, .int .u8 0, .int .u8 0, .int .u8 0, .int .u8 0, .int .u8 0, .int .u8 0, .int .u8 0, .int .u8 0, .int .u8 0, .int .u8 0, .int .u8 0, .int .u8 0, .int .u8 0, .int .u8 0, .int .u8 0, .int .u8 0], .array 65 5, false⟩ := rfl
theorem Ty_288 : Ty 288 = ⟨1, 8, [.raw .nilFunc], .one, false⟩ := rfl
theorem Ty_289 : Ty 289 = ⟨32, 32, [.int .u8 0, .int .u8 0, .int .u8 0, .int .u8 0, .int .u8 0, .int .u8 0, .int .u8 0, .int .u8 0, .int .u8 0, .int .u8 0, .int .u8 0, .int .u8 0, .int .u8 0, .int .u8 0, .int .u8 0, .int .u8 0, .int .u8 0, .int .u8 0, .int .u8 0, .int .u8 0, .int .u8 0, .int .u8 0, .int .u8 0, .int .u8 0, .int .u8 0, .int .u8 0, .int .u8 0, .int .u8 0, .int .u8 0, .int .u8 0, .int .u8 0, .int .u8 0], .array 32 5, false⟩ := rfl
theorem Ty_290 : Ty 290 = ⟨64, 64, [.int .u8 0, .int .u8 0, .int .u8 0, .int .u8 0, .int .u8 0, .int .u8 0, .int .u8 0, .int .u8 0, .int .u8 0, .int .u8 0, .int .u8 0, .int .u8 0, .int .u8 0, .int .u8 0, .int .u8 0, .int .u8 0, .int .u8 0, .int .u8 0, .int .u8 0, .int .u8 0, .int .u8 0, .int .u8 0, .int .u8 0, .int .u8 0, .int .u8 0, .int .u8 0, .int .u8 0, .int .u8 0, .int .u8 0, .int .u8 0, .int .u8 0, .int .u8 0, .int .u8 0, .int .u8 0, .int .u8 0, .int .u8 0, .int .u8 0, .int .u8 0, .int .u8 0, .int .u8 0, .int .u8 0, .int .u8 0, .int .u8 0, .int .u8 0, .int .u8 0, .int .u8 0, .int .u8 0, .int .u8 0, .int .u8 0, .int .u8 0, .int .u8 0, .int .u8 0, .int .u8 0, .int .u8 0, .int .u8 0, .int .u8 0, .int .u8 0, .int .u8 0, .int .u8 0, .int .u8 0, .int .u8 0, .int .u8 0, .int .u8 0, .int .u8 0], .array 64 5, false⟩ := rfl
theorem Ty_291 : Ty 291 = ⟨4, 40, [.raw (.pointer none), .raw (.pointer none), .raw (.pointer none), .str []], .struct [(0, 17), (1, 17), (2, 17), (3, 9)], false⟩ := rfl
theorem Ty_292 : Ty 292 = ⟨4, 40, [.raw (.pointer none), .raw (.pointer none), .raw (.pointer none), .str []], .struct [(0, 17), (1, 17), (2, 17), (3, 9)], false⟩ := rfl
theorem Ty_296 : Ty 296 = ⟨1, 1, [.int .u8 0], .int .u8, false⟩ := rfl
theorem Ty_297 : Ty 297 = ⟨1, 1, [.int .u8 0], .int .u8, false⟩ := rfl
theorem Ty_298 : Ty 298 = ⟨1, 8, [.raw .nilFunc], .one, false⟩ := rfl
theorem Ty_299 : Ty 299 = ⟨1, 4, [.int .i32 0], .int .i32, false⟩ := rfl
theorem Ty_300 : Ty 300 = ⟨1, 4, [.int .i32 0], .int .i32, false⟩ := rfl
theorem Ty_301 : Ty 301 = ⟨11, 48, [.int .u64 0, .int .u64 0, .int .u32 0, .int .u8 0, .int .u8 0, .int .u8 0, .int .u8 0, .raw .nilFunc, .raw (.pointer none), .int .i32 0, .int .i32 0], .struct [(0, 12), (1, 12), (2, 236), (3, 296), (4, 5), (5, 5), (6, 297), (7, 298), (8, 254), (9, 299), (10, 300)], false⟩ := rfl
theorem Ty_302 : Ty 302 = ⟨11, 48, [.int .u64 0, .int .u64 0, .int .u32 0, .int .u8 0, .int .u8 0, .int .u8 0, .int .u8 0, .raw .nilFunc, .raw (.pointer none), .int .i32 0, .int .i32 0], .struct [(0, 12), (1, 12), (2, 236), (3, 296), (4, 5), (5, 5), (6, 297), (7, 298), (8, 254), (9, 299), (10, 300)], false⟩ := rfl
theorem Ty_303 : Ty 303 = ⟨1, 8, [.raw .nilFunc], .one, false⟩ := rfl
attribute [go_sem] Ty_1 Ty_2 Ty_3 Ty_4 Ty_5 Ty_6 Ty_7 Ty_8 Ty_9 Ty_10 Ty_11 Ty_12 Ty_13 Ty_14 Ty_15 Ty_16 Ty_17 Ty_18 Ty_19 Ty_21 Ty_22 Ty_23 Ty_24 Ty_25 Ty_26 Ty_27 Ty_28 Ty_29 Ty_30 Ty_31 Ty_32 Ty_33 Ty_34 Ty_35 Ty_36 Ty_37 Ty_38 Ty_39 Ty_40 Ty_41 Ty_42 Ty_43 Ty_45 Ty_47 Ty_48 Ty_49 Ty_50 Ty_51 Ty_52 Ty_54 Ty_56 Ty_57 Ty_58 Ty_59 Ty_60 Ty_61 Ty_62 Ty_63 Ty_64 Ty_65 Ty_66 Ty_68 Ty_70 Ty_71 Ty_73 Ty_74 Ty_75 Ty_76 Ty_77 Ty_78 Ty_80 Ty_81 Ty_82 Ty_83 Ty_84 Ty_85 Ty_86 Ty_87 Ty_89 Ty_90 Ty_91 Ty_92 Ty_93 Ty_94 Ty_95 Ty_96 Ty_97 Ty_98 Ty_100 Ty_101 Ty_102 Ty_103 Ty_104 Ty_105 Ty_106 Ty_107 Ty_108 Ty_109 Ty_110 Ty_111 Ty_112 Ty_113 Ty_114 Ty_115 Ty_116 Ty_118 Ty_120 Ty_121 Ty_122 Ty_123 Ty_124 Ty_125 Ty_126 Ty_128 Ty_130 Ty_132 Ty_133 Ty_134 Ty_135 Ty_136 Ty_137 Ty_138 Ty_139 Ty_140 Ty_141 Ty_142 Ty_143 Ty_144 Ty_145 Ty_146 Ty_147 Ty_148 Ty_149 Ty_150 Ty_152 Ty_153 Ty_154 Ty_155 Ty_156 Ty_157 Ty_158 Ty_159 Ty_160 Ty_162 Ty_163 Ty_164 Ty_165 Ty_166 Ty_167 Ty_168 Ty_170 Ty_171 Ty_172 Ty_173 Ty_175 Ty_176 Ty_177 Ty_178 Ty_179 Ty_180 Ty_182 Ty_183 Ty_185 Ty_186 Ty_187 Ty_188 Ty_189 Ty_190 Ty_191 Ty_192 Ty_193 Ty_194 Ty_195 Ty_196 Ty_197 Ty_198 Ty_199 Ty_200 Ty_201 Ty_202 Ty_203 Ty_204 Ty_205 Ty_206 Ty_207 Ty_208 Ty_209 Ty_210 Ty_211 Ty_212 Ty_213 Ty_214 Ty_215 Ty_216 Ty_217 Ty_218 Ty_219 Ty_220 Ty_224 Ty_225 Ty_226 Ty_227 Ty_228 Ty_229 Ty_231 Ty_232 Ty_233 Ty_234 Ty_235 Ty_236 Ty_237 Ty_238 Ty_239 Ty_240 Ty_241 Ty_242 Ty_243 Ty_244 Ty_245 Ty_246 Ty_247 Ty_248 Ty_249 Ty_250 Ty_251 Ty_253 Ty_254 Ty_255 Ty_256 Ty_257 Ty_258 Ty_259 Ty_260 Ty_261 Ty_262 Ty_263 Ty_264 Ty_267 Ty_268 Ty_269 Ty_271 Ty_272 Ty_273 Ty_274 Ty_275 Ty_276 Ty_277 Ty_278 Ty_279 Ty_281 Ty_282 Ty_283 Ty_284 Ty_285 Ty_286 Ty_287 Ty_288 Ty_289 Ty_290 Ty_291 Ty_292 Ty_296 Ty_297 Ty_298 Ty_299 Ty_300 Ty_301 Ty_302 Ty_303
end Go.Proofs.YtljpfdehnjemlaaGreatDoor
