/-
 The table of types of this seat's translation, by a program.
-/
import Derived.Test.YtgbhmieaoaojoaaDoorE2
import Derived.Test.YtgbhmieaoaojoaaDoorRows
set_option linter.unusedSimpArgs false
set_option linter.unusedVariables false
namespace Go.Proofs.YtgbhmieaoaojoaaDoor
open Go.Eng
def tyL : List TyRow := [
 noTy,
 ⟨1, 8, [.raw .nilFunc], .one, false⟩,
 ⟨1, 8, [.int .i64 0], .int .i64, false⟩,
 ⟨1, 8, [.int .i64 0], .int .i64, false⟩,
 ⟨1, 1, [.bool false], .bool, false⟩,
 ⟨1, 1, [.int .u8 0], .int .u8, false⟩,
 ⟨1, 1, [.int .u8 0], .int .u8, false⟩,
 ⟨4, 24, [.int .i64 0, .int .i64 0, .bool false, .int .u8 0], .struct [(0, 2), (1, 3), (2, 4), (3, 6)], false⟩,
 ⟨4, 24, [.int .i64 0, .int .i64 0, .bool false, .int .u8 0], .struct [(0, 2), (1, 3), (2, 4), (3, 6)], false⟩,
 ⟨1, 16, [.str []], .string, false⟩,
 ⟨1, 16, [.str []], .string, false⟩,
 ⟨1, 16, [.str []], .string, false⟩,
 ⟨1, 8, [.int .u64 0], .int .u64, false⟩,
 ⟨2, 24, [.str [], .int .u64 0], .struct [(0, 9), (1, 12)], false⟩,
 ⟨2, 24, [.str [], .int .u64 0], .struct [(0, 9), (1, 12)], false⟩,
 ⟨1, 8, [.raw (.pointer none)], .one, false⟩,
 ⟨1, 8, [.raw (.pointer none)], .one, false⟩,
 ⟨1, 8, [.raw (.pointer none)], .one, false⟩,
 ⟨1, 8, [.raw (.pointer none)], .struct [(0, 17)], false⟩,
 ⟨1, 8, [.raw (.pointer none)], .struct [(0, 17)], false⟩,
 noTy,
 ⟨1, 4, [.int .i32 0], .int .i32, false⟩,
 ⟨5, 5, [.int .u8 0, .int .u8 0, .int .u8 0, .int .u8 0, .int .u8 0], .array 5 5, false⟩,
 ⟨25, 25, [.int .u8 0, .int .u8 0, .int .u8 0, .int .u8 0, .int .u8 0, .int .u8 0, .int .u8 0, .int .u8 0, .int .u8 0, .int .u8 0, .int .u8 0, .int .u8 0, .int .u8 0, .int .u8 0, .int .u8 0, .int .u8 0, .int .u8 0, .int .u8 0, .int .u8 0, .int .u8 0, .int .u8 0, .int .u8 0, .int .u8 0, .int .u8 0, .int .u8 0], .array 5 22, false⟩,
 ⟨37, 37, [.int .u8 0, .int .u8 0, .int .u8 0, .int .u8 0, .int .u8 0, .int .u8 0, .int .u8 0, .int .u8 0, .int .u8 0, .int .u8 0, .int .u8 0, .int .u8 0, .int .u8 0, .int .u8 0, .int .u8 0, .int .u8 0, .int .u8 0, .int .u8 0, .int .u8 0, .int .u8 0, .int .u8 0, .int .u8 0, .int .u8 0, .int .u8 0, .int .u8 0, .int .u8 0, .int .u8 0, .int .u8 0, .int .u8 0, .int .u8 0, .int .u8 0, .int .u8 0, .int .u8 0, .int .u8 0, .int .u8 0, .int .u8 0, .int .u8 0], .struct [(0, 5), (1, 5), (2, 22), (7, 22), (12, 23)], false⟩,
 ⟨37, 37, [.int .u8 0, .int .u8 0, .int .u8 0, .int .u8 0, .int .u8 0, .int .u8 0, .int .u8 0, .int .u8 0, .int .u8 0, .int .u8 0, .int .u8 0, .int .u8 0, .int .u8 0, .int .u8 0, .int .u8 0, .int .u8 0, .int .u8 0, .int .u8 0, .int .u8 0, .int .u8 0, .int .u8 0, .int .u8 0, .int .u8 0, .int .u8 0, .int .u8 0, .int .u8 0, .int .u8 0, .int .u8 0, .int .u8 0, .int .u8 0, .int .u8 0, .int .u8 0, .int .u8 0, .int .u8 0, .int .u8 0, .int .u8 0, .int .u8 0], .struct [(0, 5), (1, 5), (2, 22), (7, 22), (12, 23)], false⟩,
 ⟨1, 1, [.int .i8 0], .int .i8, false⟩,
 ⟨6, 6, [.int .i8 0, .int .i8 0, .int .i8 0, .int .i8 0, .int .i8 0, .int .i8 0], .array 6 26, false⟩,
 ⟨1, 8, [.raw .nilFunc], .one, false⟩,
 ⟨1, 24, [.nil], .slice 3, false⟩,
 ⟨1, 24, [.nil], .slice 61, false⟩,
 ⟨2, 48, [.nil, .nil], .struct [(0, 29), (1, 30)], false⟩,
 ⟨2, 48, [.nil, .nil], .struct [(0, 29), (1, 30)], false⟩,
 ⟨1, 8, [.raw .nilFunc], .one, false⟩,
 ⟨2, 32, [.nil, .int .i64 0], .struct [(0, 29), (1, 3)], false⟩,
 ⟨2, 32, [.nil, .int .i64 0], .struct [(0, 29), (1, 3)], false⟩,
 ⟨1, 8, [.raw .nilFunc], .one, false⟩,
 ⟨5, 5, [.int .i8 0, .int .i8 0, .int .i8 0, .int .i8 0, .int .i8 0], .array 5 26, false⟩,
 ⟨1, 8, [.int .i64 0], .int .i64, false⟩,
 noTy,
 ⟨1, 8, [.raw .nilFunc], .one, false⟩,
 noTy,
 ⟨1, 8, [.raw .nilFunc], .one, false⟩,
 ⟨1, 8, [.raw .nilFunc], .one, false⟩,
 ⟨1, 24, [.nil], .slice 49, false⟩,
 ⟨1, 24, [.nil], .slice 29, false⟩,
 noTy,
 ⟨1, 8, [.raw .nilFunc], .one, false⟩,
 ⟨3, 24, [.int .i64 0, .int .i64 0, .int .i64 0], .struct [(0, 3), (1, 3), (2, 3)], false⟩,
 ⟨3, 24, [.int .i64 0, .int .i64 0, .int .i64 0], .struct [(0, 3), (1, 3), (2, 3)], true⟩,
 ⟨1, 8, [.raw .nilFunc], .one, false⟩,
 ⟨1, 8, [.raw .nilFunc], .one, false⟩,
 noTy,
 ⟨1, 8, [.raw .nilFunc], .one, false⟩,
 ⟨1, 8, [.raw .nilFunc], .one, false⟩,
 ⟨4, 80, [.nil, .int .i64 0, .nil, .nil], .struct [(0, 29), (1, 3), (2, 29), (3, 44)], false⟩,
 ⟨4, 80, [.nil, .int .i64 0, .nil, .nil], .struct [(0, 29), (1, 3), (2, 29), (3, 44)], false⟩,
 noTy,
 ⟨1, 8, [.raw .nilFunc], .one, false⟩,
 ⟨1, 24, [.nil], .slice 63, false⟩,
 ⟨3, 56, [.int .i64 0, .nil, .nil], .struct [(0, 3), (1, 59), (2, 59)], false⟩,
 ⟨3, 56, [.int .i64 0, .nil, .nil], .struct [(0, 3), (1, 59), (2, 59)], false⟩,
 ⟨2, 16, [.int .i64 0, .int .i64 0], .struct [(0, 3), (1, 3)], false⟩,
 ⟨2, 16, [.int .i64 0, .int .i64 0], .struct [(0, 3), (1, 3)], true⟩,
 noTy,
 ⟨1, 8, [.raw .nilFunc], .one, false⟩,
 ⟨1, 8, [.raw .nilFunc], .one, false⟩,
 ⟨1, 8, [.raw .nilFunc], .one, false⟩,
 ⟨1, 8, [.raw .nilFunc], .one, false⟩,
 ⟨1, 8, [.raw .nilFunc], .one, false⟩,
 ⟨1, 8, [.raw .nilFunc], .one, false⟩,
 noTy,
 ⟨1, 8, [.raw .nilFunc], .one, false⟩,
 noTy,
 ⟨1, 8, [.raw .nilFunc], .one, false⟩,
 noTy,
 ⟨1, 8, [.raw .nilFunc], .one, false⟩,
 ⟨1, 8, [.raw .nilFunc], .one, false⟩,
 ⟨1, 8, [.raw .nilFunc], .one, false⟩,
 ⟨1, 8, [.raw .nilFunc], .one, false⟩,
 ⟨1, 8, [.raw .nilFunc], .one, false⟩,
 ⟨1, 8, [.raw .nilFunc], .one, false⟩,
 ⟨1, 8, [.raw .nilFunc], .one, false⟩,
 ⟨1, 8, [.raw .nilFunc], .one, false⟩,
 ⟨1, 8, [.raw .nilFunc], .one, false⟩,
 ⟨1, 8, [.raw (.pointer none)], .one, false⟩,
 noTy,
 ⟨1, 8, [.raw .nilFunc], .one, false⟩,
 ⟨1, 24, [.nil], .slice 93, false⟩,
 ⟨1, 8, [.raw (.map none)], .map 9 3, false⟩,
 ⟨4, 64, [.nil, .nil, .raw (.map none), .int .i64 0], .struct [(0, 88), (1, 44), (2, 89), (3, 3)], false⟩,
 ⟨4, 64, [.nil, .nil, .raw (.map none), .int .i64 0], .struct [(0, 88), (1, 44), (2, 89), (3, 3)], false⟩,
 ⟨3, 40, [.nil, .int .i64 0, .int .i64 0], .struct [(0, 29), (1, 3), (2, 3)], false⟩,
 ⟨3, 40, [.nil, .int .i64 0, .int .i64 0], .struct [(0, 29), (1, 3), (2, 3)], false⟩,
 ⟨1, 8, [.raw .nilFunc], .one, false⟩,
 ⟨1, 8, [.raw .nilFunc], .one, false⟩,
 ⟨1, 8, [.raw (.map none)], .map 98 3, false⟩,
 ⟨2, 16, [.int .i64 0, .int .i64 0], .struct [(0, 3), (1, 3)], false⟩,
 ⟨2, 16, [.int .i64 0, .int .i64 0], .struct [(0, 3), (1, 3)], true⟩,
 noTy,
 ⟨1, 8, [.raw .nilFunc], .one, false⟩,
 ⟨1, 8, [.raw (.map none)], .map 3 3, false⟩,
 ⟨1, 8, [.raw .nilFunc], .one, false⟩,
 ⟨1, 8, [.raw .nilFunc], .one, false⟩,
 noTy,
 ⟨1, 8, [.raw .nilFunc], .one, false⟩,
 ⟨1, 8, [.raw .nilFunc], .one, false⟩,
 ⟨1, 8, [.raw .nilFunc], .one, false⟩,
 ⟨1, 8, [.raw .nilFunc], .one, false⟩,
 ⟨1, 8, [.raw .nilFunc], .one, false⟩,
 ⟨1, 8, [.raw .nilFunc], .one, false⟩,
 ⟨1, 4, [.int .u32 0], .int .u32, false⟩,
 ⟨1, 8, [.raw .nilFunc], .one, false⟩,
 ⟨1, 8, [.raw .nilFunc], .one, false⟩,
 ⟨1, 8, [.raw .nilFunc], .one, false⟩,
 ⟨1, 8, [.raw .nilFunc], .one, false⟩,
 ⟨1, 8, [.raw .nilFunc], .one, false⟩,
 ⟨1, 8, [.raw (.map none)], .map 3 49, false⟩,
 noTy,
 ⟨1, 8, [.raw .nilFunc], .one, false⟩,
 ⟨1, 8, [.raw .nilFunc], .one, false⟩,
 ⟨1, 8, [.raw .nilFunc], .one, false⟩,
 ⟨1, 8, [.raw .nilFunc], .one, false⟩,
 ⟨1, 8, [.raw .nilFunc], .one, false⟩,
 ⟨1, 8, [.raw .nilFunc], .one, false⟩,
 ⟨1, 8, [.raw .nilFunc], .one, false⟩,
 ⟨1, 8, [.raw .nilFunc], .one, false⟩,
 ⟨1, 8, [.raw .nilFunc], .one, false⟩,
 ⟨1, 24, [.nil], .slice 59, false⟩,
 ⟨1, 8, [.raw .nilFunc], .one, false⟩,
 ⟨1, 8, [.raw .nilFunc], .one, false⟩,
 ⟨1, 8, [.raw .nilFunc], .one, false⟩,
 noTy,
 ⟨1, 8, [.raw .nilFunc], .one, false⟩,
 ⟨1, 8, [.raw .nilFunc], .one, false⟩,
 ⟨1, 8, [.raw .nilFunc], .one, false⟩,
 ⟨1, 8, [.raw .nilFunc], .one, false⟩,
 ⟨1, 8, [.raw .nilFunc], .one, false⟩,
 ⟨1, 8, [.raw .nilFunc], .one, false⟩,
 ⟨1, 8, [.int .u64 0], .int .u64, false⟩,
 ⟨1, 8, [.raw .nilFunc], .one, false⟩,
 ⟨1, 8, [.raw .nilFunc], .one, false⟩,
 ⟨1, 8, [.raw .nilFunc], .one, false⟩,
 ⟨1, 8, [.raw .nilFunc], .one, false⟩,
 ⟨1, 8, [.raw .nilFunc], .one, false⟩,
 ⟨1, 8, [.raw .nilFunc], .one, false⟩,
 ⟨1, 8, [.raw .nilFunc], .one, false⟩,
 ⟨1, 8, [.raw .nilFunc], .one, false⟩,
 ⟨1, 8, [.raw .nilFunc], .one, false⟩,
 ⟨1, 8, [.raw .nilFunc], .one, false⟩,
 ⟨1, 8, [.int .i64 0], .int .i64, false⟩,
 noTy,
 ⟨1, 8, [.raw .nilFunc], .one, false⟩,
 ⟨1, 8, [.raw .nilFunc], .one, false⟩,
 ⟨1, 8, [.raw .nilFunc], .one, false⟩,
 ⟨1, 8, [.raw .nilFunc], .one, false⟩,
 ⟨1, 8, [.raw .nilFunc], .one, false⟩,
 ⟨1, 8, [.raw .nilFunc], .one, false⟩,
 ⟨1, 8, [.int .u64 0], .int .u64, false⟩,
 ⟨1, 8, [.raw .nilFunc], .one, false⟩,
 ⟨1, 8, [.raw .nilFunc], .one, false⟩,
 ⟨1, 8, [.raw (.pointer none)], .one, false⟩,
 ⟨1, 24, [.nil], .slice 5, false⟩,
 ⟨2, 32, [.raw (.pointer none), .nil], .struct [(0, 161), (1, 162)], false⟩,
 ⟨2, 32, [.raw (.pointer none), .nil], .struct [(0, 161), (1, 162)], false⟩,
 noTy,
 noTy,
 noTy,
 ⟨1, 8, [.raw .nilFunc], .one, false⟩,
 ⟨1, 8, [.raw .nilFunc], .one, false⟩,
 ⟨1, 8, [.raw .nilFunc], .one, false⟩,
 ⟨1, 8, [.raw .nilFunc], .one, false⟩,
 ⟨1, 8, [.raw .nilFunc], .one, false⟩,
 ⟨1, 8, [.raw .nilFunc], .one, false⟩,
 ⟨1, 8, [.raw .nilFunc], .one, false⟩,
 ⟨1, 8, [.raw .nilFunc], .one, false⟩,
 ⟨1, 8, [.raw .nilFunc], .one, false⟩,
 ⟨1, 8, [.raw .nilFunc], .one, false⟩,
 ⟨1, 8, [.raw .nilFunc], .one, false⟩,
 ⟨1, 8, [.int .u64 0], .int .u64, false⟩,
 ⟨1, 8, [.raw .nilFunc], .one, false⟩,
 ⟨1, 8, [.raw .nilFunc], .one, false⟩,
 ⟨1, 8, [.raw .nilFunc], .one, false⟩,
 ⟨1, 8, [.raw (.pointer none)], .one, false⟩,
 ⟨1, 8, [.raw .nilFunc], .one, false⟩,
 ⟨1, 8, [.raw (.pointer none)], .one, false⟩,
 ⟨1, 8, [.raw .nilFunc], .one, false⟩,
 ⟨1, 8, [.raw .nilFunc], .one, false⟩,
 ⟨1, 8, [.raw (.pointer none)], .one, false⟩,
 noTy,
 ⟨1, 8, [.raw .nilFunc], .one, false⟩,
 noTy,
 ⟨1, 8, [.raw .nilFunc], .one, false⟩,
 ⟨1, 8, [.raw .nilFunc], .one, false⟩,
 ⟨1, 8, [.raw .nilFunc], .one, false⟩,
 ⟨24, 24, [.int .u8 0, .int .u8 0, .int .u8 0, .int .u8 0, .int .u8 0, .int .u8 0, .int .u8 0, .int .u8 0, .int .u8 0, .int .u8 0, .int .u8 0, .int .u8 0, .int .u8 0, .int .u8 0, .int .u8 0, .int .u8 0, .int .u8 0, .int .u8 0, .int .u8 0, .int .u8 0, .int .u8 0, .int .u8 0, .int .u8 0, .int .u8 0], .array 24 5, false⟩,
 ⟨1, 8, [.raw .nilFunc], .one, false⟩,
 noTy,
 ⟨1, 8, [.raw .nilFunc], .one, false⟩,
 ⟨1, 8, [.raw .nilFunc], .one, false⟩,
 ⟨1, 8, [.raw .nilFunc], .one, false⟩,
 ⟨20, 160, [.int .u64 0, .int .u64 0, .int .u64 0, .int .u64 0, .int .u64 0, .int .u64 0, .int .u64 0, .int .u64 0, .int .u64 0, .int .u64 0, .int .u64 0, .int .u64 0, .int .u64 0, .int .u64 0, .int .u64 0, .int .u64 0, .int .u64 0, .int .u64 0, .int .u64 0, .int .u64 0], .array 20 158, false⟩,
 ⟨65, 65, [.int .u8 0, .int .u8 0, .int .u8 0, .int .u8 0, .int .u8 0, .int .u8 0, .int .u8 0, .int .u8 0, .int .u8 0, .int .u8 0, .int .u8 0, .int .u8 0, .int .u8 0, .int .u8 0, .int .u8 0, .int .u8 0, .int .u8 0, .int .u8 0, .int .u8 0, .int .u8 0, .int .u8 0, .int .u8 0, .int .u8 0, .int .u8 0, .int .u8 0, .int .u8 0, .int .u8 0, .int .u8 0, .int .u8 0, .int .u8 0, .int .u8 0, .int .u8 0, .int .u8 0, .int .u8 0, .int .u8 0, .int .u8 0, .int .u8 0, .int .u8 0, .int .u8 0, .int .u8 0, .int .u8 0, .int .u8 0, .int .u8 0, .int .u8 0, .int .u8 0, .int .u8 0, .int .u8 0, .int .u8 0, .int .u8 0, .int .u8 0, .int .u8 0, .int .u8 0, .int .u8 0, .int .u8 0, .int .u8 0, .int .u8 0, .int .u8 0, .int .u8 0, .int .u8 0, .int .u8 0, .int .u8 0, .int .u8 0, .int .u8 0, .int .u8 0, .int .u8 0], .array 65 5, false⟩,
 ⟨32, 32, [.int .u8 0, .int .u8 0, .int .u8 0, .int .u8 0, .int .u8 0, .int .u8 0, .int .u8 0, .int .u8 0, .int .u8 0, .int .u8 0, .int .u8 0, .int .u8 0, .int .u8 0, .int .u8 0, .int .u8 0, .int .u8 0, .int .u8 0, .int .u8 0, .int .u8 0, .int .u8 0, .int .u8 0, .int .u8 0, .int .u8 0, .int .u8 0, .int .u8 0, .int .u8 0, .int .u8 0, .int .u8 0, .int .u8 0, .int .u8 0, .int .u8 0, .int .u8 0], .array 32 5, false⟩,
 ⟨64, 64, [.int .u8 0, .int .u8 0, .int .u8 0, .int .u8 0, .int .u8 0, .int .u8 0, .int .u8 0, .int .u8 0, .int .u8 0, .int .u8 0, .int .u8 0, .int .u8 0, .int .u8 0, .int .u8 0, .int .u8 0, .int .u8 0, .int .u8 0, .int .u8 0, .int .u8 0, .int .u8 0, .int .u8 0, .int .u8 0, .int .u8 0, .int .u8 0, .int .u8 0, .int .u8 0, .int .u8 0, .int .u8 0, .int .u8 0, .int .u8 0, .int .u8 0, .int .u8 0, .int .u8 0, .int .u8 0, .int .u8 0, .int .u8 0, .int .u8 0, .int .u8 0, .int .u8 0, .int .u8 0, .int .u8 0, .int .u8 0, .int .u8 0, .int .u8 0, .int .u8 0, .int .u8 0, .int .u8 0, .int .u8 0, .int .u8 0, .int .u8 0, .int .u8 0, .int .u8 0, .int .u8 0, .int .u8 0, .int .u8 0, .int .u8 0, .int .u8 0, .int .u8 0, .int .u8 0, .int .u8 0, .int .u8 0, .int .u8 0, .int .u8 0, .int .u8 0], .array 64 5, false⟩,
 ⟨4, 40, [.raw (.pointer none), .raw (.pointer none), .raw (.pointer none), .str []], .struct [(0, 17), (1, 17), (2, 17), (3, 9)], false⟩,
 ⟨4, 40, [.raw (.pointer none), .raw (.pointer none), .raw (.pointer none), .str []], .struct [(0, 17), (1, 17), (2, 17), (3, 9)], false⟩,
 noTy,
 noTy,
 noTy,
 ⟨1, 1, [.int .u8 0], .int .u8, false⟩,
 ⟨1, 1, [.int .u8 0], .int .u8, false⟩,
 ⟨1, 8, [.raw .nilFunc], .one, false⟩,
 ⟨1, 4, [.int .i32 0], .int .i32, false⟩,
 ⟨1, 4, [.int .i32 0], .int .i32, false⟩,
 ⟨11, 48, [.int .u64 0, .int .u64 0, .int .u32 0, .int .u8 0, .int .u8 0, .int .u8 0, .int .u8 0, .raw .nilFunc, .raw (.pointer none), .int .i32 0, .int .i32 0], .struct [(0, 12), (1, 12), (2, 111), (3, 210), (4, 5), (5, 5), (6, 211), (7, 212), (8, 185), (9, 213), (10, 214)], false⟩,
 ⟨11, 48, [.int .u64 0, .int .u64 0, .int .u32 0, .int .u8 0, .int .u8 0, .int .u8 0, .int .u8 0, .raw .nilFunc, .raw (.pointer none), .int .i32 0, .int .i32 0], .struct [(0, 12), (1, 12), (2, 111), (3, 210), (4, 5), (5, 5), (6, 211), (7, 212), (8, 185), (9, 213), (10, 214)], false⟩]
def Ty : Tab := fun t => tyL.getD t noTy
theorem Ty_ok : TabOk Tryd.prog Ty := tabOk_of _ _ (by kernel_rfl)
theorem mixed : Tryd.prog.follows .mixedOrders = true := by kernel_rfl
theorem Ty_1 : Ty 1 = ⟨1, 8, [.raw .nilFunc], .one, false⟩ := rfl
theorem Ty_2 : Ty 2 = ⟨1, 8, [.int .i64 0], .int .i64, false⟩ := rfl
theorem Ty_3 : Ty 3 = ⟨1, 8, [.int .i64 0], .int .i64, false⟩ := rfl
theorem Ty_4 : Ty 4 = ⟨1, 1, [.bool false], .bool, false⟩ := rfl
theorem Ty_5 : Ty 5 = ⟨1, 1, [.int .u8 0], .int .u8, false⟩ := rfl
theorem Ty_6 : Ty 6 = ⟨1, 1, [.int .u8 0], .int .u8, false⟩ := rfl
theorem Ty_7 : Ty 7 = ⟨4, 24, [.int .i64 0, .int .i64 0, .bool false, .int .u8 0], .struct [(0, 2), (1, 3), (2, 4), (3, 6)], false⟩ := rfl
theorem Ty_8 : Ty 8 = ⟨4, 24, [.int .i64 0, .int .i64 0, .bool false, .int .u8 0], .struct [(0, 2), (1, 3), (2, 4), (3, 6)], false⟩ := rfl
theorem Ty_9 : Ty 9 = ⟨1, 16, [.str []], .string, false⟩ := rfl
theorem Ty_10 : Ty 10 = ⟨1, 16, [.str []], .string, false⟩ := rfl
theorem Ty_11 : Ty 11 = ⟨1, 16, [.str []], .string, false⟩ := rfl
theorem Ty_12 : Ty 12 = ⟨1, 8, [.int .u64 0], .int .u64, false⟩ := rfl
theorem Ty_13 : Ty 13 = ⟨2, 24, [.str [], .int .u64 0], .struct [(0, 9), (1, 12)], false⟩ := rfl
theorem Ty_14 : Ty 14 = ⟨2, 24, [.str [], .int .u64 0], .struct [(0, 9), (1, 12)], false⟩ := rfl
theorem Ty_15 : Ty 15 = ⟨1, 8, [.raw (.pointer none)], .one, false⟩ := rfl
theorem Ty_16 : Ty 16 = ⟨1, 8, [.raw (.pointer none)], .one, false⟩ := rfl
theorem Ty_17 : Ty 17 = ⟨1, 8, [.raw (.pointer none)], .one, false⟩ := rfl
theorem Ty_18 : Ty 18 = ⟨1, 8, [.raw (.pointer none)], .struct [(0, 17)], false⟩ := rfl
theorem Ty_19 : Ty 19 = ⟨1, 8, [.raw (.pointer none)], .struct [(0, 17)], false⟩ := rfl
theorem Ty_21 : Ty 21 = ⟨1, 4, [.int .i32 0], .int .i32, false⟩ := rfl
theorem Ty_22 : Ty 22 = ⟨5, 5, [.int .u8 0, .int .u8 0, .int .u8 0, .int .u8 0, .int .u8 0], .array 5 5, false⟩ := rfl
theorem Ty_23 : Ty 23 = ⟨25, 25, [.int .u8 0, .int .u8 0, .int .u8 0, .int .u8 0, .int .u8 0, .int .u8 0, .int .u8 0, .int .u8 0, .int .u8 0, .int .u8 0, .int .u8 0, .int .u8 0, .int .u8 0, .int .u8 0, .int .u8 0, .int .u8 0, .int .u8 0, .int .u8 0, .int .u8 0, .int .u8 0, .int .u8 0, .int .u8 0, .int .u8 0, .int .u8 0, .int .u8 0], .array 5 22, false⟩ := rfl
theorem Ty_24 : Ty 24 = ⟨37, 37, [.int .u8 0, .int .u8 0, .int .u8 0, .int .u8 0, .int .u8 0, .int .u8 0, .int .u8 0, .int .u8 0, .int .u8 0, .int .u8 0, .int .u8 0, .int .u8 0, .int .u8 0, .int .u8 0, .int .u8 0, .int .u8 0, .int .u8 0, .int .u8 0, .int .u8 0, .int .u8 0, .int .u8 0, .int .u8 0, .int .u8 0, .int .u8 0, .int .u8 0, .int .u8 0, .int .u8 0, .int .u8 0, .int .u8 0, .int .u8 0, .int .u8 0, .int .u8 0, .int .u8 0, .int .u8 0, .int .u8 0, .int .u8 0, .int .u8 0], .struct [(0, 5), (1, 5), (2, 22), (7, 22), (12, 23)], false⟩ := rfl
theorem Ty_25 : Ty 25 = ⟨37, 37, [.int .u8 0, .int .u8 0, .int .u8 0, .int .u8 0, .int .u8 0, .int .u8 0, .int .u8 0, .int .u8 0, .int .u8 0, .int .u8 0, .int .u8 0, .int .u8 0, .int .u8 0, .int .u8 0, .int .u8 0, .int .u8 0, .int .u8 0, .int .u8 0, .int .u8 0, .int .u8 0, .int .u8 0, .int .u8 0, .int .u8 0, .int .u8 0, .int .u8 0, .int .u8 0, .int .u8 0, .int .u8 0, .int .u8 0, .int .u8 0, .int .u8 0, .int .u8 0, .int .u8 0, .int .u8 0, .int .u8 0, .int .u8 0, .int .u8 0], .struct [(0, 5), (1, 5), (2, 22), (7, 22), (12, 23)], false⟩ := rfl
theorem Ty_26 : Ty 26 = ⟨1, 1, [.int .i8 0], .int .i8, false⟩ := rfl
theorem Ty_27 : Ty 27 = ⟨6, 6, [.int .i8 0, .int .i8 0, .int .i8 0, .int .i8 0, .int .i8 0, .int .i8 0], .array 6 26, false⟩ := rfl
theorem Ty_28 : Ty 28 = ⟨1, 8, [.raw .nilFunc], .one, false⟩ := rfl
theorem Ty_29 : Ty 29 = ⟨1, 24, [.nil], .slice 3, false⟩ := rfl
theorem Ty_30 : Ty 30 = ⟨1, 24, [.nil], .slice 61, false⟩ := rfl
theorem Ty_31 : Ty 31 = ⟨2, 48, [.nil, .nil], .struct [(0, 29), (1, 30)], false⟩ := rfl
theorem Ty_32 : Ty 32 = ⟨2, 48, [.nil, .nil], .struct [(0, 29), (1, 30)], false⟩ := rfl
theorem Ty_33 : Ty 33 = ⟨1, 8, [.raw .nilFunc], .one, false⟩ := rfl
theorem Ty_34 : Ty 34 = ⟨2, 32, [.nil, .int .i64 0], .struct [(0, 29), (1, 3)], false⟩ := rfl
theorem Ty_35 : Ty 35 = ⟨2, 32, [.nil, .int .i64 0], .struct [(0, 29), (1, 3)], false⟩ := rfl
theorem Ty_36 : Ty 36 = ⟨1, 8, [.raw .nilFunc], .one, false⟩ := rfl
theorem Ty_37 : Ty 37 = ⟨5, 5, [.int .i8 0, .int .i8 0, .int .i8 0, .int .i8 0, .int .i8 0], .array 5 26, false⟩ := rfl
theorem Ty_38 : Ty 38 = ⟨1, 8, [.int .i64 0], .int .i64, false⟩ := rfl
theorem Ty_40 : Ty 40 = ⟨1, 8, [.raw .nilFunc], .one, false⟩ := rfl
theorem Ty_42 : Ty 42 = ⟨1, 8, [.raw .nilFunc], .one, false⟩ := rfl
theorem Ty_43 : Ty 43 = ⟨1, 8, [.raw .nilFunc], .one, false⟩ := rfl
theorem Ty_44 : Ty 44 = ⟨1, 24, [.nil], .slice 49, false⟩ := rfl
theorem Ty_45 : Ty 45 = ⟨1, 24, [.nil], .slice 29, false⟩ := rfl
theorem Ty_47 : Ty 47 = ⟨1, 8, [.raw .nilFunc], .one, false⟩ := rfl
theorem Ty_48 : Ty 48 = ⟨3, 24, [.int .i64 0, .int .i64 0, .int .i64 0], .struct [(0, 3), (1, 3), (2, 3)], false⟩ := rfl
theorem Ty_49 : Ty 49 = ⟨3, 24, [.int .i64 0, .int .i64 0, .int .i64 0], .struct [(0, 3), (1, 3), (2, 3)], true⟩ := rfl
theorem Ty_50 : Ty 50 = ⟨1, 8, [.raw .nilFunc], .one, false⟩ := rfl
theorem Ty_51 : Ty 51 = ⟨1, 8, [.raw .nilFunc], .one, false⟩ := rfl
theorem Ty_53 : Ty 53 = ⟨1, 8, [.raw .nilFunc], .one, false⟩ := rfl
theorem Ty_54 : Ty 54 = ⟨1, 8, [.raw .nilFunc], .one, false⟩ := rfl
theorem Ty_55 : Ty 55 = ⟨4, 80, [.nil, .int .i64 0, .nil, .nil], .struct [(0, 29), (1, 3), (2, 29), (3, 44)], false⟩ := rfl
theorem Ty_56 : Ty 56 = ⟨4, 80, [.nil, .int .i64 0, .nil, .nil], .struct [(0, 29), (1, 3), (2, 29), (3, 44)], false⟩ := rfl
theorem Ty_58 : Ty 58 = ⟨1, 8, [.raw .nilFunc], .one, false⟩ := rfl
theorem Ty_59 : Ty 59 = ⟨1, 24, [.nil], .slice 63, false⟩ := rfl
theorem Ty_60 : Ty 60 = ⟨3, 56, [.int .i64 0, .nil, .nil], .struct [(0, 3), (1, 59), (2, 59)], false⟩ := rfl
theorem Ty_61 : Ty 61 = ⟨3, 56, [.int .i64 0, .nil, .nil], .struct [(0, 3), (1, 59), (2, 59)], false⟩ := rfl
theorem Ty_62 : Ty 62 = ⟨2, 16, [.int .i64 0, .int .i64 0], .struct [(0, 3), (1, 3)], false⟩ := rfl
theorem Ty_63 : Ty 63 = ⟨2, 16, [.int .i64 0, .int .i64 0], .struct [(0, 3), (1, 3)], true⟩ := rfl
theorem Ty_65 : Ty 65 = ⟨1, 8, [.raw .nilFunc], .one, false⟩ := rfl
theorem Ty_66 : Ty 66 = ⟨1, 8, [.raw .nilFunc], .one, false⟩ := rfl
theorem Ty_67 : Ty 67 = ⟨1, 8, [.raw .nilFunc], .one, false⟩ := rfl
theorem Ty_68 : Ty 68 = ⟨1, 8, [.raw .nilFunc], .one, false⟩ := rfl
theorem Ty_69 : Ty 69 = ⟨1, 8, [.raw .nilFunc], .one, false⟩ := rfl
theorem Ty_70 : Ty 70 = ⟨1, 8, [.raw .nilFunc], .one, false⟩ := rfl
theorem Ty_72 : Ty 72 = ⟨1, 8, [.raw .nilFunc], .one, false⟩ := rfl
theorem Ty_74 : Ty 74 = ⟨1, 8, [.raw .nilFunc], .one, false⟩ := rfl
theorem Ty_76 : Ty 76 = ⟨1, 8, [.raw .nilFunc], .one, false⟩ := rfl
theorem Ty_77 : Ty 77 = ⟨1, 8, [.raw .nilFunc], .one, false⟩ := rfl
theorem Ty_78 : Ty 78 = ⟨1, 8, [.raw .nilFunc], .one, false⟩ := rfl
theorem Ty_79 : Ty 79 = ⟨1, 8, [.raw .nilFunc], .one, false⟩ := rfl
theorem Ty_80 : Ty 80 = ⟨1, 8, [.raw .nilFunc], .one, false⟩ := rfl
theorem Ty_81 : Ty 81 = ⟨1, 8, [.raw .nilFunc], .one, false⟩ := rfl
theorem Ty_82 : Ty 82 = ⟨1, 8, [.raw .nilFunc], .one, false⟩ := rfl
theorem Ty_83 : Ty 83 = ⟨1, 8, [.raw .nilFunc], .one, false⟩ := rfl
theorem Ty_84 : Ty 84 = ⟨1, 8, [.raw .nilFunc], .one, false⟩ := rfl
theorem Ty_85 : Ty 85 = ⟨1, 8, [.raw (.pointer none)], .one, false⟩ := rfl
theorem Ty_87 : Ty 87 = ⟨1, 8, [.raw .nilFunc], .one, false⟩ := rfl
theorem Ty_88 : Ty 88 = ⟨1, 24, [.nil], .slice 93, false⟩ := rfl
theorem Ty_89 : Ty 89 = ⟨1, 8, [.raw (.map none)], .map 9 3, false⟩ := rfl
theorem Ty_90 : Ty 90 = ⟨4, 64, [.nil, .nil, .raw (.map none), .int .i64 0], .struct [(0, 88), (1, 44), (2, 89), (3, 3)], false⟩ := rfl
theorem Ty_91 : Ty 91 = ⟨4, 64, [.nil, .nil, .raw (.map none), .int .i64 0], .struct [(0, 88), (1, 44), (2, 89), (3, 3)], false⟩ := rfl
theorem Ty_92 : Ty 92 = ⟨3, 40, [.nil, .int .i64 0, .int .i64 0], .struct [(0, 29), (1, 3), (2, 3)], false⟩ := rfl
theorem Ty_93 : Ty 93 = ⟨3, 40, [.nil, .int .i64 0, .int .i64 0], .struct [(0, 29), (1, 3), (2, 3)], false⟩ := rfl
theorem Ty_94 : Ty 94 = ⟨1, 8, [.raw .nilFunc], .one, false⟩ := rfl
theorem Ty_95 : Ty 95 = ⟨1, 8, [.raw .nilFunc], .one, false⟩ := rfl
theorem Ty_96 : Ty 96 = ⟨1, 8, [.raw (.map none)], .map 98 3, false⟩ := rfl
theorem Ty_97 : Ty 97 = ⟨2, 16, [.int .i64 0, .int .i64 0], .struct [(0, 3), (1, 3)], false⟩ := rfl
theorem Ty_98 : Ty 98 = ⟨2, 16, [.int .i64 0, .int .i64 0], .struct [(0, 3), (1, 3)], true⟩ := rfl
theorem Ty_100 : Ty 100 = ⟨1, 8, [.raw .nilFunc], .one, false⟩ := rfl
theorem Ty_101 : Ty 101 = ⟨1, 8, [.raw (.map none)], .map 3 3, false⟩ := rfl
theorem Ty_102 : Ty 102 = ⟨1, 8, [.raw .nilFunc], .one, false⟩ := rfl
theorem Ty_103 : Ty 103 = ⟨1, 8, [.raw .nilFunc], .one, false⟩ := rfl
theorem Ty_105 : Ty 105 = ⟨1, 8, [.raw .nilFunc], .one, false⟩ := rfl
theorem Ty_106 : Ty 106 = ⟨1, 8, [.raw .nilFunc], .one, false⟩ := rfl
theorem Ty_107 : Ty 107 = ⟨1, 8, [.raw .nilFunc], .one, false⟩ := rfl
theorem Ty_108 : Ty 108 = ⟨1, 8, [.raw .nilFunc], .one, false⟩ := rfl
theorem Ty_109 : Ty 109 = ⟨1, 8, [.raw .nilFunc], .one, false⟩ := rfl
theorem Ty_110 : Ty 110 = ⟨1, 8, [.raw .nilFunc], .one, false⟩ := rfl
theorem Ty_111 : Ty 111 = ⟨1, 4, [.int .u32 0], .int .u32, false⟩ := rfl
theorem Ty_112 : Ty 112 = ⟨1, 8, [.raw .nilFunc], .one, false⟩ := rfl
theorem Ty_113 : Ty 113 = ⟨1, 8, [.raw .nilFunc], .one, false⟩ := rfl
theorem Ty_114 : Ty 114 = ⟨1, 8, [.raw .nilFunc], .one, false⟩ := rfl
theorem Ty_115 : Ty 115 = ⟨1, 8, [.raw .nilFunc], .one, false⟩ := rfl
theorem Ty_116 : Ty 116 = ⟨1, 8, [.raw .nilFunc], .one, false⟩ := rfl
theorem Ty_117 : Ty 117 = ⟨1, 8, [.raw (.map none)], .map 3 49, false⟩ := rfl
theorem Ty_119 : Ty 119 = ⟨1, 8, [.raw .nilFunc], .one, false⟩ := rfl
theorem Ty_120 : Ty 120 = ⟨1, 8, [.raw .nilFunc], .one, false⟩ := rfl
theorem Ty_121 : Ty 121 = ⟨1, 8, [.raw .nilFunc], .one, false⟩ := rfl
theorem Ty_122 : Ty 122 = ⟨1, 8, [.raw .nilFunc], .one, false⟩ := rfl
theorem Ty_123 : Ty 123 = ⟨1, 8, [.raw .nilFunc], .one, false⟩ := rfl
theorem Ty_124 : Ty 124 = ⟨1, 8, [.raw .nilFunc], .one, false⟩ := rfl
theorem Ty_125 : Ty 125 = ⟨1, 8, [.raw .nilFunc], .one, false⟩ := rfl
theorem Ty_126 : Ty 126 = ⟨1, 8, [.raw .nilFunc], .one, false⟩ := rfl
theorem Ty_127 : Ty 127 = ⟨1, 8, [.raw .nilFunc], .one, false⟩ := rfl
theorem Ty_128 : Ty 128 = ⟨1, 24, [.nil], .slice 59, false⟩ := rfl
theorem Ty_129 : Ty 129 = ⟨1, 8, [.raw .nilFunc], .one, false⟩ := rfl
theorem Ty_130 : Ty 130 = ⟨1, 8, [.raw .nilFunc], .one, false⟩ := rfl
theorem Ty_131 : Ty 131 = ⟨1, 8, [.raw .nilFunc], .one, false⟩ := rfl
theorem Ty_133 : Ty 133 = ⟨1, 8, [.raw .nilFunc], .one, false⟩ := rfl
theorem Ty_134 : Ty 134 = ⟨1, 8, [.raw .nilFunc], .one, false⟩ := rfl
theorem Ty_135 : Ty 135 = ⟨1, 8, [.raw .nilFunc], .one, false⟩ := rfl
theorem Ty_136 : Ty 136 = ⟨1, 8, [.raw .nilFunc], .one, false⟩ := rfl
theorem Ty_137 : Ty 137 = ⟨1, 8, [.raw .nilFunc], .one, false⟩ := rfl
theorem Ty_138 : Ty 138 = ⟨1, 8, [.raw .nilFunc], .one, false⟩ := rfl
theorem Ty_139 : Ty 139 = ⟨1, 8, [.int .u64 0], .int .u64, false⟩ := rfl
theorem Ty_140 : Ty 140 = ⟨1, 8, [.raw .nilFunc], .one, false⟩ := rfl
theorem Ty_141 : Ty 141 = ⟨1, 8, [.raw .nilFunc], .one, false⟩ := rfl
theorem Ty_142 : Ty 142 = ⟨1, 8, [.raw .nilFunc], .one, false⟩ := rfl
theorem Ty_143 : Ty 143 = ⟨1, 8, [.raw .nilFunc], .one, false⟩ := rfl
theorem Ty_144 : Ty 144 = ⟨1, 8, [.raw .nilFunc], .one, false⟩ := rfl
theorem Ty_145 : Ty 145 = ⟨1, 8, [.raw .nilFunc], .one, false⟩ := rfl
theorem Ty_146 : Ty 146 = ⟨1, 8, [.raw .nilFunc], .one, false⟩ := rfl
theorem Ty_147 : Ty 147 = ⟨1, 8, [.raw .nilFunc], .one, false⟩ := rfl
theorem Ty_148 : Ty 148 = ⟨1, 8, [.raw .nilFunc], .one, false⟩ := rfl
theorem Ty_149 : Ty 149 = ⟨1, 8, [.raw .nilFunc], .one, false⟩ := rfl
theorem Ty_150 : Ty 150 = ⟨1, 8, [.int .i64 0], .int .i64, false⟩ := rfl
theorem Ty_152 : Ty 152 = ⟨1, 8, [.raw .nilFunc], .one, false⟩ := rfl
theorem Ty_153 : Ty 153 = ⟨1, 8, [.raw .nilFunc], .one, false⟩ := rfl
theorem Ty_154 : Ty 154 = ⟨1, 8, [.raw .nilFunc], .one, false⟩ := rfl
theorem Ty_155 : Ty 155 = ⟨1, 8, [.raw .nilFunc], .one, false⟩ := rfl
theorem Ty_156 : Ty 156 = ⟨1, 8, [.raw .nilFunc], .one, false⟩ := rfl
theorem Ty_157 : Ty 157 = ⟨1, 8, [.raw .nilFunc], .one, false⟩ := rfl
theorem Ty_158 : Ty 158 = ⟨1, 8, [.int .u64 0], .int .u64, false⟩ := rfl
theorem Ty_159 : Ty 159 = ⟨1, 8, [.raw .nilFunc], .one, false⟩ := rfl
theorem Ty_160 : Ty 160 = ⟨1, 8, [.raw .nilFunc], .one, false⟩ := rfl
theorem Ty_161 : Ty 161 = ⟨1, 8, [.raw (.pointer none)], .one, false⟩ := rfl
theorem Ty_162 : Ty 162 = ⟨1, 24, [.nil], .slice 5, false⟩ := rfl
theorem Ty_163 : Ty 163 = ⟨2, 32, [.raw (.pointer none), .nil], .struct [(0, 161), (1, 162)], false⟩ := rfl
theorem Ty_164 : Ty 164 = ⟨2, 32, [.raw (.pointer none), .nil], .struct [(0, 161), (1, 162)], false⟩ := rfl
theorem Ty_168 : Ty 168 = ⟨1, 8, [.raw .nilFunc], .one, false⟩ := rfl
theorem Ty_169 : Ty 169 = ⟨1, 8, [.raw .nilFunc], .one, false⟩ := rfl
theorem Ty_170 : Ty 170 = ⟨1, 8, [.raw .nilFunc], .one, false⟩ := rfl
theorem Ty_171 : Ty 171 = ⟨1, 8, [.raw .nilFunc], .one, false⟩ := rfl
theorem Ty_172 : Ty 172 = ⟨1, 8, [.raw .nilFunc], .one, false⟩ := rfl
theorem Ty_173 : Ty 173 = ⟨1, 8, [.raw .nilFunc], .one, false⟩ := rfl
theorem Ty_174 : Ty 174 = ⟨1, 8, [.raw .nilFunc], .one, false⟩ := rfl
theorem Ty_175 : Ty 175 = ⟨1, 8, [.raw .nilFunc], .one, false⟩ := rfl
theorem Ty_176 : Ty 176 = ⟨1, 8, [.raw .nilFunc], .one, false⟩ := rfl
theorem Ty_177 : Ty 177 = ⟨1, 8, [.raw .nilFunc], .one, false⟩ := rfl
theorem Ty_178 : Ty 178 = ⟨1, 8, [.raw .nilFunc], .one, false⟩ := rfl
theorem Ty_179 : Ty 179 = ⟨1, 8, [.int .u64 0], .int .u64, false⟩ := rfl
theorem Ty_180 : Ty 180 = ⟨1, 8, [.raw .nilFunc], .one, false⟩ := rfl
theorem Ty_181 : Ty 181 = ⟨1, 8, [.raw .nilFunc], .one, false⟩ := rfl
theorem Ty_182 : Ty 182 = ⟨1, 8, [.raw .nilFunc], .one, false⟩ := rfl
theorem Ty_183 : Ty 183 = ⟨1, 8, [.raw (.pointer none)], .one, false⟩ := rfl
theorem Ty_184 : Ty 184 = ⟨1, 8, [.raw .nilFunc], .one, false⟩ := rfl
theorem Ty_185 : Ty 185 = ⟨1, 8, [.raw (.pointer none)], .one, false⟩ := rfl
theorem Ty_186 : Ty 186 = ⟨1, 8, [.raw .nilFunc], .one, false⟩ := rfl
theorem Ty_187 : Ty 187 = ⟨1, 8, [.raw .nilFunc], .one, false⟩ := rfl
theorem Ty_188 : Ty 188 = ⟨1, 8, [.raw (.pointer none)], .one, false⟩ := rfl
theorem Ty_190 : Ty 190 = ⟨1, 8, [.raw .nilFunc], .one, false⟩ := rfl
theorem Ty_192 : Ty 192 = ⟨1, 8, [.raw .nilFunc], .one, false⟩ := rfl
theorem Ty_193 : Ty 193 = ⟨1, 8, [.raw .nilFunc], .one, false⟩ := rfl
theorem Ty_194 : Ty 194 = ⟨1, 8, [.raw .nilFunc], .one, false⟩ := rfl
theorem Ty_195 : Ty 195 = ⟨24, 24, [.int .u8 0, .int .u8 0, .int .u8 0, .int .u8 0, .int .u8 0, .int .u8 0, .int .u8 0, .int .u8 0, .int .u8 0, .int .u8 0, .int .u8 0, .int .u8 0, .int .u8 0, .int .u8 0, .int .u8 0, .int .u8 0, .int .u8 0, .int .u8 0, .int .u8 0, .int .u8 0, .int .u8 0, .int .u8 0, .int .u8 0, .int .u8 0], .array 24 5, false⟩ := rfl
theorem Ty_196 : Ty 196 = ⟨1, 8, [.raw .nilFunc], .one, false⟩ := rfl
theorem Ty_198 : Ty 198 = ⟨1, 8, [.raw .nilFunc], .one, false⟩ := rfl
theorem Ty_199 : Ty 199 = ⟨1, 8, [.raw .nilFunc], .one, false⟩ := rfl
theorem Ty_200 : Ty 200 = ⟨1, 8, [.raw .nilFunc], .one, false⟩ := rfl
theorem Ty_201 : Ty 201 = ⟨20, 160, [.int .u64 0, .int .u64 0, .int .u64 0, .int .u64 0, .int .u64 0, .int .u64 0, .int .u64 0, .int .u64 0, .int .u64 0, .int .u64 0, .int .u64 0, .int .u64 0, .int .u64 0, .int .u64 0, .int .u64 0, .int .u64 0, .int .u64 0, .int .u64 0, .int .u64 0, .int .u64 0], .array 20 158, false⟩ := rfl
theorem Ty_202 : Ty 202 = ⟨65, 65, [.int .u8 0, .int .u8 0, .int .u8 0, .int .u8 0, .int .u8 0, .int .u8 0, .int .u8 0, .int .u8 0, .int .u8 0, .int .u8 0, .int .u8 0, .int .u8 0, .int .u8 0, .int .u8 0, .int .u8 0, .int .u8 0, .int .u8 0, .int .u8 0, .int .u8 0, .int .u8 0, .int .u8 0, .int .u8 0, .int .u8 0, .int .u8 0, .int .u8 0, .int .u8 0, .int .u8 0, .int .u8 0, .int .u8 0, .int .u8 0, .int .u8 0, .int .u8 0, .int .u8 0, .int .u8 0, .int .u8 0, .int .u8 0, .int .u8 0, .int .u8 0, .int .u8 0, .int .u8 0, .int .u8 0, .int .u8 0, .int .u8 0, .int .u8 0, .int .u8 0, .int .u8 0, .int .u8 0, .int .u8 0, .int .u8 0, .int .u8 0, .int .u8 0, .int .u8 0, .int .u8 0, .int .u8 0, .int .u8 0, .int .u8 0, .int .u8 0, .int .u8 0, .int .u8 0, .int .u8 0, .int .u8 0, .int .u8 0, .int .u8 0, .int .u8 0, .int .u8 0], .array 65 5, false⟩ := rfl
theorem Ty_203 : Ty 203 = ⟨32, 32, [.int .u8 0, .int .u8 0, .int .u8 0, .int .u8 0, .int .u8 0, .int .u8 0, .int .u8 0, .int .u8 0, .int .u8 0, .int .u8 0, .int .u8 0, .int .u8 0, .int .u8 0, .int .u8 0, .int .u8 0, .int .u8 0, .int .u8 0, .int .u8 0, .int .u8 0, .int .u8 0, .int .u8 0, .int .u8 0, .int .u8 0, .int .u8 0, .int .u8 0, .int .u8 0, .int .u8 0, .int .u8 0, .int .u8 0, .int .u8 0, .int .u8 0, .int .u8 0], .array 32 5, false⟩ := rfl
theorem Ty_204 : Ty 204 = ⟨64, 64, [.int .u8 0, .int .u8 0, .int .u8 0, .int .u8 0, .int .u8 0, .int .u8 0, .int .u8 0, .int .u8 0, .int .u8 0, .int .u8 0, .int .u8 0, .int .u8 0, .int .u8 0, .int .u8 0, .int .u8 0, .int .u8 0, .int .u8 0, .int .u8 0, .int .u8 0, .int .u8 0, .int .u8 0, .int .u8 0, .int .u8 0, .int .u8 0, .int .u8 0, .int .u8 0, .int .u8 0, .int .u8 0, .int .u8 0, .int .u8 0, .int .u8 0, .int .u8 0, .int .u8 0, .int .u8 0, .int .u8 0, .int .u8 0, .int .u8 0, .int .u8 0, .int .u8 0, .int .u8 0, .int .u8 0, .int .u8 0, .int .u8 0, .int .u8 0, .int .u8 0, .int .u8 0, .int .u8 0, .int .u8 0, .int .u8 0, .int .u8 0, .int .u8 0, .int .u8 0, .int .u8 0, .int .u8 0, .int .u8 0, .int .u8 0, .int .u8 0, .int .u8 0, .int .u8 0, .int .u8 0, .int .u8 0, .int .u8 0, .int .u8 0, .int .u8 0], .array 64 5, false⟩ := rfl
theorem Ty_205 : Ty 205 = ⟨4, 40, [.raw (.pointer none), .raw (.pointer none), .raw (.pointer none), .str []], .struct [(0, 17), (1, 17), (2, 17), (3, 9)], false⟩ := rfl
theorem Ty_206 : Ty 206 = ⟨4, 40, [.raw (.pointer none), .raw (.pointer none), .raw (.pointer none), .str []], .struct [(0, 17), (1, 17), (2, 17), (3, 9)], false⟩ := rfl
theorem Ty_210 : Ty 210 = ⟨1, 1, [.int .u8 0], .int .u8, false⟩ := rfl
theorem Ty_211 : Ty 211 = ⟨1, 1, [.int .u8 0], .int .u8, false⟩ := rfl
theorem Ty_212 : Ty 212 = ⟨1, 8, [.raw .nilFunc], .one, false⟩ := rfl
theorem Ty_213 : Ty 213 = ⟨1, 4, [.int .i32 0], .int .i32, false⟩ := rfl
theorem Ty_214 : Ty 214 = ⟨1, 4, [.int .i32 0], .int .i32, false⟩ := rfl
theorem Ty_215 : Ty 215 = ⟨11, 48, [.int .u64 0, .int .u64 0, .int .u32 0, .int .u8 0, .int .u8 0, .int .u8 0, .int .u8 0, .raw .nilFunc, .raw (.pointer none), .int .i32 0, .int .i32 0], .struct [(0, 12), (1, 12), (2, 111), (3, 210), (4, 5), (5, 5), (6, 211), (7, 212), (8, 185), (9, 213), (10, 214)], false⟩ := rfl
theorem Ty_216 : Ty 216 = ⟨11, 48, [.int .u64 0, .int .u64 0, .int .u32 0, .int .u8 0, .int .u8 0, .int .u8 0, .int .u8 0, .raw .nilFunc, .raw (.pointer none), .int .i32 0, .int .i32 0], .struct [(0, 12), (1, 12), (2, 111), (3, 210), (4, 5), (5, 5), (6, 211), (7, 212), (8, 185), (9, 213), (10, 214)], false⟩ := rfl
attribute [go_sem] Ty_1 Ty_2 Ty_3 Ty_4 Ty_5 Ty_6 Ty_7 Ty_8 Ty_9 Ty_10 Ty_11 Ty_12 Ty_13 Ty_14 Ty_15 Ty_16 Ty_17 Ty_18 Ty_19 Ty_21 Ty_22 Ty_23 Ty_24 Ty_25 Ty_26 Ty_27 Ty_28 Ty_29 Ty_30 Ty_31 Ty_32 Ty_33 Ty_34 Ty_35 Ty_36 Ty_37 Ty_38 Ty_40 Ty_42 Ty_43 Ty_44 Ty_45 Ty_47 Ty_48 Ty_49 Ty_50 Ty_51 Ty_53 Ty_54 Ty_55 Ty_56 Ty_58 Ty_59 Ty_60 Ty_61 Ty_62 Ty_63 Ty_65 Ty_66 Ty_67 Ty_68 Ty_69 Ty_70 Ty_72 Ty_74 Ty_76 Ty_77 Ty_78 Ty_79 Ty_80 Ty_81 Ty_82 Ty_83 Ty_84 Ty_85 Ty_87 Ty_88 Ty_89 Ty_90 Ty_91 Ty_92 Ty_93 Ty_94 Ty_95 Ty_96 Ty_97 Ty_98 Ty_100 Ty_101 Ty_102 Ty_103 Ty_105 Ty_106 Ty_107 Ty_108 Ty_109 Ty_110 Ty_111 Ty_112 Ty_113 Ty_114 Ty_115 Ty_116 Ty_117 Ty_119 Ty_120 Ty_121 Ty_122 Ty_123 Ty_124 Ty_125 Ty_126 Ty_127 Ty_128 Ty_129 Ty_130 Ty_131 Ty_133 Ty_134 Ty_135 Ty_136 Ty_137 Ty_138 Ty_139 Ty_140 Ty_141 Ty_142 Ty_143 Ty_144 Ty_145 Ty_146 Ty_147 Ty_148 Ty_149 Ty_150 Ty_152 Ty_153 Ty_154 Ty_155 Ty_156 Ty_157 Ty_158 Ty_159 Ty_160 Ty_161 Ty_162 Ty_163 Ty_164 Ty_168 Ty_169 Ty_170 Ty_171 Ty_172 Ty_173 Ty_174 Ty_175 Ty_176 Ty_177 Ty_178 Ty_179 Ty_180 Ty_181 Ty_182 Ty_183 Ty_184 Ty_185 Ty_186 Ty_187 Ty_188 Ty_190 Ty_192 Ty_193 Ty_194 Ty_195 Ty_196 Ty_198 Ty_199 Ty_200 Ty_201 Ty_202 Ty_203 Ty_204 Ty_205 Ty_206 Ty_210 Ty_211 Ty_212 Ty_213 Ty_214 Ty_215 Ty_216
end Go.Proofs.YtgbhmieaoaojoaaDoor
