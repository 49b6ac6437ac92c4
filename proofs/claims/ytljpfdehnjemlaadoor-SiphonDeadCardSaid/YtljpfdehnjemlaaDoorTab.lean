/-
 The table of types of this seat's translation, by a program.
-/
import Derived.Test.YtljpfdehnjemlaaDoorE2
import Derived.Test.YtljpfdehnjemlaaDoorRows
set_option linter.unusedSimpArgs false
set_option linter.unusedVariables false
namespace Go.Proofs.YtljpfdehnjemlaaDoor
open Go.Eng
def tyL : List TyRow := [
 noTy,
 ⟨1, 8, [.raw .nilFunc], .one, false⟩,
 ⟨1, 8, [.int .i64 0], .int .i64, false⟩,
 ⟨1, 8, [.int .i64 0], .int .i64, false⟩,
 ⟨1, 1, [.bool false], .bool, false⟩,
 ⟨1, 1, [.int .u8 0], .int .u8, false⟩,
 ⟨1, 1, [.int .u8 0], .int .u8, false⟩,
 ⟨4, 24, [.int .i64 0, .int .i64 0, .bool false, .int .u8 0], .struct [(0, 2), (1, 3), (2, 4), (3, 6)], false⟩,
 ⟨4, 24, [.int .i64 0, .int .i64 0, .bool false, .int .u8 0], .struct [(0, 2), (1, 3), (2, 4), (3, 6)], false⟩,
 ⟨1, 16, [.str []], .string, false⟩,
 ⟨1, 16, [.str []], .string, false⟩,
 ⟨1, 16, [.str []], .string, false⟩,
 ⟨1, 8, [.int .u64 0], .int .u64, false⟩,
 ⟨2, 24, [.str [], .int .u64 0], .struct [(0, 9), (1, 12)], false⟩,
 ⟨2, 24, [.str [], .int .u64 0], .struct [(0, 9), (1, 12)], false⟩,
 ⟨1, 8, [.raw (.pointer none)], .one, false⟩,
 ⟨1, 8, [.raw (.pointer none)], .one, false⟩,
 ⟨1, 8, [.raw (.pointer none)], .one, false⟩,
 ⟨1, 8, [.raw (.pointer none)], .struct [(0, 17)], false⟩,
 ⟨1, 8, [.raw (.pointer none)], .struct [(0, 17)], false⟩,
 noTy,
 ⟨1, 4, [.int .i32 0], .int .i32, false⟩,
 ⟨5, 5, [.int .u8 0, .int .u8 0, .int .u8 0, .int .u8 0, .int .u8 0], .array 5 5, false⟩,
 ⟨25, 25, [.int .u8 0, .int .u8 0, .int .u8 0, .int .u8 0, .int .u8 0, .int .u8 0, .int .u8 0, .int .u8 0, .int .u8 0, .int .u8 0, .int .u8 0, .int .u8 0, .int .u8 0, .int .u8 0, .int .u8 0, .int .u8 0, .int .u8 0, .int .u8 0, .int .u8 0, .int .u8 0, .int .u8 0, .int .u8 0, .int .u8 0, .int .u8 0, .int .u8 0], .array 5 22, false⟩,
 ⟨37, 37, [.int .u8 0, .int .u8 0, .int .u8 0, .int .u8 0, .int .u8 0, .int .u8 0, .int .u8 0, .int .u8 0, .int .u8 0, .int .u8 0, .int .u8 0, .int .u8 0, .int .u8 0, .int .u8 0, .int .u8 0, .int .u8 0, .int .u8 0, .int .u8 0, .int .u8 0, .int .u8 0, .int .u8 0, .int .u8 0, .int .u8 0, .int .u8 0, .int .u8 0, .int .u8 0, .int .u8 0, .int .u8 0, .int .u8 0, .int .u8 0, .int .u8 0, .int .u8 0, .int .u8 0, .int .u8 0, .int .u8 0, .int .u8 0, .int .u8 0], .struct [(0, 5), (1, 5), (2, 22), (7, 22), (12, 23)], false⟩,
 ⟨37, 37, [.int .u8 0, .int .u8 0, .int .u8 0, .int .u8 0, .int .u8 0, .int .u8 0, .int .u8 0, .int .u8 0, .int .u8 0, .int .u8 0, .int .u8 0, .int .u8 0, .int .u8 0, .int .u8 0, .int .u8 0, .int .u8 0, .int .u8 0, .int .u8 0, .int .u8 0, .int .u8 0, .int .u8 0, .int .u8 0, .int .u8 0, .int .u8 0, .int .u8 0, .int .u8 0, .int .u8 0, .int .u8 0, .int .u8 0, .int .u8 0, .int .u8 0, .int .u8 0, .int .u8 0, .int .u8 0, .int .u8 0, .int .u8 0, .int .u8 0], .struct [(0, 5), (1, 5), (2, 22), (7, 22), (12, 23)], false⟩,
 ⟨1, 8, [.raw .nilFunc], .one, false⟩,
 ⟨1, 24, [.nil], .slice 3, false⟩,
 ⟨1, 24, [.nil], .slice 34, false⟩,
 ⟨2, 48, [.nil, .nil], .struct [(0, 27), (1, 28)], false⟩,
 ⟨2, 48, [.nil, .nil], .struct [(0, 27), (1, 28)], false⟩,
 ⟨1, 8, [.raw .nilFunc], .one, false⟩,
 ⟨1, 24, [.nil], .slice 36, false⟩,
 ⟨3, 56, [.int .i64 0, .nil, .nil], .struct [(0, 3), (1, 32), (2, 32)], false⟩,
 ⟨3, 56, [.int .i64 0, .nil, .nil], .struct [(0, 3), (1, 32), (2, 32)], false⟩,
 ⟨2, 16, [.int .i64 0, .int .i64 0], .struct [(0, 3), (1, 3)], false⟩,
 ⟨2, 16, [.int .i64 0, .int .i64 0], .struct [(0, 3), (1, 3)], true⟩,
 ⟨1, 24, [.nil], .slice 27, false⟩,
 ⟨1, 8, [.int .i64 0], .int .i64, false⟩,
 noTy,
 ⟨1, 8, [.raw .nilFunc], .one, false⟩,
 noTy,
 ⟨1, 8, [.raw .nilFunc], .one, false⟩,
 ⟨1, 8, [.raw .nilFunc], .one, false⟩,
 noTy,
 ⟨1, 8, [.raw .nilFunc], .one, false⟩,
 ⟨1, 8, [.raw .nilFunc], .one, false⟩,
 ⟨1, 8, [.raw .nilFunc], .one, false⟩,
 ⟨1, 8, [.raw .nilFunc], .one, false⟩,
 noTy,
 ⟨1, 8, [.raw .nilFunc], .one, false⟩,
 ⟨1, 8, [.raw .nilFunc], .one, false⟩,
 ⟨1, 8, [.raw (.pointer none)], .one, false⟩,
 noTy,
 ⟨1, 8, [.raw .nilFunc], .one, false⟩,
 ⟨1, 24, [.nil], .slice 61, false⟩,
 ⟨1, 24, [.nil], .slice 79, false⟩,
 ⟨1, 8, [.raw (.map none)], .map 9 3, false⟩,
 ⟨4, 64, [.nil, .nil, .raw (.map none), .int .i64 0], .struct [(0, 55), (1, 56), (2, 57), (3, 3)], false⟩,
 ⟨4, 64, [.nil, .nil, .raw (.map none), .int .i64 0], .struct [(0, 55), (1, 56), (2, 57), (3, 3)], false⟩,
 ⟨3, 40, [.nil, .int .i64 0, .int .i64 0], .struct [(0, 27), (1, 3), (2, 3)], false⟩,
 ⟨3, 40, [.nil, .int .i64 0, .int .i64 0], .struct [(0, 27), (1, 3), (2, 3)], false⟩,
 ⟨1, 8, [.raw .nilFunc], .one, false⟩,
 ⟨1, 8, [.raw .nilFunc], .one, false⟩,
 ⟨1, 8, [.raw .nilFunc], .one, false⟩,
 ⟨1, 8, [.raw .nilFunc], .one, false⟩,
 ⟨1, 8, [.raw .nilFunc], .one, false⟩,
 ⟨1, 4, [.int .u32 0], .int .u32, false⟩,
 ⟨1, 8, [.raw .nilFunc], .one, false⟩,
 ⟨1, 8, [.raw .nilFunc], .one, false⟩,
 ⟨1, 8, [.raw .nilFunc], .one, false⟩,
 ⟨1, 8, [.raw .nilFunc], .one, false⟩,
 ⟨1, 8, [.raw .nilFunc], .one, false⟩,
 ⟨1, 8, [.raw .nilFunc], .one, false⟩,
 noTy,
 ⟨1, 8, [.raw .nilFunc], .one, false⟩,
 ⟨1, 8, [.raw .nilFunc], .one, false⟩,
 ⟨1, 8, [.raw (.map none)], .map 3 79, false⟩,
 ⟨3, 24, [.int .i64 0, .int .i64 0, .int .i64 0], .struct [(0, 3), (1, 3), (2, 3)], false⟩,
 ⟨3, 24, [.int .i64 0, .int .i64 0, .int .i64 0], .struct [(0, 3), (1, 3), (2, 3)], true⟩,
 noTy,
 ⟨1, 8, [.raw .nilFunc], .one, false⟩,
 ⟨1, 8, [.raw .nilFunc], .one, false⟩,
 ⟨1, 8, [.raw .nilFunc], .one, false⟩,
 ⟨1, 8, [.raw .nilFunc], .one, false⟩,
 ⟨1, 8, [.raw .nilFunc], .one, false⟩,
 noTy,
 ⟨1, 8, [.raw .nilFunc], .one, false⟩,
 ⟨1, 8, [.raw .nilFunc], .one, false⟩,
 ⟨1, 8, [.raw .nilFunc], .one, false⟩,
 ⟨1, 8, [.raw .nilFunc], .one, false⟩,
 ⟨1, 8, [.raw .nilFunc], .one, false⟩,
 ⟨1, 8, [.raw .nilFunc], .one, false⟩,
 ⟨1, 8, [.raw .nilFunc], .one, false⟩,
 ⟨1, 8, [.int .u64 0], .int .u64, false⟩,
 ⟨1, 8, [.raw .nilFunc], .one, false⟩,
 ⟨1, 24, [.nil], .slice 32, false⟩,
 ⟨1, 8, [.raw .nilFunc], .one, false⟩,
 ⟨1, 8, [.raw .nilFunc], .one, false⟩,
 ⟨1, 8, [.raw .nilFunc], .one, false⟩,
 noTy,
 ⟨1, 8, [.raw .nilFunc], .one, false⟩,
 ⟨1, 8, [.raw .nilFunc], .one, false⟩,
 ⟨1, 8, [.raw .nilFunc], .one, false⟩,
 ⟨1, 8, [.raw .nilFunc], .one, false⟩,
 ⟨1, 8, [.raw .nilFunc], .one, false⟩,
 ⟨1, 8, [.raw .nilFunc], .one, false⟩,
 ⟨1, 8, [.raw .nilFunc], .one, false⟩,
 ⟨1, 8, [.raw .nilFunc], .one, false⟩,
 ⟨1, 8, [.int .i64 0], .int .i64, false⟩,
 noTy,
 ⟨1, 8, [.raw .nilFunc], .one, false⟩,
 ⟨1, 8, [.raw .nilFunc], .one, false⟩,
 ⟨1, 8, [.raw .nilFunc], .one, false⟩,
 ⟨1, 8, [.raw .nilFunc], .one, false⟩,
 ⟨1, 8, [.raw .nilFunc], .one, false⟩,
 ⟨1, 8, [.raw .nilFunc], .one, false⟩,
 ⟨1, 8, [.int .u64 0], .int .u64, false⟩,
 ⟨1, 8, [.raw .nilFunc], .one, false⟩,
 ⟨1, 8, [.raw .nilFunc], .one, false⟩,
 ⟨1, 8, [.raw (.pointer none)], .one, false⟩,
 ⟨1, 24, [.nil], .slice 5, false⟩,
 ⟨2, 32, [.raw (.pointer none), .nil], .struct [(0, 120), (1, 121)], false⟩,
 ⟨2, 32, [.raw (.pointer none), .nil], .struct [(0, 120), (1, 121)], false⟩,
 noTy,
 noTy,
 noTy,
 ⟨1, 8, [.raw .nilFunc], .one, false⟩,
 ⟨1, 8, [.raw .nilFunc], .one, false⟩,
 ⟨1, 8, [.raw .nilFunc], .one, false⟩,
 ⟨1, 8, [.raw .nilFunc], .one, false⟩,
 ⟨1, 8, [.raw .nilFunc], .one, false⟩,
 ⟨1, 8, [.raw .nilFunc], .one, false⟩,
 ⟨1, 8, [.int .u64 0], .int .u64, false⟩,
 ⟨1, 8, [.raw .nilFunc], .one, false⟩,
 ⟨1, 8, [.raw .nilFunc], .one, false⟩,
 ⟨1, 8, [.raw .nilFunc], .one, false⟩,
 ⟨1, 8, [.raw (.pointer none)], .one, false⟩,
 ⟨1, 8, [.raw .nilFunc], .one, false⟩,
 ⟨1, 8, [.raw (.pointer none)], .one, false⟩,
 ⟨1, 8, [.raw .nilFunc], .one, false⟩,
 ⟨1, 8, [.raw (.pointer none)], .one, false⟩,
 noTy,
 ⟨1, 8, [.raw .nilFunc], .one, false⟩,
 noTy,
 ⟨1, 8, [.raw .nilFunc], .one, false⟩,
 ⟨1, 8, [.raw .nilFunc], .one, false⟩,
 ⟨24, 24, [.int .u8 0, .int .u8 0, .int .u8 0, .int .u8 0, .int .u8 0, .int .u8 0, .int .u8 0, .int .u8 0, .int .u8 0, .int .u8 0, .int .u8 0, .int .u8 0, .int .u8 0, .int .u8 0, .int .u8 0, .int .u8 0, .int .u8 0, .int .u8 0, .int .u8 0, .int .u8 0, .int .u8 0, .int .u8 0, .int .u8 0, .int .u8 0], .array 24 5, false⟩,
 ⟨1, 8, [.raw .nilFunc], .one, false⟩,
 noTy,
 ⟨1, 8, [.raw .nilFunc], .one, false⟩,
 ⟨1, 8, [.raw .nilFunc], .one, false⟩,
 ⟨1, 8, [.raw .nilFunc], .one, false⟩,
 ⟨20, 160, [.int .u64 0, .int .u64 0, .int .u64 0, .int .u64 0, .int .u64 0, .int .u64 0, .int .u64 0, .int .u64 0, .int .u64 0, .int .u64 0, .int .u64 0, .int .u64 0, .int .u64 0, .int .u64 0, .int .u64 0, .int .u64 0, .int .u64 0, .int .u64 0, .int .u64 0, .int .u64 0], .array 20 117, false⟩,
 ⟨65, 65, [.int .u8 0, .int .u8 0, .int .u8 0, .int .u8 0, .int .u8 0, .int .u8 0, .int .u8 0, .int .u8 0, .int .u8 0, .int .u8 0, .int .u8 0, .int .u8 0, .int .u8 0, .int .u8 0, .int .u8 0, .int .u8 0, .int .u8 0, .int .u8 0, .int .u8 0, .int .u8 0, .int .u8 0, .int .u8 0, .int .u8 0, .int .u8 0, .int .u8 0, .int .u8 0, .int .u8 0, .int .u8 0, .int .u8 0, .int .u8 0, .int .u8 0, .int .u8 0, .int .u8 0, .int .u8 0, .int .u8 0, .int .u8 0, .int .u8 0, .int .u8 0, .int .u8 0, .int .u8 0, .int .u8 0, .int .u8 0, .int .u8 0, .int .u8 0, .int .u8 0, .int .u8 0, .int .u8 0, .int .u8 0, .int .u8 0, .int .u8 0, .int .u8 0, .int .u8 0, .int .u8 0, .int .u8 0, .int .u8 0, .int .u8 0, .int .u8 0, .int .u8 0, .int .u8 0, .int .u8 0, .int .u8 0, .int .u8 0, .int .u8 0, .int .u8 0, .int .u8 0], .array 65 5, false⟩,
 ⟨32, 32, [.int .u8 0, .int .u8 0, .int .u8 0, .int .u8 0, .int .u8 0, .int .u8 0, .int .u8 0, .int .u8 0, .int .u8 0, .int .u8 0, .int .u8 0, .int .u8 0, .int .u8 0, .int .u8 0, .int .u8 0, .int .u8 0, .int .u8 0, .int .u8 0, .int .u8 0, .int .u8 0, .int .u8 0, .int .u8 0, .int .u8 0, .int .u8 0, .int .u8 0, .int .u8 0, .int .u8 0, .int .u8 0, .int .u8 0, .int .u8 0, .int .u8 0, .int .u8 0], .array 32 5, false⟩,
 ⟨64, 64, [.int .u8 0, .int .u8 0, .int .u8 0, .int .u8 0, .int .u8 0, .int .u8 0, .int .u8 0, .int .u8 0, .int .u8 0, .int .u8 0, .int .u8 0, .int .u8 0, .int .u8 0, .int .u8 0, .int .u8 0, .int .u8 0, .int .u8 0, .int .u8 0, .int .u8 0, .int .u8 0, .int .u8 0, .int .u8 0, .int .u8 0, .int .u8 0, .int .u8 0, .int .u8 0, .int .u8 0, .int .u8 0, .int .u8 0, .int .u8 0, .int .u8 0, .int .u8 0, .int .u8 0, .int .u8 0, .int .u8 0, .int .u8 0, .int .u8 0, .int .u8 0, .int .u8 0, .int .u8 0, .int .u8 0, .int .u8 0, .int .u8 0, .int .u8 0, .int .u8 0, .int .u8 0, .int .u8 0, .int .u8 0, .int .u8 0, .int .u8 0, .int .u8 0, .int .u8 0, .int .u8 0, .int .u8 0, .int .u8 0, .int .u8 0, .int .u8 0, .int .u8 0, .int .u8 0, .int .u8 0, .int .u8 0, .int .u8 0, .int .u8 0, .int .u8 0], .array 64 5, false⟩,
 ⟨4, 40, [.raw (.pointer none), .raw (.pointer none), .raw (.pointer none), .str []], .struct [(0, 17), (1, 17), (2, 17), (3, 9)], false⟩,
 ⟨4, 40, [.raw (.pointer none), .raw (.pointer none), .raw (.pointer none), .str []], .struct [(0, 17), (1, 17), (2, 17), (3, 9)], false⟩,
 noTy,
 noTy,
 noTy,
 ⟨1, 1, [.int .u8 0], .int .u8, false⟩,
 ⟨1, 1, [.int .u8 0], .int .u8, false⟩,
 ⟨1, 8, [.raw .nilFunc], .one, false⟩,
 ⟨1, 4, [.int .i32 0], .int .i32, false⟩,
 ⟨1, 4, [.int .i32 0], .int .i32, false⟩,
 ⟨11, 48, [.int .u64 0, .int .u64 0, .int .u32 0, .int .u8 0, .int .u8 0, .int .u8 0, .int .u8 0, .raw .nilFunc, .raw (.pointer none), .int .i32 0, .int .i32 0], .struct [(0, 12), (1, 12), (2, 67), (3, 162), (4, 5), (5, 5), (6, 163), (7, 164), (8, 139), (9, 165), (10, 166)], false⟩,
 ⟨11, 48, [.int .u64 0, .int .u64 0, .int .u32 0, .int .u8 0, .int .u8 0, .int .u8 0, .int .u8 0, .raw .nilFunc, .raw (.pointer none), .int .i32 0, .int .i32 0], .struct [(0, 12), (1, 12), (2, 67), (3, 162), (4, 5), (5, 5), (6, 163), (7, 164), (8, 139), (9, 165), (10, 166)], false⟩]
def Ty : Tab := fun t => tyL.getD t noTy
theorem Ty_ok : TabOk Tryd.prog Ty := tabOk_of _ _ (by kernel_rfl)
theorem mixed : Tryd.prog.follows .mixedOrders = true := by kernel_rfl
theorem Ty_1 : Ty 1 = ⟨1, 8, [.raw .nilFunc], .one, false⟩ := rfl
theorem Ty_2 : Ty 2 = ⟨1, 8, [.int .i64 0], .int .i64, false⟩ := rfl
theorem Ty_3 : Ty 3 = ⟨1, 8, [.int .i64 0], .int .i64, false⟩ := rfl
theorem Ty_4 : Ty 4 = ⟨1, 1, [.bool false], .bool, false⟩ := rfl
theorem Ty_5 : Ty 5 = ⟨1, 1, [.int .u8 0], .int .u8, false⟩ := rfl
theorem Ty_6 : Ty 6 = ⟨1, 1, [.int .u8 0], .int .u8, false⟩ := rfl
theorem Ty_7 : Ty 7 = ⟨4, 24, [.int .i64 0, .int .i64 0, .bool false, .int .u8 0], .struct [(0, 2), (1, 3), (2, 4), (3, 6)], false⟩ := rfl
theorem Ty_8 : Ty 8 = ⟨4, 24, [.int .i64 0, .int .i64 0, .bool false, .int .u8 0], .struct [(0, 2), (1, 3), (2, 4), (3, 6)], false⟩ := rfl
theorem Ty_9 : Ty 9 = ⟨1, 16, [.str []], .string, false⟩ := rfl
theorem Ty_10 : Ty 10 = ⟨1, 16, [.str []], .string, false⟩ := rfl
theorem Ty_11 : Ty 11 = ⟨1, 16, [.str []], .string, false⟩ := rfl
theorem Ty_12 : Ty 12 = ⟨1, 8, [.int .u64 0], .int .u64, false⟩ := rfl
theorem Ty_13 : Ty 13 = ⟨2, 24, [.str [], .int .u64 0], .struct [(0, 9), (1, 12)], false⟩ := rfl
theorem Ty_14 : Ty 14 = ⟨2, 24, [.str [], .int .u64 0], .struct [(0, 9), (1, 12)], false⟩ := rfl
theorem Ty_15 : Ty 15 = ⟨1, 8, [.raw (.pointer none)], .one, false⟩ := rfl
theorem Ty_16 : Ty 16 = ⟨1, 8, [.raw (.pointer none)], .one, false⟩ := rfl
theorem Ty_17 : Ty 17 = ⟨1, 8, [.raw (.pointer none)], .one, false⟩ := rfl
theorem Ty_18 : Ty 18 = ⟨1, 8, [.raw (.pointer none)], .struct [(0, 17)], false⟩ := rfl
theorem Ty_19 : Ty 19 = ⟨1, 8, [.raw (.pointer none)], .struct [(0, 17)], false⟩ := rfl
theorem Ty_21 : Ty 21 = ⟨1, 4, [.int .i32 0], .int .i32, false⟩ := rfl
theorem Ty_22 : Ty 22 = ⟨5, 5, [.int .u8 0, .int .u8 0, .int .u8 0, .int .u8 0, .int .u8 0], .array 5 5, false⟩ := rfl
theorem Ty_23 : Ty 23 = ⟨25, 25, [.int .u8 0, .int .u8 0, .int .u8 0, .int .u8 0, .int .u8 0, .int .u8 0, .int .u8 0, .int .u8 0, .int .u8 0, .int .u8 0, .int .u8 0, .int .u8 0, .int .u8 0, .int .u8 0, .int .u8 0, .int .u8 0, .int .u8 0, .int .u8 0, .int .u8 0, .int .u8 0, .int .u8 0, .int .u8 0, .int .u8 0, .int .u8 0, .int .u8 0], .array 5 22, false⟩ := rfl
theorem Ty_24 : Ty 24 = ⟨37, 37, [.int .u8 0, .int .u8 0, .int .u8 0, .int .u8 0, .int .u8 0, .int .u8 0, .int .u8 0, .int .u8 0, .int .u8 0, .int .u8 0, .int .u8 0, .int .u8 0, .int .u8 0, .int .u8 0, .int .u8 0, .int .u8 0, .int .u8 0, .int .u8 0, .int .u8 0, .int .u8 0, .int .u8 0, .int .u8 0, .int .u8 0, .int .u8 0, .int .u8 0, .int .u8 0, .int .u8 0, .int .u8 0, .int .u8 0, .int .u8 0, .int .u8 0, .int .u8 0, .int .u8 0, .int .u8 0, .int .u8 0, .int .u8 0, .int .u8 0], .struct [(0, 5), (1, 5), (2, 22), (7, 22), (12, 23)], false⟩ := rfl
theorem Ty_25 : Ty 25 = ⟨37, 37, [.int .u8 0, .int .u8 0, .int .u8 0, .int .u8 0, .int .u8 0, .int .u8 0, .int .u8 0, .int .u8 0, .int .u8 0, .int .u8 0, .int .u8 0, .int .u8 0, .int .u8 0, .int .u8 0, .int .u8 0, .int .u8 0, .int .u8 0, .int .u8 0, .int .u8 0, .int .u8 0, .int .u8 0, .int .u8 0, .int .u8 0, .int .u8 0, .int .u8 0, .int .u8 0, .int .u8 0, .int .u8 0, .int .u8 0, .int .u8 0, .int .u8 0, .int .u8 0, .int .u8 0, .int .u8 0, .int .u8 0, .int .u8 0, .int .u8 0], .struct [(0, 5), (1, 5), (2, 22), (7, 22), (12, 23)], false⟩ := rfl
theorem Ty_26 : Ty 26 = ⟨1, 8, [.raw .nilFunc], .one, false⟩ := rfl
theorem Ty_27 : Ty 27 = ⟨1, 24, [.nil], .slice 3, false⟩ := rfl
theorem Ty_28 : Ty 28 = ⟨1, 24, [.nil], .slice 34, false⟩ := rfl
theorem Ty_29 : Ty 29 = ⟨2, 48, [.nil, .nil], .struct [(0, 27), (1, 28)], false⟩ := rfl
theorem Ty_30 : Ty 30 = ⟨2, 48, [.nil, .nil], .struct [(0, 27), (1, 28)], false⟩ := rfl
theorem Ty_31 : Ty 31 = ⟨1, 8, [.raw .nilFunc], .one, false⟩ := rfl
theorem Ty_32 : Ty 32 = ⟨1, 24, [.nil], .slice 36, false⟩ := rfl
theorem Ty_33 : Ty 33 = ⟨3, 56, [.int .i64 0, .nil, .nil], .struct [(0, 3), (1, 32), (2, 32)], false⟩ := rfl
theorem Ty_34 : Ty 34 = ⟨3, 56, [.int .i64 0, .nil, .nil], .struct [(0, 3), (1, 32), (2, 32)], false⟩ := rfl
theorem Ty_35 : Ty 35 = ⟨2, 16, [.int .i64 0, .int .i64 0], .struct [(0, 3), (1, 3)], false⟩ := rfl
theorem Ty_36 : Ty 36 = ⟨2, 16, [.int .i64 0, .int .i64 0], .struct [(0, 3), (1, 3)], true⟩ := rfl
theorem Ty_37 : Ty 37 = ⟨1, 24, [.nil], .slice 27, false⟩ := rfl
theorem Ty_38 : Ty 38 = ⟨1, 8, [.int .i64 0], .int .i64, false⟩ := rfl
theorem Ty_40 : Ty 40 = ⟨1, 8, [.raw .nilFunc], .one, false⟩ := rfl
theorem Ty_42 : Ty 42 = ⟨1, 8, [.raw .nilFunc], .one, false⟩ := rfl
theorem Ty_43 : Ty 43 = ⟨1, 8, [.raw .nilFunc], .one, false⟩ := rfl
theorem Ty_45 : Ty 45 = ⟨1, 8, [.raw .nilFunc], .one, false⟩ := rfl
theorem Ty_46 : Ty 46 = ⟨1, 8, [.raw .nilFunc], .one, false⟩ := rfl
theorem Ty_47 : Ty 47 = ⟨1, 8, [.raw .nilFunc], .one, false⟩ := rfl
theorem Ty_48 : Ty 48 = ⟨1, 8, [.raw .nilFunc], .one, false⟩ := rfl
theorem Ty_50 : Ty 50 = ⟨1, 8, [.raw .nilFunc], .one, false⟩ := rfl
theorem Ty_51 : Ty 51 = ⟨1, 8, [.raw .nilFunc], .one, false⟩ := rfl
theorem Ty_52 : Ty 52 = ⟨1, 8, [.raw (.pointer none)], .one, false⟩ := rfl
theorem Ty_54 : Ty 54 = ⟨1, 8, [.raw .nilFunc], .one, false⟩ := rfl
theorem Ty_55 : Ty 55 = ⟨1, 24, [.nil], .slice 61, false⟩ := rfl
theorem Ty_56 : Ty 56 = ⟨1, 24, [.nil], .slice 79, false⟩ := rfl
theorem Ty_57 : Ty 57 = ⟨1, 8, [.raw (.map none)], .map 9 3, false⟩ := rfl
theorem Ty_58 : Ty 58 = ⟨4, 64, [.nil, .nil, .raw (.map none), .int .i64 0], .struct [(0, 55), (1, 56), (2, 57), (3, 3)], false⟩ := rfl
theorem Ty_59 : Ty 59 = ⟨4, 64, [.nil, .nil, .raw (.map none), .int .i64 0], .struct [(0, 55), (1, 56), (2, 57), (3, 3)], false⟩ := rfl
theorem Ty_60 : Ty 60 = ⟨3, 40, [.nil, .int .i64 0, .int .i64 0], .struct [(0, 27), (1, 3), (2, 3)], false⟩ := rfl
theorem Ty_61 : Ty 61 = ⟨3, 40, [.nil, .int .i64 0, .int .i64 0], .struct [(0, 27), (1, 3), (2, 3)], false⟩ := rfl
theorem Ty_62 : Ty 62 = ⟨1, 8, [.raw .nilFunc], .one, false⟩ := rfl
theorem Ty_63 : Ty 63 = ⟨1, 8, [.raw .nilFunc], .one, false⟩ := rfl
theorem Ty_64 : Ty 64 = ⟨1, 8, [.raw .nilFunc], .one, false⟩ := rfl
theorem Ty_65 : Ty 65 = ⟨1, 8, [.raw .nilFunc], .one, false⟩ := rfl
theorem Ty_66 : Ty 66 = ⟨1, 8, [.raw .nilFunc], .one, false⟩ := rfl
theorem Ty_67 : Ty 67 = ⟨1, 4, [.int .u32 0], .int .u32, false⟩ := rfl
theorem Ty_68 : Ty 68 = ⟨1, 8, [.raw .nilFunc], .one, false⟩ := rfl
theorem Ty_69 : Ty 69 = ⟨1, 8, [.raw .nilFunc], .one, false⟩ := rfl
theorem Ty_70 : Ty 70 = ⟨1, 8, [.raw .nilFunc], .one, false⟩ := rfl
theorem Ty_71 : Ty 71 = ⟨1, 8, [.raw .nilFunc], .one, false⟩ := rfl
theorem Ty_72 : Ty 72 = ⟨1, 8, [.raw .nilFunc], .one, false⟩ := rfl
theorem Ty_73 : Ty 73 = ⟨1, 8, [.raw .nilFunc], .one, false⟩ := rfl
theorem Ty_75 : Ty 75 = ⟨1, 8, [.raw .nilFunc], .one, false⟩ := rfl
theorem Ty_76 : Ty 76 = ⟨1, 8, [.raw .nilFunc], .one, false⟩ := rfl
theorem Ty_77 : Ty 77 = ⟨1, 8, [.raw (.map none)], .map 3 79, false⟩ := rfl
theorem Ty_78 : Ty 78 = ⟨3, 24, [.int .i64 0, .int .i64 0, .int .i64 0], .struct [(0, 3), (1, 3), (2, 3)], false⟩ := rfl
theorem Ty_79 : Ty 79 = ⟨3, 24, [.int .i64 0, .int .i64 0, .int .i64 0], .struct [(0, 3), (1, 3), (2, 3)], true⟩ := rfl
theorem Ty_81 : Ty 81 = ⟨1, 8, [.raw .nilFunc], .one, false⟩ := rfl
theorem Ty_82 : Ty 82 = ⟨1, 8, [.raw .nilFunc], .one, false⟩ := rfl
theorem Ty_83 : Ty 83 = ⟨1, 8, [.raw .nilFunc], .one, false⟩ := rfl
theorem Ty_84 : Ty 84 = ⟨1, 8, [.raw .nilFunc], .one, false⟩ := rfl
theorem Ty_85 : Ty 85 = ⟨1, 8, [.raw .nilFunc], .one, false⟩ := rfl
theorem Ty_87 : Ty 87 = ⟨1, 8, [.raw .nilFunc], .one, false⟩ := rfl
theorem Ty_88 : Ty 88 = ⟨1, 8, [.raw .nilFunc], .one, false⟩ := rfl
theorem Ty_89 : Ty 89 = ⟨1, 8, [.raw .nilFunc], .one, false⟩ := rfl
theorem Ty_90 : Ty 90 = ⟨1, 8, [.raw .nilFunc], .one, false⟩ := rfl
theorem Ty_91 : Ty 91 = ⟨1, 8, [.raw .nilFunc], .one, false⟩ := rfl
theorem Ty_92 : Ty 92 = ⟨1, 8, [.raw .nilFunc], .one, false⟩ := rfl
theorem Ty_93 : Ty 93 = ⟨1, 8, [.raw .nilFunc], .one, false⟩ := rfl
theorem Ty_94 : Ty 94 = ⟨1, 8, [.int .u64 0], .int .u64, false⟩ := rfl
theorem Ty_95 : Ty 95 = ⟨1, 8, [.raw .nilFunc], .one, false⟩ := rfl
theorem Ty_96 : Ty 96 = ⟨1, 24, [.nil], .slice 32, false⟩ := rfl
theorem Ty_97 : Ty 97 = ⟨1, 8, [.raw .nilFunc], .one, false⟩ := rfl
theorem Ty_98 : Ty 98 = ⟨1, 8, [.raw .nilFunc], .one, false⟩ := rfl
theorem Ty_99 : Ty 99 = ⟨1, 8, [.raw .nilFunc], .one, false⟩ := rfl
theorem Ty_101 : Ty 101 = ⟨1, 8, [.raw .nilFunc], .one, false⟩ := rfl
theorem Ty_102 : Ty 102 = ⟨1, 8, [.raw .nilFunc], .one, false⟩ := rfl
theorem Ty_103 : Ty 103 = ⟨1, 8, [.raw .nilFunc], .one, false⟩ := rfl
theorem Ty_104 : Ty 104 = ⟨1, 8, [.raw .nilFunc], .one, false⟩ := rfl
theorem Ty_105 : Ty 105 = ⟨1, 8, [.raw .nilFunc], .one, false⟩ := rfl
theorem Ty_106 : Ty 106 = ⟨1, 8, [.raw .nilFunc], .one, false⟩ := rfl
theorem Ty_107 : Ty 107 = ⟨1, 8, [.raw .nilFunc], .one, false⟩ := rfl
theorem Ty_108 : Ty 108 = ⟨1, 8, [.raw .nilFunc], .one, false⟩ := rfl
theorem Ty_109 : Ty 109 = ⟨1, 8, [.int .i64 0], .int .i64, false⟩ := rfl
theorem Ty_111 : Ty 111 = ⟨1, 8, [.raw .nilFunc], .one, false⟩ := rfl
theorem Ty_112 : Ty 112 = ⟨1, 8, [.raw .nilFunc], .one, false⟩ := rfl
theorem Ty_113 : Ty 113 = ⟨1, 8, [.raw .nilFunc], .one, false⟩ := rfl
theorem Ty_114 : Ty 114 = ⟨1, 8, [.raw .nilFunc], .one, false⟩ := rfl
theorem Ty_115 : Ty 115 = ⟨1, 8, [.raw .nilFunc], .one, false⟩ := rfl
theorem Ty_116 : Ty 116 = ⟨1, 8, [.raw .nilFunc], .one, false⟩ := rfl
theorem Ty_117 : Ty 117 = ⟨1, 8, [.int .u64 0], .int .u64, false⟩ := rfl
theorem Ty_118 : Ty 118 = ⟨1, 8, [.raw .nilFunc], .one, false⟩ := rfl
theorem Ty_119 : Ty 119 = ⟨1, 8, [.raw .nilFunc], .one, false⟩ := rfl
theorem Ty_120 : Ty 120 = ⟨1, 8, [.raw (.pointer none)], .one, false⟩ := rfl
theorem Ty_121 : Ty 121 = ⟨1, 24, [.nil], .slice 5, false⟩ := rfl
theorem Ty_122 : Ty 122 = ⟨2, 32, [.raw (.pointer none), .nil], .struct [(0, 120), (1, 121)], false⟩ := rfl
theorem Ty_123 : Ty 123 = ⟨2, 32, [.raw (.pointer none), .nil], .struct [(0, 120), (1, 121)], false⟩ := rfl
theorem Ty_127 : Ty 127 = ⟨1, 8, [.raw .nilFunc], .one, false⟩ := rfl
theorem Ty_128 : Ty 128 = ⟨1, 8, [.raw .nilFunc], .one, false⟩ := rfl
theorem Ty_129 : Ty 129 = ⟨1, 8, [.raw .nilFunc], .one, false⟩ := rfl
theorem Ty_130 : Ty 130 = ⟨1, 8, [.raw .nilFunc], .one, false⟩ := rfl
theorem Ty_131 : Ty 131 = ⟨1, 8, [.raw .nilFunc], .one, false⟩ := rfl
theorem Ty_132 : Ty 132 = ⟨1, 8, [.raw .nilFunc], .one, false⟩ := rfl
theorem Ty_133 : Ty 133 = ⟨1, 8, [.int .u64 0], .int .u64, false⟩ := rfl
theorem Ty_134 : Ty 134 = ⟨1, 8, [.raw .nilFunc], .one, false⟩ := rfl
theorem Ty_135 : Ty 135 = ⟨1, 8, [.raw .nilFunc], .one, false⟩ := rfl
theorem Ty_136 : Ty 136 = ⟨1, 8, [.raw .nilFunc], .one, false⟩ := rfl
theorem Ty_137 : Ty 137 = ⟨1, 8, [.raw (.pointer none)], .one, false⟩ := rfl
theorem Ty_138 : Ty 138 = ⟨1, 8, [.raw .nilFunc], .one, false⟩ := rfl
theorem Ty_139 : Ty 139 = ⟨1, 8, [.raw (.pointer none)], .one, false⟩ := rfl
theorem Ty_140 : Ty 140 = ⟨1, 8, [.raw .nilFunc], .one, false⟩ := rfl
theorem Ty_141 : Ty 141 = ⟨1, 8, [.raw (.pointer none)], .one, false⟩ := rfl
theorem Ty_143 : Ty 143 = ⟨1, 8, [.raw .nilFunc], .one, false⟩ := rfl
theorem Ty_145 : Ty 145 = ⟨1, 8, [.raw .nilFunc], .one, false⟩ := rfl
theorem Ty_146 : Ty 146 = ⟨1, 8, [.raw .nilFunc], .one, false⟩ := rfl
theorem Ty_147 : Ty 147 = ⟨24, 24, [.int .u8 0, .int .u8 0, .int .u8 0, .int .u8 0, .int .u8 0, .int .u8 0, .int .u8 0, .int .u8 0, .int .u8 0, .int .u8 0, .int .u8 0, .int .u8 0, .int .u8 0, .int .u8 0, .int .u8 0, .int .u8 0, .int .u8 0, .int .u8 0, .int .u8 0, .int .u8 0, .int .u8 0, .int .u8 0, .int .u8 0, .int .u8 0], .array 24 5, false⟩ := rfl
theorem Ty_148 : Ty 148 = ⟨1, 8, [.raw .nilFunc], .one, false⟩ := rfl
theorem Ty_150 : Ty 150 = ⟨1, 8, [.raw .nilFunc], .one, false⟩ := rfl
theorem Ty_151 : Ty 151 = ⟨1, 8, [.raw .nilFunc], .one, false⟩ := rfl
theorem Ty_152 : Ty 152 = ⟨1, 8, [.raw .nilFunc], .one, false⟩ := rfl
theorem Ty_153 : Ty 153 = ⟨20, 160, [.int .u64 0, .int .u64 0, .int .u64 0, .int .u64 0, .int .u64 0, .int .u64 0, .int .u64 0, .int .u64 0, .int .u64 0, .int .u64 0, .int .u64 0, .int .u64 0, .int .u64 0, .int .u64 0, .int .u64 0, .int .u64 0, .int .u64 0, .int .u64 0, .int .u64 0, .int .u64 0], .array 20 117, false⟩ := rfl
theorem Ty_154 : Ty 154 = ⟨65, 65, [.int .u8 0, .int .u8 0, .int .u8 0, .int .u8 0, .int .u8 0, .int .u8 0, .int .u8 0, .int .u8 0, .int .u8 0, .int .u8 0, .int .u8 0, .int .u8 0, .int .u8 0, .int .u8 0, .int .u8 0, .int .u8 0, .int .u8 0, .int .u8 0, .int .u8 0, .int .u8 0, .int .u8 0, .int .u8 0, .int .u8 0, .int .u8 0, .int .u8 0, .int .u8 0, .int .u8 0, .int .u8 0, .int .u8 0, .int .u8 0, .int .u8 0, .int .u8 0, .int .u8 0, .int .u8 0, .int .u8 0, .int .u8 0, .int .u8 0, .int .u8 0, .int .u8 0, .int .u8 0, .int .u8 0, .int .u8 0, .int .u8 0, .int .u8 0, .int .u8 0, .int .u8 0, .int .u8 0, .int .u8 0, .int .u8 0, .int .u8 0, .int .u8 0, .int .u8 0, .int .u8 0, .int .u8 0, .int .u8 0, .int .u8 0, .int .u8 0, .int .u8 0, .int .u8 0, .int .u8 0, .int .u8 0, .int .u8 0, .int .u8 0, .int .u8 0, .int .u8 0], .array 65 5, false⟩ := rfl
theorem Ty_155 : Ty 155 = ⟨32, 32, [.int .u8 0, .int .u8 0, .int .u8 0, .int .u8 0, .int .u8 0, .int .u8 0, .int .u8 0, .int .u8 0, .int .u8 0, .int .u8 0, .int .u8 0, .int .u8 0, .int .u8 0, .int .u8 0, .int .u8 0, .int .u8 0, .int .u8 0, .int .u8 0, .int .u8 0, .int .u8 0, .int .u8 0, .int .u8 0, .int .u8 0, .int .u8 0, .int .u8 0, .int .u8 0, .int .u8 0, .int .u8 0, .int .u8 0, .int .u8 0, .int .u8 0, .int .u8 0], .array 32 5, false⟩ := rfl
theorem Ty_156 : Ty 156 = ⟨64, 64, [.int .u8 0, .int .u8 0, .int .u8 0, .int .u8 0, .int .u8 0, .int .u8 0, .int .u8 0, .int .u8 0, .int .u8 0, .int .u8 0, .int .u8 0, .int .u8 0, .int .u8 0, .int .u8 0, .int .u8 0, .int .u8 0, .int .u8 0, .int .u8 0, .int .u8 0, .int .u8 0, .int .u8 0, .int .u8 0, .int .u8 0, .int .u8 0, .int .u8 0, .int .u8 0, .int .u8 0, .int .u8 0, .int .u8 0, .int .u8 0, .int .u8 0, .int .u8 0, .int .u8 0, .int .u8 0, .int .u8 0, .int .u8 0, .int .u8 0, .int .u8 0, .int .u8 0, .int .u8 0, .int .u8 0, .int .u8 0, .int .u8 0, .int .u8 0, .int .u8 0, .int .u8 0, .int .u8 0, .int .u8 0, .int .u8 0, .int .u8 0, .int .u8 0, .int .u8 0, .int .u8 0, .int .u8 0, .int .u8 0, .int .u8 0, .int .u8 0, .int .u8 0, .int .u8 0, .int .u8 0, .int .u8 0, .int .u8 0, .int .u8 0, .int .u8 0], .array 64 5, false⟩ := rfl
theorem Ty_157 : Ty 157 = ⟨4, 40, [.raw (.pointer none), .raw (.pointer none), .raw (.pointer none), .str []], .struct [(0, 17), (1, 17), (2, 17), (3, 9)], false⟩ := rfl
theorem Ty_158 : Ty 158 = ⟨4, 40, [.raw (.pointer none), .raw (.pointer none), .raw (.pointer none), .str []], .struct [(0, 17), (1, 17), (2, 17), (3, 9)], false⟩ := rfl
theorem Ty_162 : Ty 162 = ⟨1, 1, [.int .u8 0], .int .u8, false⟩ := rfl
theorem Ty_163 : Ty 163 = ⟨1, 1, [.int .u8 0], .int .u8, false⟩ := rfl
theorem Ty_164 : Ty 164 = ⟨1, 8, [.raw .nilFunc], .one, false⟩ := rfl
theorem Ty_165 : Ty 165 = ⟨1, 4, [.int .i32 0], .int .i32, false⟩ := rfl
theorem Ty_166 : Ty 166 = ⟨1, 4, [.int .i32 0], .int .i32, false⟩ := rfl
theorem Ty_167 : Ty 167 = ⟨11, 48, [.int .u64 0, .int .u64 0, .int .u32 0, .int .u8 0, .int .u8 0, .int .u8 0, .int .u8 0, .raw .nilFunc, .raw (.pointer none), .int .i32 0, .int .i32 0], .struct [(0, 12), (1, 12), (2, 67), (3, 162), (4, 5), (5, 5), (6, 163), (7, 164), (8, 139), (9, 165), (10, 166)], false⟩ := rfl
theorem Ty_168 : Ty 168 = ⟨11, 48, [.int .u64 0, .int .u64 0, .int .u32 0, .int .u8 0, .int .u8 0, .int .u8 0, .int .u8 0, .raw .nilFunc, .raw (.pointer none), .int .i32 0, .int .i32 0], .struct [(0, 12), (1, 12), (2, 67), (3, 162), (4, 5), (5, 5), (6, 163), (7, 164), (8, 139), (9, 165), (10, 166)], false⟩ := rfl
attribute [go_sem] Ty_1 Ty_2 Ty_3 Ty_4 Ty_5 Ty_6 Ty_7 Ty_8 Ty_9 Ty_10 Ty_11 Ty_12 Ty_13 Ty_14 Ty_15 Ty_16 Ty_17 Ty_18 Ty_19 Ty_21 Ty_22 Ty_23 Ty_24 Ty_25 Ty_26 Ty_27 Ty_28 Ty_29 Ty_30 Ty_31 Ty_32 Ty_33 Ty_34 Ty_35 Ty_36 Ty_37 Ty_38 Ty_40 Ty_42 Ty_43 Ty_45 Ty_46 Ty_47 Ty_48 Ty_50 Ty_51 Ty_52 Ty_54 Ty_55 Ty_56 Ty_57 Ty_58 Ty_59 Ty_60 Ty_61 Ty_62 Ty_63 Ty_64 Ty_65 Ty_66 Ty_67 Ty_68 Ty_69 Ty_70 Ty_71 Ty_72 Ty_73 Ty_75 Ty_76 Ty_77 Ty_78 Ty_79 Ty_81 Ty_82 Ty_83 Ty_84 Ty_85 Ty_87 Ty_88 Ty_89 Ty_90 Ty_91 Ty_92 Ty_93 Ty_94 Ty_95 Ty_96 Ty_97 Ty_98 Ty_99 Ty_101 Ty_102 Ty_103 Ty_104 Ty_105 Ty_106 Ty_107 Ty_108 Ty_109 Ty_111 Ty_112 Ty_113 Ty_114 Ty_115 Ty_116 Ty_117 Ty_118 Ty_119 Ty_120 Ty_121 Ty_122 Ty_123 Ty_127 Ty_128 Ty_129 Ty_130 Ty_131 Ty_132 Ty_133 Ty_134 Ty_135 Ty_136 Ty_137 Ty_138 Ty_139 Ty_140 Ty_141 Ty_143 Ty_145 Ty_146 Ty_147 Ty_148 Ty_150 Ty_151 Ty_152 Ty_153 Ty_154 Ty_155 Ty_156 Ty_157 Ty_158 Ty_162 Ty_163 Ty_164 Ty_165 Ty_166 Ty_167 Ty_168
end Go.Proofs.YtljpfdehnjemlaaDoor
