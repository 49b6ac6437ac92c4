/-
 The table of types of this seat's translation, by a program.
-/
import Derived.Test.YtgbhmieaoaojoaaE2
import Derived.Test.YtgbhmieaoaojoaaRows
set_option linter.unusedSimpArgs false
set_option linter.unusedVariables false
namespace Go.Proofs.Ytgbhmieaoaojoaa
open Go.Eng
def tyL : List TyRow := [
 noTy,
 ⟨1, 8, [.raw .nilFunc], .one, false⟩,
 ⟨1, 8, [.int .i64 0], .int .i64, false⟩,
 ⟨1, 8, [.int .i64 0], .int .i64, false⟩,
 ⟨1, 1, [.bool false], .bool, false⟩,
 ⟨1, 1, [.int .u8 0], .int .u8, false⟩,
 ⟨1, 1, [.int .u8 0], .int .u8, false⟩,
 ⟨4, 24, [.int .i64 0, .int .i64 0, .bool false, .int .u8 0], .struct [(0, 2), (1, 3), (2, 4), (3, 6)], false⟩,
 ⟨4, 24, [.int .i64 0, .int .i64 0, .bool false, .int .u8 0], .struct [(0, 2), (1, 3), (2, 4), (3, 6)], false⟩,
 ⟨1, 16, [.str []], .string, false⟩,
 ⟨1, 16, [.str []], .string, false⟩,
 ⟨1, 16, [.str []], .string, false⟩,
 ⟨1, 8, [.int .u64 0], .int .u64, false⟩,
 ⟨2, 24, [.str [], .int .u64 0], .struct [(0, 9), (1, 12)], false⟩,
 ⟨2, 24, [.str [], .int .u64 0], .struct [(0, 9), (1, 12)], false⟩,
 ⟨1, 8, [.raw (.pointer none)], .one, false⟩,
 ⟨1, 8, [.raw (.pointer none)], .one, false⟩,
 ⟨1, 8, [.raw (.pointer none)], .one, false⟩,
 ⟨1, 8, [.raw (.pointer none)], .struct [(0, 17)], false⟩,
 ⟨1, 8, [.raw (.pointer none)], .struct [(0, 17)], false⟩,
 noTy,
 ⟨1, 4, [.int .i32 0], .int .i32, false⟩,
 ⟨5, 5, [.int .u8 0, .int .u8 0, .int .u8 0, .int .u8 0, .int .u8 0], .array 5 5, false⟩,
 ⟨25, 25, [.int .u8 0, .int .u8 0, .int .u8 0, .int .u8 0, .int .u8 0, .int .u8 0, .int .u8 0, .int .u8 0, .int .u8 0, .int .u8 0, .int .u8 0, .int .u8 0, .int .u8 0, .int .u8 0, .int .u8 0, .int .u8 0, .int .u8 0, .int .u8 0, .int .u8 0, .int .u8 0, .int .u8 0, .int .u8 0, .int .u8 0, .int .u8 0, .int .u8 0], .array 5 22, false⟩,
 ⟨37, 37, [.int .u8 0, .int .u8 0, .int .u8 0, .int .u8 0, .int .u8 0, .int .u8 0, .int .u8 0, .int .u8 0, .int .u8 0, .int .u8 0, .int .u8 0, .int .u8 0, .int .u8 0, .int .u8 0, .int .u8 0, .int .u8 0, .int .u8 0, .int .u8 0, .int .u8 0, .int .u8 0, .int .u8 0, .int .u8 0, .int .u8 0, .int .u8 0, .int .u8 0, .int .u8 0, .int .u8 0, .int .u8 0, .int .u8 0, .int .u8 0, .int .u8 0, .int .u8 0, .int .u8 0, .int .u8 0, .int .u8 0, .int .u8 0, .int .u8 0], .struct [(0, 5), (1, 5), (2, 22), (7, 22), (12, 23)], false⟩,
 ⟨37, 37, [.int .u8 0, .int .u8 0, .int .u8 0, .int .u8 0, .int .u8 0, .int .u8 0, .int .u8 0, .int .u8 0, .int .u8 0, .int .u8 0, .int .u8 0, .int .u8 0, .int .u8 0, .int .u8 0, .int .u8 0, .int .u8 0, .int .u8 0, .int .u8 0, .int .u8 0, .int .u8 0, .int .u8 0, .int .u8 0, .int .u8 0, .int .u8 0, .int .u8 0, .int .u8 0, .int .u8 0, .int .u8 0, .int .u8 0, .int .u8 0, .int .u8 0, .int .u8 0, .int .u8 0, .int .u8 0, .int .u8 0, .int .u8 0, .int .u8 0], .struct [(0, 5), (1, 5), (2, 22), (7, 22), (12, 23)], false⟩,
 ⟨1, 24, [.nil], .slice 38, false⟩,
 ⟨1, 8, [.raw .nilFunc], .one, false⟩,
 ⟨1, 24, [.nil], .slice 3, false⟩,
 ⟨1, 24, [.nil], .slice 58, false⟩,
 ⟨2, 48, [.nil, .nil], .struct [(0, 28), (1, 29)], false⟩,
 ⟨2, 48, [.nil, .nil], .struct [(0, 28), (1, 29)], false⟩,
 ⟨1, 8, [.raw .nilFunc], .one, false⟩,
 ⟨1, 24, [.nil], .slice 35, false⟩,
 ⟨2, 32, [.nil, .int .i64 0], .struct [(0, 28), (1, 3)], false⟩,
 ⟨2, 32, [.nil, .int .i64 0], .struct [(0, 28), (1, 3)], false⟩,
 ⟨1, 8, [.raw .nilFunc], .one, false⟩,
 ⟨1, 1, [.int .i8 0], .int .i8, false⟩,
 ⟨6, 6, [.int .i8 0, .int .i8 0, .int .i8 0, .int .i8 0, .int .i8 0, .int .i8 0], .array 6 37, false⟩,
 ⟨5, 5, [.int .i8 0, .int .i8 0, .int .i8 0, .int .i8 0, .int .i8 0], .array 5 37, false⟩,
 ⟨1, 8, [.int .i64 0], .int .i64, false⟩,
 noTy,
 ⟨1, 8, [.raw .nilFunc], .one, false⟩,
 ⟨1, 8, [.raw .nilFunc], .one, false⟩,
 ⟨1, 8, [.raw .nilFunc], .one, false⟩,
 ⟨1, 8, [.raw .nilFunc], .one, false⟩,
 ⟨1, 8, [.raw .nilFunc], .one, false⟩,
 noTy,
 ⟨1, 8, [.raw .nilFunc], .one, false⟩,
 noTy,
 ⟨1, 8, [.raw .nilFunc], .one, false⟩,
 noTy,
 ⟨1, 8, [.raw .nilFunc], .one, false⟩,
 noTy,
 ⟨1, 8, [.raw .nilFunc], .one, false⟩,
 ⟨1, 8, [.raw .nilFunc], .one, false⟩,
 ⟨1, 24, [.nil], .slice 60, false⟩,
 ⟨3, 56, [.int .i64 0, .nil, .nil], .struct [(0, 3), (1, 56), (2, 56)], false⟩,
 ⟨3, 56, [.int .i64 0, .nil, .nil], .struct [(0, 3), (1, 56), (2, 56)], false⟩,
 ⟨2, 16, [.int .i64 0, .int .i64 0], .struct [(0, 3), (1, 3)], false⟩,
 ⟨2, 16, [.int .i64 0, .int .i64 0], .struct [(0, 3), (1, 3)], true⟩,
 ⟨1, 8, [.raw .nilFunc], .one, false⟩,
 ⟨1, 8, [.raw .nilFunc], .one, false⟩,
 ⟨1, 8, [.raw .nilFunc], .one, false⟩,
 ⟨1, 8, [.raw .nilFunc], .one, false⟩,
 ⟨1, 8, [.raw .nilFunc], .one, false⟩,
 ⟨1, 8, [.raw .nilFunc], .one, false⟩,
 ⟨1, 8, [.raw .nilFunc], .one, false⟩,
 ⟨1, 8, [.raw .nilFunc], .one, false⟩,
 ⟨1, 8, [.raw .nilFunc], .one, false⟩,
 ⟨1, 8, [.raw .nilFunc], .one, false⟩,
 ⟨1, 8, [.raw .nilFunc], .one, false⟩,
 ⟨1, 8, [.raw .nilFunc], .one, false⟩,
 ⟨1, 8, [.raw .nilFunc], .one, false⟩,
 ⟨1, 8, [.raw .nilFunc], .one, false⟩,
 ⟨1, 8, [.raw .nilFunc], .one, false⟩,
 ⟨1, 8, [.raw .nilFunc], .one, false⟩,
 ⟨1, 8, [.raw .nilFunc], .one, false⟩,
 ⟨1, 8, [.raw .nilFunc], .one, false⟩,
 ⟨1, 24, [.nil], .slice 56, false⟩,
 ⟨1, 8, [.raw .nilFunc], .one, false⟩,
 ⟨1, 8, [.raw .nilFunc], .one, false⟩,
 ⟨1, 8, [.raw .nilFunc], .one, false⟩,
 ⟨1, 8, [.raw .nilFunc], .one, false⟩,
 ⟨1, 8, [.raw .nilFunc], .one, false⟩,
 ⟨4, 40, [.raw (.pointer none), .raw (.pointer none), .raw (.pointer none), .str []], .struct [(0, 17), (1, 17), (2, 17), (3, 9)], false⟩,
 ⟨4, 40, [.raw (.pointer none), .raw (.pointer none), .raw (.pointer none), .str []], .struct [(0, 17), (1, 17), (2, 17), (3, 9)], false⟩,
 noTy,
 noTy,
 noTy,
 ⟨1, 8, [.raw .nilFunc], .one, false⟩,
 ⟨1, 4, [.int .u32 0], .int .u32, false⟩,
 ⟨1, 1, [.int .u8 0], .int .u8, false⟩,
 ⟨1, 1, [.int .u8 0], .int .u8, false⟩,
 ⟨1, 8, [.raw .nilFunc], .one, false⟩,
 ⟨1, 8, [.raw (.pointer none)], .one, false⟩,
 ⟨1, 4, [.int .i32 0], .int .i32, false⟩,
 ⟨1, 4, [.int .i32 0], .int .i32, false⟩,
 ⟨11, 48, [.int .u64 0, .int .u64 0, .int .u32 0, .int .u8 0, .int .u8 0, .int .u8 0, .int .u8 0, .raw .nilFunc, .raw (.pointer none), .int .i32 0, .int .i32 0], .struct [(0, 12), (1, 12), (2, 91), (3, 92), (4, 5), (5, 5), (6, 93), (7, 94), (8, 95), (9, 96), (10, 97)], false⟩,
 ⟨11, 48, [.int .u64 0, .int .u64 0, .int .u32 0, .int .u8 0, .int .u8 0, .int .u8 0, .int .u8 0, .raw .nilFunc, .raw (.pointer none), .int .i32 0, .int .i32 0], .struct [(0, 12), (1, 12), (2, 91), (3, 92), (4, 5), (5, 5), (6, 93), (7, 94), (8, 95), (9, 96), (10, 97)], false⟩,
 noTy]
def Ty : Tab := fun t => tyL.getD t noTy
theorem Ty_ok : TabOk Try.prog Ty := tabOk_of _ _ (by kernel_rfl)
theorem mixed : Try.prog.follows .mixedOrders = true := by kernel_rfl
theorem Ty_1 : Ty 1 = ⟨1, 8, [.raw .nilFunc], .one, false⟩ := rfl
theorem Ty_2 : Ty 2 = ⟨1, 8, [.int .i64 0], .int .i64, false⟩ := rfl
theorem Ty_3 : Ty 3 = ⟨1, 8, [.int .i64 0], .int .i64, false⟩ := rfl
theorem Ty_4 : Ty 4 = ⟨1, 1, [.bool false], .bool, false⟩ := rfl
theorem Ty_5 : Ty 5 = ⟨1, 1, [.int .u8 0], .int .u8, false⟩ := rfl
theorem Ty_6 : Ty 6 = ⟨1, 1, [.int .u8 0], .int .u8, false⟩ := rfl
theorem Ty_7 : Ty 7 = ⟨4, 24, [.int .i64 0, .int .i64 0, .bool false, .int .u8 0], .struct [(0, 2), (1, 3), (2, 4), (3, 6)], false⟩ := rfl
theorem Ty_8 : Ty 8 = ⟨4, 24, [.int .i64 0, .int .i64 0, .bool false, .int .u8 0], .struct [(0, 2), (1, 3), (2, 4), (3, 6)], false⟩ := rfl
theorem Ty_9 : Ty 9 = ⟨1, 16, [.str []], .string, false⟩ := rfl
theorem Ty_10 : Ty 10 = ⟨1, 16, [.str []], .string, false⟩ := rfl
theorem Ty_11 : Ty 11 = ⟨1, 16, [.str []], .string, false⟩ := rfl
theorem Ty_12 : Ty 12 = ⟨1, 8, [.int .u64 0], .int .u64, false⟩ := rfl
theorem Ty_13 : Ty 13 = ⟨2, 24, [.str [], .int .u64 0], .struct [(0, 9), (1, 12)], false⟩ := rfl
theorem Ty_14 : Ty 14 = ⟨2, 24, [.str [], .int .u64 0], .struct [(0, 9), (1, 12)], false⟩ := rfl
theorem Ty_15 : Ty 15 = ⟨1, 8, [.raw (.pointer none)], .one, false⟩ := rfl
theorem Ty_16 : Ty 16 = ⟨1, 8, [.raw (.pointer none)], .one, false⟩ := rfl
theorem Ty_17 : Ty 17 = ⟨1, 8, [.raw (.pointer none)], .one, false⟩ := rfl
theorem Ty_18 : Ty 18 = ⟨1, 8, [.raw (.pointer none)], .struct [(0, 17)], false⟩ := rfl
theorem Ty_19 : Ty 19 = ⟨1, 8, [.raw (.pointer none)], .struct [(0, 17)], false⟩ := rfl
theorem Ty_21 : Ty 21 = ⟨1, 4, [.int .i32 0], .int .i32, false⟩ := rfl
theorem Ty_22 : Ty 22 = ⟨5, 5, [.int .u8 0, .int .u8 0, .int .u8 0, .int .u8 0, .int .u8 0], .array 5 5, false⟩ := rfl
theorem Ty_23 : Ty 23 = ⟨25, 25, [.int .u8 0, .int .u8 0, .int .u8 0, .int .u8 0, .int .u8 0, .int .u8 0, .int .u8 0, .int .u8 0, .int .u8 0, .int .u8 0, .int .u8 0, .int .u8 0, .int .u8 0, .int .u8 0, .int .u8 0, .int .u8 0, .int .u8 0, .int .u8 0, .int .u8 0, .int .u8 0, .int .u8 0, .int .u8 0, .int .u8 0, .int .u8 0, .int .u8 0], .array 5 22, false⟩ := rfl
theorem Ty_24 : Ty 24 = ⟨37, 37, [.int .u8 0, .int .u8 0, .int .u8 0, .int .u8 0, .int .u8 0, .int .u8 0, .int .u8 0, .int .u8 0, .int .u8 0, .int .u8 0, .int .u8 0, .int .u8 0, .int .u8 0, .int .u8 0, .int .u8 0, .int .u8 0, .int .u8 0, .int .u8 0, .int .u8 0, .int .u8 0, .int .u8 0, .int .u8 0, .int .u8 0, .int .u8 0, .int .u8 0, .int .u8 0, .int .u8 0, .int .u8 0, .int .u8 0, .int .u8 0, .int .u8 0, .int .u8 0, .int .u8 0, .int .u8 0, .int .u8 0, .int .u8 0, .int .u8 0], .struct [(0, 5), (1, 5), (2, 22), (7, 22), (12, 23)], false⟩ := rfl
theorem Ty_25 : Ty 25 = ⟨37, 37, [.int .u8 0, .int .u8 0, .int .u8 0, .int .u8 0, .int .u8 0, .int .u8 0, .int .u8 0, .int .u8 0, .int .u8 0, .int .u8 0, .int .u8 0, .int .u8 0, .int .u8 0, .int .u8 0, .int .u8 0, .int .u8 0, .int .u8 0, .int .u8 0, .int .u8 0, .int .u8 0, .int .u8 0, .int .u8 0, .int .u8 0, .int .u8 0, .int .u8 0, .int .u8 0, .int .u8 0, .int .u8 0, .int .u8 0, .int .u8 0, .int .u8 0, .int .u8 0, .int .u8 0, .int .u8 0, .int .u8 0, .int .u8 0, .int .u8 0], .struct [(0, 5), (1, 5), (2, 22), (7, 22), (12, 23)], false⟩ := rfl
theorem Ty_26 : Ty 26 = ⟨1, 24, [.nil], .slice 38, false⟩ := rfl
theorem Ty_27 : Ty 27 = ⟨1, 8, [.raw .nilFunc], .one, false⟩ := rfl
theorem Ty_28 : Ty 28 = ⟨1, 24, [.nil], .slice 3, false⟩ := rfl
theorem Ty_29 : Ty 29 = ⟨1, 24, [.nil], .slice 58, false⟩ := rfl
theorem Ty_30 : Ty 30 = ⟨2, 48, [.nil, .nil], .struct [(0, 28), (1, 29)], false⟩ := rfl
theorem Ty_31 : Ty 31 = ⟨2, 48, [.nil, .nil], .struct [(0, 28), (1, 29)], false⟩ := rfl
theorem Ty_32 : Ty 32 = ⟨1, 8, [.raw .nilFunc], .one, false⟩ := rfl
theorem Ty_33 : Ty 33 = ⟨1, 24, [.nil], .slice 35, false⟩ := rfl
theorem Ty_34 : Ty 34 = ⟨2, 32, [.nil, .int .i64 0], .struct [(0, 28), (1, 3)], false⟩ := rfl
theorem Ty_35 : Ty 35 = ⟨2, 32, [.nil, .int .i64 0], .struct [(0, 28), (1, 3)], false⟩ := rfl
theorem Ty_36 : Ty 36 = ⟨1, 8, [.raw .nilFunc], .one, false⟩ := rfl
theorem Ty_37 : Ty 37 = ⟨1, 1, [.int .i8 0], .int .i8, false⟩ := rfl
theorem Ty_38 : Ty 38 = ⟨6, 6, [.int .i8 0, .int .i8 0, .int .i8 0, .int .i8 0, .int .i8 0, .int .i8 0], .array 6 37, false⟩ := rfl
theorem Ty_39 : Ty 39 = ⟨5, 5, [.int .i8 0, .int .i8 0, .int .i8 0, .int .i8 0, .int .i8 0], .array 5 37, false⟩ := rfl
theorem Ty_40 : Ty 40 = ⟨1, 8, [.int .i64 0], .int .i64, false⟩ := rfl
theorem Ty_42 : Ty 42 = ⟨1, 8, [.raw .nilFunc], .one, false⟩ := rfl
theorem Ty_43 : Ty 43 = ⟨1, 8, [.raw .nilFunc], .one, false⟩ := rfl
theorem Ty_44 : Ty 44 = ⟨1, 8, [.raw .nilFunc], .one, false⟩ := rfl
theorem Ty_45 : Ty 45 = ⟨1, 8, [.raw .nilFunc], .one, false⟩ := rfl
theorem Ty_46 : Ty 46 = ⟨1, 8, [.raw .nilFunc], .one, false⟩ := rfl
theorem Ty_48 : Ty 48 = ⟨1, 8, [.raw .nilFunc], .one, false⟩ := rfl
theorem Ty_50 : Ty 50 = ⟨1, 8, [.raw .nilFunc], .one, false⟩ := rfl
theorem Ty_52 : Ty 52 = ⟨1, 8, [.raw .nilFunc], .one, false⟩ := rfl
theorem Ty_54 : Ty 54 = ⟨1, 8, [.raw .nilFunc], .one, false⟩ := rfl
theorem Ty_55 : Ty 55 = ⟨1, 8, [.raw .nilFunc], .one, false⟩ := rfl
theorem Ty_56 : Ty 56 = ⟨1, 24, [.nil], .slice 60, false⟩ := rfl
theorem Ty_57 : Ty 57 = ⟨3, 56, [.int .i64 0, .nil, .nil], .struct [(0, 3), (1, 56), (2, 56)], false⟩ := rfl
theorem Ty_58 : Ty 58 = ⟨3, 56, [.int .i64 0, .nil, .nil], .struct [(0, 3), (1, 56), (2, 56)], false⟩ := rfl
theorem Ty_59 : Ty 59 = ⟨2, 16, [.int .i64 0, .int .i64 0], .struct [(0, 3), (1, 3)], false⟩ := rfl
theorem Ty_60 : Ty 60 = ⟨2, 16, [.int .i64 0, .int .i64 0], .struct [(0, 3), (1, 3)], true⟩ := rfl
theorem Ty_61 : Ty 61 = ⟨1, 8, [.raw .nilFunc], .one, false⟩ := rfl
theorem Ty_62 : Ty 62 = ⟨1, 8, [.raw .nilFunc], .one, false⟩ := rfl
theorem Ty_63 : Ty 63 = ⟨1, 8, [.raw .nilFunc], .one, false⟩ := rfl
theorem Ty_64 : Ty 64 = ⟨1, 8, [.raw .nilFunc], .one, false⟩ := rfl
theorem Ty_65 : Ty 65 = ⟨1, 8, [.raw .nilFunc], .one, false⟩ := rfl
theorem Ty_66 : Ty 66 = ⟨1, 8, [.raw .nilFunc], .one, false⟩ := rfl
theorem Ty_67 : Ty 67 = ⟨1, 8, [.raw .nilFunc], .one, false⟩ := rfl
theorem Ty_68 : Ty 68 = ⟨1, 8, [.raw .nilFunc], .one, false⟩ := rfl
theorem Ty_69 : Ty 69 = ⟨1, 8, [.raw .nilFunc], .one, false⟩ := rfl
theorem Ty_70 : Ty 70 = ⟨1, 8, [.raw .nilFunc], .one, false⟩ := rfl
theorem Ty_71 : Ty 71 = ⟨1, 8, [.raw .nilFunc], .one, false⟩ := rfl
theorem Ty_72 : Ty 72 = ⟨1, 8, [.raw .nilFunc], .one, false⟩ := rfl
theorem Ty_73 : Ty 73 = ⟨1, 8, [.raw .nilFunc], .one, false⟩ := rfl
theorem Ty_74 : Ty 74 = ⟨1, 8, [.raw .nilFunc], .one, false⟩ := rfl
theorem Ty_75 : Ty 75 = ⟨1, 8, [.raw .nilFunc], .one, false⟩ := rfl
theorem Ty_76 : Ty 76 = ⟨1, 8, [.raw .nilFunc], .one, false⟩ := rfl
theorem Ty_77 : Ty 77 = ⟨1, 8, [.raw .nilFunc], .one, false⟩ := rfl
theorem Ty_78 : Ty 78 = ⟨1, 8, [.raw .nilFunc], .one, false⟩ := rfl
theorem Ty_79 : Ty 79 = ⟨1, 24, [.nil], .slice 56, false⟩ := rfl
theorem Ty_80 : Ty 80 = ⟨1, 8, [.raw .nilFunc], .one, false⟩ := rfl
theorem Ty_81 : Ty 81 = ⟨1, 8, [.raw .nilFunc], .one, false⟩ := rfl
theorem Ty_82 : Ty 82 = ⟨1, 8, [.raw .nilFunc], .one, false⟩ := rfl
theorem Ty_83 : Ty 83 = ⟨1, 8, [.raw .nilFunc], .one, false⟩ := rfl
theorem Ty_84 : Ty 84 = ⟨1, 8, [.raw .nilFunc], .one, false⟩ := rfl
theorem Ty_85 : Ty 85 = ⟨4, 40, [.raw (.pointer none), .raw (.pointer none), .raw (.pointer none), .str []], .struct [(0, 17), (1, 17), (2, 17), (3, 9)], false⟩ := rfl
theorem Ty_86 : Ty 86 = ⟨4, 40, [.raw (.pointer none), .raw (.pointer none), .raw (.pointer none), .str []], .struct [(0, 17), (1, 17), (2, 17), (3, 9)], false⟩ := rfl
theorem Ty_90 : Ty 90 = ⟨1, 8, [.raw .nilFunc], .one, false⟩ := rfl
theorem Ty_91 : Ty 91 = ⟨1, 4, [.int .u32 0], .int .u32, false⟩ := rfl
theorem Ty_92 : Ty 92 = ⟨1, 1, [.int .u8 0], .int .u8, false⟩ := rfl
theorem Ty_93 : Ty 93 = ⟨1, 1, [.int .u8 0], .int .u8, false⟩ := rfl
theorem Ty_94 : Ty 94 = ⟨1, 8, [.raw .nilFunc], .one, false⟩ := rfl
theorem Ty_95 : Ty 95 = ⟨1, 8, [.raw (.pointer none)], .one, false⟩ := rfl
theorem Ty_96 : Ty 96 = ⟨1, 4, [.int .i32 0], .int .i32, false⟩ := rfl
theorem Ty_97 : Ty 97 = ⟨1, 4, [.int .i32 0], .int .i32, false⟩ := rfl
theorem Ty_98 : Ty 98 = ⟨11, 48, [.int .u64 0, .int .u64 0, .int .u32 0, .int .u8 0, .int .u8 0, .int .u8 0, .int .u8 0, .raw .nilFunc, .raw (.pointer none), .int .i32 0, .int .i32 0], .struct [(0, 12), (1, 12), (2, 91), (3, 92), (4, 5), (5, 5), (6, 93), (7, 94), (8, 95), (9, 96), (10, 97)], false⟩ := rfl
theorem Ty_99 : Ty 99 = ⟨11, 48, [.int .u64 0, .int .u64 0, .int .u32 0, .int .u8 0, .int .u8 0, .int .u8 0, .int .u8 0, .raw .nilFunc, .raw (.pointer none), .int .i32 0, .int .i32 0], .struct [(0, 12), (1, 12), (2, 91), (3, 92), (4, 5), (5, 5), (6, 93), (7, 94), (8, 95), (9, 96), (10, 97)], false⟩ := rfl
attribute [go_sem] Ty_1 Ty_2 Ty_3 Ty_4 Ty_5 Ty_6 Ty_7 Ty_8 Ty_9 Ty_10 Ty_11 Ty_12 Ty_13 Ty_14 Ty_15 Ty_16 Ty_17 Ty_18 Ty_19 Ty_21 Ty_22 Ty_23 Ty_24 Ty_25 Ty_26 Ty_27 Ty_28 Ty_29 Ty_30 Ty_31 Ty_32 Ty_33 Ty_34 Ty_35 Ty_36 Ty_37 Ty_38 Ty_39 Ty_40 Ty_42 Ty_43 Ty_44 Ty_45 Ty_46 Ty_48 Ty_50 Ty_52 Ty_54 Ty_55 Ty_56 Ty_57 Ty_58 Ty_59 Ty_60 Ty_61 Ty_62 Ty_63 Ty_64 Ty_65 Ty_66 Ty_67 Ty_68 Ty_69 Ty_70 Ty_71 Ty_72 Ty_73 Ty_74 Ty_75 Ty_76 Ty_77 Ty_78 Ty_79 Ty_80 Ty_81 Ty_82 Ty_83 Ty_84 Ty_85 Ty_86 Ty_90 Ty_91 Ty_92 Ty_93 Ty_94 Ty_95 Ty_96 Ty_97 Ty_98 Ty_99
end Go.Proofs.Ytgbhmieaoaojoaa
