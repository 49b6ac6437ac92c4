/-
 The table of types of this seat's translation, by a program.
-/
import Derived.Test.YtkjnjkdcpbgabaaGreatDoorE2
import Derived.Test.YtkjnjkdcpbgabaaGreatDoorRows
set_option linter.unusedSimpArgs false
set_option linter.unusedVariables false
namespace Go.Proofs.YtkjnjkdcpbgabaaGreatDoor
open Go.Eng
def tyL : List TyRow := [
 noTy,
 ⟨1, 8, [.raw .nilFunc], .one, false⟩,
 ⟨1, 8, [.int .i64 0], .int .i64, false⟩,
 ⟨1, 8, [.int .i64 0], .int .i64, false⟩,
 ⟨1, 1, [.bool false], .bool, false⟩,
 ⟨1, 1, [.int .u8 0], .int .u8, false⟩,
 ⟨1, 1, [.int .u8 0], .int .u8, false⟩,
 ⟨4, 24, [.int .i64 0, .int .i64 0, .bool false, .int .u8 0], .struct [(0, 2), (1, 3), (2, 4), (3, 6)], false⟩,
 ⟨4, 24, [.int .i64 0, .int .i64 0, .bool false, .int .u8 0], .struct [(0, 2), (1, 3), (2, 4), (3, 6)], false⟩,
 ⟨1, 16, [.str []], .string, false⟩,
 ⟨1, 16, [.str []], .string, false⟩,
 ⟨1, 16, [.str []], .string, false⟩,
 ⟨1, 8, [.int .u64 0], .int .u64, false⟩,
 ⟨2, 24, [.str [], .int .u64 0], .struct [(0, 9), (1, 12)], false⟩,
 ⟨2, 24, [.str [], .int .u64 0], .struct [(0, 9), (1, 12)], false⟩,
 ⟨1, 8, [.raw (.pointer none)], .one, false⟩,
 ⟨1, 8, [.raw (.pointer none)], .one, false⟩,
 ⟨1, 8, [.raw (.pointer none)], .one, false⟩,
 ⟨1, 8, [.raw (.pointer none)], .struct [(0, 17)], false⟩,
 ⟨1, 8, [.raw (.pointer none)], .struct [(0, 17)], false⟩,
 noTy,
 ⟨1, 4, [.int .i32 0], .int .i32, false⟩,
 ⟨1, 24, [.nil], .slice 30, false⟩,
 ⟨1, 24, [.nil], .slice 3, false⟩,
 ⟨1, 24, [.nil], .slice 115, false⟩,
 ⟨4, 80, [.nil, .int .i64 0, .nil, .nil], .struct [(0, 23), (1, 3), (2, 23), (3, 24)], false⟩,
 ⟨4, 80, [.nil, .int .i64 0, .nil, .nil], .struct [(0, 23), (1, 3), (2, 23), (3, 24)], false⟩,
 ⟨1, 24, [.nil], .slice 60, false⟩,
 ⟨1, 24, [.nil], .slice 62, false⟩,
 ⟨9, 160, [.int .i64 0, .str [], .nil, .int .i64 0, .nil, .nil, .nil, .nil, .int .i64 0], .struct [(0, 3), (1, 9), (2, 26), (6, 27), (7, 28), (8, 3)], false⟩,
 ⟨9, 160, [.int .i64 0, .str [], .nil, .int .i64 0, .nil, .nil, .nil, .nil, .int .i64 0], .struct [(0, 3), (1, 9), (2, 26), (6, 27), (7, 28), (8, 3)], false⟩,
 ⟨1, 8, [.raw .nilFunc], .one, false⟩,
 ⟨1, 8, [.raw .nilFunc], .one, false⟩,
 ⟨1, 8, [.int .i64 0], .int .i64, false⟩,
 ⟨1, 8, [.raw .nilFunc], .one, false⟩,
 noTy,
 ⟨1, 8, [.raw .nilFunc], .one, false⟩,
 ⟨1, 8, [.raw .nilFunc], .one, false⟩,
 noTy,
 ⟨1, 8, [.raw .nilFunc], .one, false⟩,
 ⟨1, 8, [.raw .nilFunc], .one, false⟩,
 ⟨10, 168, [.bool false, .int .i64 0, .str [], .nil, .int .i64 0, .nil, .nil, .nil, .nil, .int .i64 0], .struct [(0, 4), (1, 30)], false⟩,
 ⟨10, 168, [.bool false, .int .i64 0, .str [], .nil, .int .i64 0, .nil, .nil, .nil, .nil, .int .i64 0], .struct [(0, 4), (1, 30)], false⟩,
 ⟨1, 24, [.nil], .slice 42, false⟩,
 ⟨1, 8, [.raw .nilFunc], .one, false⟩,
 ⟨1, 8, [.raw .nilFunc], .one, false⟩,
 ⟨1, 8, [.raw .nilFunc], .one, false⟩,
 ⟨1, 24, [.nil], .slice 66, false⟩,
 ⟨1, 24, [.nil], .slice 92, false⟩,
 ⟨1, 24, [.nil], .slice 95, false⟩,
 ⟨1, 24, [.nil], .slice 98, false⟩,
 ⟨5, 120, [.nil, .nil, .nil, .nil, .nil], .struct [(0, 47), (1, 48), (2, 48), (3, 49), (4, 50)], false⟩,
 ⟨5, 120, [.nil, .nil, .nil, .nil, .nil], .struct [(0, 47), (1, 48), (2, 48), (3, 49), (4, 50)], false⟩,
 ⟨1, 8, [.raw .nilFunc], .one, false⟩,
 ⟨1, 8, [.raw .nilFunc], .one, false⟩,
 noTy,
 ⟨1, 8, [.raw .nilFunc], .one, false⟩,
 ⟨1, 8, [.raw .nilFunc], .one, false⟩,
 ⟨1, 24, [.nil], .slice 9, false⟩,
 ⟨2, 24, [.str [], .int .i64 0], .struct [(0, 9), (1, 3)], false⟩,
 ⟨2, 24, [.str [], .int .i64 0], .struct [(0, 9), (1, 3)], true⟩,
 ⟨2, 24, [.str [], .int .i64 0], .struct [(0, 9), (1, 3)], false⟩,
 ⟨2, 24, [.str [], .int .i64 0], .struct [(0, 9), (1, 3)], true⟩,
 ⟨1, 8, [.raw .nilFunc], .one, false⟩,
 ⟨1, 8, [.raw .nilFunc], .one, false⟩,
 ⟨5, 32, [.str [], .bool false, .bool false, .bool false, .int .i64 0], .struct [(0, 9), (1, 4), (2, 4), (3, 4), (4, 3)], false⟩,
 ⟨5, 32, [.str [], .bool false, .bool false, .bool false, .int .i64 0], .struct [(0, 9), (1, 4), (2, 4), (3, 4), (4, 3)], true⟩,
 ⟨1, 8, [.raw .nilFunc], .one, false⟩,
 ⟨1, 8, [.raw .nilFunc], .one, false⟩,
 noTy,
 ⟨1, 8, [.raw .nilFunc], .one, false⟩,
 ⟨1, 8, [.raw .nilFunc], .one, false⟩,
 ⟨1, 8, [.raw .nilFunc], .one, false⟩,
 noTy,
 ⟨1, 8, [.raw .nilFunc], .one, false⟩,
 ⟨1, 8, [.raw .nilFunc], .one, false⟩,
 ⟨1, 8, [.raw .nilFunc], .one, false⟩,
 ⟨1, 8, [.raw .nilFunc], .one, false⟩,
 noTy,
 ⟨1, 8, [.raw .nilFunc], .one, false⟩,
 ⟨1, 8, [.raw .nilFunc], .one, false⟩,
 ⟨1, 8, [.raw .nilFunc], .one, false⟩,
 ⟨1, 8, [.raw .nilFunc], .one, false⟩,
 ⟨1, 8, [.raw .nilFunc], .one, false⟩,
 ⟨1, 8, [.raw .nilFunc], .one, false⟩,
 ⟨1, 8, [.raw .nilFunc], .one, false⟩,
 ⟨1, 8, [.raw .nilFunc], .one, false⟩,
 ⟨1, 8, [.raw .nilFunc], .one, false⟩,
 ⟨1, 8, [.raw .nilFunc], .one, false⟩,
 ⟨1, 8, [.raw .nilFunc], .one, false⟩,
 ⟨1, 8, [.raw .nilFunc], .one, false⟩,
 ⟨5, 96, [.str [], .nil, .int .i64 0, .nil, .nil], .struct [(0, 9), (1, 26)], false⟩,
 ⟨5, 96, [.str [], .nil, .int .i64 0, .nil, .nil], .struct [(0, 9), (1, 26)], false⟩,
 ⟨1, 24, [.nil], .slice 104, false⟩,
 ⟨2, 40, [.str [], .nil], .struct [(0, 9), (1, 93)], false⟩,
 ⟨2, 40, [.str [], .nil], .struct [(0, 9), (1, 93)], false⟩,
 ⟨1, 24, [.nil], .slice 106, false⟩,
 ⟨3, 48, [.str [], .nil, .int .i64 0], .struct [(0, 9), (1, 96), (2, 3)], false⟩,
 ⟨3, 48, [.str [], .nil, .int .i64 0], .struct [(0, 9), (1, 96), (2, 3)], false⟩,
 noTy,
 ⟨1, 24, [.nil], .slice 92, false⟩,
 ⟨1, 8, [.raw .nilFunc], .one, false⟩,
 ⟨1, 8, [.raw .nilFunc], .one, false⟩,
 ⟨2, 16, [.int .i64 0, .int .i64 0], .struct [(0, 3), (1, 3)], false⟩,
 ⟨2, 16, [.int .i64 0, .int .i64 0], .struct [(0, 3), (1, 3)], true⟩,
 ⟨2, 16, [.int .i64 0, .int .i64 0], .struct [(0, 3), (1, 3)], false⟩,
 ⟨2, 16, [.int .i64 0, .int .i64 0], .struct [(0, 3), (1, 3)], true⟩,
 ⟨1, 8, [.raw .nilFunc], .one, false⟩,
 noTy,
 ⟨1, 8, [.raw .nilFunc], .one, false⟩,
 noTy,
 ⟨1, 8, [.raw .nilFunc], .one, false⟩,
 ⟨1, 8, [.raw (.map none)], .map 9 4, false⟩,
 ⟨1, 8, [.raw .nilFunc], .one, false⟩,
 ⟨3, 24, [.int .i64 0, .int .i64 0, .int .i64 0], .struct [(0, 3), (1, 3), (2, 3)], false⟩,
 ⟨3, 24, [.int .i64 0, .int .i64 0, .int .i64 0], .struct [(0, 3), (1, 3), (2, 3)], true⟩,
 ⟨1, 8, [.raw .nilFunc], .one, false⟩,
 ⟨1, 8, [.raw .nilFunc], .one, false⟩,
 ⟨1, 8, [.raw .nilFunc], .one, false⟩,
 ⟨1, 8, [.raw (.pointer none)], .one, false⟩,
 ⟨1, 24, [.nil], .slice 5, false⟩,
 ⟨2, 32, [.raw (.pointer none), .nil], .struct [(0, 119), (1, 120)], false⟩,
 ⟨2, 32, [.raw (.pointer none), .nil], .struct [(0, 119), (1, 120)], false⟩,
 ⟨1, 8, [.raw .nilFunc], .one, false⟩,
 noTy,
 noTy,
 noTy,
 noTy,
 noTy,
 noTy,
 noTy,
 noTy,
 noTy,
 noTy,
 ⟨1, 8, [.raw .nilFunc], .one, false⟩,
 noTy,
 ⟨1, 8, [.raw .nilFunc], .one, false⟩,
 ⟨1, 24, [.nil], .slice 22, false⟩,
 noTy,
 noTy,
 noTy,
 noTy,
 noTy,
 noTy,
 noTy,
 noTy,
 noTy,
 noTy,
 noTy,
 noTy,
 ⟨1, 8, [.raw .nilFunc], .one, false⟩,
 noTy,
 ⟨1, 8, [.raw .nilFunc], .one, false⟩,
 noTy,
 noTy,
 noTy,
 ⟨1, 8, [.raw (.pointer none)], .one, false⟩,
 noTy,
 noTy,
 noTy,
 noTy,
 noTy,
 ⟨1, 8, [.int .u64 0], .int .u64, false⟩,
 noTy,
 noTy,
 noTy,
 noTy,
 noTy,
 noTy,
 noTy,
 ⟨1, 8, [.int .i64 0], .int .i64, false⟩,
 noTy,
 noTy,
 noTy,
 noTy,
 noTy,
 noTy,
 noTy,
 noTy,
 ⟨1, 8, [.int .u64 0], .int .u64, false⟩,
 noTy,
 noTy,
 noTy,
 noTy,
 noTy,
 noTy,
 ⟨1, 8, [.int .u64 0], .int .u64, false⟩,
 noTy,
 noTy,
 noTy,
 ⟨1, 8, [.raw (.pointer none)], .one, false⟩,
 noTy,
 noTy,
 noTy,
 noTy,
 noTy,
 noTy,
 noTy,
 noTy,
 ⟨1, 8, [.raw (.pointer none)], .one, false⟩,
 noTy,
 noTy,
 noTy,
 noTy,
 noTy,
 noTy,
 noTy,
 noTy,
 noTy,
 noTy,
 noTy,
 noTy,
 noTy,
 noTy,
 noTy,
 noTy,
 noTy,
 noTy,
 noTy,
 noTy,
 noTy]
def Ty : Tab := fun t => tyL.getD t noTy
theorem Ty_ok : TabOk Tryz.prog Ty := tabOk_of _ _ (by kernel_rfl)
theorem mixed : Tryz.prog.follows .mixedOrders = true := by kernel_rfl
theorem Ty_1 : Ty 1 = ⟨1, 8, [.raw .nilFunc], .one, false⟩ := rfl
theorem Ty_2 : Ty 2 = ⟨1, 8, [.int .i64 0], .int .i64, false⟩ := rfl
theorem Ty_3 : Ty 3 = ⟨1, 8, [.int .i64 0], .int .i64, false⟩ := rfl
theorem Ty_4 : Ty 4 = ⟨1, 1, [.bool false], .bool, false⟩ := rfl
theorem Ty_5 : Ty 5 = ⟨1, 1, [.int .u8 0], .int .u8, false⟩ := rfl
theorem Ty_6 : Ty 6 = ⟨1, 1, [.int .u8 0], .int .u8, false⟩ := rfl
theorem Ty_7 : Ty 7 = ⟨4, 24, [.int .i64 0, .int .i64 0, .bool false, .int .u8 0], .struct [(0, 2), (1, 3), (2, 4), (3, 6)], false⟩ := rfl
theorem Ty_8 : Ty 8 = ⟨4, 24, [.int .i64 0, .int .i64 0, .bool false, .int .u8 0], .struct [(0, 2), (1, 3), (2, 4), (3, 6)], false⟩ := rfl
theorem Ty_9 : Ty 9 = ⟨1, 16, [.str []], .string, false⟩ := rfl
theorem Ty_10 : Ty 10 = ⟨1, 16, [.str []], .string, false⟩ := rfl
theorem Ty_11 : Ty 11 = ⟨1, 16, [.str []], .string, false⟩ := rfl
theorem Ty_12 : Ty 12 = ⟨1, 8, [.int .u64 0], .int .u64, false⟩ := rfl
theorem Ty_13 : Ty 13 = ⟨2, 24, [.str [], .int .u64 0], .struct [(0, 9), (1, 12)], false⟩ := rfl
theorem Ty_14 : Ty 14 = ⟨2, 24, [.str [], .int .u64 0], .struct [(0, 9), (1, 12)], false⟩ := rfl
theorem Ty_15 : Ty 15 = ⟨1, 8, [.raw (.pointer none)], .one, false⟩ := rfl
theorem Ty_16 : Ty 16 = ⟨1, 8, [.raw (.pointer none)], .one, false⟩ := rfl
theorem Ty_17 : Ty 17 = ⟨1, 8, [.raw (.pointer none)], .one, false⟩ := rfl
theorem Ty_18 : Ty 18 = ⟨1, 8, [.raw (.pointer none)], .struct [(0, 17)], false⟩ := rfl
theorem Ty_19 : Ty 19 = ⟨1, 8, [.raw (.pointer none)], .struct [(0, 17)], false⟩ := rfl
theorem Ty_21 : Ty 21 = ⟨1, 4, [.int .i32 0], .int .i32, false⟩ := rfl
theorem Ty_22 : Ty 22 = ⟨1, 24, [.nil], .slice 30, false⟩ := rfl
theorem Ty_23 : Ty 23 = ⟨1, 24, [.nil], .slice 3, false⟩ := rfl
theorem Ty_24 : Ty 24 = ⟨1, 24, [.nil], .slice 115, false⟩ := rfl
theorem Ty_25 : Ty 25 = ⟨4, 80, [.nil, .int .i64 0, .nil, .nil], .struct [(0, 23), (1, 3), (2, 23), (3, 24)], false⟩ := rfl
theorem Ty_26 : Ty 26 = ⟨4, 80, [.nil, .int .i64 0, .nil, .nil], .struct [(0, 23), (1, 3), (2, 23), (3, 24)], false⟩ := rfl
theorem Ty_27 : Ty 27 = ⟨1, 24, [.nil], .slice 60, false⟩ := rfl
theorem Ty_28 : Ty 28 = ⟨1, 24, [.nil], .slice 62, false⟩ := rfl
theorem Ty_29 : Ty 29 = ⟨9, 160, [.int .i64 0, .str [], .nil, .int .i64 0, .nil, .nil, .nil, .nil, .int .i64 0], .struct [(0, 3), (1, 9), (2, 26), (6, 27), (7, 28), (8, 3)], false⟩ := rfl
theorem Ty_30 : Ty 30 = ⟨9, 160, [.int .i64 0, .str [], .nil, .int .i64 0, .nil, .nil, .nil, .nil, .int .i64 0], .struct [(0, 3), (1, 9), (2, 26), (6, 27), (7, 28), (8, 3)], false⟩ := rfl
theorem Ty_31 : Ty 31 = ⟨1, 8, [.raw .nilFunc], .one, false⟩ := rfl
theorem Ty_32 : Ty 32 = ⟨1, 8, [.raw .nilFunc], .one, false⟩ := rfl
theorem Ty_33 : Ty 33 = ⟨1, 8, [.int .i64 0], .int .i64, false⟩ := rfl
theorem Ty_34 : Ty 34 = ⟨1, 8, [.raw .nilFunc], .one, false⟩ := rfl
theorem Ty_36 : Ty 36 = ⟨1, 8, [.raw .nilFunc], .one, false⟩ := rfl
theorem Ty_37 : Ty 37 = ⟨1, 8, [.raw .nilFunc], .one, false⟩ := rfl
theorem Ty_39 : Ty 39 = ⟨1, 8, [.raw .nilFunc], .one, false⟩ := rfl
theorem Ty_40 : Ty 40 = ⟨1, 8, [.raw .nilFunc], .one, false⟩ := rfl
theorem Ty_41 : Ty 41 = ⟨10, 168, [.bool false, .int .i64 0, .str [], .nil, .int .i64 0, .nil, .nil, .nil, .nil, .int .i64 0], .struct [(0, 4), (1, 30)], false⟩ := rfl
theorem Ty_42 : Ty 42 = ⟨10, 168, [.bool false, .int .i64 0, .str [], .nil, .int .i64 0, .nil, .nil, .nil, .nil, .int .i64 0], .struct [(0, 4), (1, 30)], false⟩ := rfl
theorem Ty_43 : Ty 43 = ⟨1, 24, [.nil], .slice 42, false⟩ := rfl
theorem Ty_44 : Ty 44 = ⟨1, 8, [.raw .nilFunc], .one, false⟩ := rfl
theorem Ty_45 : Ty 45 = ⟨1, 8, [.raw .nilFunc], .one, false⟩ := rfl
theorem Ty_46 : Ty 46 = ⟨1, 8, [.raw .nilFunc], .one, false⟩ := rfl
theorem Ty_47 : Ty 47 = ⟨1, 24, [.nil], .slice 66, false⟩ := rfl
theorem Ty_48 : Ty 48 = ⟨1, 24, [.nil], .slice 92, false⟩ := rfl
theorem Ty_49 : Ty 49 = ⟨1, 24, [.nil], .slice 95, false⟩ := rfl
theorem Ty_50 : Ty 50 = ⟨1, 24, [.nil], .slice 98, false⟩ := rfl
theorem Ty_51 : Ty 51 = ⟨5, 120, [.nil, .nil, .nil, .nil, .nil], .struct [(0, 47), (1, 48), (2, 48), (3, 49), (4, 50)], false⟩ := rfl
theorem Ty_52 : Ty 52 = ⟨5, 120, [.nil, .nil, .nil, .nil, .nil], .struct [(0, 47), (1, 48), (2, 48), (3, 49), (4, 50)], false⟩ := rfl
theorem Ty_53 : Ty 53 = ⟨1, 8, [.raw .nilFunc], .one, false⟩ := rfl
theorem Ty_54 : Ty 54 = ⟨1, 8, [.raw .nilFunc], .one, false⟩ := rfl
theorem Ty_56 : Ty 56 = ⟨1, 8, [.raw .nilFunc], .one, false⟩ := rfl
theorem Ty_57 : Ty 57 = ⟨1, 8, [.raw .nilFunc], .one, false⟩ := rfl
theorem Ty_58 : Ty 58 = ⟨1, 24, [.nil], .slice 9, false⟩ := rfl
theorem Ty_59 : Ty 59 = ⟨2, 24, [.str [], .int .i64 0], .struct [(0, 9), (1, 3)], false⟩ := rfl
theorem Ty_60 : Ty 60 = ⟨2, 24, [.str [], .int .i64 0], .struct [(0, 9), (1, 3)], true⟩ := rfl
theorem Ty_61 : Ty 61 = ⟨2, 24, [.str [], .int .i64 0], .struct [(0, 9), (1, 3)], false⟩ := rfl
theorem Ty_62 : Ty 62 = ⟨2, 24, [.str [], .int .i64 0], .struct [(0, 9), (1, 3)], true⟩ := rfl
theorem Ty_63 : Ty 63 = ⟨1, 8, [.raw .nilFunc], .one, false⟩ := rfl
theorem Ty_64 : Ty 64 = ⟨1, 8, [.raw .nilFunc], .one, false⟩ := rfl
theorem Ty_65 : Ty 65 = ⟨5, 32, [.str [], .bool false, .bool false, .bool false, .int .i64 0], .struct [(0, 9), (1, 4), (2, 4), (3, 4), (4, 3)], false⟩ := rfl
theorem Ty_66 : Ty 66 = ⟨5, 32, [.str [], .bool false, .bool false, .bool false, .int .i64 0], .struct [(0, 9), (1, 4), (2, 4), (3, 4), (4, 3)], true⟩ := rfl
theorem Ty_67 : Ty 67 = ⟨1, 8, [.raw .nilFunc], .one, false⟩ := rfl
theorem Ty_68 : Ty 68 = ⟨1, 8, [.raw .nilFunc], .one, false⟩ := rfl
theorem Ty_70 : Ty 70 = ⟨1, 8, [.raw .nilFunc], .one, false⟩ := rfl
theorem Ty_71 : Ty 71 = ⟨1, 8, [.raw .nilFunc], .one, false⟩ := rfl
theorem Ty_72 : Ty 72 = ⟨1, 8, [.raw .nilFunc], .one, false⟩ := rfl
theorem Ty_74 : Ty 74 = ⟨1, 8, [.raw .nilFunc], .one, false⟩ := rfl
theorem Ty_75 : Ty 75 = ⟨1, 8, [.raw .nilFunc], .one, false⟩ := rfl
theorem Ty_76 : Ty 76 = ⟨1, 8, [.raw .nilFunc], .one, false⟩ := rfl
theorem Ty_77 : Ty 77 = ⟨1, 8, [.raw .nilFunc], .one, false⟩ := rfl
theorem Ty_79 : Ty 79 = ⟨1, 8, [.raw .nilFunc], .one, false⟩ := rfl
theorem Ty_80 : Ty 80 = ⟨1, 8, [.raw .nilFunc], .one, false⟩ := rfl
theorem Ty_81 : Ty 81 = ⟨1, 8, [.raw .nilFunc], .one, false⟩ := rfl
theorem Ty_82 : Ty 82 = ⟨1, 8, [.raw .nilFunc], .one, false⟩ := rfl
theorem Ty_83 : Ty 83 = ⟨1, 8, [.raw .nilFunc], .one, false⟩ := rfl
theorem Ty_84 : Ty 84 = ⟨1, 8, [.raw .nilFunc], .one, false⟩ := rfl
theorem Ty_85 : Ty 85 = ⟨1, 8, [.raw .nilFunc], .one, false⟩ := rfl
theorem Ty_86 : Ty 86 = ⟨1, 8, [.raw .nilFunc], .one, false⟩ := rfl
theorem Ty_87 : Ty 87 = ⟨1, 8, [.raw .nilFunc], .one, false⟩ := rfl
theorem Ty_88 : Ty 88 = ⟨1, 8, [.raw .nilFunc], .one, false⟩ := rfl
theorem Ty_89 : Ty 89 = ⟨1, 8, [.raw .nilFunc], .one, false⟩ := rfl
theorem Ty_90 : Ty 90 = ⟨1, 8, [.raw .nilFunc], .one, false⟩ := rfl
theorem Ty_91 : Ty 91 = ⟨5, 96, [.str [], .nil, .int .i64 0, .nil, .nil], .struct [(0, 9), (1, 26)], false⟩ := rfl
theorem Ty_92 : Ty 92 = ⟨5, 96, [.str [], .nil, .int .i64 0, .nil, .nil], .struct [(0, 9), (1, 26)], false⟩ := rfl
theorem Ty_93 : Ty 93 = ⟨1, 24, [.nil], .slice 104, false⟩ := rfl
theorem Ty_94 : Ty 94 = ⟨2, 40, [.str [], .nil], .struct [(0, 9), (1, 93)], false⟩ := rfl
theorem Ty_95 : Ty 95 = ⟨2, 40, [.str [], .nil], .struct [(0, 9), (1, 93)], false⟩ := rfl
theorem Ty_96 : Ty 96 = ⟨1, 24, [.nil], .slice 106, false⟩ := rfl
theorem Ty_97 : Ty 97 = ⟨3, 48, [.str [], .nil, .int .i64 0], .struct [(0, 9), (1, 96), (2, 3)], false⟩ := rfl
theorem Ty_98 : Ty 98 = ⟨3, 48, [.str [], .nil, .int .i64 0], .struct [(0, 9), (1, 96), (2, 3)], false⟩ := rfl
theorem Ty_100 : Ty 100 = ⟨1, 24, [.nil], .slice 92, false⟩ := rfl
theorem Ty_101 : Ty 101 = ⟨1, 8, [.raw .nilFunc], .one, false⟩ := rfl
theorem Ty_102 : Ty 102 = ⟨1, 8, [.raw .nilFunc], .one, false⟩ := rfl
theorem Ty_103 : Ty 103 = ⟨2, 16, [.int .i64 0, .int .i64 0], .struct [(0, 3), (1, 3)], false⟩ := rfl
theorem Ty_104 : Ty 104 = ⟨2, 16, [.int .i64 0, .int .i64 0], .struct [(0, 3), (1, 3)], true⟩ := rfl
theorem Ty_105 : Ty 105 = ⟨2, 16, [.int .i64 0, .int .i64 0], .struct [(0, 3), (1, 3)], false⟩ := rfl
theorem Ty_106 : Ty 106 = ⟨2, 16, [.int .i64 0, .int .i64 0], .struct [(0, 3), (1, 3)], true⟩ := rfl
theorem Ty_107 : Ty 107 = ⟨1, 8, [.raw .nilFunc], .one, false⟩ := rfl
theorem Ty_109 : Ty 109 = ⟨1, 8, [.raw .nilFunc], .one, false⟩ := rfl
theorem Ty_111 : Ty 111 = ⟨1, 8, [.raw .nilFunc], .one, false⟩ := rfl
theorem Ty_112 : Ty 112 = ⟨1, 8, [.raw (.map none)], .map 9 4, false⟩ := rfl
theorem Ty_113 : Ty 113 = ⟨1, 8, [.raw .nilFunc], .one, false⟩ := rfl
theorem Ty_114 : Ty 114 = ⟨3, 24, [.int .i64 0, .int .i64 0, .int .i64 0], .struct [(0, 3), (1, 3), (2, 3)], false⟩ := rfl
theorem Ty_115 : Ty 115 = ⟨3, 24, [.int .i64 0, .int .i64 0, .int .i64 0], .struct [(0, 3), (1, 3), (2, 3)], true⟩ := rfl
theorem Ty_116 : Ty 116 = ⟨1, 8, [.raw .nilFunc], .one, false⟩ := rfl
theorem Ty_117 : Ty 117 = ⟨1, 8, [.raw .nilFunc], .one, false⟩ := rfl
theorem Ty_118 : Ty 118 = ⟨1, 8, [.raw .nilFunc], .one, false⟩ := rfl
theorem Ty_119 : Ty 119 = ⟨1, 8, [.raw (.pointer none)], .one, false⟩ := rfl
theorem Ty_120 : Ty 120 = ⟨1, 24, [.nil], .slice 5, false⟩ := rfl
theorem Ty_121 : Ty 121 = ⟨2, 32, [.raw (.pointer none), .nil], .struct [(0, 119), (1, 120)], false⟩ := rfl
theorem Ty_122 : Ty 122 = ⟨2, 32, [.raw (.pointer none), .nil], .struct [(0, 119), (1, 120)], false⟩ := rfl
theorem Ty_123 : Ty 123 = ⟨1, 8, [.raw .nilFunc], .one, false⟩ := rfl
theorem Ty_134 : Ty 134 = ⟨1, 8, [.raw .nilFunc], .one, false⟩ := rfl
theorem Ty_136 : Ty 136 = ⟨1, 8, [.raw .nilFunc], .one, false⟩ := rfl
theorem Ty_137 : Ty 137 = ⟨1, 24, [.nil], .slice 22, false⟩ := rfl
theorem Ty_150 : Ty 150 = ⟨1, 8, [.raw .nilFunc], .one, false⟩ := rfl
theorem Ty_152 : Ty 152 = ⟨1, 8, [.raw .nilFunc], .one, false⟩ := rfl
theorem Ty_156 : Ty 156 = ⟨1, 8, [.raw (.pointer none)], .one, false⟩ := rfl
theorem Ty_162 : Ty 162 = ⟨1, 8, [.int .u64 0], .int .u64, false⟩ := rfl
theorem Ty_170 : Ty 170 = ⟨1, 8, [.int .i64 0], .int .i64, false⟩ := rfl
theorem Ty_179 : Ty 179 = ⟨1, 8, [.int .u64 0], .int .u64, false⟩ := rfl
theorem Ty_186 : Ty 186 = ⟨1, 8, [.int .u64 0], .int .u64, false⟩ := rfl
theorem Ty_190 : Ty 190 = ⟨1, 8, [.raw (.pointer none)], .one, false⟩ := rfl
theorem Ty_199 : Ty 199 = ⟨1, 8, [.raw (.pointer none)], .one, false⟩ := rfl
attribute [go_sem] Ty_1 Ty_2 Ty_3 Ty_4 Ty_5 Ty_6 Ty_7 Ty_8 Ty_9 Ty_10 Ty_11 Ty_12 Ty_13 Ty_14 Ty_15 Ty_16 Ty_17 Ty_18 Ty_19 Ty_21 Ty_22 Ty_23 Ty_24 Ty_25 Ty_26 Ty_27 Ty_28 Ty_29 Ty_30 Ty_31 Ty_32 Ty_33 Ty_34 Ty_36 Ty_37 Ty_39 Ty_40 Ty_41 Ty_42 Ty_43 Ty_44 Ty_45 Ty_46 Ty_47 Ty_48 Ty_49 Ty_50 Ty_51 Ty_52 Ty_53 Ty_54 Ty_56 Ty_57 Ty_58 Ty_59 Ty_60 Ty_61 Ty_62 Ty_63 Ty_64 Ty_65 Ty_66 Ty_67 Ty_68 Ty_70 Ty_71 Ty_72 Ty_74 Ty_75 Ty_76 Ty_77 Ty_79 Ty_80 Ty_81 Ty_82 Ty_83 Ty_84 Ty_85 Ty_86 Ty_87 Ty_88 Ty_89 Ty_90 Ty_91 Ty_92 Ty_93 Ty_94 Ty_95 Ty_96 Ty_97 Ty_98 Ty_100 Ty_101 Ty_102 Ty_103 Ty_104 Ty_105 Ty_106 Ty_107 Ty_109 Ty_111 Ty_112 Ty_113 Ty_114 Ty_115 Ty_116 Ty_117 Ty_118 Ty_119 Ty_120 Ty_121 Ty_122 Ty_123 Ty_134 Ty_136 Ty_137 Ty_150 Ty_152 Ty_156 Ty_162 Ty_170 Ty_179 Ty_186 Ty_190 Ty_199
end Go.Proofs.YtkjnjkdcpbgabaaGreatDoor
