/-
 The table of types of this seat's translation, by a program.
-/
import Derived.Test.YtkjllcmpjghmkaaGreatDoorE2
import Derived.Test.YtkjllcmpjghmkaaGreatDoorRows
set_option linter.unusedSimpArgs false
set_option linter.unusedVariables false
namespace Go.Proofs.YtkjllcmpjghmkaaGreatDoor
open Go.Eng
def tyL : List TyRow := [
 noTy,
 noTy,
 ⟨1, 8, [.int .i64 0], .int .i64, false⟩,
 ⟨1, 8, [.int .i64 0], .int .i64, false⟩,
 ⟨1, 1, [.bool false], .bool, false⟩,
 ⟨1, 1, [.int .u8 0], .int .u8, false⟩,
 ⟨1, 1, [.int .u8 0], .int .u8, false⟩,
 noTy,
 noTy,
 ⟨1, 16, [.str []], .string, false⟩,
 noTy,
 noTy,
 noTy,
 noTy,
 noTy,
 noTy,
 noTy,
 noTy,
 noTy,
 noTy,
 noTy,
 noTy,
 ⟨5, 5, [.int .u8 0, .int .u8 0, .int .u8 0, .int .u8 0, .int .u8 0], .array 5 5, false⟩,
 ⟨25, 25, [.int .u8 0, .int .u8 0, .int .u8 0, .int .u8 0, .int .u8 0, .int .u8 0, .int .u8 0, .int .u8 0, .int .u8 0, .int .u8 0, .int .u8 0, .int .u8 0, .int .u8 0, .int .u8 0, .int .u8 0, .int .u8 0, .int .u8 0, .int .u8 0, .int .u8 0, .int .u8 0, .int .u8 0, .int .u8 0, .int .u8 0, .int .u8 0, .int .u8 0], .array 5 22, false⟩,
 noTy,
 ⟨37, 37, [.int .u8 0, .int .u8 0, .int .u8 0, .int .u8 0, .int .u8 0, .int .u8 0, .int .u8 0, .int .u8 0, .int .u8 0, .int .u8 0, .int .u8 0, .int .u8 0, .int .u8 0, .int .u8 0, .int .u8 0, .int .u8 0, .int .u8 0, .int .u8 0, .int .u8 0, .int .u8 0, .int .u8 0, .int .u8 0, .int .u8 0, .int .u8 0, .int .u8 0, .int .u8 0, .int .u8 0, .int .u8 0, .int .u8 0, .int .u8 0, .int .u8 0, .int .u8 0, .int .u8 0, .int .u8 0, .int .u8 0, .int .u8 0, .int .u8 0], .struct [(0, 5), (1, 5), (2, 22), (7, 22), (12, 23)], false⟩,
 ⟨1, 1, [.int .i8 0], .int .i8, false⟩,
 ⟨6, 6, [.int .i8 0, .int .i8 0, .int .i8 0, .int .i8 0, .int .i8 0, .int .i8 0], .array 6 26, false⟩,
 noTy,
 ⟨1, 24, [.nil], .slice 3, false⟩,
 ⟨1, 24, [.nil], .slice 66, false⟩,
 noTy,
 ⟨2, 48, [.nil, .nil], .struct [(0, 29), (1, 30)], false⟩,
 noTy,
 noTy,
 noTy,
 ⟨2, 32, [.nil, .int .i64 0], .struct [(0, 29), (1, 3)], false⟩,
 noTy,
 ⟨5, 5, [.int .i8 0, .int .i8 0, .int .i8 0, .int .i8 0, .int .i8 0], .array 5 26, false⟩,
 ⟨1, 24, [.nil], .slice 96, false⟩,
 noTy,
 ⟨4, 80, [.nil, .int .i64 0, .nil, .nil], .struct [(0, 29), (1, 3), (2, 29), (3, 39)], false⟩,
 ⟨1, 24, [.nil], .slice 29, false⟩,
 ⟨1, 8, [.int .i64 0], .int .i64, false⟩,
 noTy,
 noTy,
 noTy,
 noTy,
 ⟨1, 24, [.nil], .slice 142, false⟩,
 noTy,
 ⟨3, 72, [.nil, .nil, .nil], .struct [(0, 29), (1, 29), (2, 48)], false⟩,
 noTy,
 ⟨9, 184, [.nil, .nil, .nil, .int .i64 0, .nil, .int .i64 0, .nil, .nil, .nil], .struct [(0, 50), (3, 3), (4, 41), (8, 29)], false⟩,
 noTy,
 noTy,
 noTy,
 noTy,
 noTy,
 noTy,
 noTy,
 noTy,
 noTy,
 noTy,
 noTy,
 ⟨1, 24, [.nil], .slice 84, false⟩,
 noTy,
 ⟨3, 56, [.int .i64 0, .nil, .nil], .struct [(0, 3), (1, 64), (2, 64)], false⟩,
 noTy,
 noTy,
 noTy,
 noTy,
 noTy,
 noTy,
 noTy,
 noTy,
 noTy,
 noTy,
 noTy,
 noTy,
 noTy,
 noTy,
 noTy,
 noTy,
 noTy,
 ⟨2, 16, [.int .i64 0, .int .i64 0], .struct [(0, 3), (1, 3)], true⟩,
 noTy,
 noTy,
 ⟨1, 8, [.raw (.pointer none)], .one, false⟩,
 noTy,
 noTy,
 ⟨1, 8, [.raw (.map none)], .map 98 3, false⟩,
 ⟨1, 24, [.nil], .slice 103, false⟩,
 ⟨1, 8, [.raw (.map none)], .map 9 3, false⟩,
 noTy,
 ⟨4, 64, [.nil, .nil, .raw (.map none), .int .i64 0], .struct [(0, 91), (1, 39), (2, 92), (3, 3)], false⟩,
 noTy,
 ⟨3, 24, [.int .i64 0, .int .i64 0, .int .i64 0], .struct [(0, 3), (1, 3), (2, 3)], true⟩,
 noTy,
 ⟨2, 16, [.int .i64 0, .int .i64 0], .struct [(0, 3), (1, 3)], true⟩,
 noTy,
 noTy,
 ⟨1, 8, [.raw (.map none)], .map 3 3, false⟩,
 noTy,
 ⟨3, 40, [.nil, .int .i64 0, .int .i64 0], .struct [(0, 29), (1, 3), (2, 3)], false⟩,
 noTy,
 noTy,
 ⟨1, 8, [.raw .nilFunc], .one, false⟩,
 noTy,
 noTy,
 noTy,
 noTy,
 noTy,
 noTy,
 noTy,
 ⟨1, 8, [.raw .nilFunc], .one, false⟩,
 noTy,
 noTy,
 noTy,
 noTy,
 noTy,
 noTy,
 noTy,
 noTy,
 noTy,
 noTy,
 noTy,
 noTy,
 noTy,
 noTy,
 noTy,
 noTy,
 noTy,
 noTy,
 ⟨1, 24, [.nil], .slice 64, false⟩,
 noTy,
 noTy,
 noTy,
 noTy,
 noTy,
 ⟨1, 8, [.raw (.pointer none)], .one, false⟩,
 noTy,
 noTy,
 ⟨4, 32, [.int .i64 0, .int .i64 0, .int .i64 0, .int .i64 0], .struct [(0, 3), (1, 3), (2, 3), (3, 3)], true⟩,
 noTy,
 ⟨1, 8, [.raw (.map none)], .map 3 29, false⟩,
 ⟨1, 24, [.nil], .slice 4, false⟩,
 noTy,
 ⟨7, 136, [.nil, .int .i64 0, .nil, .nil, .nil, .raw (.map none), .nil], .struct [(0, 41), (4, 29), (5, 144), (6, 145)], false⟩,
 noTy,
 ⟨1, 8, [.raw .nilFunc], .one, false⟩,
 noTy,
 noTy,
 noTy,
 noTy,
 noTy,
 noTy,
 noTy,
 ⟨1, 8, [.raw .nilFunc], .one, false⟩,
 noTy,
 ⟨1, 8, [.raw (.pointer none)], .one, false⟩,
 noTy,
 noTy,
 noTy,
 ⟨2, 16, [.int .i64 0, .int .i64 0], .array 2 3, false⟩,
 ⟨2, 16, [.int .i64 0, .int .i64 0], .array 2 3, false⟩,
 ⟨1, 8, [.raw .nilFunc], .one, false⟩,
 noTy,
 noTy,
 noTy,
 noTy,
 noTy,
 noTy,
 noTy,
 noTy,
 noTy,
 noTy,
 noTy,
 noTy,
 noTy,
 noTy,
 noTy,
 noTy,
 noTy,
 noTy,
 noTy,
 noTy,
 noTy,
 noTy,
 noTy,
 noTy,
 noTy,
 noTy,
 noTy,
 ⟨1, 8, [.int .u64 0], .int .u64, false⟩,
 noTy,
 noTy,
 ⟨1, 24, [.nil], .slice 39, false⟩,
 noTy,
 ⟨1, 24, [.nil], .slice 41, false⟩,
 ⟨1, 8, [.raw (.map none)], .map 163 3, false⟩,
 ⟨1, 8, [.raw (.map none)], .map 3 4, false⟩,
 noTy,
 ⟨3, 24, [.raw (.map none), .raw (.map none), .int .i64 0], .struct [(0, 199), (1, 200), (2, 3)], false⟩,
 noTy,
 ⟨4, 32, [.int .i64 0, .int .i64 0, .int .i64 0, .int .i64 0], .struct [(0, 164), (2, 3), (3, 3)], false⟩,
 ⟨1, 24, [.nil], .slice 204, false⟩,
 ⟨1, 8, [.raw (.map none)], .map 164 4, false⟩,
 noTy,
 noTy,
 ⟨1, 8, [.raw .nilFunc], .one, false⟩,
 noTy,
 noTy,
 noTy,
 ⟨1, 8, [.raw .nilFunc], .one, false⟩,
 noTy,
 noTy,
 noTy,
 noTy,
 noTy,
 noTy,
 noTy,
 noTy,
 noTy,
 noTy,
 noTy,
 noTy,
 noTy,
 noTy,
 noTy,
 noTy,
 noTy,
 noTy,
 noTy,
 noTy,
 noTy,
 noTy,
 noTy,
 noTy,
 noTy,
 noTy,
 noTy,
 noTy,
 noTy,
 noTy,
 noTy,
 noTy,
 noTy,
 noTy,
 noTy,
 noTy,
 noTy,
 noTy,
 noTy,
 noTy,
 noTy,
 noTy,
 noTy,
 noTy,
 noTy,
 noTy,
 noTy,
 noTy,
 noTy,
 noTy,
 noTy,
 noTy,
 noTy,
 noTy,
 noTy,
 noTy,
 noTy,
 noTy,
 noTy,
 noTy,
 noTy,
 noTy,
 noTy,
 noTy,
 noTy,
 noTy,
 noTy,
 noTy,
 noTy,
 noTy,
 noTy,
 noTy,
 noTy,
 noTy,
 noTy,
 noTy,
 noTy,
 noTy,
 noTy,
 noTy,
 noTy,
 noTy,
 noTy,
 noTy,
 noTy,
 noTy,
 noTy,
 noTy,
 noTy,
 noTy]
def Ty : Tab := fun t => tyL.getD t noTy
theorem Ty_ok : TabOk Tryz.prog Ty := zgz _ _ (by kernel_rfl)
theorem mixed : Tryz.prog.follows .mixedOrders = true := by kernel_rfl
theorem Ty_2 : Ty 2 = ⟨1, 8, [.int .i64 0], .int .i64, false⟩ := rfl
theorem Ty_3 : Ty 3 = ⟨1, 8, [.int .i64 0], .int .i64, false⟩ := rfl
theorem Ty_4 : Ty 4 = ⟨1, 1, [.bool false], .bool, false⟩ := rfl
theorem Ty_5 : Ty 5 = ⟨1, 1, [.int .u8 0], .int .u8, false⟩ := rfl
theorem Ty_6 : Ty 6 = ⟨1, 1, [.int .u8 0], .int .u8, false⟩ := rfl
theorem Ty_9 : Ty 9 = ⟨1, 16, [.str []], .string, false⟩ := rfl
theorem Ty_22 : Ty 22 = ⟨5, 5, [.int .u8 0, .int .u8 0, .int .u8 0, .int .u8 0, .int .u8 0], .array 5 5, false⟩ := rfl
theorem Ty_23 : Ty 23 = ⟨25, 25, [.int .u8 0, .int .u8 0, .int .u8 0, .int .u8 0, .int .u8 0, .int .u8 0, .int .u8 0, .int .u8 0, .int .u8 0, .int .u8 0, .int .u8 0, .int .u8 0, .int .u8 0, .int .u8 0, .int .u8 0, .int .u8 0, .int .u8 0, .int .u8 0, .int .u8 0, .int .u8 0, .int .u8 0, .int .u8 0, .int .u8 0, .int .u8 0, .int .u8 0], .array 5 22, false⟩ := rfl
theorem Ty_25 : Ty 25 = ⟨37, 37, [.int .u8 0, .int .u8 0, .int .u8 0, .int .u8 0, .int .u8 0, .int .u8 0, .int .u8 0, .int .u8 0, .int .u8 0, .int .u8 0, .int .u8 0, .int .u8 0, .int .u8 0, .int .u8 0, .int .u8 0, .int .u8 0, .int .u8 0, .int .u8 0, .int .u8 0, .int .u8 0, .int .u8 0, .int .u8 0, .int .u8 0, .int .u8 0, .int .u8 0, .int .u8 0, .int .u8 0, .int .u8 0, .int .u8 0, .int .u8 0, .int .u8 0, .int .u8 0, .int .u8 0, .int .u8 0, .int .u8 0, .int .u8 0, .int .u8 0], .struct [(0, 5), (1, 5), (2, 22), (7, 22), (12, 23)], false⟩ := rfl
theorem Ty_26 : Ty 26 = ⟨1, 1, [.int .i8 0], .int .i8, false⟩ := rfl
theorem Ty_27 : Ty 27 = ⟨6, 6, [.int .i8 0, .int .i8 0, .int .i8 0, .int .i8 0, .int .i8 0, .int .i8 0], .array 6 26, false⟩ := rfl
theorem Ty_29 : Ty 29 = ⟨1, 24, [.nil], .slice 3, false⟩ := rfl
theorem Ty_30 : Ty 30 = ⟨1, 24, [.nil], .slice 66, false⟩ := rfl
theorem Ty_32 : Ty 32 = ⟨2, 48, [.nil, .nil], .struct [(0, 29), (1, 30)], false⟩ := rfl
theorem Ty_36 : Ty 36 = ⟨2, 32, [.nil, .int .i64 0], .struct [(0, 29), (1, 3)], false⟩ := rfl
theorem Ty_38 : Ty 38 = ⟨5, 5, [.int .i8 0, .int .i8 0, .int .i8 0, .int .i8 0, .int .i8 0], .array 5 26, false⟩ := rfl
theorem Ty_39 : Ty 39 = ⟨1, 24, [.nil], .slice 96, false⟩ := rfl
theorem Ty_41 : Ty 41 = ⟨4, 80, [.nil, .int .i64 0, .nil, .nil], .struct [(0, 29), (1, 3), (2, 29), (3, 39)], false⟩ := rfl
theorem Ty_42 : Ty 42 = ⟨1, 24, [.nil], .slice 29, false⟩ := rfl
theorem Ty_43 : Ty 43 = ⟨1, 8, [.int .i64 0], .int .i64, false⟩ := rfl
theorem Ty_48 : Ty 48 = ⟨1, 24, [.nil], .slice 142, false⟩ := rfl
theorem Ty_50 : Ty 50 = ⟨3, 72, [.nil, .nil, .nil], .struct [(0, 29), (1, 29), (2, 48)], false⟩ := rfl
theorem Ty_52 : Ty 52 = ⟨9, 184, [.nil, .nil, .nil, .int .i64 0, .nil, .int .i64 0, .nil, .nil, .nil], .struct [(0, 50), (3, 3), (4, 41), (8, 29)], false⟩ := rfl
theorem Ty_64 : Ty 64 = ⟨1, 24, [.nil], .slice 84, false⟩ := rfl
theorem Ty_66 : Ty 66 = ⟨3, 56, [.int .i64 0, .nil, .nil], .struct [(0, 3), (1, 64), (2, 64)], false⟩ := rfl
theorem Ty_84 : Ty 84 = ⟨2, 16, [.int .i64 0, .int .i64 0], .struct [(0, 3), (1, 3)], true⟩ := rfl
theorem Ty_87 : Ty 87 = ⟨1, 8, [.raw (.pointer none)], .one, false⟩ := rfl
theorem Ty_90 : Ty 90 = ⟨1, 8, [.raw (.map none)], .map 98 3, false⟩ := rfl
theorem Ty_91 : Ty 91 = ⟨1, 24, [.nil], .slice 103, false⟩ := rfl
theorem Ty_92 : Ty 92 = ⟨1, 8, [.raw (.map none)], .map 9 3, false⟩ := rfl
theorem Ty_94 : Ty 94 = ⟨4, 64, [.nil, .nil, .raw (.map none), .int .i64 0], .struct [(0, 91), (1, 39), (2, 92), (3, 3)], false⟩ := rfl
theorem Ty_96 : Ty 96 = ⟨3, 24, [.int .i64 0, .int .i64 0, .int .i64 0], .struct [(0, 3), (1, 3), (2, 3)], true⟩ := rfl
theorem Ty_98 : Ty 98 = ⟨2, 16, [.int .i64 0, .int .i64 0], .struct [(0, 3), (1, 3)], true⟩ := rfl
theorem zkp : Ty 101 = ⟨1, 8, [.raw (.map none)], .map 3 3, false⟩ := rfl
theorem zko : Ty 103 = ⟨3, 40, [.nil, .int .i64 0, .int .i64 0], .struct [(0, 29), (1, 3), (2, 3)], false⟩ := rfl
theorem zkn : Ty 106 = ⟨1, 8, [.raw .nilFunc], .one, false⟩ := rfl
theorem zkm : Ty 114 = ⟨1, 8, [.raw .nilFunc], .one, false⟩ := rfl
theorem zkl : Ty 133 = ⟨1, 24, [.nil], .slice 64, false⟩ := rfl
theorem zkk : Ty 139 = ⟨1, 8, [.raw (.pointer none)], .one, false⟩ := rfl
theorem zkj : Ty 142 = ⟨4, 32, [.int .i64 0, .int .i64 0, .int .i64 0, .int .i64 0], .struct [(0, 3), (1, 3), (2, 3), (3, 3)], true⟩ := rfl
theorem zki : Ty 144 = ⟨1, 8, [.raw (.map none)], .map 3 29, false⟩ := rfl
theorem zkh : Ty 145 = ⟨1, 24, [.nil], .slice 4, false⟩ := rfl
theorem zkg : Ty 147 = ⟨7, 136, [.nil, .int .i64 0, .nil, .nil, .nil, .raw (.map none), .nil], .struct [(0, 41), (4, 29), (5, 144), (6, 145)], false⟩ := rfl
theorem zkf : Ty 149 = ⟨1, 8, [.raw .nilFunc], .one, false⟩ := rfl
theorem zke : Ty 157 = ⟨1, 8, [.raw .nilFunc], .one, false⟩ := rfl
theorem zkd : Ty 159 = ⟨1, 8, [.raw (.pointer none)], .one, false⟩ := rfl
theorem zkc : Ty 163 = ⟨2, 16, [.int .i64 0, .int .i64 0], .array 2 3, false⟩ := rfl
theorem zkb : Ty 164 = ⟨2, 16, [.int .i64 0, .int .i64 0], .array 2 3, false⟩ := rfl
theorem zka : Ty 165 = ⟨1, 8, [.raw .nilFunc], .one, false⟩ := rfl
theorem zk9 : Ty 193 = ⟨1, 8, [.int .u64 0], .int .u64, false⟩ := rfl
theorem zk8 : Ty 196 = ⟨1, 24, [.nil], .slice 39, false⟩ := rfl
theorem zk7 : Ty 198 = ⟨1, 24, [.nil], .slice 41, false⟩ := rfl
theorem zk6 : Ty 199 = ⟨1, 8, [.raw (.map none)], .map 163 3, false⟩ := rfl
theorem zk5 : Ty 200 = ⟨1, 8, [.raw (.map none)], .map 3 4, false⟩ := rfl
theorem zk4 : Ty 202 = ⟨3, 24, [.raw (.map none), .raw (.map none), .int .i64 0], .struct [(0, 199), (1, 200), (2, 3)], false⟩ := rfl
theorem zk3 : Ty 204 = ⟨4, 32, [.int .i64 0, .int .i64 0, .int .i64 0, .int .i64 0], .struct [(0, 164), (2, 3), (3, 3)], false⟩ := rfl
theorem zk2 : Ty 205 = ⟨1, 24, [.nil], .slice 204, false⟩ := rfl
theorem zk1 : Ty 206 = ⟨1, 8, [.raw (.map none)], .map 164 4, false⟩ := rfl
theorem zk0 : Ty 209 = ⟨1, 8, [.raw .nilFunc], .one, false⟩ := rfl
theorem zjZ : Ty 213 = ⟨1, 8, [.raw .nilFunc], .one, false⟩ := rfl
attribute [go_sem] Ty_2 Ty_3 Ty_4 Ty_5 Ty_6 Ty_9 Ty_22 Ty_23 Ty_25 Ty_26 Ty_27 Ty_29 Ty_30 Ty_32 Ty_36 Ty_38 Ty_39 Ty_41 Ty_42 Ty_43 Ty_48 Ty_50 Ty_52 Ty_64 Ty_66 Ty_84 Ty_87 Ty_90 Ty_91 Ty_92 Ty_94 Ty_96 Ty_98 zkp zko zkn zkm zkl zkk zkj zki zkh zkg zkf zke zkd zkc zkb zka zk9 zk8 zk7 zk6 zk5 zk4 zk3 zk2 zk1 zk0 zjZ
end Go.Proofs.YtkjllcmpjghmkaaGreatDoor
