/-
  Bits of unsigned numbers, in natural numbers.
-/
import Derived.Test.YtjldfifepbdlmaaDoorEngP
set_option linter.unusedSimpArgs false
set_option linter.unusedVariables false
namespace Go.Eng
theorem wrap_u32 (z : Int) (h0 : 0 ≤ z) (h1 : z < 4294967296) : IntKind.u32.wrap z = z := by
  have : IntKind.u32.wrap z = z % 4294967296 := rfl
  rw [this]; omega
theorem wrap_u64 (z : Int) (h0 : 0 ≤ z) (h1 : z < 18446744073709551616) : IntKind.u64.wrap z = z := by
  have : IntKind.u64.wrap z = z % 18446744073709551616 := rfl
  rw [this]; omega
theorem wrap_u8 (z : Int) (h0 : 0 ≤ z) (h1 : z < 256) : IntKind.u8.wrap z = z := by
  have : IntKind.u8.wrap z = z % 256 := rfl
  rw [this]; omega
theorem ofInt_nat (n m : Nat) : BitVec.ofInt n (m : Int) = BitVec.ofNat n m := by
  simp
theorem and_u32 (a b : Nat) (ha : a < 4294967296) (hb : b < 4294967296) : bitV .and .u32 (a : Int) (b : Int) = ((a &&& b : Nat) : Int) := by
  have hlt : a &&& b < 4294967296 := Nat.lt_of_le_of_lt Nat.and_le_left ha
  have e : (BitVec.ofInt IntKind.u32.bits (a : Int) &&& BitVec.ofInt IntKind.u32.bits (b : Int)).toNat = a &&& b := by
    rw [ofInt_nat, ofInt_nat, BitVec.toNat_and, BitVec.toNat_ofNat, BitVec.toNat_ofNat]
    show (a % 4294967296) &&& (b % 4294967296) = _
    rw [Nat.mod_eq_of_lt ha, Nat.mod_eq_of_lt hb]
  simp only [bitV, e]
  exact wrap_u32 _ (by omega) (by omega)
theorem or_u32 (a b : Nat) (ha : a < 4294967296) (hb : b < 4294967296) : bitV .or .u32 (a : Int) (b : Int) = ((a ||| b : Nat) : Int) := by
  have hlt : a ||| b < 2 ^ 32 := Nat.or_lt_two_pow (by simpa using ha) (by simpa using hb)
  have e : (BitVec.ofInt IntKind.u32.bits (a : Int) ||| BitVec.ofInt IntKind.u32.bits (b : Int)).toNat = a ||| b := by
    rw [ofInt_nat, ofInt_nat, BitVec.toNat_or, BitVec.toNat_ofNat, BitVec.toNat_ofNat]
    show (a % 4294967296) ||| (b % 4294967296) = _
    rw [Nat.mod_eq_of_lt ha, Nat.mod_eq_of_lt hb]
  simp only [bitV, e]
  exact wrap_u32 _ (by omega) (by omega)
theorem fdiv_nat (m j : Nat) : ((m : Int).fdiv (2 ^ j)) = ((m / 2 ^ j : Nat) : Int) := by
  rw [Int.fdiv_eq_ediv_of_nonneg _ (Int.le_of_lt (Int.pow_pos (by omega)))]
  simp
theorem pow_nat (j : Nat) : ((2 : Int) ^ j) = ((2 ^ j : Nat) : Int) := by simp
theorem callSafe_r0 {as : List AV} {r : AV} (h : r.flatOwn = true) : callSafe as r [] := .inr ⟨h, fun o ho => by cases ho⟩
theorem callSafe_r1 {as : List AV} {r : AV} {e : TypeId} {sz : Nat} {rows : List (List D)} (h : r.flatOwn = true) (hr : ∀ row ∈ rows, row.all D.flat = true) : callSafe as r [.row e sz rows] := .inr ⟨h, fun o ho => by
  rcases List.mem_singleton.1 ho with rfl
  exact hr⟩
attribute [go_sem] Bool.false_or Bool.or_false Bool.true_or Bool.or_true Bool.and_false Bool.false_and or_false or_true true_or and_false false_and
end Go.Eng
