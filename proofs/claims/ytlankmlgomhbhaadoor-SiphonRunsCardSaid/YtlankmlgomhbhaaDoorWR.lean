/-
 Chapter 49: the law's statement SiphonStays.
-/
import Derived.Test.YtlankmlgomhbhaaDoorWM
import Derived.Test.YtlankmlgomhbhaaDoorSB
set_option linter.unusedSimpArgs false
set_option linter.unusedVariables false
namespace Go.Proofs.YtlankmlgomhbhaaDoor
open Go.Eng Go.RowKit
theorem shape_net (s : Nat → Int) (hs : Bytes s) : (makeNet s).Fits ∧ NetOk (makeNet s) ∧ 1 ≤ (makeNet s).init.length ∧ (makeNet s).init.length ≤ 5 ∧ netE (makeNet s) = 0 ∧ (makeNet s).init ≠ [] := by
 have h := makeNet_ok s hs
 have hok := netOk_of h
 have hl : (makeNet s).init.length = np s := initL_length s (np s)
 have h0 := (hs 0)
 have hl1 : 1 ≤ np s ∧ np s ≤ 5 := by
  unfold np
  omega
 exact ⟨hok.fits, hok, by omega, by omega, h, by intro e; rw [e] at hl; simp at hl; omega⟩
/-! what a transition does to a siphon, and to a trap -/
theorem and_u8 (a b : Nat) (ha : a < 256) (hb : b < 256) : bitV .and .u8 (a : Int) (b : Int) = ((a &&& b : Nat) : Int) := by
 have hlt : a &&& b < 256 := Nat.lt_of_le_of_lt Nat.and_le_left ha
 have e : (BitVec.ofInt IntKind.u8.bits (a : Int) &&& BitVec.ofInt IntKind.u8.bits (b : Int)).toNat = a &&& b := by
  rw [ofInt_nat, ofInt_nat, BitVec.toNat_and, BitVec.toNat_ofNat, BitVec.toNat_ofNat]
  show (a % 256) &&& (b % 256) = _
  rw [Nat.mod_eq_of_lt ha, Nat.mod_eq_of_lt hb]
 simp only [bitV, e]
 exact wrap_u8 _ (by omega) (by omega)
theorem bit_u8 (m k : Nat) (hm : m < 256) (hk : k < 8) : bitV .and .u8 ((m : Int).fdiv (2 ^ min k 8)) 1 = 1 ↔ m.testBit k = true := by
 rw [Nat.min_eq_left (by omega), fdiv_nat, show (1 : Int) = ((1 : Nat) : Int) from rfl, and_u8 _ _ (Nat.lt_of_le_of_lt (Nat.div_le_self _ _) hm) (by omega), Nat.testBit_eq_decide_div_mod_eq, decide_eq_true_iff, Nat.and_one_is_mod]
 generalize m / 2 ^ k = q
 omega
end Go.Proofs.YtlankmlgomhbhaaDoor
