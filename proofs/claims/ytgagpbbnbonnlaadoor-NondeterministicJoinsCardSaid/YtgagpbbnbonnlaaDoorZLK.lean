/-
 Chapter 05: the law NondeterministicKeeps.
-/
import Derived.Test.YtgagpbbnbonnlaaDoorZLD
import Derived.Test.YtgagpbbnbonnlaaDoorZV
import Derived.Test.YtgagpbbnbonnlaaDoorZW
set_option linter.unusedSimpArgs false
set_option linter.unusedVariables false
namespace Go.Proofs.YtgagpbbnbonnlaaDoor
open Go.Eng Go.RowKit
def u8D (us : List Int) : List (List D) := us.map fun z => [.int .u8 z]
theorem u8D_length (us : List Int) : (u8D us).length = us.length := by simp [u8D]
theorem u8D_at {us : List Int} {k : Nat} (hk : k < us.length) (z : List D) : (u8D us).getD k z = [.int .u8 (us.getD k 0)] := by
 simp only [u8D, List.getD, List.getElem?_map, List.getElem?_eq_getElem hk]; rfl
theorem u8D_sz (us : List Int) : (∀ r : List D, r ∈ u8D us → r.length = 1) ↔ True := ⟨fun _ => trivial, fun _ r hr => by obtain ⟨e, _, rfl⟩ := List.mem_map.1 hr; rfl⟩
attribute [go_sem] u8D_length u8D_sz
def wdL (al us : List Int) : List Int := if al = [] then [] else us.map fun z => al.getD (z.toNat % al.length) 0
theorem wdL_in {al us : List Int} : ∀ x ∈ wdL al us, x ∈ al := by
 intro x hx
 unfold wdL at hx
 split at hx
 ·cases hx
 ·rename_i h
  obtain ⟨z, _, rfl⟩ := List.mem_map.1 hx
  exact getD_mem al _ 0 (Nat.mod_lt _ (List.length_pos_iff.2 h))
theorem wdL_length (al us : List Int) : (wdL al us).length ≤ us.length := by unfold wdL; split <;> simp
theorem wdL_succ {al : List Int} (us : List Int) (k : Nat) (h : k < us.length) (ha : 0 < al.length) : wdL al (us.take (k + 1)) = wdL al (us.take k) ++ [al.getD ((us.getD k 0).toNat % al.length) 0] := by
 have h0 : al ≠ [] := List.length_pos_iff.1 ha
 rw [wdL, wdL, if_neg h0, if_neg h0, take_succ_getD us k 0 h, List.map_append]; rfl
theorem wdL_len {al : List Int} (us : List Int) (k : Nat) (h : k ≤ us.length) (ha : 0 < al.length) : (wdL al (us.take k)).length = k := by
 rw [wdL, if_neg (List.length_pos_iff.1 ha), List.length_map, List.length_take]; omega
theorem aftE_ok {a : NA} {w : List Int} (h : chkNA a = 0) (hl : w.length ≤ 4096) (hw : ∀ x ∈ w, x ∈ a.alpha) : aftE a w = 0 := by
 rw [aftE, if_neg (by omega), wrdE, if_neg (by omega), if_neg ?_]
 rw [badW, List.any_eq_true]
 rintro ⟨x, hx, h⟩
 simp [hw x hx] at h
theorem aftV_of {a : NA} {w : List Int} (h : aftE a w = 0) : aftV a w = aftA a (-1) w := by rw [aftV, if_pos h]
theorem accV_of {a : NA} {w : List Int} (h : aftE a w = 0) : accV a w = metL (aftA a (-1) w) a.marked := by
 rw [accV, decide_eq_true h, aftV_of h]; rfl
end Go.Proofs.YtgagpbbnbonnlaaDoor
