/-
 Chapter 05: the law NondeterministicDeterminizes.
-/
import Derived.Test.YtgagpbbnbonnlaaDoorZK
import Derived.Test.YtgagpbbnbonnlaaDoorZM
import Derived.Test.YtgagpbbnbonnlaaDoorZXD
set_option linter.unusedSimpArgs false
set_option linter.unusedVariables false
namespace Go.Proofs.YtgagpbbnbonnlaaDoor
open Go.Eng Go.RowKit
theorem Dft.good' (d : Dft) : DGood d.na d.n := by
 have h := dgood_of d.fits d.chk
 have e : d.na.states.toNat = d.n := Int.toNat_natCast d.n
 rwa [e] at h
theorem detIn_es (st : List Int → Int → List Int) (i : Nat) (s : List Int) : ∀ (al : List Int) (sets : List (List Int)) (es : List Ed), (detIn st i s al sets es).2.length ≤ es.length + al.length
 | [], sets, es => by simp [detIn]
 | x :: al, sets, es => by
  rw [detIn]
  split
  ·have := detIn_es st i s al sets es
   simp only [List.length_cons]; omega
  ·split
   ·rename_i k _
    have := detIn_es st i s al sets (es ++ [⟨i, x, k⟩])
    simp only [List.length_append, List.length_cons, List.length_nil] at this ⊢; omega
   ·have := detIn_es st i s al (sets ++ [st s x]) (es ++ [⟨i, x, sets.length⟩])
    simp only [List.length_append, List.length_cons, List.length_nil] at this ⊢; omega
theorem det_sizes {st : List Int → Int → List Int} {mt : List Int → Bool} {al : List Int} {lim : Nat} : ∀ (f i : Nat) (sets : List (List Int)) (mk : List Int) (es : List Ed) {r : List (List Int) × List Int × List Ed}, detOut st mt al lim f i sets mk es = some r → i ≤ sets.length → mk.length ≤ i → es.length ≤ al.length * i → r.2.1.length ≤ r.1.length ∧ r.2.2.length ≤ al.length * r.1.length
 | 0, i, sets, mk, es, r, h, _, _, _ => by cases h
 | f + 1, i, sets, mk, es, r, h, hi, hm, he => by
  rw [detOut] at h
  split at h
  ·rename_i hlt
   split at h
   ·cases h
   ·obtain ⟨⟨x, hx⟩, _⟩ := detIn_prefix st i (sets.getD i []) al sets es
    refine det_sizes f (i + 1) _ _ _ h (by rw [hx, List.length_append]; omega) (by split <;> (try simp only [List.length_append, List.length_singleton]) <;> omega) ?_
    have := detIn_es st i (sets.getD i []) al sets es
    rw [Nat.mul_add, Nat.mul_one]
    omega
  ·cases h
   have e : i = sets.length := by omega
   subst e
   exact ⟨hm, he⟩
theorem Dft.det (d : Dft) : ∃ r, detN d.na (-1) = some r ∧ r.1.length ≤ 32 ∧ (∀ s ∈ r.1, s.length ≤ 5) ∧ r.2.1.length ≤ 32 ∧ r.2.2.length ≤ 128 := by
 have h5 := d.n_lt
 obtain ⟨r, hr, hD⟩ := detN_some d.ok (-1) (show ((d.n : Nat) : Int) ≤ 12 by omega)
 have hn : d.na.states.toNat = d.n := Int.toNat_natCast d.n
 rw [hn] at hD
 have hl : r.1.length ≤ 2 ^ 5 := Nat.le_trans hD.le (Nat.pow_le_pow_right (by decide) (by omega))
 have hs := det_sizes _ _ _ _ _ hr (by omega) (by simp) (by simp)
 have ha := d.al_len
 have hal : d.na.alpha.length ≤ 4 := ha
 have hm : d.na.alpha.length * r.1.length ≤ 4 * 32 := Nat.mul_le_mul hal hl
 exact ⟨r, hr, hl, fun s hs => by have := inc_len (hD.set s hs).2.1 (hD.set s hs).2.2; omega, by omega, by omega⟩
end Go.Proofs.YtgagpbbnbonnlaaDoor
