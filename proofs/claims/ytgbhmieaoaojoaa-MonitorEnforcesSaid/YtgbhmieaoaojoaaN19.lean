/-
 The net with a control place: what is enabled, what firing does.
-/
import Derived.Test.YtgbhmieaoaojoaaN17
import Derived.Test.YtgbhmieaoaojoaaN15
set_option linter.unusedSimpArgs false
set_option linter.unusedVariables false
namespace Go.Proofs.Ytgbhmieaoaojoaa
open Go.Eng Go.RowKit
theorem trsE_of (places : Int) : ∀ l : List Tr, (∀ t ∈ l, trE places t = 0) → trsE places l = 0
 | [], _ => rfl
 | a :: l, h => by
  rw [trsE, if_neg (by rw [h a (by simp)]; omega)]
  exact trsE_of places l fun t ht => h t (by simp [ht])
theorem tokB_false {x : Int} (h : 0 ≤ x ∧ x ≤ 65536) : tokB x = false := by
 simp only [tokB, Bool.or_eq_false_iff, decide_eq_false_iff_not]; omega
theorem any_tok {l : List Int} (h : ∀ x ∈ l, 0 ≤ x ∧ x ≤ 65536) : l.any tokB = false := by
 rw [List.any_eq_false]
 intro x hx
 rw [tokB_false (h x hx)]; decide
theorem netE_of {n : Net} (h : NetOk n) : netE n = 0 := by
 have h1 := h.init
 have h2 := h.trs
 rw [netE, if_neg (by omega), if_neg (by rw [any_tok h.tok]; decide), if_neg (by omega)]
 refine trsE_of _ _ fun t ht => ?_
 have e1 : arcsOk n.init.length t.inn = 0 := arcsE_of _ _ none (h.inn t ht) (fun q e => by cases e)
 have e2 : arcsOk n.init.length t.out = 0 := arcsE_of _ _ none (h.out t ht) (fun q e => by cases e)
 have h3 := h.ev t ht
 rw [trE, if_neg (by omega), if_neg (by omega)]
 exact e2
theorem arcsIn_snoc {p : Nat} {l : List Arc} {E : Int} (h : ArcsIn p l) (hE : 1 ≤ E ∧ E ≤ 8) : ArcsIn (p + 1) (l ++ [⟨p, E⟩]) := by
 refine ⟨fun a ha => ?_, fun a ha => ?_, List.pairwise_append.2 ⟨h.ord, List.pairwise_singleton _ _, fun a ha b hb => ?_⟩⟩
 ·rcases List.mem_append.1 ha with ha | ha
  ·have := h.place a ha; omega
  ·simp at ha; subst ha; simp only; omega
 ·rcases List.mem_append.1 ha with ha | ha
  ·exact h.weight a ha
  ·simp at ha; subst ha; exact hE
 ·simp at hb; subst hb
  have := h.place a ha
  simp only; omega
theorem arcsIn_up {p : Nat} {l : List Arc} (h : ArcsIn p l) : ArcsIn (p + 1) l := ⟨fun a ha => by have := h.place a ha; omega, h.weight, h.ord⟩
structure MonOk (n : Net) (c : Con) : Prop where
 ok : NetOk n
 len : c.fac.length = n.init.length
 sm : Sm 16 c.fac
 few : n.init.length < 10
 rest : 0 ≤ c.bound - dot c.fac n.init ∧ c.bound - dot c.fac n.init ≤ 65536
 eff : ∀ t ∈ n.trs, -8 ≤ effT c.fac t ∧ effT c.fac t ≤ 8
theorem monOk_of {n : Net} {c : Con} (h : monE n c = 0) : MonOk n c ∧ conE n c = 0 ∧ monL n c = monNet n c := by
 have h0 := h
 unfold monE at h
 split at h
 ·rename_i h1; exact absurd h h1
 rename_i h1
 split at h
 ·cases h
 rename_i h2
 split at h
 ·cases h
 rename_i h3
 have hc : conE n c = 0 := by omega
 obtain ⟨q1, q2, q3, q4, q5⟩ := conOk_of hc
 have hn := netOk_of q1
 have hi := hn.init
 refine ⟨⟨hn, q2, q3, by omega, ⟨by omega, by omega⟩, fun t ht => ?_⟩, hc, by rw [monL, if_pos h0]⟩
 have h4 : ¬ (effL n c).any (largeB 8) = true := fun e => h3 (.inr (.inr e))
 rw [Bool.not_eq_true, List.any_eq_false] at h4
 have := h4 (effT c.fac t) (List.mem_map.2 ⟨t, ht, rfl⟩)
 simp [largeB] at this
 omega
section
variable {n : Net} {c : Con}
theorem mon_len : (monNet n c).trs.length = n.trs.length := by simp [monNet, monTrs]
theorem mon_init : (monNet n c).init.length = n.init.length + 1 := by simp [monNet]
theorem monT_inn {p : Nat} {E : Int} {t : Tr} (h : ArcsIn p t.inn) (hE : -8 ≤ E ∧ E ≤ 8) : ArcsIn (p + 1) (monT p E t).inn := by
 by_cases h0 : 0 < E
 ·simp only [monT, if_pos h0]; exact arcsIn_snoc h ⟨by omega, hE.2⟩
 ·simp only [monT, if_neg h0, List.append_nil]; exact arcsIn_up h
theorem monT_out {p : Nat} {E : Int} {t : Tr} (h : ArcsIn p t.out) (hE : -8 ≤ E ∧ E ≤ 8) : ArcsIn (p + 1) (monT p E t).out := by
 by_cases h0 : E < 0
 ·simp only [monT, if_pos h0]; exact arcsIn_snoc h ⟨by omega, by omega⟩
 ·simp only [monT, if_neg h0, List.append_nil]; exact arcsIn_up h
theorem mon_ok (h : MonOk n c) : NetOk (monNet n c) := by
 have h1 := h.few
 have h2 := h.ok.trs
 have hT : ∀ t ∈ (monNet n c).trs, ∃ x ∈ n.trs, t = monT n.init.length (effT c.fac x) x := fun t ht => by
  simp only [monNet, monTrs, List.mem_map] at ht
  obtain ⟨x, hx, rfl⟩ := ht
  exact ⟨x, List.mem_of_mem_take hx, rfl⟩
 refine ⟨by rw [mon_init]; omega, fun x hx => ?_, by rw [mon_len]; exact h2, fun t ht => ?_, fun t ht => ?_, fun t ht => ?_⟩
 ·simp only [monNet, List.mem_append, List.mem_singleton] at hx
  rcases hx with hx | rfl
  ·exact h.ok.tok x hx
  ·exact h.rest
 ·obtain ⟨x, hx, rfl⟩ := hT t ht
  exact h.ok.ev x hx
 ·obtain ⟨x, hx, rfl⟩ := hT t ht
  rw [mon_init]
  exact monT_inn (h.ok.inn x hx) (h.eff x hx)
 ·obtain ⟨x, hx, rfl⟩ := hT t ht
  rw [mon_init]
  exact monT_out (h.ok.out x hx) (h.eff x hx)
end
end Go.Proofs.Ytgbhmieaoaojoaa
