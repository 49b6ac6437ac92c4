/-
 Chapter 05, plain: the errors of an automaton.
-/
import Derived.Test.YtgagpbbnbonnlaaDoorYJ
set_option linter.unusedSimpArgs false
set_option linter.unusedVariables false
namespace Go.Proofs.YtgagpbbnbonnlaaDoor
open Go.Eng Go.RowKit
def ceFrom (n : Int) (al : List Int) : Option Ed → List Ed → Int
 | _, [] => 0
 | p, x :: l => if x.src < 0 ∨ n ≤ x.src ∨ x.dst < 0 ∨ n ≤ x.dst then 2 else if x.ev ≠ -1 ∧ x.ev ∉ al then 9 else if (p.any fun q => decide (¬ edLt q x)) = true then 5 else ceFrom n al (some x) l
def chkNA (a : NA) : Int := if a.states < 0 then 2 else if 4096 < a.states then 3 else if checkSet a.alpha 32 ≠ 0 then checkSet a.alpha 32 else if checkSet a.init a.states ≠ 0 then checkSet a.init a.states else if checkSet a.marked a.states ≠ 0 then checkSet a.marked a.states else ceFrom a.states a.alpha none a.edges
def prevE (es : List Ed) (k : Nat) : Option Ed := if k = 0 then none else some (es.getD (k - 1) Ed.no)
theorem ce_step {es : List Ed} {n : Int} {al : List Int} {b : Int} {k : Nat} (hk : k < es.length) (h : b = ceFrom n al (prevE es k) (es.drop k)) :
  b = if (es.getD k Ed.no).src < 0 ∨ n ≤ (es.getD k Ed.no).src ∨ (es.getD k Ed.no).dst < 0 ∨ n ≤ (es.getD k Ed.no).dst then 2 else if (es.getD k Ed.no).ev ≠ -1 ∧ (es.getD k Ed.no).ev ∉ al then 9 else if 0 < k ∧ ¬ edLt (es.getD (k - 1) Ed.no) (es.getD k Ed.no) then 5 else ceFrom n al (prevE es (k + 1)) (es.drop (k + 1)) := by
 rw [drop_getD es k Ed.no hk] at h
 rw [h, ceFrom]
 unfold prevE
 by_cases h0 : k = 0
 ·subst h0; simp
 ·have hp : 0 < k := by omega
  simp [h0, hp]
theorem ceFrom_zero {n : Int} {al : List Int} : ∀ {l : List Ed} {p : Option Ed}, ceFrom n al p l = 0 ↔ (∀ x ∈ l, ((0 ≤ x.src ∧ x.src < n) ∧ 0 ≤ x.dst ∧ x.dst < n) ∧ (x.ev = -1 ∨ x.ev ∈ al)) ∧ (∀ q, p = some q → ∀ x ∈ l, edLt q x) ∧ EdInc l
 | [], p => by
  simp only [ceFrom, true_iff]
  exact ⟨fun x hx => (List.not_mem_nil hx).elim, fun _ _ x hx => (List.not_mem_nil hx).elim, .nil⟩
 | x :: l, p => by
  rw [ceFrom]
  by_cases h1 : x.src < 0 ∨ n ≤ x.src ∨ x.dst < 0 ∨ n ≤ x.dst
  ·rw [if_pos h1]
   exact ⟨fun h => absurd h (by decide), fun ⟨h, _⟩ => by have := (h x (by simp)).1; omega⟩
  rw [if_neg h1]
  by_cases h2 : x.ev ≠ -1 ∧ x.ev ∉ al
  ·rw [if_pos h2]
   refine ⟨fun h => absurd h (by decide), fun ⟨h, _⟩ => ?_⟩
   rcases (h x (by simp)).2 with h | h
   ·exact absurd h h2.1
   ·exact absurd h h2.2
  rw [if_neg h2]
  have h2' : x.ev = -1 ∨ x.ev ∈ al := by
   by_cases e : x.ev = -1
   ·exact .inl e
   ·exact .inr (Decidable.byContradiction fun h => h2 ⟨e, h⟩)
  by_cases h3 : (p.any fun q => decide (¬ edLt q x)) = true
  ·rw [if_pos h3]
   refine ⟨fun h => absurd h (by decide), fun ⟨_, h, _⟩ => ?_⟩
   cases p with
   | none => simp at h3
   | some q =>
    have h4 := h q rfl x (by simp)
    simp [h4] at h3
  rw [if_neg h3, ceFrom_zero]
  have h3' : ∀ q, p = some q → edLt q x := fun q e => by
   subst e
   simpa using h3
  constructor
  ·rintro ⟨h4, h5, h6⟩
   refine ⟨fun y hy => ?_, fun q hq y hy => ?_, List.pairwise_cons.2 ⟨h5 x rfl, h6⟩⟩
   ·rcases List.mem_cons.1 hy with e | hy
    ·subst e; exact ⟨by omega, h2'⟩
    ·exact h4 y hy
   ·rcases List.mem_cons.1 hy with e | hy
    ·rw [e]; exact h3' q hq
    ·exact edLt_trans (h3' q hq) (h5 x rfl y hy)
  ·rintro ⟨h4, _, h6⟩
   have h6' := List.pairwise_cons.1 h6
   exact ⟨fun y hy => h4 y (by simp [hy]), fun q hq y hy => (by cases hq; exact h6'.1 y hy), h6'.2⟩
theorem chkNA_zero {a : NA} : chkNA a = 0 ↔ NaOk a ∧ a.states ≤ 4096 ∧ (∀ x ∈ a.alpha, 0 ≤ x ∧ x < 32) ∧ ∀ e ∈ a.edges, e.ev = -1 ∨ e.ev ∈ a.alpha := by
 unfold chkNA
 constructor
 ·intro h
  by_cases h1 : a.states < 0
  ·rw [if_pos h1] at h; exact absurd h (by decide)
  rw [if_neg h1] at h
  by_cases h2 : 4096 < a.states
  ·rw [if_pos h2] at h; exact absurd h (by decide)
  rw [if_neg h2] at h
  by_cases h3 : checkSet a.alpha 32 ≠ 0
  ·rw [if_pos h3] at h; exact absurd h h3
  rw [if_neg h3] at h
  by_cases h4 : checkSet a.init a.states ≠ 0
  ·rw [if_pos h4] at h; exact absurd h h4
  rw [if_neg h4] at h
  by_cases h5 : checkSet a.marked a.states ≠ 0
  ·rw [if_pos h5] at h; exact absurd h h5
  rw [if_neg h5] at h
  obtain ⟨h6, h7⟩ := (checkSet_zero _ _).1 (Decidable.byContradiction h3)
  obtain ⟨h8, h9⟩ := (checkSet_zero _ _).1 (Decidable.byContradiction h4)
  obtain ⟨h10, h11⟩ := (checkSet_zero _ _).1 (Decidable.byContradiction h5)
  obtain ⟨h12, _, h13⟩ := ceFrom_zero.1 h
  refine ⟨⟨by omega, h7, ⟨h9, h8⟩, ⟨h11, h10⟩, h13, fun x hx => ?_, fun x hx => ?_⟩, by omega, h6, fun e he => (h12 e he).2⟩
  ·have := (h12 x hx).1; omega
  ·have := (h12 x hx).1; omega
 ·rintro ⟨h, h1, h2, h3⟩
  have hp := h.pos
  rw [if_neg (by omega), if_neg (by omega), if_neg (by rw [Decidable.not_not]; exact (checkSet_zero _ _).2 ⟨h2, h.alpha⟩), if_neg (by rw [Decidable.not_not]; exact (checkSet_zero _ _).2 ⟨h.init.2, h.init.1⟩), if_neg (by rw [Decidable.not_not]; exact (checkSet_zero _ _).2 ⟨h.marked.2, h.marked.1⟩)]
  refine ceFrom_zero.2 ⟨fun x hx => ⟨?_, h3 x hx⟩, fun q hq => absurd hq (by simp), h.edges.inc⟩
  have := h.edges.src x hx
  have := h.edges.dst x hx
  omega
/-! the example of the chapter -/
def exNA : NA := ⟨[0], 3, [0], [2], [⟨0, -1, 1⟩, ⟨1, 0, 2⟩, ⟨2, 0, 2⟩]⟩
theorem ex_chk : chkNA exNA = 0 := by decide
theorem ex_clo : closN 3 (leadE exNA.edges (-1)) [0] = [0, 1] := by decide
theorem ex_det : detN exNA (-1) = some ([[0, 1], [2]], [1], [⟨0, 0, 1⟩, ⟨1, 0, 1⟩]) := by decide +kernel
end Go.Proofs.YtgagpbbnbonnlaaDoor
