/-
 Chapter 05, plain: words as paths; reversed automata; two automata side by side.
-/
import Derived.Test.YtgagpbbnbonnlaaDoorYE
set_option linter.unusedSimpArgs false
set_option linter.unusedVariables false
namespace Go.Proofs.YtgagpbbnbonnlaaDoor
def Edge (es : List Ed) (p x q : Int) : Prop := ∃ e ∈ es, e.src = p ∧ e.ev = x ∧ e.dst = q
inductive Path (es : List Ed) (sil : Int) : Int → List Int → Int → Prop where
 | nil (p : Int) : Path es sil p [] p
 | quiet {p q r : Int} {w : List Int} : Edge es p sil q → Path es sil q w r → Path es sil p w r
 | step {p q r x : Int} {w : List Int} : Edge es p x q → Path es sil q w r → Path es sil p (x :: w) r
section
variable {es : List Ed} {sil : Int}
theorem Path.append {p q r : Int} {u v : List Int} (h1 : Path es sil p u q) (h2 : Path es sil q v r) : Path es sil p (u ++ v) r := by
 induction h1 with
 | nil => exact h2
 | quiet h _ ih => exact .quiet h (ih h2)
 | step h _ ih => exact .step h (ih h2)
theorem Path.cons {p r x : Int} {w : List Int} (h : Path es sil p (x :: w) r) : ∃ y q, Path es sil p [] y ∧ Edge es y x q ∧ Path es sil q w r := by
 generalize hu : x :: w = u at h
 induction h with
 | nil => cases hu
 | quiet h _ ih =>
  obtain ⟨y, q, h1, h2, h3⟩ := ih hu
  exact ⟨y, q, .quiet h h1, h2, h3⟩
 | step h h2 _ =>
  cases hu
  exact ⟨_, _, .nil _, h, h2⟩
/-! reversed -/
def revE (es : List Ed) : List Ed := es.map fun e => ⟨e.dst, e.ev, e.src⟩
theorem Path.congr {fs : List Ed} (hm : ∀ e, e ∈ es → e ∈ fs) {p q : Int} {w : List Int} (h : Path es sil p w q) : Path fs sil p w q := by
 have he : ∀ {p x q : Int}, Edge es p x q → Edge fs p x q := fun ⟨e, h1, h2⟩ => ⟨e, hm e h1, h2⟩
 induction h with
 | nil => exact .nil _
 | quiet h _ ih => exact .quiet (he h) ih
 | step h _ ih => exact .step (he h) ih
/-! side by side -/
def shE (n : Int) (es : List Ed) : List Ed := es.map fun e => ⟨n + e.src, e.ev, n + e.dst⟩
theorem Path.shift (n : Int) {p q : Int} {w : List Int} (h : Path es sil p w q) : Path (shE n es) sil (n + p) w (n + q) := by
 have he : ∀ {p x q : Int}, Edge es p x q → Edge (shE n es) (n + p) x (n + q) := fun h => by
  obtain ⟨e, he, rfl, rfl, rfl⟩ := h
  exact ⟨_, List.mem_map.2 ⟨e, he, rfl⟩, rfl, rfl, rfl⟩
 induction h with
 | nil => exact .nil _
 | quiet h _ ih => exact .quiet (he h) ih
 | step h _ ih => exact .step (he h) ih
end
end Go.Proofs.YtgagpbbnbonnlaaDoor
