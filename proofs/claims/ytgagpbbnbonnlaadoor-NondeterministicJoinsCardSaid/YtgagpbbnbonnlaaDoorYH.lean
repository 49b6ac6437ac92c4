/-
 Chapter 05, plain: words as paths; reversed automata; two automata side by side.
-/
import Derived.Test.YtgagpbbnbonnlaaDoorYG
set_option linter.unusedSimpArgs false
set_option linter.unusedVariables false
namespace Go.Proofs.YtgagpbbnbonnlaaDoor
def Edge (es : List Ed) (p x q : Int) : Prop := ∃ e ∈ es, e.src = p ∧ e.ev = x ∧ e.dst = q
inductive Path (es : List Ed) (sil : Int) : Int → List Int → Int → Prop where
 | nil (p : Int) : Path es sil p [] p
 | quiet {p q r : Int} {w : List Int} : Edge es p sil q → Path es sil q w r → Path es sil p w r
 | step {p q r x : Int} {w : List Int} : Edge es p x q → Path es sil q w r → Path es sil p (x :: w) r
section
variable {es : List Ed} {sil : Int}
theorem Path.append {p q r : Int} {u v : List Int} (h1 : Path es sil p u q) (h2 : Path es sil q v r) : Path es sil p (u ++ v) r := by
 induction h1 with
 | nil => exact h2
 | quiet h _ ih => exact .quiet h (ih h2)
 | step h _ ih => exact .step h (ih h2)
theorem Path.cons {p r x : Int} {w : List Int} (h : Path es sil p (x :: w) r) : ∃ y q, Path es sil p [] y ∧ Edge es y x q ∧ Path es sil q w r := by
 generalize hu : x :: w = u at h
 induction h with
 | nil => cases hu
 | quiet h _ ih =>
  obtain ⟨y, q, h1, h2, h3⟩ := ih hu
  exact ⟨y, q, .quiet h h1, h2, h3⟩
 | step h h2 _ =>
  cases hu
  exact ⟨_, _, .nil _, h, h2⟩
theorem mem_leadE {x y : Int} : y ∈ leadE es sil x ↔ Edge es x sil y := mem_nextL
theorem reach_path {s : List Int} {z : Int} : Reach (leadE es sil) s z ↔ ∃ p ∈ s, Path es sil p [] z := by
 constructor
 ·intro h
  induction h with
  | base h => exact ⟨_, h, .nil _⟩
  | step _ h2 ih =>
   obtain ⟨p, hp, h3⟩ := ih
   have := h3.append (.quiet (mem_leadE.1 h2) (.nil _))
   exact ⟨p, hp, by simpa using this⟩
 ·rintro ⟨p, hp, h⟩
  have key : ∀ {p z : Int} {u : List Int}, Path es sil p u z → u = [] → Reach (leadE es sil) s p → Reach (leadE es sil) s z := by
   intro p z u h
   induction h with
   | nil => exact fun _ h => h
   | quiet h _ ih => exact fun e hr => ih e (.step hr (mem_leadE.2 h))
   | step _ _ _ => exact fun e => by cases e
  exact key h rfl (.base hp)
theorem mem_aftN {n : Nat} (hE : EdOk n es) : ∀ (w s : List Int), (∀ x ∈ s, 0 ≤ x ∧ x < n) → ∀ {z : Int}, z ∈ aftN n es sil w (closN n (leadE es sil) s) ↔ ∃ p ∈ s, Path es sil p w z
 | [], s, hs, z => by
  rw [aftN, List.foldl_nil, mem_closN hs (leadE_rng hE sil), reach_path]
 | x :: w, s, hs, z => by
  have hc : ∀ x ∈ closN n (leadE es sil) s, 0 ≤ x ∧ x < n := fun x hx => closN_rng hx
  have hstep : aftN n es sil (x :: w) (closN n (leadE es sil) s) = aftN n es sil w (closN n (leadE es sil) ((closN n (leadE es sil) (closN n (leadE es sil) s)).flatMap fun y => nextL es y x)) := rfl
  rw [hstep, mem_aftN hE w _ (flat_rng hE _ x)]
  constructor
  ·rintro ⟨q, hq, hp⟩
   obtain ⟨y, hy, hy2⟩ := List.mem_flatMap.1 hq
   obtain ⟨y1, h1, h2⟩ := reach_path.1 ((mem_closN hc (leadE_rng hE sil)).1 hy)
   obtain ⟨p, h3, h4⟩ := reach_path.1 ((mem_closN hs (leadE_rng hE sil)).1 h1)
   exact ⟨p, h3, h4.append (h2.append (.step (mem_nextL.1 hy2) hp))⟩
  ·rintro ⟨p, hp, h⟩
   obtain ⟨y, q, h1, h2, h3⟩ := h.cons
   refine ⟨q, List.mem_flatMap.2 ⟨y, ?_, mem_nextL.2 h2⟩, h3⟩
   exact (mem_closN hc (leadE_rng hE sil)).2 (.base ((mem_closN hs (leadE_rng hE sil)).2 (reach_path.2 ⟨p, hp, h1⟩)))
/-! reversed -/
theorem Path.congr {fs : List Ed} (hm : ∀ e, e ∈ es → e ∈ fs) {p q : Int} {w : List Int} (h : Path es sil p w q) : Path fs sil p w q := by
 have he : ∀ {p x q : Int}, Edge es p x q → Edge fs p x q := fun ⟨e, h1, h2⟩ => ⟨e, hm e h1, h2⟩
 induction h with
 | nil => exact .nil _
 | quiet h _ ih => exact .quiet (he h) ih
 | step h _ ih => exact .step (he h) ih
/-! side by side -/
def shE (n : Int) (es : List Ed) : List Ed := es.map fun e => ⟨n + e.src, e.ev, n + e.dst⟩
theorem Path.shift (n : Int) {p q : Int} {w : List Int} (h : Path es sil p w q) : Path (shE n es) sil (n + p) w (n + q) := by
 have he : ∀ {p x q : Int}, Edge es p x q → Edge (shE n es) (n + p) x (n + q) := fun h => by
  obtain ⟨e, he, rfl, rfl, rfl⟩ := h
  exact ⟨_, List.mem_map.2 ⟨e, he, rfl⟩, rfl, rfl, rfl⟩
 induction h with
 | nil => exact .nil _
 | quiet h _ ih => exact .quiet (he h) ih
 | step h _ ih => exact .step (he h) ih
theorem path_left {fs : List Ed} {n m : Nat} (h1 : EdOk n es) (h2 : EdOk m fs) {p q : Int} {w : List Int} (h : Path (es ++ shE n fs) sil p w q) (hp : p < n) : Path es sil p w q := by
 have he : ∀ {p x q : Int}, p < n → Edge (es ++ shE n fs) p x q → Edge es p x q ∧ q < n := fun hp h => by
  obtain ⟨e, he, rfl, rfl, rfl⟩ := h
  rcases List.mem_append.1 he with he | he
  ·exact ⟨⟨e, he, rfl, rfl, rfl⟩, (h1.dst e he).2⟩
  ·obtain ⟨f, hf, rfl⟩ := List.mem_map.1 he
   have := h2.src f hf
   simp only at hp
   omega
 induction h with
 | nil => exact .nil _
 | quiet h _ ih => exact .quiet (he hp h).1 (ih (he hp h).2)
 | step h _ ih => exact .step (he hp h).1 (ih (he hp h).2)
theorem path_right {fs : List Ed} {n m : Nat} (h1 : EdOk n es) (h2 : EdOk m fs) {p q : Int} {w : List Int} (h : Path (es ++ shE n fs) sil p w q) (hp : n ≤ p) : n ≤ q ∧ Path fs sil (p - n) w (q - n) := by
 have he : ∀ {p x q : Int}, n ≤ p → Edge (es ++ shE n fs) p x q → Edge fs (p - n) x (q - n) ∧ n ≤ q := fun hp h => by
  obtain ⟨e, he, rfl, rfl, rfl⟩ := h
  rcases List.mem_append.1 he with he | he
  ·have := h1.src e he
   omega
  ·obtain ⟨f, hf, rfl⟩ := List.mem_map.1 he
   have := h2.dst f hf
   refine ⟨⟨f, hf, ?_, rfl, ?_⟩, ?_⟩ <;> (simp only; omega)
 induction h with
 | nil => exact ⟨hp, .nil _⟩
 | quiet h _ ih =>
  obtain ⟨h3, h4⟩ := ih (he hp h).2
  exact ⟨h3, .quiet (he hp h).1 h4⟩
 | step h _ ih =>
  obtain ⟨h3, h4⟩ := ih (he hp h).2
  exact ⟨h3, .step (he hp h).1 h4⟩
theorem Path.events {al : List Int} (ha : ∀ e ∈ es, e.ev = sil ∨ e.ev ∈ al) {p q : Int} {w : List Int} (hw : ∀ x ∈ w, x ≠ sil) (h : Path es sil p w q) : ∀ x ∈ w, x ∈ al := by
 induction h with
 | nil => exact fun x hx => by cases hx
 | quiet _ _ ih => exact ih hw
 | step h _ ih =>
  intro y hy
  rcases List.mem_cons.1 hy with e | hy
  ·subst e
   obtain ⟨e, he, _, rfl, _⟩ := h
   exact (ha e he).resolve_left (hw _ (by simp))
  ·exact ih (fun z hz => hw z (by simp [hz])) y hy
end
end Go.Proofs.YtgagpbbnbonnlaaDoor
