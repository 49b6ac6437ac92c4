/-
 Chapter 05, plain: edges put in order, each once.
-/
import Derived.Test.YtgagpbbnbonnlaaDoorYH
set_option linter.unusedSimpArgs false
set_option linter.unusedVariables false
namespace Go.Proofs.YtgagpbbnbonnlaaDoor
theorem edLt_total {x y : Ed} (h1 : ¬ edLt x y) (h2 : ¬ edLt y x) : x = y := by
 obtain ⟨a, b, c⟩ := x
 obtain ⟨d, e, f⟩ := y
 rw [Ed.mk.injEq]
 unfold edLt at h1 h2
 simp only at h1 h2
 omega
theorem edInc_ext : ∀ {a b : List Ed}, EdInc a → EdInc b → (∀ z, z ∈ a ↔ z ∈ b) → a = b
 | [], [], _, _, _ => rfl
 | [], y :: b, _, _, h => absurd ((h y).2 (by simp)) (by simp)
 | x :: a, [], _, _, h => absurd ((h x).1 (by simp)) (by simp)
 | x :: a, y :: b, ha, hb, h => by
  have ha' := List.pairwise_cons.1 ha
  have hb' := List.pairwise_cons.1 hb
  have e : x = y := by
   have h1 : x = y ∨ x ∈ b := by simpa using (h x).1 (by simp)
   have h2 : y = x ∨ y ∈ a := by simpa using (h y).2 (by simp)
   rcases h1 with h1 | h1
   ·exact h1
   rcases h2 with h2 | h2
   ·exact h2.symm
   exact absurd (edLt_trans (hb'.1 x h1) (ha'.1 y h2)) (edLt_irrefl y)
  subst e
  rw [edInc_ext ha'.2 hb'.2 fun z => ?_]
  constructor
  ·intro hz
   have h1 : z = x ∨ z ∈ b := by simpa using (h z).1 (by simp [hz])
   exact h1.resolve_left fun e => edLt_irrefl x (by have := ha'.1 z hz; rwa [e] at this)
  ·intro hz
   have h1 : z = x ∨ z ∈ a := by simpa using (h z).2 (by simp [hz])
   exact h1.resolve_left fun e => edLt_irrefl x (by have := hb'.1 z hz; rwa [e] at this)
def insE (x : Ed) : List Ed → List Ed
 | [] => [x]
 | y :: l => if edLt y x then y :: insE x l else if y = x then y :: l else x :: y :: l
theorem insE_spec (x : Ed) : ∀ {l : List Ed}, EdInc l → EdInc (insE x l) ∧ ∀ z, z ∈ insE x l ↔ z = x ∨ z ∈ l
 | [], _ => ⟨List.pairwise_singleton _ _, fun z => by simp [insE]⟩
 | y :: l, h => by
  have h' := List.pairwise_cons.1 h
  obtain ⟨i1, i2⟩ := insE_spec x h'.2
  rw [insE]
  by_cases h1 : edLt y x
  ·rw [if_pos h1]
   refine ⟨List.pairwise_cons.2 ⟨fun z hz => ?_, i1⟩, fun z => ?_⟩
   ·rcases (i2 z).1 hz with e | hz
    ·rw [e]; exact h1
    ·exact h'.1 z hz
   ·rw [List.mem_cons, i2, List.mem_cons]
    constructor
    ·rintro (h | h | h)
     ·exact .inr (.inl h)
     ·exact .inl h
     ·exact .inr (.inr h)
    ·rintro (h | h | h)
     ·exact .inr (.inl h)
     ·exact .inl h
     ·exact .inr (.inr h)
  ·rw [if_neg h1]
   by_cases h2 : y = x
   ·rw [if_pos h2]
    subst h2
    refine ⟨h, fun z => ?_⟩
    rw [List.mem_cons]
    constructor
    ·exact fun h => .inr h
    ·rintro (h | h)
     ·exact .inl h
     ·exact h
   ·rw [if_neg h2]
    have h3 : edLt x y := by
     by_cases h3 : edLt x y
     ·exact h3
     ·exact absurd (edLt_total h1 h3) h2
    refine ⟨List.pairwise_cons.2 ⟨fun z hz => ?_, h⟩, fun z => by rw [List.mem_cons]⟩
    rcases List.mem_cons.1 hz with e | hz
    ·rw [e]; exact h3
    ·exact edLt_trans h3 (h'.1 z hz)
def sortE (l : List Ed) : List Ed := l.foldl (fun out x => insE x out) []
theorem sortE_fold : ∀ (l out : List Ed), EdInc out → EdInc (l.foldl (fun out x => insE x out) out) ∧ ∀ z, z ∈ l.foldl (fun out x => insE x out) out ↔ z ∈ out ∨ z ∈ l
 | [], out, h => ⟨h, fun z => by simp⟩
 | x :: l, out, h => by
  obtain ⟨h1, h2⟩ := insE_spec x h
  obtain ⟨h3, h4⟩ := sortE_fold l _ h1
  refine ⟨h3, fun z => ?_⟩
  rw [List.foldl_cons, h4, h2, List.mem_cons]
  constructor
  ·rintro ((h | h) | h)
   ·exact .inr (.inl h)
   ·exact .inl h
   ·exact .inr (.inr h)
  ·rintro (h | h | h)
   ·exact .inl (.inr h)
   ·exact .inl (.inl h)
   ·exact .inr h
theorem sortE_inc (l : List Ed) : EdInc (sortE l) := (sortE_fold l [] .nil).1
theorem mem_sortE {l : List Ed} {z : Ed} : z ∈ sortE l ↔ z ∈ l := by
 have := (sortE_fold l [] .nil).2 z
 rw [sortE, this]
 simp
theorem sortE_of {l m : List Ed} (h : EdInc m) (hm : ∀ z, z ∈ m ↔ z ∈ l) : m = sortE l := edInc_ext h (sortE_inc l) fun z => (hm z).trans mem_sortE.symm
end Go.Proofs.YtgagpbbnbonnlaaDoor
