/-
 The arguments of chapter 47's laws, opened.
-/
import Derived.Test.YtljpfdehnjemlaaDoorN3
import Derived.Test.YtljpfdehnjemlaaDoorLift4
set_option linter.unusedSimpArgs false
set_option linter.unusedVariables false
namespace Go.Proofs.YtljpfdehnjemlaaDoor
open Go.Eng Go.RowKit Go.ChangeShapes
theorem u8_range {z : Int} (h : (Lit.int .u8 z).wf = true) : 0 ≤ z ∧ z ≤ 255 := by
 simp only [Lit.wf, Bool.and_eq_true, decide_eq_true_eq] at h
 exact ⟨h.1, Int.le_trans h.2 (by decide)⟩
def shapeG (x : Int × Int × List Int × List Int × List (List Int) × Unit) : List Int := x.1 :: x.2.1 :: (x.2.2.1 ++ x.2.2.2.1 ++ x.2.2.2.2.1.flatten)
theorem flat_u8 (l : List Int) : l.flatMap (fun z => [D.int .u8 z]) = l.map fun z => D.int .u8 z := by
 induction l with
 | nil => rfl
 | cons a l ih => simp [ih]
theorem flat_flat (l : List (List Int)) : l.flatMap (fun l => l.flatMap fun z => [D.int .u8 z]) = l.flatten.map fun z => D.int .u8 z := by
 induction l with
 | nil => rfl
 | cons a l ih => rw [List.flatMap_cons, ih, flat_u8]; simp
theorem flatten_length {l : List (List Int)} {n : Nat} (h : ∀ x ∈ l, x.length = n) : l.flatten.length = l.length * n := by
 induction l with
 | nil => simp
 | cons a l ih => simp [ih fun x hx => h x (by simp [hx]), h a (by simp), Nat.add_mul, Nat.add_comm]
set_option maxRecDepth 100000 in
theorem opens_shape : Opens Tryd.prog 25 (fun l : List Int => l.length = 37 ∧ ∀ x ∈ l, 0 ≤ x ∧ x ≤ 255) (fun l => l.map fun z => D.int .u8 z) :=
 (opens_struct Tryd.underlying25 (opensF_cons rfl (opens_int Tryd.underlying5) (opensF_cons (by kernel_rfl) (opens_int Tryd.underlying5) (opensF_cons (by kernel_rfl) (opens_array Tryd.underlying22 (by kernel_rfl) (opens_int Tryd.underlying5)) (opensF_cons (by kernel_rfl) (opens_array Tryd.underlying22 (by kernel_rfl) (opens_int Tryd.underlying5))
  (opensF_cons (by kernel_rfl) (opens_array Tryd.underlying23 (by kernel_rfl) (opens_array Tryd.underlying22 (by kernel_rfl) (opens_int Tryd.underlying5))) opensF_nil)))))).map shapeG
  (fun x h => by
   obtain ⟨a, b, l, m, n, u⟩ := x
   simp only at h
   obtain ⟨h1, h2, ⟨h3, h4⟩, ⟨h5, h6⟩, ⟨h7, h8⟩, _⟩ := h
   have h9 := flatten_length fun x hx => (h8 x hx).1
   refine ⟨?_, fun y hy => ?_⟩
   ·simp only [shapeG, List.length_cons, List.length_append]; omega
   ·simp only [shapeG, List.mem_cons, List.mem_append, List.mem_flatten] at hy
    rcases hy with rfl | rfl | (hy | hy) | ⟨z, hz, hy⟩
    ·exact u8_range h1
    ·exact u8_range h2
    ·exact u8_range (h4 _ hy)
    ·exact u8_range (h6 _ hy)
    ·exact u8_range ((h8 z hz).2 _ hy))
  (fun x => by
   obtain ⟨a, b, l, m, n, u⟩ := x
   simp only [shapeG, flat_flat]
   simp only [flat_u8, List.map_cons, List.map_append, List.append_nil, List.cons_append, List.nil_append, List.append_assoc])
theorem bytesD_of {l : List Int} {n : Nat} (h : l.length = n) : bytesD n (fun i => l.getD i 0) = l.map fun z => D.int .u8 z := by
 subst h
 apply List.ext_getElem
 ·simp [bytesD]
 ·intro i h1 h2
  simp [bytesD] at h1 ⊢
  simp [List.getElem?_eq_getElem h1]
set_option maxRecDepth 100000 in
theorem op_shape : OpArg Tryd.prog 25 Bytes (fun s => .agg (bytesD 37 s)) := by
 intro H enc W base v d ps hok hd
 obtain ⟨l, ⟨h1, h2⟩, hr⟩ := arg_struct Tryd.underlying25 opens_shape H enc W base v d ps hok hd
 refine ⟨fun i => l.getD i 0, fun i => ?_, by show RepV W NoM [] (.agg (bytesD 37 fun i => l.getD i 0)) v; rw [bytesD_of h1]; exact hr⟩
 by_cases hi : i < l.length
 ·exact h2 _ (getD_mem l i 0 hi)
 ·have : l.getD i 0 = 0 := by rw [List.getD, List.getElem?_eq_none (Nat.le_of_not_lt hi)]; rfl
  simp only [this]; omega
end Go.Proofs.YtljpfdehnjemlaaDoor
