/-
 Chapter 05: the laws' arguments.
-/
import Derived.Test.YtgagpbbnbonnlaaDoorZM
import Derived.Test.YtgagpbbnbonnlaaDoorZK
import Derived.Test.YtgagpbbnbonnlaaDoorLift4
set_option linter.unusedSimpArgs false
set_option linter.unusedVariables false
namespace Go.Proofs.YtgagpbbnbonnlaaDoor
open Go.Eng Go.RowKit Go.ChangeShapes
theorem u8_range {z : Int} (h : (Lit.int .u8 z).wf = true) : 0 ≤ z ∧ z ≤ 255 := by
 simp only [Lit.wf, Bool.and_eq_true, decide_eq_true_eq] at h
 exact ⟨h.1, Int.le_trans h.2 (by decide)⟩
def toEd (l : List Int) : Ed := ⟨l.getD 0 0, l.getD 1 0, l.getD 2 0⟩
theorem three_of {l : List Int} (h : l.length = 3) : ∃ a b c, l = [a, b, c] := by
 match l, h with
 | [a, b, c], _ => exact ⟨a, b, c, rfl⟩
set_option maxRecDepth 100000 in
theorem op_dft : OpArg Tryd.prog 24 Dft.Ok (fun d => .agg d.d) := by
 intro H enc W base v dd ps hok hd
 obtain ⟨⟨s, al, ini, mr, ls, u⟩, ⟨h1, h2, h3, h4, ⟨h5, h6⟩, _⟩, hr⟩ := arg_struct Tryd.underlying24 (opens_struct Tryd.underlying24 (opensF_cons rfl (opens_int Tryd.underlying5) (opensF_cons (by kernel_rfl) (opens_int Tryd.underlying5) (opensF_cons (by kernel_rfl) (opens_int Tryd.underlying5) (opensF_cons (by kernel_rfl) (opens_int Tryd.underlying5)
  (opensF_cons (by kernel_rfl) (opens_slice Tryd.underlying22 (of_decide_eq_true (by kernel_rfl)) (opens_array Tryd.underlying82 (by kernel_rfl) (opens_int Tryd.underlying5))) opensF_nil)))))) H enc W base v dd ps hok hd
 have e : edB (ls.map toEd) = ls.map fun l => l.flatMap fun z => [D.int .u8 z] := by
  rw [edB, List.map_map]
  refine List.map_congr_left fun l hl => ?_
  obtain ⟨a, b, c, rfl⟩ := three_of (h6 l hl).1
  rfl
 refine ⟨⟨s, al, ini, mr, ls.map toEd⟩, ⟨u8_range h1, u8_range h2, u8_range h3, u8_range h4, fun x hx => ?_, by simpa using h5⟩, ?_⟩
 ·obtain ⟨l, hl, rfl⟩ := List.mem_map.1 hx
  obtain ⟨q1, q2⟩ := h6 l hl
  obtain ⟨a, b, c, rfl⟩ := three_of q1
  exact ⟨u8_range (q2 a (by simp)), u8_range (q2 b (by simp)), u8_range (q2 c (by simp))⟩
 ·show RepV W NoM [] (.agg [.int .u8 s, .int .u8 al, .int .u8 ini, .int .u8 mr, .list (edB (ls.map toEd))]) v
  rw [e]
  exact hr
theorem op_ints : OpArg Tryd.prog 26 (fun xs : List Int => xs.length ≤ maxLen ∧ ∀ a ∈ xs, (Lit.int .i64 a).wf = true) (fun xs => .one (.list (ints xs))) := arg_slice Tryd.underlying26 (of_decide_eq_true (by kernel_rfl)) (opens_int Tryd.underlying3)
def dftZ : Value := .agg #[.int .u8 0, .int .u8 0, .int .u8 0, .int .u8 0, .slice none 0 0]
end Go.Proofs.YtgagpbbnbonnlaaDoor
