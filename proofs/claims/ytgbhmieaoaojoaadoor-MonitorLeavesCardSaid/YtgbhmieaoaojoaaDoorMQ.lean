/-
 The arguments of chapter 50's laws (cards), opened.
-/
import Derived.Test.YtgbhmieaoaojoaaDoorSQ
set_option linter.unusedSimpArgs false
set_option linter.unusedVariables false
namespace Go.Proofs.YtgbhmieaoaojoaaDoor
open Go.Eng Go.RowKit Go.ChangeShapes
theorem six (l : List Int) (h : l.length = 6) : l.flatMap (fun z => [D.int .i8 z]) = [.int .i8 (l.getD 0 0), .int .i8 (l.getD 1 0), .int .i8 (l.getD 2 0), .int .i8 (l.getD 3 0), .int .i8 (l.getD 4 0), .int .i8 (l.getD 5 0)] := by
 match l, h with
 | [a, b, c, d, e, f], _ => rfl
set_option maxRecDepth 100000 in
theorem op_f6 : OpArg Tryd.prog 27 (fun _ : Nat → Int => True) (fun f => .agg [.int .i8 (f 0), .int .i8 (f 1), .int .i8 (f 2), .int .i8 (f 3), .int .i8 (f 4), .int .i8 (f 5)]) := by
 intro H enc W base v d ps hok hd
 obtain ⟨l, ⟨h1, h2⟩, hr⟩ := arg_array Tryd.underlying27 (opens_array Tryd.underlying27 (by kernel_rfl) (opens_int Tryd.underlying26)) H enc W base v d ps hok hd
 change RepV W NoM [] (.agg (l.flatMap fun z => [D.int .i8 z])) v at hr
 rw [six l h1] at hr
 exact ⟨fun i => l.getD i 0, trivial, hr⟩
end Go.Proofs.YtgbhmieaoaojoaaDoor
