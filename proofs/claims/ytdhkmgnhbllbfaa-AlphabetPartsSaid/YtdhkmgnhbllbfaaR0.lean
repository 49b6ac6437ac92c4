/-
  The arguments of chapter 01's laws, opened.
-/
import Derived.Test.YtdhkmgnhbllbfaaC3
import Derived.Test.YtdhkmgnhbllbfaaLift
set_option linter.unusedSimpArgs false
set_option linter.unusedVariables false
namespace Go.Proofs.Ytdhkmgnhbllbfaa
open Go.Eng Go.RowKit Go.ChangeShapes
theorem ownKnob_none : ownKnob Try.prog.godebug = none := by kernel_rfl
theorem laidOut : laidOutB Try.prog = true := by kernel_rfl
theorem op_int : OpArg Try.prog 3 (fun z => (Lit.int .i64 z).wf = true) (fun z => .one (.int .i64 z)) := arg_int Try.underlying3
theorem op_u32 : OpArg Try.prog 38 (fun m : Nat => m < 4294967296) (fun m => .one (.int .u32 (m : Int))) := by
  intro H enc W base v d ps hok hd
  obtain ⟨z, hz, hr⟩ := arg_int Try.underlying38 H enc W base v d ps hok hd
  have h1 : 0 ≤ z ∧ z < 4294967296 := by
    simp only [Lit.wf, Bool.and_eq_true, decide_eq_true_eq] at hz
    exact ⟨hz.1, Int.lt_of_le_of_lt hz.2 (by decide)⟩
  refine ⟨z.toNat, by omega, ?_⟩
  have e : ((z.toNat : Nat) : Int) = z := Int.toNat_of_nonneg h1.1
  show RepV W NoM [] (.one (.int .u32 ((z.toNat : Nat) : Int))) v
  rw [e]
  exact hr
theorem op_str : OpArg Try.prog 9 (fun s : List UInt8 => s.length ≤ maxLen) (fun s => .one (.str s)) := arg_str Try.underlying9
theorem op_ints : OpArg Try.prog 30 (fun xs : List Int => xs.length ≤ maxLen ∧ ∀ a ∈ xs, (Lit.int .i64 a).wf = true) (fun xs => .one (.list (ints xs))) := arg_slice Try.underlying30 (of_decide_eq_true (by kernel_rfl)) (opens_int Try.underlying3)
theorem opens_ev : Opens Try.prog 47 (fun _ : Ev => True) Ev.d :=
  (opens_struct Try.underlying47 (opensF_cons rfl (opens_str Try.underlying9) (opensF_cons (by kernel_rfl) (opens_bool Try.underlying4) (opensF_cons (by kernel_rfl) (opens_bool Try.underlying4) (opensF_cons (by kernel_rfl) (opens_bool Try.underlying4) (opensF_cons (by kernel_rfl) (opens_int Try.underlying3) opensF_nil)))))).map
    (fun x => ⟨x.1, x.2.1, x.2.2.1, x.2.2.2.1, x.2.2.2.2.1⟩) (fun _ _ => trivial) (fun _ => rfl)
theorem op_evs : OpArg Try.prog 26 (fun xs : List Ev => xs.length ≤ maxLen ∧ ∀ a ∈ xs, True) (fun xs => .one (.list (evs xs))) := arg_slice Try.underlying26 (of_decide_eq_true (by kernel_rfl)) opens_ev
theorem maxLen_eq : maxLen = 9223372036854775807 := rfl
end Go.Proofs.Ytdhkmgnhbllbfaa
