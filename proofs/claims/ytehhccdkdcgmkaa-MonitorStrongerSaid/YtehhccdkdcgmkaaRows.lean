/-
  No cell of these rows narrows 'for every input' (looked for: loops, veiled, ifaces, maps, wideKeys, modest, calm, conditions, laid).
  DERIVED. THE GIVEN ROWS OF THIS SEAT. 5 by the template 'for every input the law returns true; each argument reads behind the call as it read before'; 0 by the template 'total and deterministic' (their statements: YtehhccdkdcgmkaaTotals.lean).
  GIVEN WITH THE SEED: the statements are not yours to turn. If you find one false, say at which input.
  Laid BY PROGRAM, IN A SANDBOX (cutbox-rows.mjs): the forced cells as the released guide's own fill.sh prints them over the translation 807e5cb0bf02430b… (all of the seat's roots in one cut). By AI agents, Wed Nov 11 2026. No macro, syntax, notation, axiom, sorry.
-/
import Derived.Test.YtehhccdkdcgmkaaChecked
import GoSem.Claim
import GoSem.ClaimJoined
import GoSem.ClaimMapViews
import Derived.JoinedTies
import Derived.KernelRfl
namespace Go.Proofs.Ytehhccdkdcgmkaa
/- THE CELL 'sum', in the pinned program and in every row, IS THE sha256 OF THE DUMP (.gsa) THAT YtehhccdkdcgmkaaProg.lean LOADS. Nothing in Lean hashes anything: it is a label: what it is worth is what the hold of that sum in a sandbox is worth. -/
noncomputable def Try.pinned : Pinned := { name := "ytehhccdkdcgmkaa", sum := "807e5cb0bf02430b53ec369bd0a8afacec1e62698f669634523583581d6a4c74", checked := Try.checked }
namespace Rows
def none {H : Type} : Left H := { results := [], args := [] }

/-- 'overseerlaw50.MonitorTransforms': WHATEVER THE INPUT: true; the input reads as it did. -/
def monitorTransformsSpec : ChangeSpec := { name := "monitorTransforms", fn := fun _ => fun
  | [d1, d2, d3] => { results := [.lit (.bool true)], args := [d1, d2, d3] }
  | _ => none }
def monitorTransformsRow : OpenClaim := { program := "ytehhccdkdcgmkaa", sum := "807e5cb0bf02430b53ec369bd0a8afacec1e62698f669634523583581d6a4c74", func := "overseer/overseerlaw50.MonitorTransforms", spec := "monitorTransforms", unfollowed := true, recurses := true, apart := false }
def MonitorTransformsSaid : Prop := monitorTransformsRow.holds Try.pinned (OpenSpec.ofChange monitorTransformsSpec)

/-- ITS FALSE NEIGHBOUR: 'it returns false'. Refute it at one input. -/
def monitorTransformsWrong : ChangeSpec := { name := "monitorTransforms", fn := fun _ => fun
  | [d1, d2, d3] => { results := [.lit (.bool false)], args := [d1, d2, d3] }
  | _ => none }
def MonitorTransformsWrongFalsely : Prop := monitorTransformsRow.holds Try.pinned (OpenSpec.ofChange monitorTransformsWrong)

/-- 'overseerlaw50.MonitorAdds': WHATEVER THE INPUT: true; the input reads as it did. -/
def monitorAddsSpec : ChangeSpec := { name := "monitorAdds", fn := fun _ => fun
  | [d1, d2] => { results := [.lit (.bool true)], args := [d1, d2] }
  | _ => none }
def monitorAddsRow : OpenClaim := { program := "ytehhccdkdcgmkaa", sum := "807e5cb0bf02430b53ec369bd0a8afacec1e62698f669634523583581d6a4c74", func := "overseer/overseerlaw50.MonitorAdds", spec := "monitorAdds", unfollowed := true, recurses := true, apart := false }
def MonitorAddsSaid : Prop := monitorAddsRow.holds Try.pinned (OpenSpec.ofChange monitorAddsSpec)

/-- ITS FALSE NEIGHBOUR: 'it returns false'. Refute it at one input. -/
def monitorAddsWrong : ChangeSpec := { name := "monitorAdds", fn := fun _ => fun
  | [d1, d2] => { results := [.lit (.bool false)], args := [d1, d2] }
  | _ => none }
def MonitorAddsWrongFalsely : Prop := monitorAddsRow.holds Try.pinned (OpenSpec.ofChange monitorAddsWrong)

/-- 'overseerlaw50.MonitorEnforces': WHATEVER THE INPUT: true; the input reads as it did. -/
def monitorEnforcesSpec : ChangeSpec := { name := "monitorEnforces", fn := fun _ => fun
  | [d1, d2, d3] => { results := [.lit (.bool true)], args := [d1, d2, d3] }
  | _ => none }
def monitorEnforcesRow : OpenClaim := { program := "ytehhccdkdcgmkaa", sum := "807e5cb0bf02430b53ec369bd0a8afacec1e62698f669634523583581d6a4c74", func := "overseer/overseerlaw50.MonitorEnforces", spec := "monitorEnforces", unfollowed := true, recurses := true, apart := false }
def MonitorEnforcesSaid : Prop := monitorEnforcesRow.holds Try.pinned (OpenSpec.ofChange monitorEnforcesSpec)

/-- ITS FALSE NEIGHBOUR: 'it returns false'. Refute it at one input. -/
def monitorEnforcesWrong : ChangeSpec := { name := "monitorEnforces", fn := fun _ => fun
  | [d1, d2, d3] => { results := [.lit (.bool false)], args := [d1, d2, d3] }
  | _ => none }
def MonitorEnforcesWrongFalsely : Prop := monitorEnforcesRow.holds Try.pinned (OpenSpec.ofChange monitorEnforcesWrong)

/-- 'overseerlaw50.MonitorKeeps': WHATEVER THE INPUT: true; the input reads as it did. -/
def monitorKeepsSpec : ChangeSpec := { name := "monitorKeeps", fn := fun _ => fun
  | [d1, d2, d3] => { results := [.lit (.bool true)], args := [d1, d2, d3] }
  | _ => none }
def monitorKeepsRow : OpenClaim := { program := "ytehhccdkdcgmkaa", sum := "807e5cb0bf02430b53ec369bd0a8afacec1e62698f669634523583581d6a4c74", func := "overseer/overseerlaw50.MonitorKeeps", spec := "monitorKeeps", unfollowed := true, recurses := true, apart := false }
def MonitorKeepsSaid : Prop := monitorKeepsRow.holds Try.pinned (OpenSpec.ofChange monitorKeepsSpec)

/-- ITS FALSE NEIGHBOUR: 'it returns false'. Refute it at one input. -/
def monitorKeepsWrong : ChangeSpec := { name := "monitorKeeps", fn := fun _ => fun
  | [d1, d2, d3] => { results := [.lit (.bool false)], args := [d1, d2, d3] }
  | _ => none }
def MonitorKeepsWrongFalsely : Prop := monitorKeepsRow.holds Try.pinned (OpenSpec.ofChange monitorKeepsWrong)

/-- 'overseerlaw50.MonitorStronger': WHATEVER THE INPUT: true; the input reads as it did. -/
def monitorStrongerSpec : ChangeSpec := { name := "monitorStronger", fn := fun _ => fun
  | [d1, d2, d3] => { results := [.lit (.bool true)], args := [d1, d2, d3] }
  | _ => none }
def monitorStrongerRow : OpenClaim := { program := "ytehhccdkdcgmkaa", sum := "807e5cb0bf02430b53ec369bd0a8afacec1e62698f669634523583581d6a4c74", func := "overseer/overseerlaw50.MonitorStronger", spec := "monitorStronger", unfollowed := true, recurses := true, apart := false }
def MonitorStrongerSaid : Prop := monitorStrongerRow.holds Try.pinned (OpenSpec.ofChange monitorStrongerSpec)

/-- ITS FALSE NEIGHBOUR: 'it returns false'. Refute it at one input. -/
def monitorStrongerWrong : ChangeSpec := { name := "monitorStronger", fn := fun _ => fun
  | [d1, d2, d3] => { results := [.lit (.bool false)], args := [d1, d2, d3] }
  | _ => none }
def MonitorStrongerWrongFalsely : Prop := monitorStrongerRow.holds Try.pinned (OpenSpec.ofChange monitorStrongerWrong)

/- THE SECOND FORM. 'bulk': how many values and letters a reading holds, each counted each time it is reached (what is shared counts as often as it is met; a slice's spare places count too). A statement '..UptoSaid' is the law's where the arguments, and the package variables that the reading takes, are together of bulk at most 1048576: NARROWER than '..Said'. Prove '..Said' where nothing that the law and all that it calls make is longer than what came in: it says more and counts as full. Else prove '..UptoSaid'. A law counts once. -/
mutual
def uptoBulk {H : Type} : DataW H → Nat
  | .lit (.string bytes) => bytes.length + 1
  | .lit _ => 1
  | .nil => 1
  | .ptr d => uptoBulk d + 1
  | .slice elems spare => uptoBulkAll elems + uptoBulkAll spare + 1
  | .agg parts => uptoBulkAll parts + 1
  | .iface _ d => uptoBulk d + 1
  | .map entries => uptoBulkEntries entries + 1
  | .held _ => 1
def uptoBulkAll {H : Type} : List (DataW H) → Nat
  | [] => 0
  | d :: r => uptoBulk d + uptoBulkAll r
def uptoBulkEntries {H : Type} : List (Lit × DataW H) → Nat
  | [] => 0
  | x :: r => uptoBulkEntry x + uptoBulkEntries r
def uptoBulkEntry {H : Type} : Lit × DataW H → Nat
  | (.string bytes, d) => bytes.length + uptoBulk d + 1
  | (_, d) => uptoBulk d + 1
 end
def uptoSmall : (H : Type) → List (DataW H) → Bool := fun _ ds => decide (uptoBulkAll ds ≤ 1048576)
def OpenSpec.upto (s : _root_.Go.ChangeSpec) : _root_.Go.OpenSpec := { _root_.Go.OpenSpec.ofChange s with cond := some uptoSmall }

/-- 'overseerlaw50.MonitorTransforms', WHERE WHAT IT READS IS OF BULK AT MOST 1048576: true; the input reads as it did. -/
def monitorTransformsUptoRow : OpenClaim := { program := "ytehhccdkdcgmkaa", sum := "807e5cb0bf02430b53ec369bd0a8afacec1e62698f669634523583581d6a4c74", func := "overseer/overseerlaw50.MonitorTransforms", spec := "monitorTransforms", unfollowed := true, recurses := true, apart := false, narrowed := true }
def MonitorTransformsUptoSaid : Prop := monitorTransformsUptoRow.holds Try.pinned (OpenSpec.upto monitorTransformsSpec)

/-- 'overseerlaw50.MonitorAdds', WHERE WHAT IT READS IS OF BULK AT MOST 1048576: true; the input reads as it did. -/
def monitorAddsUptoRow : OpenClaim := { program := "ytehhccdkdcgmkaa", sum := "807e5cb0bf02430b53ec369bd0a8afacec1e62698f669634523583581d6a4c74", func := "overseer/overseerlaw50.MonitorAdds", spec := "monitorAdds", unfollowed := true, recurses := true, apart := false, narrowed := true }
def MonitorAddsUptoSaid : Prop := monitorAddsUptoRow.holds Try.pinned (OpenSpec.upto monitorAddsSpec)

/-- 'overseerlaw50.MonitorEnforces', WHERE WHAT IT READS IS OF BULK AT MOST 1048576: true; the input reads as it did. -/
def monitorEnforcesUptoRow : OpenClaim := { program := "ytehhccdkdcgmkaa", sum := "807e5cb0bf02430b53ec369bd0a8afacec1e62698f669634523583581d6a4c74", func := "overseer/overseerlaw50.MonitorEnforces", spec := "monitorEnforces", unfollowed := true, recurses := true, apart := false, narrowed := true }
def MonitorEnforcesUptoSaid : Prop := monitorEnforcesUptoRow.holds Try.pinned (OpenSpec.upto monitorEnforcesSpec)

/-- 'overseerlaw50.MonitorKeeps', WHERE WHAT IT READS IS OF BULK AT MOST 1048576: true; the input reads as it did. -/
def monitorKeepsUptoRow : OpenClaim := { program := "ytehhccdkdcgmkaa", sum := "807e5cb0bf02430b53ec369bd0a8afacec1e62698f669634523583581d6a4c74", func := "overseer/overseerlaw50.MonitorKeeps", spec := "monitorKeeps", unfollowed := true, recurses := true, apart := false, narrowed := true }
def MonitorKeepsUptoSaid : Prop := monitorKeepsUptoRow.holds Try.pinned (OpenSpec.upto monitorKeepsSpec)

/-- 'overseerlaw50.MonitorStronger', WHERE WHAT IT READS IS OF BULK AT MOST 1048576: true; the input reads as it did. -/
def monitorStrongerUptoRow : OpenClaim := { program := "ytehhccdkdcgmkaa", sum := "807e5cb0bf02430b53ec369bd0a8afacec1e62698f669634523583581d6a4c74", func := "overseer/overseerlaw50.MonitorStronger", spec := "monitorStronger", unfollowed := true, recurses := true, apart := false, narrowed := true }
def MonitorStrongerUptoSaid : Prop := monitorStrongerUptoRow.holds Try.pinned (OpenSpec.upto monitorStrongerSpec)

end Rows
end Go.Proofs.Ytehhccdkdcgmkaa
