/-
  NARROWER THAN 'FOR EVERY INPUT', by the rows' own cells (each row's printed sentence says how): NondeterministicDeterminizes: laid · NondeterministicLimits: laid · NondeterministicSteps: laid · NondeterministicEqual: laid · NondeterministicWords: laid · NondeterministicFrom: laid · NondeterministicMakes: laid · NondeterministicJoins: laid · NondeterministicChecks: laid · NondeterministicKeeps: laid.
  DERIVED. THE GIVEN ROWS OF THIS SEAT. 10 by the template 'for every input the law returns true; each argument reads behind the call as it read before'; 0 by the template 'total and deterministic' (their statements: YtgagpbbnbonnlaaDoorTotals.lean).
  GIVEN WITH THE SEED: the statements are not yours to turn. If you find one false, say at which input.
  Laid BY PROGRAM, IN A SANDBOX (cutbox-rows.mjs): the forced cells as the released guide's own fill.sh prints them over the translation e4fc7d27c427147c… (all of the seat's roots in one cut). By AI agents, Wed Nov 11 2026. No macro, syntax, notation, axiom, sorry.
-/
import Derived.Test.YtgagpbbnbonnlaaDoorChecked
import GoSem.Claim
import GoSem.ClaimJoined
import GoSem.ClaimMapViews
import Derived.JoinedTies
import Derived.KernelRfl
namespace Go.Proofs.YtgagpbbnbonnlaaDoor
/- THE CELL 'sum', in the pinned program and in every row, IS THE sha256 OF THE DUMP (.gsa) THAT YtgagpbbnbonnlaaDoorProg.lean LOADS. Nothing in Lean hashes anything: it is a label: what it is worth is what the hold of that sum in a sandbox is worth. -/
noncomputable def Tryd.pinned : Pinned := { name := "ytgagpbbnbonnlaadoor", sum := "e4fc7d27c427147c6b66a5626d2db03d7d9ee00252a5e308f25c0023fa0128aa", checked := Tryd.checked }
namespace Rows
def none {H : Type} : Left H := { results := [], args := [] }

/- WHAT THE LISTED PACKAGE-LEVEL VARIABLES READ AS WHEN THE CALL BEGINS. Each datum BY PROGRAM (the guide's laid-datum.mjs) off the statement by which the dump's own 'gosem.cut.vars' lays the variable. In a bare row this is a premise. The card (YtgagpbbnbonnlaaDoorCards.lean) ties it to the program's text. -/
def laid_math_bits_deBruijn32tab {H : Type} : DataW H := .agg [.lit (.int .u8 0), .lit (.int .u8 1), .lit (.int .u8 28), .lit (.int .u8 2), .lit (.int .u8 29), .lit (.int .u8 14), .lit (.int .u8 24), .lit (.int .u8 3), .lit (.int .u8 30), .lit (.int .u8 22), .lit (.int .u8 20), .lit (.int .u8 15), .lit (.int .u8 25), .lit (.int .u8 17), .lit (.int .u8 4), .lit (.int .u8 8), .lit (.int .u8 31), .lit (.int .u8 27), .lit (.int .u8 13), .lit (.int .u8 23), .lit (.int .u8 21), .lit (.int .u8 19), .lit (.int .u8 16), .lit (.int .u8 7), .lit (.int .u8 26), .lit (.int .u8 12), .lit (.int .u8 18), .lit (.int .u8 6), .lit (.int .u8 11), .lit (.int .u8 5), .lit (.int .u8 10), .lit (.int .u8 9)]
def laid_math_bits_deBruijn64tab {H : Type} : DataW H := .agg [.lit (.int .u8 0), .lit (.int .u8 1), .lit (.int .u8 56), .lit (.int .u8 2), .lit (.int .u8 57), .lit (.int .u8 49), .lit (.int .u8 28), .lit (.int .u8 3), .lit (.int .u8 61), .lit (.int .u8 58), .lit (.int .u8 42), .lit (.int .u8 50), .lit (.int .u8 38), .lit (.int .u8 29), .lit (.int .u8 17), .lit (.int .u8 4), .lit (.int .u8 62), .lit (.int .u8 47), .lit (.int .u8 59), .lit (.int .u8 36), .lit (.int .u8 45), .lit (.int .u8 43), .lit (.int .u8 51), .lit (.int .u8 22), .lit (.int .u8 53), .lit (.int .u8 39), .lit (.int .u8 33), .lit (.int .u8 30), .lit (.int .u8 24), .lit (.int .u8 18), .lit (.int .u8 12), .lit (.int .u8 5), .lit (.int .u8 63), .lit (.int .u8 55), .lit (.int .u8 48), .lit (.int .u8 27), .lit (.int .u8 60), .lit (.int .u8 41), .lit (.int .u8 37), .lit (.int .u8 16), .lit (.int .u8 46), .lit (.int .u8 35), .lit (.int .u8 44), .lit (.int .u8 21), .lit (.int .u8 52), .lit (.int .u8 32), .lit (.int .u8 23), .lit (.int .u8 11), .lit (.int .u8 54), .lit (.int .u8 26), .lit (.int .u8 40), .lit (.int .u8 15), .lit (.int .u8 34), .lit (.int .u8 20), .lit (.int .u8 31), .lit (.int .u8 10), .lit (.int .u8 25), .lit (.int .u8 14), .lit (.int .u8 19), .lit (.int .u8 9), .lit (.int .u8 13), .lit (.int .u8 8), .lit (.int .u8 7), .lit (.int .u8 6)]
def laid_internal_strconv_uint64pow10 {H : Type} : DataW H := .agg [.lit (.int .u64 1), .lit (.int .u64 10), .lit (.int .u64 100), .lit (.int .u64 1000), .lit (.int .u64 10000), .lit (.int .u64 100000), .lit (.int .u64 1000000), .lit (.int .u64 10000000), .lit (.int .u64 100000000), .lit (.int .u64 1000000000), .lit (.int .u64 10000000000), .lit (.int .u64 100000000000), .lit (.int .u64 1000000000000), .lit (.int .u64 10000000000000), .lit (.int .u64 100000000000000), .lit (.int .u64 1000000000000000), .lit (.int .u64 10000000000000000), .lit (.int .u64 100000000000000000), .lit (.int .u64 1000000000000000000), .lit (.int .u64 10000000000000000000)]

/-- 'overseerlaw05.NondeterministicDeterminizes': WHATEVER THE INPUT: true; the input reads as it did. -/
def nondeterministicDeterminizesSpec : ChangeSpec := { name := "nondeterministicDeterminizes", fn := fun _ => fun
  | [d] => { results := [.lit (.bool true)], args := [d] }
  | _ => none }
def nondeterministicDeterminizesRow : OpenClaim := { program := "ytgagpbbnbonnlaadoor", sum := "e4fc7d27c427147c6b66a5626d2db03d7d9ee00252a5e308f25c0023fa0128aa", func := "overseer/overseerlaw05.NondeterministicDeterminizes", spec := "nondeterministicDeterminizes", inPlace := ["internal/abi.NoEscape"], unfollowed := true, recurses := true, named := ["internal/strconv.uint64pow10", "math/bits.deBruijn32tab", "math/bits.deBruijn64tab"], apart := false, laid := [("math/bits.deBruijn32tab", laid_math_bits_deBruijn32tab), ("math/bits.deBruijn64tab", laid_math_bits_deBruijn64tab), ("internal/strconv.uint64pow10", laid_internal_strconv_uint64pow10)] }
def NondeterministicDeterminizesSaid : Prop := nondeterministicDeterminizesRow.holds Tryd.pinned (OpenSpec.ofChange nondeterministicDeterminizesSpec)

/-- ITS FALSE NEIGHBOUR: 'it returns false'. Refute it at one input. -/
def nondeterministicDeterminizesWrong : ChangeSpec := { name := "nondeterministicDeterminizes", fn := fun _ => fun
  | [d] => { results := [.lit (.bool false)], args := [d] }
  | _ => none }
def NondeterministicDeterminizesWrongFalsely : Prop := nondeterministicDeterminizesRow.holds Tryd.pinned (OpenSpec.ofChange nondeterministicDeterminizesWrong)

/-- 'overseerlaw05.NondeterministicLimits': WHATEVER THE INPUT: true; the input reads as it did. -/
def nondeterministicLimitsSpec : ChangeSpec := { name := "nondeterministicLimits", fn := fun _ => fun
  | [d] => { results := [.lit (.bool true)], args := [d] }
  | _ => none }
def nondeterministicLimitsRow : OpenClaim := { program := "ytgagpbbnbonnlaadoor", sum := "e4fc7d27c427147c6b66a5626d2db03d7d9ee00252a5e308f25c0023fa0128aa", func := "overseer/overseerlaw05.NondeterministicLimits", spec := "nondeterministicLimits", inPlace := ["internal/abi.NoEscape"], unfollowed := true, recurses := true, named := ["internal/strconv.uint64pow10", "math/bits.deBruijn32tab", "math/bits.deBruijn64tab"], apart := false, laid := [("math/bits.deBruijn32tab", laid_math_bits_deBruijn32tab), ("math/bits.deBruijn64tab", laid_math_bits_deBruijn64tab), ("internal/strconv.uint64pow10", laid_internal_strconv_uint64pow10)] }
def NondeterministicLimitsSaid : Prop := nondeterministicLimitsRow.holds Tryd.pinned (OpenSpec.ofChange nondeterministicLimitsSpec)

/-- ITS FALSE NEIGHBOUR: 'it returns false'. Refute it at one input. -/
def nondeterministicLimitsWrong : ChangeSpec := { name := "nondeterministicLimits", fn := fun _ => fun
  | [d] => { results := [.lit (.bool false)], args := [d] }
  | _ => none }
def NondeterministicLimitsWrongFalsely : Prop := nondeterministicLimitsRow.holds Tryd.pinned (OpenSpec.ofChange nondeterministicLimitsWrong)

/-- 'overseerlaw05.NondeterministicSteps': WHATEVER THE INPUT: true; the input reads as it did. -/
def nondeterministicStepsSpec : ChangeSpec := { name := "nondeterministicSteps", fn := fun _ => fun
  | [d1, d2, d3] => { results := [.lit (.bool true)], args := [d1, d2, d3] }
  | _ => none }
def nondeterministicStepsRow : OpenClaim := { program := "ytgagpbbnbonnlaadoor", sum := "e4fc7d27c427147c6b66a5626d2db03d7d9ee00252a5e308f25c0023fa0128aa", func := "overseer/overseerlaw05.NondeterministicSteps", spec := "nondeterministicSteps", inPlace := ["internal/abi.NoEscape"], unfollowed := true, recurses := true, named := ["internal/strconv.uint64pow10", "math/bits.deBruijn32tab", "math/bits.deBruijn64tab"], apart := false, laid := [("math/bits.deBruijn32tab", laid_math_bits_deBruijn32tab), ("math/bits.deBruijn64tab", laid_math_bits_deBruijn64tab), ("internal/strconv.uint64pow10", laid_internal_strconv_uint64pow10)] }
def NondeterministicStepsSaid : Prop := nondeterministicStepsRow.holds Tryd.pinned (OpenSpec.ofChange nondeterministicStepsSpec)

/-- ITS FALSE NEIGHBOUR: 'it returns false'. Refute it at one input. -/
def nondeterministicStepsWrong : ChangeSpec := { name := "nondeterministicSteps", fn := fun _ => fun
  | [d1, d2, d3] => { results := [.lit (.bool false)], args := [d1, d2, d3] }
  | _ => none }
def NondeterministicStepsWrongFalsely : Prop := nondeterministicStepsRow.holds Tryd.pinned (OpenSpec.ofChange nondeterministicStepsWrong)

/-- 'overseerlaw05.NondeterministicEqual': WHATEVER THE INPUT: true; the input reads as it did. -/
def nondeterministicEqualSpec : ChangeSpec := { name := "nondeterministicEqual", fn := fun _ => fun
  | [d1, d2] => { results := [.lit (.bool true)], args := [d1, d2] }
  | _ => none }
def nondeterministicEqualRow : OpenClaim := { program := "ytgagpbbnbonnlaadoor", sum := "e4fc7d27c427147c6b66a5626d2db03d7d9ee00252a5e308f25c0023fa0128aa", func := "overseer/overseerlaw05.NondeterministicEqual", spec := "nondeterministicEqual", inPlace := ["internal/abi.NoEscape"], unfollowed := true, recurses := true, named := ["internal/strconv.uint64pow10", "math/bits.deBruijn32tab", "math/bits.deBruijn64tab"], apart := false, laid := [("math/bits.deBruijn32tab", laid_math_bits_deBruijn32tab), ("math/bits.deBruijn64tab", laid_math_bits_deBruijn64tab), ("internal/strconv.uint64pow10", laid_internal_strconv_uint64pow10)] }
def NondeterministicEqualSaid : Prop := nondeterministicEqualRow.holds Tryd.pinned (OpenSpec.ofChange nondeterministicEqualSpec)

/-- ITS FALSE NEIGHBOUR: 'it returns false'. Refute it at one input. -/
def nondeterministicEqualWrong : ChangeSpec := { name := "nondeterministicEqual", fn := fun _ => fun
  | [d1, d2] => { results := [.lit (.bool false)], args := [d1, d2] }
  | _ => none }
def NondeterministicEqualWrongFalsely : Prop := nondeterministicEqualRow.holds Tryd.pinned (OpenSpec.ofChange nondeterministicEqualWrong)

/-- 'overseerlaw05.NondeterministicWords': WHATEVER THE INPUT: true; the input reads as it did. -/
def nondeterministicWordsSpec : ChangeSpec := { name := "nondeterministicWords", fn := fun _ => fun
  | [d1, d2] => { results := [.lit (.bool true)], args := [d1, d2] }
  | _ => none }
def nondeterministicWordsRow : OpenClaim := { program := "ytgagpbbnbonnlaadoor", sum := "e4fc7d27c427147c6b66a5626d2db03d7d9ee00252a5e308f25c0023fa0128aa", func := "overseer/overseerlaw05.NondeterministicWords", spec := "nondeterministicWords", inPlace := ["internal/abi.NoEscape"], unfollowed := true, recurses := true, named := ["internal/strconv.uint64pow10", "math/bits.deBruijn32tab", "math/bits.deBruijn64tab"], apart := false, laid := [("math/bits.deBruijn32tab", laid_math_bits_deBruijn32tab), ("math/bits.deBruijn64tab", laid_math_bits_deBruijn64tab), ("internal/strconv.uint64pow10", laid_internal_strconv_uint64pow10)] }
def NondeterministicWordsSaid : Prop := nondeterministicWordsRow.holds Tryd.pinned (OpenSpec.ofChange nondeterministicWordsSpec)

/-- ITS FALSE NEIGHBOUR: 'it returns false'. Refute it at one input. -/
def nondeterministicWordsWrong : ChangeSpec := { name := "nondeterministicWords", fn := fun _ => fun
  | [d1, d2] => { results := [.lit (.bool false)], args := [d1, d2] }
  | _ => none }
def NondeterministicWordsWrongFalsely : Prop := nondeterministicWordsRow.holds Tryd.pinned (OpenSpec.ofChange nondeterministicWordsWrong)

/-- 'overseerlaw05.NondeterministicFrom': WHATEVER THE INPUT: true; the input reads as it did. -/
def nondeterministicFromSpec : ChangeSpec := { name := "nondeterministicFrom", fn := fun _ => fun
  | [d1, d2, d3] => { results := [.lit (.bool true)], args := [d1, d2, d3] }
  | _ => none }
def nondeterministicFromRow : OpenClaim := { program := "ytgagpbbnbonnlaadoor", sum := "e4fc7d27c427147c6b66a5626d2db03d7d9ee00252a5e308f25c0023fa0128aa", func := "overseer/overseerlaw05.NondeterministicFrom", spec := "nondeterministicFrom", inPlace := ["internal/abi.NoEscape"], unfollowed := true, recurses := true, named := ["internal/strconv.uint64pow10", "math/bits.deBruijn32tab", "math/bits.deBruijn64tab"], apart := false, laid := [("math/bits.deBruijn32tab", laid_math_bits_deBruijn32tab), ("math/bits.deBruijn64tab", laid_math_bits_deBruijn64tab), ("internal/strconv.uint64pow10", laid_internal_strconv_uint64pow10)] }
def NondeterministicFromSaid : Prop := nondeterministicFromRow.holds Tryd.pinned (OpenSpec.ofChange nondeterministicFromSpec)

/-- ITS FALSE NEIGHBOUR: 'it returns false'. Refute it at one input. -/
def nondeterministicFromWrong : ChangeSpec := { name := "nondeterministicFrom", fn := fun _ => fun
  | [d1, d2, d3] => { results := [.lit (.bool false)], args := [d1, d2, d3] }
  | _ => none }
def NondeterministicFromWrongFalsely : Prop := nondeterministicFromRow.holds Tryd.pinned (OpenSpec.ofChange nondeterministicFromWrong)

/-- 'overseerlaw05.NondeterministicMakes': WHATEVER THE INPUT: true; the input reads as it did. -/
def nondeterministicMakesSpec : ChangeSpec := { name := "nondeterministicMakes", fn := fun _ => fun
  | [d1, d2] => { results := [.lit (.bool true)], args := [d1, d2] }
  | _ => none }
def nondeterministicMakesRow : OpenClaim := { program := "ytgagpbbnbonnlaadoor", sum := "e4fc7d27c427147c6b66a5626d2db03d7d9ee00252a5e308f25c0023fa0128aa", func := "overseer/overseerlaw05.NondeterministicMakes", spec := "nondeterministicMakes", inPlace := ["internal/abi.NoEscape"], unfollowed := true, recurses := true, named := ["internal/strconv.uint64pow10", "math/bits.deBruijn32tab", "math/bits.deBruijn64tab"], apart := false, laid := [("math/bits.deBruijn32tab", laid_math_bits_deBruijn32tab), ("math/bits.deBruijn64tab", laid_math_bits_deBruijn64tab), ("internal/strconv.uint64pow10", laid_internal_strconv_uint64pow10)] }
def NondeterministicMakesSaid : Prop := nondeterministicMakesRow.holds Tryd.pinned (OpenSpec.ofChange nondeterministicMakesSpec)

/-- ITS FALSE NEIGHBOUR: 'it returns false'. Refute it at one input. -/
def nondeterministicMakesWrong : ChangeSpec := { name := "nondeterministicMakes", fn := fun _ => fun
  | [d1, d2] => { results := [.lit (.bool false)], args := [d1, d2] }
  | _ => none }
def NondeterministicMakesWrongFalsely : Prop := nondeterministicMakesRow.holds Tryd.pinned (OpenSpec.ofChange nondeterministicMakesWrong)

/-- 'overseerlaw05.NondeterministicJoins': WHATEVER THE INPUT: true; the input reads as it did. -/
def nondeterministicJoinsSpec : ChangeSpec := { name := "nondeterministicJoins", fn := fun _ => fun
  | [d1, d2, d3] => { results := [.lit (.bool true)], args := [d1, d2, d3] }
  | _ => none }
def nondeterministicJoinsRow : OpenClaim := { program := "ytgagpbbnbonnlaadoor", sum := "e4fc7d27c427147c6b66a5626d2db03d7d9ee00252a5e308f25c0023fa0128aa", func := "overseer/overseerlaw05.NondeterministicJoins", spec := "nondeterministicJoins", inPlace := ["internal/abi.NoEscape"], unfollowed := true, recurses := true, named := ["internal/strconv.uint64pow10", "math/bits.deBruijn32tab", "math/bits.deBruijn64tab"], apart := false, laid := [("math/bits.deBruijn32tab", laid_math_bits_deBruijn32tab), ("math/bits.deBruijn64tab", laid_math_bits_deBruijn64tab), ("internal/strconv.uint64pow10", laid_internal_strconv_uint64pow10)] }
def NondeterministicJoinsSaid : Prop := nondeterministicJoinsRow.holds Tryd.pinned (OpenSpec.ofChange nondeterministicJoinsSpec)

/-- ITS FALSE NEIGHBOUR: 'it returns false'. Refute it at one input. -/
def nondeterministicJoinsWrong : ChangeSpec := { name := "nondeterministicJoins", fn := fun _ => fun
  | [d1, d2, d3] => { results := [.lit (.bool false)], args := [d1, d2, d3] }
  | _ => none }
def NondeterministicJoinsWrongFalsely : Prop := nondeterministicJoinsRow.holds Tryd.pinned (OpenSpec.ofChange nondeterministicJoinsWrong)

/-- 'overseerlaw05.NondeterministicChecks': WHATEVER THE INPUT: true; the input reads as it did. -/
def nondeterministicChecksSpec : ChangeSpec := { name := "nondeterministicChecks", fn := fun _ => fun
  | [d] => { results := [.lit (.bool true)], args := [d] }
  | _ => none }
def nondeterministicChecksRow : OpenClaim := { program := "ytgagpbbnbonnlaadoor", sum := "e4fc7d27c427147c6b66a5626d2db03d7d9ee00252a5e308f25c0023fa0128aa", func := "overseer/overseerlaw05.NondeterministicChecks", spec := "nondeterministicChecks", inPlace := ["internal/abi.NoEscape"], unfollowed := true, recurses := true, named := ["internal/strconv.uint64pow10", "math/bits.deBruijn32tab", "math/bits.deBruijn64tab"], apart := false, laid := [("math/bits.deBruijn32tab", laid_math_bits_deBruijn32tab), ("math/bits.deBruijn64tab", laid_math_bits_deBruijn64tab), ("internal/strconv.uint64pow10", laid_internal_strconv_uint64pow10)] }
def NondeterministicChecksSaid : Prop := nondeterministicChecksRow.holds Tryd.pinned (OpenSpec.ofChange nondeterministicChecksSpec)

/-- ITS FALSE NEIGHBOUR: 'it returns false'. Refute it at one input. -/
def nondeterministicChecksWrong : ChangeSpec := { name := "nondeterministicChecks", fn := fun _ => fun
  | [d] => { results := [.lit (.bool false)], args := [d] }
  | _ => none }
def NondeterministicChecksWrongFalsely : Prop := nondeterministicChecksRow.holds Tryd.pinned (OpenSpec.ofChange nondeterministicChecksWrong)

/-- 'overseerlaw05.NondeterministicKeeps': WHATEVER THE INPUT: true; the input reads as it did. -/
def nondeterministicKeepsSpec : ChangeSpec := { name := "nondeterministicKeeps", fn := fun _ => fun
  | [d1, d2] => { results := [.lit (.bool true)], args := [d1, d2] }
  | _ => none }
def nondeterministicKeepsRow : OpenClaim := { program := "ytgagpbbnbonnlaadoor", sum := "e4fc7d27c427147c6b66a5626d2db03d7d9ee00252a5e308f25c0023fa0128aa", func := "overseer/overseerlaw05.NondeterministicKeeps", spec := "nondeterministicKeeps", inPlace := ["internal/abi.NoEscape"], unfollowed := true, recurses := true, named := ["internal/strconv.uint64pow10", "math/bits.deBruijn32tab", "math/bits.deBruijn64tab"], apart := false, laid := [("math/bits.deBruijn32tab", laid_math_bits_deBruijn32tab), ("math/bits.deBruijn64tab", laid_math_bits_deBruijn64tab), ("internal/strconv.uint64pow10", laid_internal_strconv_uint64pow10)] }
def NondeterministicKeepsSaid : Prop := nondeterministicKeepsRow.holds Tryd.pinned (OpenSpec.ofChange nondeterministicKeepsSpec)

/-- ITS FALSE NEIGHBOUR: 'it returns false'. Refute it at one input. -/
def nondeterministicKeepsWrong : ChangeSpec := { name := "nondeterministicKeeps", fn := fun _ => fun
  | [d1, d2] => { results := [.lit (.bool false)], args := [d1, d2] }
  | _ => none }
def NondeterministicKeepsWrongFalsely : Prop := nondeterministicKeepsRow.holds Tryd.pinned (OpenSpec.ofChange nondeterministicKeepsWrong)

/- THE SECOND FORM. 'bulk': how many values and letters a reading holds, each counted each time it is reached (what is shared counts as often as it is met; a slice's spare places count too). A statement '..UptoSaid' is the law's where the arguments, and the package variables that the reading takes, are together of bulk at most 1048576: NARROWER than '..Said'. Prove '..Said' where nothing that the law and all that it calls make is longer than what came in: it says more and counts as full. Else prove '..UptoSaid'. A law counts once. -/
mutual
def uptoBulk {H : Type} : DataW H → Nat
  | .lit (.string bytes) => bytes.length + 1
  | .lit _ => 1
  | .nil => 1
  | .ptr d => uptoBulk d + 1
  | .slice elems spare => uptoBulkAll elems + uptoBulkAll spare + 1
  | .agg parts => uptoBulkAll parts + 1
  | .iface _ d => uptoBulk d + 1
  | .map entries => uptoBulkEntries entries + 1
  | .held _ => 1
def uptoBulkAll {H : Type} : List (DataW H) → Nat
  | [] => 0
  | d :: r => uptoBulk d + uptoBulkAll r
def uptoBulkEntries {H : Type} : List (Lit × DataW H) → Nat
  | [] => 0
  | x :: r => uptoBulkEntry x + uptoBulkEntries r
def uptoBulkEntry {H : Type} : Lit × DataW H → Nat
  | (.string bytes, d) => bytes.length + uptoBulk d + 1
  | (_, d) => uptoBulk d + 1
 end
def uptoSmall : (H : Type) → List (DataW H) → Bool := fun _ ds => decide (uptoBulkAll ds ≤ 1048576)
def OpenSpec.upto (s : _root_.Go.ChangeSpec) : _root_.Go.OpenSpec := { _root_.Go.OpenSpec.ofChange s with cond := some uptoSmall }

/-- 'overseerlaw05.NondeterministicDeterminizes', WHERE WHAT IT READS IS OF BULK AT MOST 1048576: true; the input reads as it did. -/
def nondeterministicDeterminizesUptoRow : OpenClaim := { program := "ytgagpbbnbonnlaadoor", sum := "e4fc7d27c427147c6b66a5626d2db03d7d9ee00252a5e308f25c0023fa0128aa", func := "overseer/overseerlaw05.NondeterministicDeterminizes", spec := "nondeterministicDeterminizes", inPlace := ["internal/abi.NoEscape"], unfollowed := true, recurses := true, named := ["internal/strconv.uint64pow10", "math/bits.deBruijn32tab", "math/bits.deBruijn64tab"], apart := false, laid := [("math/bits.deBruijn32tab", laid_math_bits_deBruijn32tab), ("math/bits.deBruijn64tab", laid_math_bits_deBruijn64tab), ("internal/strconv.uint64pow10", laid_internal_strconv_uint64pow10)], narrowed := true }
def NondeterministicDeterminizesUptoSaid : Prop := nondeterministicDeterminizesUptoRow.holds Tryd.pinned (OpenSpec.upto nondeterministicDeterminizesSpec)

/-- 'overseerlaw05.NondeterministicLimits', WHERE WHAT IT READS IS OF BULK AT MOST 1048576: true; the input reads as it did. -/
def nondeterministicLimitsUptoRow : OpenClaim := { program := "ytgagpbbnbonnlaadoor", sum := "e4fc7d27c427147c6b66a5626d2db03d7d9ee00252a5e308f25c0023fa0128aa", func := "overseer/overseerlaw05.NondeterministicLimits", spec := "nondeterministicLimits", inPlace := ["internal/abi.NoEscape"], unfollowed := true, recurses := true, named := ["internal/strconv.uint64pow10", "math/bits.deBruijn32tab", "math/bits.deBruijn64tab"], apart := false, laid := [("math/bits.deBruijn32tab", laid_math_bits_deBruijn32tab), ("math/bits.deBruijn64tab", laid_math_bits_deBruijn64tab), ("internal/strconv.uint64pow10", laid_internal_strconv_uint64pow10)], narrowed := true }
def NondeterministicLimitsUptoSaid : Prop := nondeterministicLimitsUptoRow.holds Tryd.pinned (OpenSpec.upto nondeterministicLimitsSpec)

/-- 'overseerlaw05.NondeterministicSteps', WHERE WHAT IT READS IS OF BULK AT MOST 1048576: true; the input reads as it did. -/
def nondeterministicStepsUptoRow : OpenClaim := { program := "ytgagpbbnbonnlaadoor", sum := "e4fc7d27c427147c6b66a5626d2db03d7d9ee00252a5e308f25c0023fa0128aa", func := "overseer/overseerlaw05.NondeterministicSteps", spec := "nondeterministicSteps", inPlace := ["internal/abi.NoEscape"], unfollowed := true, recurses := true, named := ["internal/strconv.uint64pow10", "math/bits.deBruijn32tab", "math/bits.deBruijn64tab"], apart := false, laid := [("math/bits.deBruijn32tab", laid_math_bits_deBruijn32tab), ("math/bits.deBruijn64tab", laid_math_bits_deBruijn64tab), ("internal/strconv.uint64pow10", laid_internal_strconv_uint64pow10)], narrowed := true }
def NondeterministicStepsUptoSaid : Prop := nondeterministicStepsUptoRow.holds Tryd.pinned (OpenSpec.upto nondeterministicStepsSpec)

/-- 'overseerlaw05.NondeterministicEqual', WHERE WHAT IT READS IS OF BULK AT MOST 1048576: true; the input reads as it did. -/
def nondeterministicEqualUptoRow : OpenClaim := { program := "ytgagpbbnbonnlaadoor", sum := "e4fc7d27c427147c6b66a5626d2db03d7d9ee00252a5e308f25c0023fa0128aa", func := "overseer/overseerlaw05.NondeterministicEqual", spec := "nondeterministicEqual", inPlace := ["internal/abi.NoEscape"], unfollowed := true, recurses := true, named := ["internal/strconv.uint64pow10", "math/bits.deBruijn32tab", "math/bits.deBruijn64tab"], apart := false, laid := [("math/bits.deBruijn32tab", laid_math_bits_deBruijn32tab), ("math/bits.deBruijn64tab", laid_math_bits_deBruijn64tab), ("internal/strconv.uint64pow10", laid_internal_strconv_uint64pow10)], narrowed := true }
def NondeterministicEqualUptoSaid : Prop := nondeterministicEqualUptoRow.holds Tryd.pinned (OpenSpec.upto nondeterministicEqualSpec)

/-- 'overseerlaw05.NondeterministicWords', WHERE WHAT IT READS IS OF BULK AT MOST 1048576: true; the input reads as it did. -/
def nondeterministicWordsUptoRow : OpenClaim := { program := "ytgagpbbnbonnlaadoor", sum := "e4fc7d27c427147c6b66a5626d2db03d7d9ee00252a5e308f25c0023fa0128aa", func := "overseer/overseerlaw05.NondeterministicWords", spec := "nondeterministicWords", inPlace := ["internal/abi.NoEscape"], unfollowed := true, recurses := true, named := ["internal/strconv.uint64pow10", "math/bits.deBruijn32tab", "math/bits.deBruijn64tab"], apart := false, laid := [("math/bits.deBruijn32tab", laid_math_bits_deBruijn32tab), ("math/bits.deBruijn64tab", laid_math_bits_deBruijn64tab), ("internal/strconv.uint64pow10", laid_internal_strconv_uint64pow10)], narrowed := true }
def NondeterministicWordsUptoSaid : Prop := nondeterministicWordsUptoRow.holds Tryd.pinned (OpenSpec.upto nondeterministicWordsSpec)

/-- 'overseerlaw05.NondeterministicFrom', WHERE WHAT IT READS IS OF BULK AT MOST 1048576: true; the input reads as it did. -/
def nondeterministicFromUptoRow : OpenClaim := { program := "ytgagpbbnbonnlaadoor", sum := "e4fc7d27c427147c6b66a5626d2db03d7d9ee00252a5e308f25c0023fa0128aa", func := "overseer/overseerlaw05.NondeterministicFrom", spec := "nondeterministicFrom", inPlace := ["internal/abi.NoEscape"], unfollowed := true, recurses := true, named := ["internal/strconv.uint64pow10", "math/bits.deBruijn32tab", "math/bits.deBruijn64tab"], apart := false, laid := [("math/bits.deBruijn32tab", laid_math_bits_deBruijn32tab), ("math/bits.deBruijn64tab", laid_math_bits_deBruijn64tab), ("internal/strconv.uint64pow10", laid_internal_strconv_uint64pow10)], narrowed := true }
def NondeterministicFromUptoSaid : Prop := nondeterministicFromUptoRow.holds Tryd.pinned (OpenSpec.upto nondeterministicFromSpec)

/-- 'overseerlaw05.NondeterministicMakes', WHERE WHAT IT READS IS OF BULK AT MOST 1048576: true; the input reads as it did. -/
def nondeterministicMakesUptoRow : OpenClaim := { program := "ytgagpbbnbonnlaadoor", sum := "e4fc7d27c427147c6b66a5626d2db03d7d9ee00252a5e308f25c0023fa0128aa", func := "overseer/overseerlaw05.NondeterministicMakes", spec := "nondeterministicMakes", inPlace := ["internal/abi.NoEscape"], unfollowed := true, recurses := true, named := ["internal/strconv.uint64pow10", "math/bits.deBruijn32tab", "math/bits.deBruijn64tab"], apart := false, laid := [("math/bits.deBruijn32tab", laid_math_bits_deBruijn32tab), ("math/bits.deBruijn64tab", laid_math_bits_deBruijn64tab), ("internal/strconv.uint64pow10", laid_internal_strconv_uint64pow10)], narrowed := true }
def NondeterministicMakesUptoSaid : Prop := nondeterministicMakesUptoRow.holds Tryd.pinned (OpenSpec.upto nondeterministicMakesSpec)

/-- 'overseerlaw05.NondeterministicJoins', WHERE WHAT IT READS IS OF BULK AT MOST 1048576: true; the input reads as it did. -/
def nondeterministicJoinsUptoRow : OpenClaim := { program := "ytgagpbbnbonnlaadoor", sum := "e4fc7d27c427147c6b66a5626d2db03d7d9ee00252a5e308f25c0023fa0128aa", func := "overseer/overseerlaw05.NondeterministicJoins", spec := "nondeterministicJoins", inPlace := ["internal/abi.NoEscape"], unfollowed := true, recurses := true, named := ["internal/strconv.uint64pow10", "math/bits.deBruijn32tab", "math/bits.deBruijn64tab"], apart := false, laid := [("math/bits.deBruijn32tab", laid_math_bits_deBruijn32tab), ("math/bits.deBruijn64tab", laid_math_bits_deBruijn64tab), ("internal/strconv.uint64pow10", laid_internal_strconv_uint64pow10)], narrowed := true }
def NondeterministicJoinsUptoSaid : Prop := nondeterministicJoinsUptoRow.holds Tryd.pinned (OpenSpec.upto nondeterministicJoinsSpec)

/-- 'overseerlaw05.NondeterministicChecks', WHERE WHAT IT READS IS OF BULK AT MOST 1048576: true; the input reads as it did. -/
def nondeterministicChecksUptoRow : OpenClaim := { program := "ytgagpbbnbonnlaadoor", sum := "e4fc7d27c427147c6b66a5626d2db03d7d9ee00252a5e308f25c0023fa0128aa", func := "overseer/overseerlaw05.NondeterministicChecks", spec := "nondeterministicChecks", inPlace := ["internal/abi.NoEscape"], unfollowed := true, recurses := true, named := ["internal/strconv.uint64pow10", "math/bits.deBruijn32tab", "math/bits.deBruijn64tab"], apart := false, laid := [("math/bits.deBruijn32tab", laid_math_bits_deBruijn32tab), ("math/bits.deBruijn64tab", laid_math_bits_deBruijn64tab), ("internal/strconv.uint64pow10", laid_internal_strconv_uint64pow10)], narrowed := true }
def NondeterministicChecksUptoSaid : Prop := nondeterministicChecksUptoRow.holds Tryd.pinned (OpenSpec.upto nondeterministicChecksSpec)

/-- 'overseerlaw05.NondeterministicKeeps', WHERE WHAT IT READS IS OF BULK AT MOST 1048576: true; the input reads as it did. -/
def nondeterministicKeepsUptoRow : OpenClaim := { program := "ytgagpbbnbonnlaadoor", sum := "e4fc7d27c427147c6b66a5626d2db03d7d9ee00252a5e308f25c0023fa0128aa", func := "overseer/overseerlaw05.NondeterministicKeeps", spec := "nondeterministicKeeps", inPlace := ["internal/abi.NoEscape"], unfollowed := true, recurses := true, named := ["internal/strconv.uint64pow10", "math/bits.deBruijn32tab", "math/bits.deBruijn64tab"], apart := false, laid := [("math/bits.deBruijn32tab", laid_math_bits_deBruijn32tab), ("math/bits.deBruijn64tab", laid_math_bits_deBruijn64tab), ("internal/strconv.uint64pow10", laid_internal_strconv_uint64pow10)], narrowed := true }
def NondeterministicKeepsUptoSaid : Prop := nondeterministicKeepsUptoRow.holds Tryd.pinned (OpenSpec.upto nondeterministicKeepsSpec)

end Rows
end Go.Proofs.YtgagpbbnbonnlaaDoor
