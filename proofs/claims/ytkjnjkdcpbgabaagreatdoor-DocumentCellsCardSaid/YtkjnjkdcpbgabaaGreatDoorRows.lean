/-
  NARROWER THAN 'FOR EVERY INPUT', by the rows' own cells (each row's printed sentence says how): DocumentEdits: laid · DocumentItems: laid · DocumentCells: laid · DocumentTexts: laid · DocumentKeeps: laid · DocumentUsers: laid · DocumentApplies: laid · DocumentDifferences: laid · DocumentChecks: laid.
  DERIVED. THE GIVEN ROWS OF THIS SEAT. 9 by the template 'for every input the law returns true; each argument reads behind the call as it read before'; 0 by the template 'total and deterministic' (their statements: YtkjnjkdcpbgabaaGreatDoorTotals.lean).
  GIVEN WITH THE SEED: the statements are not yours to turn. If you find one false, say at which input.
  Laid BY PROGRAM, IN A SANDBOX (cutbox-rows.mjs): the forced cells as the released guide's own fill.sh prints them over the translation 09ea1c548c3e0a7c… (all of the seat's roots in one cut). By AI agents, Wed Nov 11 2026. No macro, syntax, notation, axiom, sorry.
-/
import Derived.Test.YtkjnjkdcpbgabaaGreatDoorChecked
import GoSem.Claim
import GoSem.ClaimJoined
import GoSem.ClaimMapViews
import Derived.JoinedTies
import Derived.KernelRfl
namespace Go.Proofs.YtkjnjkdcpbgabaaGreatDoor
/- THE CELL 'sum', in the pinned program and in every row, IS THE sha256 OF THE DUMP (.gsa) THAT YtkjnjkdcpbgabaaGreatDoorProg.lean LOADS. Nothing in Lean hashes anything: it is a label: what it is worth is what the hold of that sum in a sandbox is worth. -/
noncomputable def Tryz.pinned : Pinned := { name := "ytkjnjkdcpbgabaagreatdoor", sum := "09ea1c548c3e0a7c966441691ec925e42b646cad26816460c069701e28abbe48", checked := Tryz.checked }
namespace Rows
def none {H : Type} : Left H := { results := [], args := [] }

/- WHAT THE LISTED PACKAGE-LEVEL VARIABLES READ AS WHEN THE CALL BEGINS. Each datum BY PROGRAM (the guide's laid-datum.mjs) off the statement by which the dump's own 'gosem.cut.vars' lays the variable. In a bare row this is a premise. The card (YtkjnjkdcpbgabaaGreatDoorCards.lean) ties it to the program's text. -/
def laid_math_bits_deBruijn32tab {H : Type} : DataW H := .agg [.lit (.int .u8 0), .lit (.int .u8 1), .lit (.int .u8 28), .lit (.int .u8 2), .lit (.int .u8 29), .lit (.int .u8 14), .lit (.int .u8 24), .lit (.int .u8 3), .lit (.int .u8 30), .lit (.int .u8 22), .lit (.int .u8 20), .lit (.int .u8 15), .lit (.int .u8 25), .lit (.int .u8 17), .lit (.int .u8 4), .lit (.int .u8 8), .lit (.int .u8 31), .lit (.int .u8 27), .lit (.int .u8 13), .lit (.int .u8 23), .lit (.int .u8 21), .lit (.int .u8 19), .lit (.int .u8 16), .lit (.int .u8 7), .lit (.int .u8 26), .lit (.int .u8 12), .lit (.int .u8 18), .lit (.int .u8 6), .lit (.int .u8 11), .lit (.int .u8 5), .lit (.int .u8 10), .lit (.int .u8 9)]
def laid_math_bits_deBruijn64tab {H : Type} : DataW H := .agg [.lit (.int .u8 0), .lit (.int .u8 1), .lit (.int .u8 56), .lit (.int .u8 2), .lit (.int .u8 57), .lit (.int .u8 49), .lit (.int .u8 28), .lit (.int .u8 3), .lit (.int .u8 61), .lit (.int .u8 58), .lit (.int .u8 42), .lit (.int .u8 50), .lit (.int .u8 38), .lit (.int .u8 29), .lit (.int .u8 17), .lit (.int .u8 4), .lit (.int .u8 62), .lit (.int .u8 47), .lit (.int .u8 59), .lit (.int .u8 36), .lit (.int .u8 45), .lit (.int .u8 43), .lit (.int .u8 51), .lit (.int .u8 22), .lit (.int .u8 53), .lit (.int .u8 39), .lit (.int .u8 33), .lit (.int .u8 30), .lit (.int .u8 24), .lit (.int .u8 18), .lit (.int .u8 12), .lit (.int .u8 5), .lit (.int .u8 63), .lit (.int .u8 55), .lit (.int .u8 48), .lit (.int .u8 27), .lit (.int .u8 60), .lit (.int .u8 41), .lit (.int .u8 37), .lit (.int .u8 16), .lit (.int .u8 46), .lit (.int .u8 35), .lit (.int .u8 44), .lit (.int .u8 21), .lit (.int .u8 52), .lit (.int .u8 32), .lit (.int .u8 23), .lit (.int .u8 11), .lit (.int .u8 54), .lit (.int .u8 26), .lit (.int .u8 40), .lit (.int .u8 15), .lit (.int .u8 34), .lit (.int .u8 20), .lit (.int .u8 31), .lit (.int .u8 10), .lit (.int .u8 25), .lit (.int .u8 14), .lit (.int .u8 19), .lit (.int .u8 9), .lit (.int .u8 13), .lit (.int .u8 8), .lit (.int .u8 7), .lit (.int .u8 6)]
def laid_internal_strconv_uint64pow10 {H : Type} : DataW H := .agg [.lit (.int .u64 1), .lit (.int .u64 10), .lit (.int .u64 100), .lit (.int .u64 1000), .lit (.int .u64 10000), .lit (.int .u64 100000), .lit (.int .u64 1000000), .lit (.int .u64 10000000), .lit (.int .u64 100000000), .lit (.int .u64 1000000000), .lit (.int .u64 10000000000), .lit (.int .u64 100000000000), .lit (.int .u64 1000000000000), .lit (.int .u64 10000000000000), .lit (.int .u64 100000000000000), .lit (.int .u64 1000000000000000), .lit (.int .u64 10000000000000000), .lit (.int .u64 100000000000000000), .lit (.int .u64 1000000000000000000), .lit (.int .u64 10000000000000000000)]

/-- 'overseerlaw23.DocumentEdits': WHATEVER THE INPUT: true; the input reads as it did. -/
def documentEditsSpec : ChangeSpec := { name := "documentEdits", fn := fun _ => fun
  | [d1, d2] => { results := [.lit (.bool true)], args := [d1, d2] }
  | _ => none }
def documentEditsRow : OpenClaim := { program := "ytkjnjkdcpbgabaagreatdoor", sum := "09ea1c548c3e0a7c966441691ec925e42b646cad26816460c069701e28abbe48", func := "overseer/overseerlaw23.DocumentEdits", spec := "documentEdits", inPlace := ["internal/abi.NoEscape", "internal/bytealg.MakeNoZero", "slices.overlaps[overseer/document.Item]"], unfollowed := true, recurses := true, named := ["internal/strconv.uint64pow10", "math/bits.deBruijn32tab", "math/bits.deBruijn64tab"], apart := false, laid := [("math/bits.deBruijn32tab", laid_math_bits_deBruijn32tab), ("math/bits.deBruijn64tab", laid_math_bits_deBruijn64tab), ("internal/strconv.uint64pow10", laid_internal_strconv_uint64pow10)] }
def DocumentEditsSaid : Prop := documentEditsRow.holds Tryz.pinned (OpenSpec.ofChange documentEditsSpec)

/-- ITS FALSE NEIGHBOUR: 'it returns false'. Refute it at one input. -/
def documentEditsWrong : ChangeSpec := { name := "documentEdits", fn := fun _ => fun
  | [d1, d2] => { results := [.lit (.bool false)], args := [d1, d2] }
  | _ => none }
def DocumentEditsWrongFalsely : Prop := documentEditsRow.holds Tryz.pinned (OpenSpec.ofChange documentEditsWrong)

/-- 'overseerlaw23.DocumentItems': WHATEVER THE INPUT: true; the input reads as it did. -/
def documentItemsSpec : ChangeSpec := { name := "documentItems", fn := fun _ => fun
  | [d] => { results := [.lit (.bool true)], args := [d] }
  | _ => none }
def documentItemsRow : OpenClaim := { program := "ytkjnjkdcpbgabaagreatdoor", sum := "09ea1c548c3e0a7c966441691ec925e42b646cad26816460c069701e28abbe48", func := "overseer/overseerlaw23.DocumentItems", spec := "documentItems", inPlace := ["internal/abi.NoEscape", "internal/bytealg.MakeNoZero", "slices.overlaps[overseer/document.Item]"], unfollowed := true, recurses := true, named := ["internal/strconv.uint64pow10", "math/bits.deBruijn32tab", "math/bits.deBruijn64tab"], apart := false, laid := [("math/bits.deBruijn32tab", laid_math_bits_deBruijn32tab), ("math/bits.deBruijn64tab", laid_math_bits_deBruijn64tab), ("internal/strconv.uint64pow10", laid_internal_strconv_uint64pow10)] }
def DocumentItemsSaid : Prop := documentItemsRow.holds Tryz.pinned (OpenSpec.ofChange documentItemsSpec)

/-- ITS FALSE NEIGHBOUR: 'it returns false'. Refute it at one input. -/
def documentItemsWrong : ChangeSpec := { name := "documentItems", fn := fun _ => fun
  | [d] => { results := [.lit (.bool false)], args := [d] }
  | _ => none }
def DocumentItemsWrongFalsely : Prop := documentItemsRow.holds Tryz.pinned (OpenSpec.ofChange documentItemsWrong)

/-- 'overseerlaw23.DocumentCells': WHATEVER THE INPUT: true; the input reads as it did. -/
def documentCellsSpec : ChangeSpec := { name := "documentCells", fn := fun _ => fun
  | [d] => { results := [.lit (.bool true)], args := [d] }
  | _ => none }
def documentCellsRow : OpenClaim := { program := "ytkjnjkdcpbgabaagreatdoor", sum := "09ea1c548c3e0a7c966441691ec925e42b646cad26816460c069701e28abbe48", func := "overseer/overseerlaw23.DocumentCells", spec := "documentCells", inPlace := ["internal/abi.NoEscape", "internal/bytealg.MakeNoZero", "slices.overlaps[overseer/document.Item]"], unfollowed := true, recurses := true, named := ["internal/strconv.uint64pow10", "math/bits.deBruijn32tab", "math/bits.deBruijn64tab"], apart := false, laid := [("math/bits.deBruijn32tab", laid_math_bits_deBruijn32tab), ("math/bits.deBruijn64tab", laid_math_bits_deBruijn64tab), ("internal/strconv.uint64pow10", laid_internal_strconv_uint64pow10)] }
def DocumentCellsSaid : Prop := documentCellsRow.holds Tryz.pinned (OpenSpec.ofChange documentCellsSpec)

/-- ITS FALSE NEIGHBOUR: 'it returns false'. Refute it at one input. -/
def documentCellsWrong : ChangeSpec := { name := "documentCells", fn := fun _ => fun
  | [d] => { results := [.lit (.bool false)], args := [d] }
  | _ => none }
def DocumentCellsWrongFalsely : Prop := documentCellsRow.holds Tryz.pinned (OpenSpec.ofChange documentCellsWrong)

/-- 'overseerlaw23.DocumentTexts': WHATEVER THE INPUT: true; the input reads as it did. -/
def documentTextsSpec : ChangeSpec := { name := "documentTexts", fn := fun _ => fun
  | [d1, d2] => { results := [.lit (.bool true)], args := [d1, d2] }
  | _ => none }
def documentTextsRow : OpenClaim := { program := "ytkjnjkdcpbgabaagreatdoor", sum := "09ea1c548c3e0a7c966441691ec925e42b646cad26816460c069701e28abbe48", func := "overseer/overseerlaw23.DocumentTexts", spec := "documentTexts", inPlace := ["internal/abi.NoEscape", "internal/bytealg.MakeNoZero", "slices.overlaps[overseer/document.Item]"], unfollowed := true, recurses := true, named := ["internal/strconv.uint64pow10", "math/bits.deBruijn32tab", "math/bits.deBruijn64tab"], apart := false, laid := [("math/bits.deBruijn32tab", laid_math_bits_deBruijn32tab), ("math/bits.deBruijn64tab", laid_math_bits_deBruijn64tab), ("internal/strconv.uint64pow10", laid_internal_strconv_uint64pow10)] }
def DocumentTextsSaid : Prop := documentTextsRow.holds Tryz.pinned (OpenSpec.ofChange documentTextsSpec)

/-- ITS FALSE NEIGHBOUR: 'it returns false'. Refute it at one input. -/
def documentTextsWrong : ChangeSpec := { name := "documentTexts", fn := fun _ => fun
  | [d1, d2] => { results := [.lit (.bool false)], args := [d1, d2] }
  | _ => none }
def DocumentTextsWrongFalsely : Prop := documentTextsRow.holds Tryz.pinned (OpenSpec.ofChange documentTextsWrong)

/-- 'overseerlaw23.DocumentKeeps': WHATEVER THE INPUT: true; the input reads as it did. -/
def documentKeepsSpec : ChangeSpec := { name := "documentKeeps", fn := fun _ => fun
  | [d1, d2] => { results := [.lit (.bool true)], args := [d1, d2] }
  | _ => none }
def documentKeepsRow : OpenClaim := { program := "ytkjnjkdcpbgabaagreatdoor", sum := "09ea1c548c3e0a7c966441691ec925e42b646cad26816460c069701e28abbe48", func := "overseer/overseerlaw23.DocumentKeeps", spec := "documentKeeps", inPlace := ["internal/abi.NoEscape", "internal/bytealg.MakeNoZero", "slices.overlaps[overseer/document.Item]"], unfollowed := true, recurses := true, named := ["internal/strconv.uint64pow10", "math/bits.deBruijn32tab", "math/bits.deBruijn64tab"], apart := false, laid := [("math/bits.deBruijn32tab", laid_math_bits_deBruijn32tab), ("math/bits.deBruijn64tab", laid_math_bits_deBruijn64tab), ("internal/strconv.uint64pow10", laid_internal_strconv_uint64pow10)] }
def DocumentKeepsSaid : Prop := documentKeepsRow.holds Tryz.pinned (OpenSpec.ofChange documentKeepsSpec)

/-- ITS FALSE NEIGHBOUR: 'it returns false'. Refute it at one input. -/
def documentKeepsWrong : ChangeSpec := { name := "documentKeeps", fn := fun _ => fun
  | [d1, d2] => { results := [.lit (.bool false)], args := [d1, d2] }
  | _ => none }
def DocumentKeepsWrongFalsely : Prop := documentKeepsRow.holds Tryz.pinned (OpenSpec.ofChange documentKeepsWrong)

/-- 'overseerlaw23.DocumentUsers': WHATEVER THE INPUT: true; the input reads as it did. -/
def documentUsersSpec : ChangeSpec := { name := "documentUsers", fn := fun _ => fun
  | [d1, d2] => { results := [.lit (.bool true)], args := [d1, d2] }
  | _ => none }
def documentUsersRow : OpenClaim := { program := "ytkjnjkdcpbgabaagreatdoor", sum := "09ea1c548c3e0a7c966441691ec925e42b646cad26816460c069701e28abbe48", func := "overseer/overseerlaw23.DocumentUsers", spec := "documentUsers", inPlace := ["internal/abi.NoEscape", "internal/bytealg.MakeNoZero", "slices.overlaps[overseer/document.Item]"], unfollowed := true, recurses := true, named := ["internal/strconv.uint64pow10", "math/bits.deBruijn32tab", "math/bits.deBruijn64tab"], apart := false, laid := [("math/bits.deBruijn32tab", laid_math_bits_deBruijn32tab), ("math/bits.deBruijn64tab", laid_math_bits_deBruijn64tab), ("internal/strconv.uint64pow10", laid_internal_strconv_uint64pow10)] }
def DocumentUsersSaid : Prop := documentUsersRow.holds Tryz.pinned (OpenSpec.ofChange documentUsersSpec)

/-- ITS FALSE NEIGHBOUR: 'it returns false'. Refute it at one input. -/
def documentUsersWrong : ChangeSpec := { name := "documentUsers", fn := fun _ => fun
  | [d1, d2] => { results := [.lit (.bool false)], args := [d1, d2] }
  | _ => none }
def DocumentUsersWrongFalsely : Prop := documentUsersRow.holds Tryz.pinned (OpenSpec.ofChange documentUsersWrong)

/-- 'overseerlaw23.DocumentApplies': WHATEVER THE INPUT: true; the input reads as it did. -/
def documentAppliesSpec : ChangeSpec := { name := "documentApplies", fn := fun _ => fun
  | [d1, d2] => { results := [.lit (.bool true)], args := [d1, d2] }
  | _ => none }
def documentAppliesRow : OpenClaim := { program := "ytkjnjkdcpbgabaagreatdoor", sum := "09ea1c548c3e0a7c966441691ec925e42b646cad26816460c069701e28abbe48", func := "overseer/overseerlaw23.DocumentApplies", spec := "documentApplies", inPlace := ["internal/abi.NoEscape", "internal/bytealg.MakeNoZero", "slices.overlaps[overseer/document.Item]"], unfollowed := true, recurses := true, named := ["internal/strconv.uint64pow10", "math/bits.deBruijn32tab", "math/bits.deBruijn64tab"], apart := false, laid := [("math/bits.deBruijn32tab", laid_math_bits_deBruijn32tab), ("math/bits.deBruijn64tab", laid_math_bits_deBruijn64tab), ("internal/strconv.uint64pow10", laid_internal_strconv_uint64pow10)] }
def DocumentAppliesSaid : Prop := documentAppliesRow.holds Tryz.pinned (OpenSpec.ofChange documentAppliesSpec)

/-- ITS FALSE NEIGHBOUR: 'it returns false'. Refute it at one input. -/
def documentAppliesWrong : ChangeSpec := { name := "documentApplies", fn := fun _ => fun
  | [d1, d2] => { results := [.lit (.bool false)], args := [d1, d2] }
  | _ => none }
def DocumentAppliesWrongFalsely : Prop := documentAppliesRow.holds Tryz.pinned (OpenSpec.ofChange documentAppliesWrong)

/-- 'overseerlaw23.DocumentDifferences': WHATEVER THE INPUT: true; the input reads as it did. -/
def documentDifferencesSpec : ChangeSpec := { name := "documentDifferences", fn := fun _ => fun
  | [d1, d2] => { results := [.lit (.bool true)], args := [d1, d2] }
  | _ => none }
def documentDifferencesRow : OpenClaim := { program := "ytkjnjkdcpbgabaagreatdoor", sum := "09ea1c548c3e0a7c966441691ec925e42b646cad26816460c069701e28abbe48", func := "overseer/overseerlaw23.DocumentDifferences", spec := "documentDifferences", inPlace := ["internal/abi.NoEscape", "internal/bytealg.MakeNoZero", "slices.overlaps[overseer/document.Item]"], unfollowed := true, recurses := true, named := ["internal/strconv.uint64pow10", "math/bits.deBruijn32tab", "math/bits.deBruijn64tab"], apart := false, laid := [("math/bits.deBruijn32tab", laid_math_bits_deBruijn32tab), ("math/bits.deBruijn64tab", laid_math_bits_deBruijn64tab), ("internal/strconv.uint64pow10", laid_internal_strconv_uint64pow10)] }
def DocumentDifferencesSaid : Prop := documentDifferencesRow.holds Tryz.pinned (OpenSpec.ofChange documentDifferencesSpec)

/-- ITS FALSE NEIGHBOUR: 'it returns false'. Refute it at one input. -/
def documentDifferencesWrong : ChangeSpec := { name := "documentDifferences", fn := fun _ => fun
  | [d1, d2] => { results := [.lit (.bool false)], args := [d1, d2] }
  | _ => none }
def DocumentDifferencesWrongFalsely : Prop := documentDifferencesRow.holds Tryz.pinned (OpenSpec.ofChange documentDifferencesWrong)

/-- 'overseerlaw23.DocumentChecks': WHATEVER THE INPUT: true; the input reads as it did. -/
def documentChecksSpec : ChangeSpec := { name := "documentChecks", fn := fun _ => fun
  | [d1, d2] => { results := [.lit (.bool true)], args := [d1, d2] }
  | _ => none }
def documentChecksRow : OpenClaim := { program := "ytkjnjkdcpbgabaagreatdoor", sum := "09ea1c548c3e0a7c966441691ec925e42b646cad26816460c069701e28abbe48", func := "overseer/overseerlaw23.DocumentChecks", spec := "documentChecks", inPlace := ["internal/abi.NoEscape", "internal/bytealg.MakeNoZero", "slices.overlaps[overseer/document.Item]"], unfollowed := true, recurses := true, named := ["internal/strconv.uint64pow10", "math/bits.deBruijn32tab", "math/bits.deBruijn64tab"], apart := false, laid := [("math/bits.deBruijn32tab", laid_math_bits_deBruijn32tab), ("math/bits.deBruijn64tab", laid_math_bits_deBruijn64tab), ("internal/strconv.uint64pow10", laid_internal_strconv_uint64pow10)] }
def DocumentChecksSaid : Prop := documentChecksRow.holds Tryz.pinned (OpenSpec.ofChange documentChecksSpec)

/-- ITS FALSE NEIGHBOUR: 'it returns false'. Refute it at one input. -/
def documentChecksWrong : ChangeSpec := { name := "documentChecks", fn := fun _ => fun
  | [d1, d2] => { results := [.lit (.bool false)], args := [d1, d2] }
  | _ => none }
def DocumentChecksWrongFalsely : Prop := documentChecksRow.holds Tryz.pinned (OpenSpec.ofChange documentChecksWrong)

/- THE SECOND FORM. 'bulk': how many values and letters a reading holds, each counted each time it is reached (what is shared counts as often as it is met; a slice's spare places count too). A statement '..UptoSaid' is the law's where the arguments, and the package variables that the reading takes, are together of bulk at most 1048576: NARROWER than '..Said'. Prove '..Said' where nothing that the law and all that it calls make is longer than what came in: it says more and counts as full. Else prove '..UptoSaid'. A law counts once. -/
mutual
def uptoBulk {H : Type} : DataW H → Nat
  | .lit (.string bytes) => bytes.length + 1
  | .lit _ => 1
  | .nil => 1
  | .ptr d => uptoBulk d + 1
  | .slice elems spare => uptoBulkAll elems + uptoBulkAll spare + 1
  | .agg parts => uptoBulkAll parts + 1
  | .iface _ d => uptoBulk d + 1
  | .map entries => uptoBulkEntries entries + 1
  | .held _ => 1
def uptoBulkAll {H : Type} : List (DataW H) → Nat
  | [] => 0
  | d :: r => uptoBulk d + uptoBulkAll r
def uptoBulkEntries {H : Type} : List (Lit × DataW H) → Nat
  | [] => 0
  | x :: r => uptoBulkEntry x + uptoBulkEntries r
def uptoBulkEntry {H : Type} : Lit × DataW H → Nat
  | (.string bytes, d) => bytes.length + uptoBulk d + 1
  | (_, d) => uptoBulk d + 1
 end
def uptoSmall : (H : Type) → List (DataW H) → Bool := fun _ ds => decide (uptoBulkAll ds ≤ 1048576)
def OpenSpec.upto (s : _root_.Go.ChangeSpec) : _root_.Go.OpenSpec := { _root_.Go.OpenSpec.ofChange s with cond := some uptoSmall }

/-- 'overseerlaw23.DocumentEdits', WHERE WHAT IT READS IS OF BULK AT MOST 1048576: true; the input reads as it did. -/
def documentEditsUptoRow : OpenClaim := { program := "ytkjnjkdcpbgabaagreatdoor", sum := "09ea1c548c3e0a7c966441691ec925e42b646cad26816460c069701e28abbe48", func := "overseer/overseerlaw23.DocumentEdits", spec := "documentEdits", inPlace := ["internal/abi.NoEscape", "internal/bytealg.MakeNoZero", "slices.overlaps[overseer/document.Item]"], unfollowed := true, recurses := true, named := ["internal/strconv.uint64pow10", "math/bits.deBruijn32tab", "math/bits.deBruijn64tab"], apart := false, laid := [("math/bits.deBruijn32tab", laid_math_bits_deBruijn32tab), ("math/bits.deBruijn64tab", laid_math_bits_deBruijn64tab), ("internal/strconv.uint64pow10", laid_internal_strconv_uint64pow10)], narrowed := true }
def DocumentEditsUptoSaid : Prop := documentEditsUptoRow.holds Tryz.pinned (OpenSpec.upto documentEditsSpec)

/-- 'overseerlaw23.DocumentItems', WHERE WHAT IT READS IS OF BULK AT MOST 1048576: true; the input reads as it did. -/
def documentItemsUptoRow : OpenClaim := { program := "ytkjnjkdcpbgabaagreatdoor", sum := "09ea1c548c3e0a7c966441691ec925e42b646cad26816460c069701e28abbe48", func := "overseer/overseerlaw23.DocumentItems", spec := "documentItems", inPlace := ["internal/abi.NoEscape", "internal/bytealg.MakeNoZero", "slices.overlaps[overseer/document.Item]"], unfollowed := true, recurses := true, named := ["internal/strconv.uint64pow10", "math/bits.deBruijn32tab", "math/bits.deBruijn64tab"], apart := false, laid := [("math/bits.deBruijn32tab", laid_math_bits_deBruijn32tab), ("math/bits.deBruijn64tab", laid_math_bits_deBruijn64tab), ("internal/strconv.uint64pow10", laid_internal_strconv_uint64pow10)], narrowed := true }
def DocumentItemsUptoSaid : Prop := documentItemsUptoRow.holds Tryz.pinned (OpenSpec.upto documentItemsSpec)

/-- 'overseerlaw23.DocumentCells', WHERE WHAT IT READS IS OF BULK AT MOST 1048576: true; the input reads as it did. -/
def documentCellsUptoRow : OpenClaim := { program := "ytkjnjkdcpbgabaagreatdoor", sum := "09ea1c548c3e0a7c966441691ec925e42b646cad26816460c069701e28abbe48", func := "overseer/overseerlaw23.DocumentCells", spec := "documentCells", inPlace := ["internal/abi.NoEscape", "internal/bytealg.MakeNoZero", "slices.overlaps[overseer/document.Item]"], unfollowed := true, recurses := true, named := ["internal/strconv.uint64pow10", "math/bits.deBruijn32tab", "math/bits.deBruijn64tab"], apart := false, laid := [("math/bits.deBruijn32tab", laid_math_bits_deBruijn32tab), ("math/bits.deBruijn64tab", laid_math_bits_deBruijn64tab), ("internal/strconv.uint64pow10", laid_internal_strconv_uint64pow10)], narrowed := true }
def DocumentCellsUptoSaid : Prop := documentCellsUptoRow.holds Tryz.pinned (OpenSpec.upto documentCellsSpec)

/-- 'overseerlaw23.DocumentTexts', WHERE WHAT IT READS IS OF BULK AT MOST 1048576: true; the input reads as it did. -/
def documentTextsUptoRow : OpenClaim := { program := "ytkjnjkdcpbgabaagreatdoor", sum := "09ea1c548c3e0a7c966441691ec925e42b646cad26816460c069701e28abbe48", func := "overseer/overseerlaw23.DocumentTexts", spec := "documentTexts", inPlace := ["internal/abi.NoEscape", "internal/bytealg.MakeNoZero", "slices.overlaps[overseer/document.Item]"], unfollowed := true, recurses := true, named := ["internal/strconv.uint64pow10", "math/bits.deBruijn32tab", "math/bits.deBruijn64tab"], apart := false, laid := [("math/bits.deBruijn32tab", laid_math_bits_deBruijn32tab), ("math/bits.deBruijn64tab", laid_math_bits_deBruijn64tab), ("internal/strconv.uint64pow10", laid_internal_strconv_uint64pow10)], narrowed := true }
def DocumentTextsUptoSaid : Prop := documentTextsUptoRow.holds Tryz.pinned (OpenSpec.upto documentTextsSpec)

/-- 'overseerlaw23.DocumentKeeps', WHERE WHAT IT READS IS OF BULK AT MOST 1048576: true; the input reads as it did. -/
def documentKeepsUptoRow : OpenClaim := { program := "ytkjnjkdcpbgabaagreatdoor", sum := "09ea1c548c3e0a7c966441691ec925e42b646cad26816460c069701e28abbe48", func := "overseer/overseerlaw23.DocumentKeeps", spec := "documentKeeps", inPlace := ["internal/abi.NoEscape", "internal/bytealg.MakeNoZero", "slices.overlaps[overseer/document.Item]"], unfollowed := true, recurses := true, named := ["internal/strconv.uint64pow10", "math/bits.deBruijn32tab", "math/bits.deBruijn64tab"], apart := false, laid := [("math/bits.deBruijn32tab", laid_math_bits_deBruijn32tab), ("math/bits.deBruijn64tab", laid_math_bits_deBruijn64tab), ("internal/strconv.uint64pow10", laid_internal_strconv_uint64pow10)], narrowed := true }
def DocumentKeepsUptoSaid : Prop := documentKeepsUptoRow.holds Tryz.pinned (OpenSpec.upto documentKeepsSpec)

/-- 'overseerlaw23.DocumentUsers', WHERE WHAT IT READS IS OF BULK AT MOST 1048576: true; the input reads as it did. -/
def documentUsersUptoRow : OpenClaim := { program := "ytkjnjkdcpbgabaagreatdoor", sum := "09ea1c548c3e0a7c966441691ec925e42b646cad26816460c069701e28abbe48", func := "overseer/overseerlaw23.DocumentUsers", spec := "documentUsers", inPlace := ["internal/abi.NoEscape", "internal/bytealg.MakeNoZero", "slices.overlaps[overseer/document.Item]"], unfollowed := true, recurses := true, named := ["internal/strconv.uint64pow10", "math/bits.deBruijn32tab", "math/bits.deBruijn64tab"], apart := false, laid := [("math/bits.deBruijn32tab", laid_math_bits_deBruijn32tab), ("math/bits.deBruijn64tab", laid_math_bits_deBruijn64tab), ("internal/strconv.uint64pow10", laid_internal_strconv_uint64pow10)], narrowed := true }
def DocumentUsersUptoSaid : Prop := documentUsersUptoRow.holds Tryz.pinned (OpenSpec.upto documentUsersSpec)

/-- 'overseerlaw23.DocumentApplies', WHERE WHAT IT READS IS OF BULK AT MOST 1048576: true; the input reads as it did. -/
def documentAppliesUptoRow : OpenClaim := { program := "ytkjnjkdcpbgabaagreatdoor", sum := "09ea1c548c3e0a7c966441691ec925e42b646cad26816460c069701e28abbe48", func := "overseer/overseerlaw23.DocumentApplies", spec := "documentApplies", inPlace := ["internal/abi.NoEscape", "internal/bytealg.MakeNoZero", "slices.overlaps[overseer/document.Item]"], unfollowed := true, recurses := true, named := ["internal/strconv.uint64pow10", "math/bits.deBruijn32tab", "math/bits.deBruijn64tab"], apart := false, laid := [("math/bits.deBruijn32tab", laid_math_bits_deBruijn32tab), ("math/bits.deBruijn64tab", laid_math_bits_deBruijn64tab), ("internal/strconv.uint64pow10", laid_internal_strconv_uint64pow10)], narrowed := true }
def DocumentAppliesUptoSaid : Prop := documentAppliesUptoRow.holds Tryz.pinned (OpenSpec.upto documentAppliesSpec)

/-- 'overseerlaw23.DocumentDifferences', WHERE WHAT IT READS IS OF BULK AT MOST 1048576: true; the input reads as it did. -/
def documentDifferencesUptoRow : OpenClaim := { program := "ytkjnjkdcpbgabaagreatdoor", sum := "09ea1c548c3e0a7c966441691ec925e42b646cad26816460c069701e28abbe48", func := "overseer/overseerlaw23.DocumentDifferences", spec := "documentDifferences", inPlace := ["internal/abi.NoEscape", "internal/bytealg.MakeNoZero", "slices.overlaps[overseer/document.Item]"], unfollowed := true, recurses := true, named := ["internal/strconv.uint64pow10", "math/bits.deBruijn32tab", "math/bits.deBruijn64tab"], apart := false, laid := [("math/bits.deBruijn32tab", laid_math_bits_deBruijn32tab), ("math/bits.deBruijn64tab", laid_math_bits_deBruijn64tab), ("internal/strconv.uint64pow10", laid_internal_strconv_uint64pow10)], narrowed := true }
def DocumentDifferencesUptoSaid : Prop := documentDifferencesUptoRow.holds Tryz.pinned (OpenSpec.upto documentDifferencesSpec)

/-- 'overseerlaw23.DocumentChecks', WHERE WHAT IT READS IS OF BULK AT MOST 1048576: true; the input reads as it did. -/
def documentChecksUptoRow : OpenClaim := { program := "ytkjnjkdcpbgabaagreatdoor", sum := "09ea1c548c3e0a7c966441691ec925e42b646cad26816460c069701e28abbe48", func := "overseer/overseerlaw23.DocumentChecks", spec := "documentChecks", inPlace := ["internal/abi.NoEscape", "internal/bytealg.MakeNoZero", "slices.overlaps[overseer/document.Item]"], unfollowed := true, recurses := true, named := ["internal/strconv.uint64pow10", "math/bits.deBruijn32tab", "math/bits.deBruijn64tab"], apart := false, laid := [("math/bits.deBruijn32tab", laid_math_bits_deBruijn32tab), ("math/bits.deBruijn64tab", laid_math_bits_deBruijn64tab), ("internal/strconv.uint64pow10", laid_internal_strconv_uint64pow10)], narrowed := true }
def DocumentChecksUptoSaid : Prop := documentChecksUptoRow.holds Tryz.pinned (OpenSpec.upto documentChecksSpec)

end Rows
end Go.Proofs.YtkjnjkdcpbgabaaGreatDoor
