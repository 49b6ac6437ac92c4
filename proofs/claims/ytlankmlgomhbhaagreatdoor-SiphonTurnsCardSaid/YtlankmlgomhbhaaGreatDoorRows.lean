/-
  NARROWER THAN 'FOR EVERY INPUT', by the rows' own cells (each row's printed sentence says how): SiphonMinimal: laid · SiphonRefuses: laid · SiphonCommoner: laid · SiphonTests: laid · SiphonTurns: laid · SiphonTokens: laid.
  DERIVED. THE GIVEN ROWS OF THIS SEAT. 6 by the template 'for every input the law returns true; each argument reads behind the call as it read before'; 0 by the template 'total and deterministic' (their statements: YtlankmlgomhbhaaGreatDoorTotals.lean).
  GIVEN WITH THE SEED: the statements are not yours to turn. If you find one false, say at which input.
  Laid BY PROGRAM, IN A SANDBOX (cutbox-rows.mjs): the forced cells as the released guide's own fill.sh prints them over the translation 15898d84178ba49c… (all of the seat's roots in one cut). By AI agents, Wed Nov 11 2026. No macro, syntax, notation, axiom, sorry.
-/
import Derived.Test.YtlankmlgomhbhaaGreatDoorChecked
import GoSem.Claim
import GoSem.ClaimJoined
import GoSem.ClaimMapViews
import Derived.JoinedTies
import Derived.KernelRfl
namespace Go.Proofs.YtlankmlgomhbhaaGreatDoor
/- THE CELL 'sum', in the pinned program and in every row, IS THE sha256 OF THE DUMP (.gsa) THAT YtlankmlgomhbhaaGreatDoorProg.lean LOADS. Nothing in Lean hashes anything: it is a label: what it is worth is what the hold of that sum in a sandbox is worth. -/
noncomputable def Tryz.pinned : Pinned := { name := "ytlankmlgomhbhaagreatdoor", sum := "15898d84178ba49cad99648de4355bad6f7fbed72d8c30cdfa2521288aa6983f", checked := Tryz.checked }
namespace Rows
def none {H : Type} : Left H := { results := [], args := [] }

/- WHAT THE LISTED PACKAGE-LEVEL VARIABLES READ AS WHEN THE CALL BEGINS. Each datum BY PROGRAM (the guide's laid-datum.mjs) off the statement by which the dump's own 'gosem.cut.vars' lays the variable. In a bare row this is a premise. The card (YtlankmlgomhbhaaGreatDoorCards.lean) ties it to the program's text. -/
def laid_math_bits_deBruijn32tab {H : Type} : DataW H := .agg [.lit (.int .u8 0), .lit (.int .u8 1), .lit (.int .u8 28), .lit (.int .u8 2), .lit (.int .u8 29), .lit (.int .u8 14), .lit (.int .u8 24), .lit (.int .u8 3), .lit (.int .u8 30), .lit (.int .u8 22), .lit (.int .u8 20), .lit (.int .u8 15), .lit (.int .u8 25), .lit (.int .u8 17), .lit (.int .u8 4), .lit (.int .u8 8), .lit (.int .u8 31), .lit (.int .u8 27), .lit (.int .u8 13), .lit (.int .u8 23), .lit (.int .u8 21), .lit (.int .u8 19), .lit (.int .u8 16), .lit (.int .u8 7), .lit (.int .u8 26), .lit (.int .u8 12), .lit (.int .u8 18), .lit (.int .u8 6), .lit (.int .u8 11), .lit (.int .u8 5), .lit (.int .u8 10), .lit (.int .u8 9)]
def laid_math_bits_deBruijn64tab {H : Type} : DataW H := .agg [.lit (.int .u8 0), .lit (.int .u8 1), .lit (.int .u8 56), .lit (.int .u8 2), .lit (.int .u8 57), .lit (.int .u8 49), .lit (.int .u8 28), .lit (.int .u8 3), .lit (.int .u8 61), .lit (.int .u8 58), .lit (.int .u8 42), .lit (.int .u8 50), .lit (.int .u8 38), .lit (.int .u8 29), .lit (.int .u8 17), .lit (.int .u8 4), .lit (.int .u8 62), .lit (.int .u8 47), .lit (.int .u8 59), .lit (.int .u8 36), .lit (.int .u8 45), .lit (.int .u8 43), .lit (.int .u8 51), .lit (.int .u8 22), .lit (.int .u8 53), .lit (.int .u8 39), .lit (.int .u8 33), .lit (.int .u8 30), .lit (.int .u8 24), .lit (.int .u8 18), .lit (.int .u8 12), .lit (.int .u8 5), .lit (.int .u8 63), .lit (.int .u8 55), .lit (.int .u8 48), .lit (.int .u8 27), .lit (.int .u8 60), .lit (.int .u8 41), .lit (.int .u8 37), .lit (.int .u8 16), .lit (.int .u8 46), .lit (.int .u8 35), .lit (.int .u8 44), .lit (.int .u8 21), .lit (.int .u8 52), .lit (.int .u8 32), .lit (.int .u8 23), .lit (.int .u8 11), .lit (.int .u8 54), .lit (.int .u8 26), .lit (.int .u8 40), .lit (.int .u8 15), .lit (.int .u8 34), .lit (.int .u8 20), .lit (.int .u8 31), .lit (.int .u8 10), .lit (.int .u8 25), .lit (.int .u8 14), .lit (.int .u8 19), .lit (.int .u8 9), .lit (.int .u8 13), .lit (.int .u8 8), .lit (.int .u8 7), .lit (.int .u8 6)]
def laid_internal_strconv_uint64pow10 {H : Type} : DataW H := .agg [.lit (.int .u64 1), .lit (.int .u64 10), .lit (.int .u64 100), .lit (.int .u64 1000), .lit (.int .u64 10000), .lit (.int .u64 100000), .lit (.int .u64 1000000), .lit (.int .u64 10000000), .lit (.int .u64 100000000), .lit (.int .u64 1000000000), .lit (.int .u64 10000000000), .lit (.int .u64 100000000000), .lit (.int .u64 1000000000000), .lit (.int .u64 10000000000000), .lit (.int .u64 100000000000000), .lit (.int .u64 1000000000000000), .lit (.int .u64 10000000000000000), .lit (.int .u64 100000000000000000), .lit (.int .u64 1000000000000000000), .lit (.int .u64 10000000000000000000)]

/-- 'overseerlaw49.SiphonMinimal': WHATEVER THE INPUT: true; the input reads as it did. -/
def siphonMinimalSpec : ChangeSpec := { name := "siphonMinimal", fn := fun _ => fun
  | [d1, d2] => { results := [.lit (.bool true)], args := [d1, d2] }
  | _ => none }
def siphonMinimalRow : OpenClaim := { program := "ytlankmlgomhbhaagreatdoor", sum := "15898d84178ba49cad99648de4355bad6f7fbed72d8c30cdfa2521288aa6983f", func := "overseer/overseerlaw49.SiphonMinimal", spec := "siphonMinimal", inPlace := ["internal/abi.NoEscape"], unfollowed := true, recurses := true, named := ["internal/strconv.uint64pow10", "math/bits.deBruijn32tab", "math/bits.deBruijn64tab"], apart := false, laid := [("math/bits.deBruijn32tab", laid_math_bits_deBruijn32tab), ("math/bits.deBruijn64tab", laid_math_bits_deBruijn64tab), ("internal/strconv.uint64pow10", laid_internal_strconv_uint64pow10)] }
def SiphonMinimalSaid : Prop := siphonMinimalRow.holds Tryz.pinned (OpenSpec.ofChange siphonMinimalSpec)

/-- ITS FALSE NEIGHBOUR: 'it returns false'. Refute it at one input. -/
def siphonMinimalWrong : ChangeSpec := { name := "siphonMinimal", fn := fun _ => fun
  | [d1, d2] => { results := [.lit (.bool false)], args := [d1, d2] }
  | _ => none }
def SiphonMinimalWrongFalsely : Prop := siphonMinimalRow.holds Tryz.pinned (OpenSpec.ofChange siphonMinimalWrong)

/-- 'overseerlaw49.SiphonRefuses': WHATEVER THE INPUT: true; the input reads as it did. -/
def siphonRefusesSpec : ChangeSpec := { name := "siphonRefuses", fn := fun _ => fun
  | [d] => { results := [.lit (.bool true)], args := [d] }
  | _ => none }
def siphonRefusesRow : OpenClaim := { program := "ytlankmlgomhbhaagreatdoor", sum := "15898d84178ba49cad99648de4355bad6f7fbed72d8c30cdfa2521288aa6983f", func := "overseer/overseerlaw49.SiphonRefuses", spec := "siphonRefuses", inPlace := ["internal/abi.NoEscape"], unfollowed := true, recurses := true, named := ["internal/strconv.uint64pow10", "math/bits.deBruijn32tab", "math/bits.deBruijn64tab"], apart := false, laid := [("math/bits.deBruijn32tab", laid_math_bits_deBruijn32tab), ("math/bits.deBruijn64tab", laid_math_bits_deBruijn64tab), ("internal/strconv.uint64pow10", laid_internal_strconv_uint64pow10)] }
def SiphonRefusesSaid : Prop := siphonRefusesRow.holds Tryz.pinned (OpenSpec.ofChange siphonRefusesSpec)

/-- ITS FALSE NEIGHBOUR: 'it returns false'. Refute it at one input. -/
def siphonRefusesWrong : ChangeSpec := { name := "siphonRefuses", fn := fun _ => fun
  | [d] => { results := [.lit (.bool false)], args := [d] }
  | _ => none }
def SiphonRefusesWrongFalsely : Prop := siphonRefusesRow.holds Tryz.pinned (OpenSpec.ofChange siphonRefusesWrong)

/-- 'overseerlaw49.SiphonCommoner': WHATEVER THE INPUT: true; the input reads as it did. -/
def siphonCommonerSpec : ChangeSpec := { name := "siphonCommoner", fn := fun _ => fun
  | [d] => { results := [.lit (.bool true)], args := [d] }
  | _ => none }
def siphonCommonerRow : OpenClaim := { program := "ytlankmlgomhbhaagreatdoor", sum := "15898d84178ba49cad99648de4355bad6f7fbed72d8c30cdfa2521288aa6983f", func := "overseer/overseerlaw49.SiphonCommoner", spec := "siphonCommoner", inPlace := ["internal/abi.NoEscape"], unfollowed := true, recurses := true, named := ["internal/strconv.uint64pow10", "math/bits.deBruijn32tab", "math/bits.deBruijn64tab"], apart := false, laid := [("math/bits.deBruijn32tab", laid_math_bits_deBruijn32tab), ("math/bits.deBruijn64tab", laid_math_bits_deBruijn64tab), ("internal/strconv.uint64pow10", laid_internal_strconv_uint64pow10)] }
def SiphonCommonerSaid : Prop := siphonCommonerRow.holds Tryz.pinned (OpenSpec.ofChange siphonCommonerSpec)

/-- ITS FALSE NEIGHBOUR: 'it returns false'. Refute it at one input. -/
def siphonCommonerWrong : ChangeSpec := { name := "siphonCommoner", fn := fun _ => fun
  | [d] => { results := [.lit (.bool false)], args := [d] }
  | _ => none }
def SiphonCommonerWrongFalsely : Prop := siphonCommonerRow.holds Tryz.pinned (OpenSpec.ofChange siphonCommonerWrong)

/-- 'overseerlaw49.SiphonTests': WHATEVER THE INPUT: true; the input reads as it did. -/
def siphonTestsSpec : ChangeSpec := { name := "siphonTests", fn := fun _ => fun
  | [d1, d2, d3] => { results := [.lit (.bool true)], args := [d1, d2, d3] }
  | _ => none }
def siphonTestsRow : OpenClaim := { program := "ytlankmlgomhbhaagreatdoor", sum := "15898d84178ba49cad99648de4355bad6f7fbed72d8c30cdfa2521288aa6983f", func := "overseer/overseerlaw49.SiphonTests", spec := "siphonTests", inPlace := ["internal/abi.NoEscape"], unfollowed := true, recurses := true, named := ["internal/strconv.uint64pow10", "math/bits.deBruijn32tab", "math/bits.deBruijn64tab"], apart := false, laid := [("math/bits.deBruijn32tab", laid_math_bits_deBruijn32tab), ("math/bits.deBruijn64tab", laid_math_bits_deBruijn64tab), ("internal/strconv.uint64pow10", laid_internal_strconv_uint64pow10)] }
def SiphonTestsSaid : Prop := siphonTestsRow.holds Tryz.pinned (OpenSpec.ofChange siphonTestsSpec)

/-- ITS FALSE NEIGHBOUR: 'it returns false'. Refute it at one input. -/
def siphonTestsWrong : ChangeSpec := { name := "siphonTests", fn := fun _ => fun
  | [d1, d2, d3] => { results := [.lit (.bool false)], args := [d1, d2, d3] }
  | _ => none }
def SiphonTestsWrongFalsely : Prop := siphonTestsRow.holds Tryz.pinned (OpenSpec.ofChange siphonTestsWrong)

/-- 'overseerlaw49.SiphonTurns': WHATEVER THE INPUT: true; the input reads as it did. -/
def siphonTurnsSpec : ChangeSpec := { name := "siphonTurns", fn := fun _ => fun
  | [d] => { results := [.lit (.bool true)], args := [d] }
  | _ => none }
def siphonTurnsRow : OpenClaim := { program := "ytlankmlgomhbhaagreatdoor", sum := "15898d84178ba49cad99648de4355bad6f7fbed72d8c30cdfa2521288aa6983f", func := "overseer/overseerlaw49.SiphonTurns", spec := "siphonTurns", inPlace := ["internal/abi.NoEscape"], unfollowed := true, recurses := true, named := ["internal/strconv.uint64pow10", "math/bits.deBruijn32tab", "math/bits.deBruijn64tab"], apart := false, laid := [("math/bits.deBruijn32tab", laid_math_bits_deBruijn32tab), ("math/bits.deBruijn64tab", laid_math_bits_deBruijn64tab), ("internal/strconv.uint64pow10", laid_internal_strconv_uint64pow10)] }
def SiphonTurnsSaid : Prop := siphonTurnsRow.holds Tryz.pinned (OpenSpec.ofChange siphonTurnsSpec)

/-- ITS FALSE NEIGHBOUR: 'it returns false'. Refute it at one input. -/
def siphonTurnsWrong : ChangeSpec := { name := "siphonTurns", fn := fun _ => fun
  | [d] => { results := [.lit (.bool false)], args := [d] }
  | _ => none }
def SiphonTurnsWrongFalsely : Prop := siphonTurnsRow.holds Tryz.pinned (OpenSpec.ofChange siphonTurnsWrong)

/-- 'overseerlaw49.SiphonTokens': WHATEVER THE INPUT: true; the input reads as it did. -/
def siphonTokensSpec : ChangeSpec := { name := "siphonTokens", fn := fun _ => fun
  | [d1, d2, d3] => { results := [.lit (.bool true)], args := [d1, d2, d3] }
  | _ => none }
def siphonTokensRow : OpenClaim := { program := "ytlankmlgomhbhaagreatdoor", sum := "15898d84178ba49cad99648de4355bad6f7fbed72d8c30cdfa2521288aa6983f", func := "overseer/overseerlaw49.SiphonTokens", spec := "siphonTokens", inPlace := ["internal/abi.NoEscape"], unfollowed := true, recurses := true, named := ["internal/strconv.uint64pow10", "math/bits.deBruijn32tab", "math/bits.deBruijn64tab"], apart := false, laid := [("math/bits.deBruijn32tab", laid_math_bits_deBruijn32tab), ("math/bits.deBruijn64tab", laid_math_bits_deBruijn64tab), ("internal/strconv.uint64pow10", laid_internal_strconv_uint64pow10)] }
def SiphonTokensSaid : Prop := siphonTokensRow.holds Tryz.pinned (OpenSpec.ofChange siphonTokensSpec)

/-- ITS FALSE NEIGHBOUR: 'it returns false'. Refute it at one input. -/
def siphonTokensWrong : ChangeSpec := { name := "siphonTokens", fn := fun _ => fun
  | [d1, d2, d3] => { results := [.lit (.bool false)], args := [d1, d2, d3] }
  | _ => none }
def SiphonTokensWrongFalsely : Prop := siphonTokensRow.holds Tryz.pinned (OpenSpec.ofChange siphonTokensWrong)

/- THE SECOND FORM. 'bulk': how many values and letters a reading holds, each counted each time it is reached (what is shared counts as often as it is met; a slice's spare places count too). A statement '..UptoSaid' is the law's where the arguments, and the package variables that the reading takes, are together of bulk at most 1048576: NARROWER than '..Said'. Prove '..Said' where nothing that the law and all that it calls make is longer than what came in: it says more and counts as full. Else prove '..UptoSaid'. A law counts once. -/
mutual
def uptoBulk {H : Type} : DataW H → Nat
  | .lit (.string bytes) => bytes.length + 1
  | .lit _ => 1
  | .nil => 1
  | .ptr d => uptoBulk d + 1
  | .slice elems spare => uptoBulkAll elems + uptoBulkAll spare + 1
  | .agg parts => uptoBulkAll parts + 1
  | .iface _ d => uptoBulk d + 1
  | .map entries => uptoBulkEntries entries + 1
  | .held _ => 1
def uptoBulkAll {H : Type} : List (DataW H) → Nat
  | [] => 0
  | d :: r => uptoBulk d + uptoBulkAll r
def uptoBulkEntries {H : Type} : List (Lit × DataW H) → Nat
  | [] => 0
  | x :: r => uptoBulkEntry x + uptoBulkEntries r
def uptoBulkEntry {H : Type} : Lit × DataW H → Nat
  | (.string bytes, d) => bytes.length + uptoBulk d + 1
  | (_, d) => uptoBulk d + 1
 end
def uptoSmall : (H : Type) → List (DataW H) → Bool := fun _ ds => decide (uptoBulkAll ds ≤ 1048576)
def OpenSpec.upto (s : _root_.Go.ChangeSpec) : _root_.Go.OpenSpec := { _root_.Go.OpenSpec.ofChange s with cond := some uptoSmall }

/-- 'overseerlaw49.SiphonMinimal', WHERE WHAT IT READS IS OF BULK AT MOST 1048576: true; the input reads as it did. -/
def siphonMinimalUptoRow : OpenClaim := { program := "ytlankmlgomhbhaagreatdoor", sum := "15898d84178ba49cad99648de4355bad6f7fbed72d8c30cdfa2521288aa6983f", func := "overseer/overseerlaw49.SiphonMinimal", spec := "siphonMinimal", inPlace := ["internal/abi.NoEscape"], unfollowed := true, recurses := true, named := ["internal/strconv.uint64pow10", "math/bits.deBruijn32tab", "math/bits.deBruijn64tab"], apart := false, laid := [("math/bits.deBruijn32tab", laid_math_bits_deBruijn32tab), ("math/bits.deBruijn64tab", laid_math_bits_deBruijn64tab), ("internal/strconv.uint64pow10", laid_internal_strconv_uint64pow10)], narrowed := true }
def SiphonMinimalUptoSaid : Prop := siphonMinimalUptoRow.holds Tryz.pinned (OpenSpec.upto siphonMinimalSpec)

/-- 'overseerlaw49.SiphonRefuses', WHERE WHAT IT READS IS OF BULK AT MOST 1048576: true; the input reads as it did. -/
def siphonRefusesUptoRow : OpenClaim := { program := "ytlankmlgomhbhaagreatdoor", sum := "15898d84178ba49cad99648de4355bad6f7fbed72d8c30cdfa2521288aa6983f", func := "overseer/overseerlaw49.SiphonRefuses", spec := "siphonRefuses", inPlace := ["internal/abi.NoEscape"], unfollowed := true, recurses := true, named := ["internal/strconv.uint64pow10", "math/bits.deBruijn32tab", "math/bits.deBruijn64tab"], apart := false, laid := [("math/bits.deBruijn32tab", laid_math_bits_deBruijn32tab), ("math/bits.deBruijn64tab", laid_math_bits_deBruijn64tab), ("internal/strconv.uint64pow10", laid_internal_strconv_uint64pow10)], narrowed := true }
def SiphonRefusesUptoSaid : Prop := siphonRefusesUptoRow.holds Tryz.pinned (OpenSpec.upto siphonRefusesSpec)

/-- 'overseerlaw49.SiphonCommoner', WHERE WHAT IT READS IS OF BULK AT MOST 1048576: true; the input reads as it did. -/
def siphonCommonerUptoRow : OpenClaim := { program := "ytlankmlgomhbhaagreatdoor", sum := "15898d84178ba49cad99648de4355bad6f7fbed72d8c30cdfa2521288aa6983f", func := "overseer/overseerlaw49.SiphonCommoner", spec := "siphonCommoner", inPlace := ["internal/abi.NoEscape"], unfollowed := true, recurses := true, named := ["internal/strconv.uint64pow10", "math/bits.deBruijn32tab", "math/bits.deBruijn64tab"], apart := false, laid := [("math/bits.deBruijn32tab", laid_math_bits_deBruijn32tab), ("math/bits.deBruijn64tab", laid_math_bits_deBruijn64tab), ("internal/strconv.uint64pow10", laid_internal_strconv_uint64pow10)], narrowed := true }
def SiphonCommonerUptoSaid : Prop := siphonCommonerUptoRow.holds Tryz.pinned (OpenSpec.upto siphonCommonerSpec)

/-- 'overseerlaw49.SiphonTests', WHERE WHAT IT READS IS OF BULK AT MOST 1048576: true; the input reads as it did. -/
def siphonTestsUptoRow : OpenClaim := { program := "ytlankmlgomhbhaagreatdoor", sum := "15898d84178ba49cad99648de4355bad6f7fbed72d8c30cdfa2521288aa6983f", func := "overseer/overseerlaw49.SiphonTests", spec := "siphonTests", inPlace := ["internal/abi.NoEscape"], unfollowed := true, recurses := true, named := ["internal/strconv.uint64pow10", "math/bits.deBruijn32tab", "math/bits.deBruijn64tab"], apart := false, laid := [("math/bits.deBruijn32tab", laid_math_bits_deBruijn32tab), ("math/bits.deBruijn64tab", laid_math_bits_deBruijn64tab), ("internal/strconv.uint64pow10", laid_internal_strconv_uint64pow10)], narrowed := true }
def SiphonTestsUptoSaid : Prop := siphonTestsUptoRow.holds Tryz.pinned (OpenSpec.upto siphonTestsSpec)

/-- 'overseerlaw49.SiphonTurns', WHERE WHAT IT READS IS OF BULK AT MOST 1048576: true; the input reads as it did. -/
def siphonTurnsUptoRow : OpenClaim := { program := "ytlankmlgomhbhaagreatdoor", sum := "15898d84178ba49cad99648de4355bad6f7fbed72d8c30cdfa2521288aa6983f", func := "overseer/overseerlaw49.SiphonTurns", spec := "siphonTurns", inPlace := ["internal/abi.NoEscape"], unfollowed := true, recurses := true, named := ["internal/strconv.uint64pow10", "math/bits.deBruijn32tab", "math/bits.deBruijn64tab"], apart := false, laid := [("math/bits.deBruijn32tab", laid_math_bits_deBruijn32tab), ("math/bits.deBruijn64tab", laid_math_bits_deBruijn64tab), ("internal/strconv.uint64pow10", laid_internal_strconv_uint64pow10)], narrowed := true }
def SiphonTurnsUptoSaid : Prop := siphonTurnsUptoRow.holds Tryz.pinned (OpenSpec.upto siphonTurnsSpec)

/-- 'overseerlaw49.SiphonTokens', WHERE WHAT IT READS IS OF BULK AT MOST 1048576: true; the input reads as it did. -/
def siphonTokensUptoRow : OpenClaim := { program := "ytlankmlgomhbhaagreatdoor", sum := "15898d84178ba49cad99648de4355bad6f7fbed72d8c30cdfa2521288aa6983f", func := "overseer/overseerlaw49.SiphonTokens", spec := "siphonTokens", inPlace := ["internal/abi.NoEscape"], unfollowed := true, recurses := true, named := ["internal/strconv.uint64pow10", "math/bits.deBruijn32tab", "math/bits.deBruijn64tab"], apart := false, laid := [("math/bits.deBruijn32tab", laid_math_bits_deBruijn32tab), ("math/bits.deBruijn64tab", laid_math_bits_deBruijn64tab), ("internal/strconv.uint64pow10", laid_internal_strconv_uint64pow10)], narrowed := true }
def SiphonTokensUptoSaid : Prop := siphonTokensUptoRow.holds Tryz.pinned (OpenSpec.upto siphonTokensSpec)

end Rows
end Go.Proofs.YtlankmlgomhbhaaGreatDoor
