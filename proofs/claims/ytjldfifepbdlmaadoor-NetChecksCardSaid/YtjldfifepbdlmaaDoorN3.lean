/-
 Contracts: nets of a shape.
-/
import Derived.Test.YtjldfifepbdlmaaDoorN2
set_option linter.unusedSimpArgs false
set_option linter.unusedVariables false
namespace Go.Proofs.YtjldfifepbdlmaaDoor
open Go.Eng Go.RowKit
def bytesD (n : Nat) (s : Nat → Int) : List D := (List.range n).map fun i => D.int .u8 (s i)
theorem bytesD_length (n : Nat) (s : Nat → Int) : (bytesD n s).length = n := by simp [bytesD]
theorem bytesD_tags (n m : Nat) (s : Nat → Int) : (bytesD n s).all (D.tagsLt m) = true := by
 simp only [bytesD, List.all_map, List.all_eq_true]
 intro i _
 rfl
theorem bytesD_none (n : Nat) (s : Nat → Int) : (bytesD n s).flatMap D.tags = [] := by
 simp only [bytesD, List.flatMap_map, List.flatMap_eq_nil_iff]
 intro i _
 rfl
theorem bytesD_fz (n : Nat) (s : Nat → Int) (t : Nat) (o : AObj) : (bytesD n s).map (D.fz t o) = bytesD n s := by
 simp only [bytesD, List.map_map]
 rfl
attribute [go_sem] bytesD_length bytesD_fz List.length_drop bytesD_none
attribute [go_sem high] bytesD_tags
def tok (s : Nat → Int) (p : Nat) : Int := s (2 + p) % 4
end Go.Proofs.YtjldfifepbdlmaaDoor
