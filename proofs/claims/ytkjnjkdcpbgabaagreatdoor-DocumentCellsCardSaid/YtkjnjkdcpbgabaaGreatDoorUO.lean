/-
 strings.Builder: room made ahead (Grow), where nothing is written yet.
-/
import Derived.Test.YtkjnjkdcpbgabaaGreatDoorUK
import Derived.Test.YtkjnjkdcpbgabaaGreatDoorUM
import Derived.Lib.MakeNoZero
set_option linter.unusedSimpArgs false
set_option linter.unusedVariables false
namespace Go.Proofs.YtkjnjkdcpbgabaaGreatDoor
open Go.Eng Go.RowKit
theorem byteSize1 : (Tryz.prog.info? 5).map (·.size) = some 1 := by kernel_rfl
set_option maxHeartbeats 4000000 in
set_option maxRecDepth 1000000 in
theorem grow_w (b n c : Nat) (A : Option Addr) (p : Value) (w : World) (hbk : w.heap[b]? = some (.cells #[p, .slice A 0 c] 122 (0, 0))) (hc : c < n) (hn : n ≤ 1000000000) :
  Calls Tryz.prog 136 #[.pointer (some ⟨b, 0, none⟩), .int .i64 n] w fun e w' => e = .returned (.tuple #[]) ∧ ∃ cs : Array Value, cs.size ≤ maxLen ∧ 0 < cs.size ∧ w' = ((w.setCell ⟨b, 1, none⟩ (.slice (some ⟨w.heap.size, 0, none⟩) 0 cs.size)).alloc (.cells cs 5)).drew.drew.drew := by
 obtain ⟨cs, hrun, hle, hmax⟩ := Lib.run_makeNoZero (P := Tryz.prog) w.drew #[3] 120 5 Tryz.underlying120 (2 * c + n) (by omega)
 have hw : IntKind.i64.wrap (IntKind.i64.wrap (2 * (c : Int)) + (n : Int)) = ((2 * c + n : Nat) : Int) := by
  rw [IntKind.wrap_i64, IntKind.wrap_i64]
  omega
 have hcall : (callFunc 149 #[.int .i64 (IntKind.i64.wrap (IntKind.i64.wrap (2 * (c : Int)) + (n : Int)))]).run Tryz.prog w.drew = .ok (.value (.slice (some ⟨w.drew.heap.size, 0, none⟩) (2 * c + n) cs.size)) (w.drew.drew.drew.alloc (.cells cs 5)) := by
  rw [hw, run_callFunc_extern Tryz.func149 (by kernel_rfl) (by kernel_rfl) (by kernel_rfl) (e := Extern.BytealgMakeNoZero.makeNoZero #[3] #[120]) (by kernel_rfl), hrun]
  rfl
 have hlt : b < w.heap.size := block_lt hbk
 have c1 : w.drew.cell? ⟨b, 1, none⟩ = some (.slice A 0 c) := by
  have : w.drew.heap[b]? = _ := hbk
  rw [Lib.cell_of_heap this]; rfl
 have hb2 : (w.alloc (.cells cs 5)).heap[b]? = some (.cells #[p, .slice A 0 c] 122 (0, 0)) := (Lib.alloc_old w _ b hlt).trans hbk
 have c2 : (w.alloc (.cells cs 5)).cell? ⟨b, 1, none⟩ = some (.slice A 0 c) := by rw [Lib.cell_of_heap hb2]; rfl
 have f2 : (w.alloc (.cells cs 5)).frozen? ⟨b, 1, none⟩ = false := Lib.frozen_of_heap hb2 1
 have hcopy : ∀ W : World, (Builtin.copy_ #[120, 120] 3 #[.slice (some ⟨w.heap.size, 0, none⟩) 0 cs.size, .slice A 0 c]).run Tryz.prog W = .ok (goInt 0) W :=
  fun W => run_copy_none W 120 120 3 5 _ _ 0 cs.size 0 c Tryz.underlying120 byteSize1 rfl
 have hm := hmax (by unfold maxLen; omega)
 have hpos : 0 < cs.size := by omega
 clear hw
 have mixed : Tryz.prog.follows .mixedOrders = true := by kernel_rfl
 go_enter Tryz.func136, Tryz.ntmps136
 go_wp2
 go_region_o
 all_goals (go_wp2; go_end0; exact ⟨rfl, cs, hm, hpos, rfl⟩)
end Go.Proofs.YtkjnjkdcpbgabaaGreatDoor
