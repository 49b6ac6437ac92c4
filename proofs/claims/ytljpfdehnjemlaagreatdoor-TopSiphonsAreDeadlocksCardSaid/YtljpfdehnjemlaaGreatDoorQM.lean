/-
 Contracts of chapter 51's law: tasks, what they open.
-/
import Derived.Test.YtljpfdehnjemlaaGreatDoorQB
import Derived.Test.YtljpfdehnjemlaaGreatDoorQI
import Derived.Test.YtljpfdehnjemlaaGreatDoorE5
import Derived.Test.YtljpfdehnjemlaaGreatDoorN4
import Derived.Test.YtljpfdehnjemlaaGreatDoorE8
set_option linter.unusedSimpArgs false
set_option linter.unusedVariables false
namespace Go.Proofs.YtljpfdehnjemlaaGreatDoor
open Go.Eng Go.RowKit
def ar1 (l : List Int) : List Arc := l.map fun p => ⟨p, 1⟩
def tabN (k : Int) : Net := ⟨[k, 0, 0, 1, 0, 0], [⟨0, ar1 [0], ar1 [1]⟩, ⟨1, ar1 [1, 3], ar1 [2]⟩, ⟨2, ar1 [2], ar1 [0, 3]⟩, ⟨3, ar1 [3], ar1 [4]⟩, ⟨4, ar1 [0, 4], ar1 [5]⟩, ⟨5, ar1 [5], ar1 [0, 3]⟩]⟩
def sets6 : List (List Int) := [[0], [1], [2], [3], [4], [5], [0, 1], [0, 2], [0, 3], [0, 4], [0, 5], [1, 2], [1, 3], [1, 4], [1, 5], [2, 3], [2, 4], [2, 5], [3, 4], [3, 5], [4, 5], [0, 1, 2], [0, 1, 3], [0, 1, 4], [0, 1, 5], [0, 2, 3], [0, 2, 4], [0, 2, 5], [0, 3, 4], [0, 3, 5], [0, 4, 5], [1, 2, 3], [1, 2, 4], [1, 2, 5], [1, 3, 4], [1, 3, 5], [1, 4, 5], [2, 3, 4], [2, 3, 5], [2, 4, 5], [3, 4, 5], [0, 1, 2, 3], [0, 1, 2, 4], [0, 1, 2, 5], [0, 1, 3, 4], [0, 1, 3, 5], [0, 1, 4, 5], [0, 2, 3, 4], [0, 2, 3, 5], [0, 2, 4, 5], [0, 3, 4, 5], [1, 2, 3, 4], [1, 2, 3, 5], [1, 2, 4, 5], [1, 3, 4, 5], [2, 3, 4, 5], [0, 1, 2, 3, 4], [0, 1, 2, 3, 5], [0, 1, 2, 4, 5], [0, 1, 3, 4, 5], [0, 2, 3, 4, 5], [1, 2, 3, 4, 5], [0, 1, 2, 3, 4, 5]]
theorem setsY_6 : setsY 6 = sets6 :=
 (sorted_one (lt := ltLL) (ys := setsY 6) (zs := sets6) (List.Perm.trans (List.isPerm_iff.1 (by decide +kernel)) (setsY_perm 6).symm) (setsY_pw 6) (by decide +kernel)).symm
theorem minL_tab : minL 1 (tabN 1) = [[0, 1, 2, 5], [0, 2, 3, 5], [2, 3, 4, 5]] := by
 unfold minL
 rw [show (tabN 1).init.length = 6 from rfl, setsY_6]
 decide +kernel
theorem nextF_tab : nextF (tabN 1) [] = some [0, 2, 3, 5] := by
 unfold nextF
 rw [minL_tab]
 kernel_rfl
theorem nextF_tab2 : nextF (tabN 1) [0, 3] = none := by
 unfold nextF
 rw [minL_tab]
 kernel_rfl
def ndOf : Sum Int (List SN × List Edg) → List SN
 | .inl _ => []
 | .inr (nd, _) => nd
def edOf : Sum Int (List SN × List Edg) → List Edg
 | .inl _ => []
 | .inr (_, ed) => ed
def tabN7 : Net := monNet (tabN 1) (kepC 6 [0, 2, 3, 5])
theorem bnd_tab : bndF (tabN 1) = .inr (ndOf (bndF (tabN 1)), edOf (bndF (tabN 1))) := by kernel_rfl
theorem bnd_tab7 : bndF tabN7 = .inr (ndOf (bndF tabN7), edOf (bndF tabN7)) := by kernel_rfl
theorem dead_tab : decide (deadFrom (tabN 1) (ndOf (bndF (tabN 1))) 0 < 0) = false := by kernel_rfl
theorem dead_tab7 : decide (deadFrom tabN7 (ndOf (bndF tabN7)) 0 < 0) = true := by kernel_rfl
theorem path_tab : pathF (ndOf (bndF (tabN 1))) (deadFrom (tabN 1) (ndOf (bndF (tabN 1))) 0) = [0, 3] := by kernel_rfl
theorem mon_tab : monE (tabN 1) (kepC 6 [0, 2, 3, 5]) = 0 := by decide +kernel
theorem prev_tab : prevR (tabN 1) [] = .ok [stepOf (tabN 1) [0, 2, 3, 5]] tabN7 := by
 have h1 := of_decide_eq_false dead_tab
 have h2 := of_decide_eq_true dead_tab7
 rw [prevR, show 11 - (tabN 1).init.length = 3 + 1 + 1 from rfl, prevF, bnd_tab]
 simp only
 rw [if_neg h1, nextF_tab]
 simp only
 rw [if_neg (by rw [show (tabN 1).init.length = 6 from rfl, mon_tab]; decide), prevF, show monNet (tabN 1) (kepC (tabN 1).init.length [0, 2, 3, 5]) = tabN7 from rfl, bnd_tab7]
 simp only
 rw [if_pos h2]
 rfl
theorem prev_tab2 : prevR (tabN 1) [0, 3] = .dead [] (tabN 1) [0, 3] := by
 have h1 := of_decide_eq_false dead_tab
 rw [prevR, show 11 - (tabN 1).init.length = 4 + 1 from rfl, prevF, bnd_tab]
 simp only
 rw [if_neg h1, nextF_tab2, path_tab]
end Go.Proofs.YtljpfdehnjemlaaGreatDoor
set_option linter.unusedSimpArgs false
set_option linter.unusedVariables false
namespace Go.Proofs.YtljpfdehnjemlaaGreatDoor
open Go.Eng Go.RowKit
theorem ar1_take (l : List Int) (k : Nat) (hk : k < l.length) : ar1 (l.take (k + 1)) = ar1 (l.take k) ++ [⟨l.getD k 0, 1⟩] := by
 rw [take_succ_getD l k 0 hk]; simp [ar1]
theorem ar1_length (l : List Int) : (ar1 l).length = l.length := by simp [ar1]
set_option maxHeartbeats 4000000 in
theorem arc1_c (l : List Int) (hl : l.length ≤ 100) : ACalls Tryz.prog 124 [.one (.list (ints l))] (.one (.own 0)) [.row 84 2 (arcsD (ar1 l))] := by
 (refine ACalls.of_body_own Ty_ok mixed Tryz.func124 rfl (by kernel_rfl) Tryz.ntmps124 (by simp) (congrArg Array.toList Tryz.results124) ?_)
 simp only [slotsOf]
 (repeat' (first | (with_reducible first | refine aBl ?_ | (refine aS 5 [] ?_; intro K hK)) | ((with_reducible refine aGo ?_); simp only [go_sem]) | ((iterate 6 try ((fail_if_success with_reducible refine hK _ ?_ ?_ ?_); clear hK K)); with_reducible refine hK _ ?_ ?_ ?_; rotate_left; (focus (simp only [go_sem]; exact rfl)); clear hK K) | fail))
 all_goals first | omega | skip
 refine awp_loop _ (by simp only [go_sem]; rfl) Nat (fun k => k ≤ l.length) (fun k => [(3, .one (.own 1)), (4, .one (.int .i64 k))]) (fun k _ => [.row 84 2 [], .row 84 2 (arcsD (ar1 (l.take k)))]) (fun k => l.length - k) 0 (by omega) ?_ ?_
 ·have e0 : arcsD (ar1 (l.take 0)) = [] := by simp [ar1, arcsD]
  rw [e0]
  (simp only [SubF, go_sem]; (try simp only [go_sem]); repeat' (first | exact True.intro | with_reducible refine And.intro ?_ ?_ | rfl | omega))
 rintro k hk L hL
 have hal := ar1_length (l.take k)
 rw [List.length_take] at hal
 by_cases hlt : k < l.length
 ·have e1 := ar1_take l k hlt
  (simp only [go_sem] at hL ⊢)
  (repeat' (first | (with_reducible first | refine And.intro ?_ ?_ | refine aBl ?_ | (refine aS 5 [] ?_; intro K hK)) | ((with_reducible refine aGo ?_); simp only [go_sem]) | ((with_reducible refine aCd ?_ ?_ (fun hb => ?_) (fun hb => ?_)); (iterate 2 simp only [go_sem]); all_goals (simp only [go_sem] at hb; try simp only [bls] at hb)) | ((iterate 6 try ((fail_if_success with_reducible refine hK _ ?_ ?_ ?_); clear hK K)); with_reducible refine hK _ ?_ ?_ ?_; rotate_left; (focus (simp only [go_sem]; exact rfl)); clear hK K) | exact aZ | fail))
  all_goals first | omega | skip
  rw [arcs_one, arcs_append, ← e1]
  exact hL _ (k + 1) (by omega) (by (simp only [SubF, go_sem]; (try simp only [go_sem]); repeat' (first | exact True.intro | with_reducible refine And.intro ?_ ?_ | rfl | omega))) (by omega)
 ·rw [List.take_of_length_le (by omega : l.length ≤ k)]
  (simp only [go_sem] at hL ⊢)
  (repeat' (first | (with_reducible first | refine And.intro ?_ ?_ | refine aBl ?_ | (refine aS 5 [] ?_; intro K hK)) | ((with_reducible refine aGo ?_); simp only [go_sem]) | ((with_reducible refine aCd ?_ ?_ (fun hb => ?_) (fun hb => ?_)); (iterate 2 simp only [go_sem]); all_goals (simp only [go_sem] at hb; try simp only [bls] at hb)) | ((iterate 6 try ((fail_if_success with_reducible refine hK _ ?_ ?_ ?_); clear hK K)); with_reducible refine hK _ ?_ ?_ ?_; rotate_left; (focus (simp only [go_sem]; exact rfl)); clear hK K) | exact aZ | fail))
  all_goals first | omega | skip
theorem tab_trs : trsD (tabN 1).trs = [[.int .i64 0, .list (arcsD (ar1 [0])), .list (arcsD (ar1 [1]))], [.int .i64 1, .list (arcsD (ar1 [1, 3])), .list (arcsD (ar1 [2]))], [.int .i64 2, .list (arcsD (ar1 [2])), .list (arcsD (ar1 [0, 3]))], [.int .i64 3, .list (arcsD (ar1 [3])), .list (arcsD (ar1 [4]))], [.int .i64 4, .list (arcsD (ar1 [0, 4])), .list (arcsD (ar1 [5]))], [.int .i64 5, .list (arcsD (ar1 [5])), .list (arcsD (ar1 [0, 3]))]] := rfl
set_option maxHeartbeats 8000000 in
theorem table_c : ACalls Tryz.prog 88 [] (.agg (tabN 1).d) [] := by
 have e : (tabN 1).d = [.list (ints [1, 0, 0, 1, 0, 0]), .list (trsD (tabN 1).trs)] := rfl
 rw [e, tab_trs]
 have a0 := arc1_c [0] (by decide)
 have a1 := arc1_c [1] (by decide)
 have a2 := arc1_c [2] (by decide)
 have a3 := arc1_c [3] (by decide)
 have a4 := arc1_c [4] (by decide)
 have a5 := arc1_c [5] (by decide)
 have a6 := arc1_c [1, 3] (by decide)
 have a7 := arc1_c [0, 3] (by decide)
 have a8 := arc1_c [0, 4] (by decide)
 generalize ar1 [0] = x0 at *
 generalize ar1 [1] = x1 at *
 generalize ar1 [2] = x2 at *
 generalize ar1 [3] = x3 at *
 generalize ar1 [4] = x4 at *
 generalize ar1 [5] = x5 at *
 generalize ar1 [1, 3] = x6 at *
 generalize ar1 [0, 3] = x7 at *
 generalize ar1 [0, 4] = x8 at *
 have f0 := arcs_flat x0
 have f1 := arcs_flat x1
 have f2 := arcs_flat x2
 have f3 := arcs_flat x3
 have f4 := arcs_flat x4
 have f5 := arcs_flat x5
 have f6 := arcs_flat x6
 have f7 := arcs_flat x7
 have f8 := arcs_flat x8
 simp only [ints, List.map_cons, List.map_nil] at *
 (refine ACalls.of_body Ty_ok mixed Tryz.func88 rfl (by kernel_rfl) Tryz.ntmps88 (by simp) (congrArg Array.toList Tryz.results88) ?_)
 simp only [slotsOf]
 (repeat' (first | (with_reducible (refine aS 2 [] ?_; intro K hK)) | ((with_reducible refine aGo ?_); simp only [go_sem]) | ((iterate 6 try ((fail_if_success with_reducible refine hK _ ?_ ?_ ?_); clear hK K)); with_reducible refine hK _ ?_ ?_ ?_; rotate_left; (focus (simp only [go_sem]; exact rfl)); clear hK K) | ((with_reducible refine xA ?_); simp only [go_sem]) | fail))
 all_goals first | omega | skip
set_option maxHeartbeats 8000000 in
theorem tableO_c : ACalls Tryz.prog 88 [] (.agg [.own 0, .own 1]) [.row 3 1 (ints [1, 0, 0, 1, 0, 0]), .row 66 3 (trsD (tabN 1).trs)] := by
 rw [tab_trs]
 have a0 := arc1_c [0] (by decide)
 have a1 := arc1_c [1] (by decide)
 have a2 := arc1_c [2] (by decide)
 have a3 := arc1_c [3] (by decide)
 have a4 := arc1_c [4] (by decide)
 have a5 := arc1_c [5] (by decide)
 have a6 := arc1_c [1, 3] (by decide)
 have a7 := arc1_c [0, 3] (by decide)
 have a8 := arc1_c [0, 4] (by decide)
 generalize ar1 [0] = x0 at *
 generalize ar1 [1] = x1 at *
 generalize ar1 [2] = x2 at *
 generalize ar1 [3] = x3 at *
 generalize ar1 [4] = x4 at *
 generalize ar1 [5] = x5 at *
 generalize ar1 [1, 3] = x6 at *
 generalize ar1 [0, 3] = x7 at *
 generalize ar1 [0, 4] = x8 at *
 have f0 := arcs_flat x0
 have f1 := arcs_flat x1
 have f2 := arcs_flat x2
 have f3 := arcs_flat x3
 have f4 := arcs_flat x4
 have f5 := arcs_flat x5
 have f6 := arcs_flat x6
 have f7 := arcs_flat x7
 have f8 := arcs_flat x8
 simp only [ints, List.map_cons, List.map_nil] at *
 (refine ACalls.of_body_twoC Ty_ok mixed Tryz.func88 rfl (by kernel_rfl) Tryz.ntmps88 (by simp) (congrArg Array.toList Tryz.results88) ?_)
 simp only [slotsOf]
 (repeat' (first | (with_reducible (refine aS 2 [] ?_; intro K hK)) | ((with_reducible refine aGo ?_); simp only [go_sem]) | ((iterate 6 try ((fail_if_success with_reducible refine hK _ ?_ ?_ ?_); clear hK K)); with_reducible refine hK _ ?_ ?_ ?_; rotate_left; (focus (simp only [go_sem]; exact rfl)); clear hK K) | ((with_reducible refine xA ?_); simp only [go_sem]) | fail))
 all_goals first | omega | skip
end Go.Proofs.YtljpfdehnjemlaaGreatDoor
set_option linter.unusedSimpArgs false
set_option linter.unusedVariables false
namespace Go.Proofs.YtljpfdehnjemlaaGreatDoor
open Go.Eng Go.RowKit
theorem wrap_u16 (z : Int) (h0 : 0 ≤ z) (h1 : z < 65536) : IntKind.u16.wrap z = z := by
 have : IntKind.u16.wrap z = z % 65536 := rfl
 rw [this]; omega
theorem and_u16 (a b : Nat) (ha : a < 65536) (hb : b < 65536) : bitV .and .u16 (a : Int) (b : Int) = ((a &&& b : Nat) : Int) := by
 have hlt : a &&& b < 65536 := Nat.lt_of_le_of_lt Nat.and_le_left ha
 have e : (BitVec.ofInt IntKind.u16.bits (a : Int) &&& BitVec.ofInt IntKind.u16.bits (b : Int)).toNat = a &&& b := by
  rw [ofInt_nat, ofInt_nat, BitVec.toNat_and, BitVec.toNat_ofNat, BitVec.toNat_ofNat]
  show (a % 65536) &&& (b % 65536) = _
  rw [Nat.mod_eq_of_lt ha, Nat.mod_eq_of_lt hb]
 simp only [bitV, e]
 exact wrap_u16 _ (by omega) (by omega)
theorem bit_u16 (m k : Nat) (hm : m < 65536) (hk : k < 16) : bitV .and .u16 ((m : Int).fdiv (2 ^ min k 16)) 1 = 1 ↔ m.testBit k = true := by
 rw [Nat.min_eq_left (by omega), fdiv_nat, show (1 : Int) = ((1 : Nat) : Int) from rfl, and_u16 _ _ (Nat.lt_of_le_of_lt (Nat.div_le_self _ _) hm) (by omega), Nat.testBit_eq_decide_div_mod_eq, decide_eq_true_iff, Nat.and_one_is_mod]
 generalize m / 2 ^ k = q
 omega
theorem TableO_c : ACalls Tryz.prog 50 [] (.agg [.own 0, .own 1]) [.row 3 1 (ints [1, 0, 0, 1, 0, 0]), .row 66 3 (trsD (tabN 1).trs)] := by
 have h1 := tableO_c
 generalize trsD (tabN 1).trs = X at *
 (refine ACalls.of_body_twoC Ty_ok mixed Tryz.func50 rfl (by kernel_rfl) Tryz.ntmps50 (by simp) (congrArg Array.toList Tryz.results50) ?_)
 simp only [slotsOf]
 (repeat' (first | (with_reducible (refine aS 1 [] ?_; intro K hK)) | ((with_reducible refine aGo ?_); simp only [go_sem]) | ((iterate 6 try ((fail_if_success with_reducible refine hK _ ?_ ?_ ?_); clear hK K)); with_reducible refine hK _ ?_ ?_ ?_; rotate_left; (focus (simp only [go_sem]; exact rfl)); clear hK K) | ((with_reducible refine xA ?_); simp only [go_sem]) | fail))
 all_goals first | omega | skip
def chooseN (s : Nat → Int) (b : Bool) : Net := if b then tabN (1 + s 2 % 2) else makeNet s
def taskU (s : Nat → Int) (b : Bool) (u : Nat) : List Int := bitsL u (chooseN s b).trs.length
theorem task_take (s : Nat → Int) (X : List D) : (bytesD 37 s ++ X).take 37 = bytesD 37 s := by
 rw [List.take_append_of_le_length (by rw [bytesD_length]; decide), List.take_of_length_le (by rw [bytesD_length]; decide)]
theorem task_drop (s : Nat → Int) (X : List D) (k : Nat) : (bytesD 37 s ++ X).drop (37 + k) = X.drop k := by
 rw [List.drop_append, bytesD_length, List.drop_of_length_le (by rw [bytesD_length]; omega), List.nil_append, show 37 + k - 37 = k by omega]
theorem task_len (s : Nat → Int) (X : List D) : (bytesD 37 s ++ X).length = 37 + X.length := by rw [List.length_append, bytesD_length]
end Go.Proofs.YtljpfdehnjemlaaGreatDoor
