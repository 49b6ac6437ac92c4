/-
 Chapter 23: the examples.
-/
import Derived.Test.YtkjnjkdcpbgabaaGreatDoorUX
import Derived.Test.YtkjnjkdcpbgabaaGreatDoorUE
set_option linter.unusedSimpArgs false
set_option linter.unusedVariables false
namespace Go.Proofs.YtkjnjkdcpbgabaaGreatDoor
open Go.Eng Go.RowKit
def facA : AU := ⟨[0, 1], 2, [0], [⟨0, 0, 1⟩, ⟨1, 1, 0⟩]⟩
def facE : List Ev := [⟨[115, 116, 97, 114, 116], false, false, false, 0⟩, ⟨[102, 105, 110, 105, 115, 104], false, false, false, 0⟩]
def facC : CE := ⟨[⟨[109, 49], facA⟩, ⟨[109, 50], facA⟩], [⟨[98], facA⟩], [⟨[120], [⟨0, 1⟩, ⟨1, 1⟩]⟩], []⟩
def it1 : It := ⟨1, [109, 49], facA, [], [], 0⟩
def it2 : It := ⟨1, [109, 50], facA, [], [], 0⟩
def it3 : It := ⟨2, [98], facA, [], [], 0⟩
def it4 : It := ⟨3, [120], AU.no, [⟨[109, 49], 1⟩, ⟨[109, 50], 1⟩], [], 0⟩
def itN : It := ⟨2, [99], AU.no, [], [], 0⟩
theorem k_items : itemsR facC = ([it1, it2, it3, it4], 0) := by kernel_rfl
theorem k_text4 : textR facE it4 = ([101, 120, 99, 108, 117, 100, 101, 32, 120, 58, 32, 109, 49, 61, 49, 44, 32, 109, 50, 61, 49, 10], 0) := by kernel_rfl
theorem k_text1 : textR facE it1 = ([99, 111, 109, 112, 111, 110, 101, 110, 116, 32, 109, 49, 32, 115, 116, 97, 114, 116, 32, 102, 105, 110, 105, 115, 104, 10, 32, 32, 48, 32, 109, 97, 114, 107, 101, 100, 32, 115, 116, 97, 114, 116, 62, 49, 10, 32, 32, 49, 32, 102, 105, 110, 105, 115, 104, 62, 48, 10], 0) := by kernel_rfl
theorem k_put : putR [it1, it2, it3, it4] itN = ([it1, it2, it3, itN, it4], 0) := by kernel_rfl
theorem k_drop : dropR [it1, it2, it3, itN, it4] 1 [109, 50] = ([it1, it3, itN, it4], 0) := by kernel_rfl
theorem k_diff : diffR [it1, it2, it3, it4] [it1, it3, itN, it4] = ([⟨true, ⟨1, [109, 50], AU.no, [], [], 0⟩⟩, ⟨false, itN⟩], 0) := by kernel_rfl
theorem k_cell : (cellR [it1, it3, itN, it4]).2 = 9 := by kernel_rfl
set_option maxHeartbeats 4000000 in
set_option maxRecDepth 100000 in
theorem factory_c : ACalls Tryz.prog 43 [] (.agg (cellD (evs facE) facC)) [] := by
 (refine ACalls.of_body Ty_ok mixed Tryz.func43 rfl (by kernel_rfl) Tryz.ntmps43 (by simp) (congrArg Array.toList Tryz.results43) ?_)
 simp only [slotsOf]
 (repeat' (first | (with_reducible first | exact True.intro | refine And.intro ?_ ?_ | refine aBl ?_ | (refine aS 2 [] ?_; intro K hK)) | ((with_reducible first | refine aGo ?_); simp only [go_sem]) | ((with_reducible refine aCd ?_ ?_ (fun hb => ?_) (fun hb => ?_)); (iterate 2 simp only [go_sem]); all_goals (simp only [go_sem] at hb; try simp only [bls] at hb)) | ((iterate 6 try ((fail_if_success with_reducible refine hK _ ?_ ?_ ?_); clear hK K)); with_reducible refine hK _ ?_ ?_ ?_; rotate_left; (focus (simp only [go_sem]; exact rfl)); clear hK K) | (with_reducible refine aGs (fun hg0 => ?_) (fun hg0 => ?_) <;> first | (with_reducible first | exact aF1 hg0 | exact aF2 hg0) | (simp only [hg0, go_sem])) | (with_reducible refine aNk ?_; intro bnil hnil; try simp only []) | exact aZ | fail))
 all_goals rfl
theorem fits_of {x : It} (h : decide (x.name.length ≤ 1000 ∧ x.aut.alpha.length ≤ 1000 ∧ x.aut.marked.length ≤ 1000 ∧ x.aut.edges.length ≤ 1000 ∧ x.locs.length ≤ 1000 ∧ x.terms.length ≤ 1000) = true) (h2 : (x.locs ++ x.terms).all (fun y => decide (y.name.length ≤ 1000)) = true) : x.Fits := by
 obtain ⟨h1, h3, h4, h5, h6, h7⟩ := of_decide_eq_true h
 rw [List.all_eq_true] at h2
 exact ⟨h1, ⟨h3, h4, h5⟩, h6, h7, fun y hy => of_decide_eq_true (h2 y (List.mem_append_left _ hy)), fun y hy => of_decide_eq_true (h2 y (List.mem_append_right _ hy))⟩
theorem f1 : it1.Fits := fits_of (by kernel_rfl) (by kernel_rfl)
theorem f2 : it2.Fits := fits_of (by kernel_rfl) (by kernel_rfl)
theorem f3 : it3.Fits := fits_of (by kernel_rfl) (by kernel_rfl)
theorem f4 : it4.Fits := fits_of (by kernel_rfl) (by kernel_rfl)
theorem fN : itN.Fits := fits_of (by kernel_rfl) (by kernel_rfl)
theorem lf1 : LFits [it1, it2, it3, it4] := ⟨by decide, fun x hx => by
 simp only [List.mem_cons, List.not_mem_nil, or_false] at hx
 rcases hx with rfl | rfl | rfl | rfl
 ·exact f1
 ·exact f2
 ·exact f3
 ·exact f4⟩
theorem lf2 : LFits [it1, it2, it3, itN, it4] := ⟨by decide, fun x hx => by
 simp only [List.mem_cons, List.not_mem_nil, or_false] at hx
 rcases hx with rfl | rfl | rfl | rfl | rfl
 ·exact f1
 ·exact f2
 ·exact f3
 ·exact fN
 ·exact f4⟩
theorem lf3 : LFits [it1, it3, itN, it4] := ⟨by decide, fun x hx => by
 simp only [List.mem_cons, List.not_mem_nil, or_false] at hx
 rcases hx with rfl | rfl | rfl | rfl
 ·exact f1
 ·exact f3
 ·exact fN
 ·exact f4⟩
theorem facC_fits : facC.Fits := by
 refine ⟨⟨by decide, fun x hx => ?_⟩, ⟨by decide, fun x hx => ?_⟩, ⟨by decide, fun x hx => ?_⟩, ⟨by decide, fun x hx => ?_⟩⟩
 ·simp only [facC, List.mem_cons, List.not_mem_nil, or_false] at hx
  rcases hx with rfl | rfl <;> exact ⟨by decide, by decide, by decide, by decide⟩
 ·simp only [facC, List.mem_cons, List.not_mem_nil, or_false] at hx
  subst hx
  exact ⟨by decide, by decide, by decide, by decide⟩
 ·simp only [facC, List.mem_cons, List.not_mem_nil, or_false] at hx
  subst hx
  exact ⟨by decide, by decide⟩
 ·simp only [facC, List.not_mem_nil] at hx
theorem facE_n : ∀ e ∈ facE, e.name.length ≤ 100 := fun e he => by
 simp only [facE, List.mem_cons, List.not_mem_nil, or_false] at he
 rcases he with rfl | rfl <;> decide
theorem i64_ok {z : Int} (h : decide (-9223372036854775808 ≤ z ∧ z ≤ 9223372036854775807) = true) : I64 z := (of_decide_eq_true h : -9223372036854775808 ≤ z ∧ z ≤ 9223372036854775807)
theorem tf1 : TFits facE it1 := ⟨by decide, facE_n, ⟨by decide, by decide, by decide, fun y hy => by simp [it1] at hy, fun y hy => by simp [it1] at hy, i64_ok (by kernel_rfl)⟩, by decide, by decide, by decide, by decide⟩
theorem tf4 : TFits facE it4 := ⟨by decide, facE_n, ⟨by decide, by decide, by decide, fun y hy => by
 simp only [it4, List.mem_cons, List.not_mem_nil, or_false] at hy
 rcases hy with rfl | rfl <;> exact ⟨by decide, i64_ok (by kernel_rfl)⟩, fun y hy => by simp [it4] at hy, i64_ok (by kernel_rfl)⟩, by decide, by decide, by decide, by decide⟩
set_option maxHeartbeats 16000000 in
set_option maxRecDepth 1000000 in
theorem known_c : ACalls Tryz.prog 12 [] (.one (.bool true)) [] := by
 have c0 := factory_c
 have c1 := Items_c (evs facE) facC facC_fits
 have c2 := Text_c facE it4 tf4 f4 (fun _ => of_decide_eq_true (by kernel_rfl))
 have c3 := Text_c facE it1 tf1 f1 (fun _ => of_decide_eq_true (by kernel_rfl))
 have c4 := Put_c [it1, it2, it3, it4] itN lf1 fN
 have c5 := Drop_c [it1, it2, it3, itN, it4] 1 [109, 50] lf2
 have c6 := Difference_c [it1, it2, it3, it4] [it1, it3, itN, it4] lf1 lf3
 have c7 := Cell_c facE [it1, it3, itN, it4] (by decide) lf3
 rw [k_items] at c1
 rw [k_text4] at c2
 rw [k_text1] at c3
 rw [k_put] at c4
 rw [k_drop] at c5
 rw [k_diff] at c6
 rw [cellV, if_neg (by rw [k_cell]; decide), k_cell] at c7
 generalize (cellR [it1, it3, itN, it4]).1 = cc at *
 simp only [cellD, niD, exD, cnD, evs, edtD, itD, List.map_cons, List.map_nil, It.d, Edt.d, NI.d, Ex.d, Cn.d, Ev.d, facE, facC, it1, it2, it3, it4, itN, facA, ints, edD, ltD, prD, Ed.d, Lt.d, Pr.d, AU.no] at c0 c1 c2 c3 c4 c5 c6 c7
 (refine ACalls.of_body Ty_ok mixed Tryz.func12 rfl (by kernel_rfl) Tryz.ntmps12 (by simp) (congrArg Array.toList Tryz.results12) ?_)
 simp only [slotsOf]
 (repeat' (first | (with_reducible first | exact True.intro | refine And.intro ?_ ?_ | refine aBl ?_ | (refine aS 14 [15] ?_; intro K hK)) | ((with_reducible first | refine aGo ?_ | refine rP Ty_ok mixed 5 [0, 2] [.mid [pe 1, pe 3, pe 4] 0, .one 5, .mid [pe 6, pe 7, pe 8, pe 9, pe 10] 0] ?_ | refine rP Ty_ok mixed 6 [0, 2] [.mid [pe 1, pe 3, pe 4] 0, .one 5, .mid [pe 6, pe 7, pe 8, pe 9, pe 10] 0] ?_); simp only [go_sem]) | ((with_reducible refine aCd ?_ ?_ (fun hb => ?_) (fun hb => ?_)); (iterate 2 simp only [go_sem]); all_goals (simp only [go_sem] at hb; try simp only [bls] at hb)) | ((iterate 6 try ((fail_if_success with_reducible refine hK _ ?_ ?_ ?_); clear hK K)); with_reducible refine hK _ ?_ ?_ ?_; rotate_left; (focus (simp only [go_sem]; exact rfl)); clear hK K) | ((first | (with_reducible first | refine xA ?_ | refine xD ?_ | refine xO ?_ | refine xR ?_ | refine xG ?_ | refine xH ?_ | refine xM ?_) | ((with_reducible refine gA ?_); refine xA ?_) | ((with_reducible refine gD ?_); refine xD ?_) | ((with_reducible refine gG ?_); refine xG ?_)); simp only [go_sem]) | (with_reducible refine aGs (fun hg0 => ?_) (fun hg0 => ?_) <;> first | (with_reducible first | exact aF1 hg0 | exact aF2 hg0) | (simp only [hg0, go_sem])) | (with_reducible refine aNk ?_; intro bnil hnil; try simp only []) | exact aZ | fail))
end Go.Proofs.YtkjnjkdcpbgabaaGreatDoor
