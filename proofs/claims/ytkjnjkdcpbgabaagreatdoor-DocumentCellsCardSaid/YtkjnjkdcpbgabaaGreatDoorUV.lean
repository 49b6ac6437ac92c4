/-
 strings.Join.
-/
import Derived.Test.YtkjnjkdcpbgabaaGreatDoorUS
set_option linter.unusedSimpArgs false
set_option linter.unusedVariables false
namespace Go.Proofs.YtkjnjkdcpbgabaaGreatDoor
open Go.Eng Go.RowKit
def tailS (sep : List UInt8) (l : List (List UInt8)) : List UInt8 := l.flatMap fun y => sep ++ y
def joinS (sep : List UInt8) : List (List UInt8) → List UInt8
 | [] => []
 | x :: r => x ++ tailS sep r
set_option maxHeartbeats 16000000 in
set_option maxRecDepth 100000 in
theorem join_c (l : List (List UInt8)) (sep : List UInt8) (hl : l.length ≤ 1000) (he : ∀ y ∈ l, y.length ≤ 1000) (hs : 0 < sep.length ∧ sep.length ≤ 10) : ACalls Tryz.prog 103 [.one (.list (strsD l)), .one (.str sep)] (.one (.str (joinS sep l))) [] := by
 match l, hl, he with
 | [], _, _ =>
  have e0 : strsD [] = [] := rfl
  (refine ACalls.of_body Ty_ok mixed Tryz.func103 rfl (by kernel_rfl) Tryz.ntmps103 (by simp) (congrArg Array.toList Tryz.results103) ?_)
  simp only [slotsOf, e0]
  (repeat' (first | (with_reducible first | exact True.intro | refine And.intro ?_ ?_ | refine aBl ?_ | (refine aS 11 [12, 40, 39, 41, 64, 63, 65] ?_; intro K hK)) | ((with_reducible first | refine aGo ?_); simp only [go_sem]) | ((with_reducible refine aCd ?_ ?_ (fun hb => ?_) (fun hb => ?_)); (iterate 2 simp only [go_sem]); all_goals (simp only [go_sem] at hb; try simp only [bls] at hb)) | ((iterate 6 try ((fail_if_success with_reducible refine hK _ ?_ ?_ ?_); clear hK K)); with_reducible refine hK _ ?_ ?_ ?_; rotate_left; (focus (simp only [go_sem]; exact rfl)); clear hK K) | (with_reducible refine aGs (fun hg0 => ?_) (fun hg0 => ?_) <;> first | (with_reducible first | exact aF1 hg0 | exact aF2 hg0) | (simp only [hg0, go_sem])) | (with_reducible refine aNk ?_; intro bnil hnil; try simp only []) | exact aZ | fail))
  rfl
 | [x], _, _ =>
  have e0 : strsD [x] = [[.str x]] := rfl
  (refine ACalls.of_body Ty_ok mixed Tryz.func103 rfl (by kernel_rfl) Tryz.ntmps103 (by simp) (congrArg Array.toList Tryz.results103) ?_)
  simp only [slotsOf, e0]
  (repeat' (first | (with_reducible first | exact True.intro | refine And.intro ?_ ?_ | refine aBl ?_ | (refine aS 11 [12, 40, 39, 41, 64, 63, 65] ?_; intro K hK)) | ((with_reducible first | refine aGo ?_); simp only [go_sem]) | ((with_reducible refine aCd ?_ ?_ (fun hb => ?_) (fun hb => ?_)); (iterate 2 simp only [go_sem]); all_goals (simp only [go_sem] at hb; try simp only [bls] at hb)) | ((iterate 6 try ((fail_if_success with_reducible refine hK _ ?_ ?_ ?_); clear hK K)); with_reducible refine hK _ ?_ ?_ ?_; rotate_left; (focus (simp only [go_sem]; exact rfl)); clear hK K) | (with_reducible refine aGs (fun hg0 => ?_) (fun hg0 => ?_) <;> first | (with_reducible first | exact aF1 hg0 | exact aF2 hg0) | (simp only [hg0, go_sem])) | (with_reducible refine aNk ?_; intro bnil hnil; try simp only []) | exact aZ | fail))
  all_goals first | omega | skip
  rw [joinS, tailS, List.flatMap_nil, List.append_nil]
 | x :: y :: r, hl, he =>
  have hn2 : 2 ≤ (x :: y :: r).length := by simp
  have hR : joinS sep (x :: y :: r) = x ++ tailS sep (y :: r) := rfl
  have h0 : (x :: y :: r).getD 0 [] = x := rfl
  have hd1 : (x :: y :: r).drop 1 = y :: r := rfl
  generalize joinS sep (x :: y :: r) = R at *
  have hm : ∃ m : Int, (sep.length : Int) * (((x :: y :: r).length : Int) - 1) = m ∧ 0 ≤ m ∧ m ≤ 10000 := by
   refine ⟨_, rfl, Int.mul_nonneg (by omega) (by omega), ?_⟩
   have := Int.mul_le_mul (show (sep.length : Int) ≤ 10 by omega) (show ((x :: y :: r).length : Int) - 1 ≤ 1000 by omega) (by omega) (by omega)
   omega
  obtain ⟨m, hm, hm0, hm1⟩ := hm
  have hx := he x (by simp)
  generalize hyr : y :: r = rs at *
  have hre : ∀ z ∈ rs, z.length ≤ 1000 := fun z hz => he z (List.mem_cons_of_mem _ hz)
  have hrl : rs.length = (x :: rs).length - 1 := by simp
  generalize x :: rs = l at *
  obtain ⟨q, hq, hq1, hq2⟩ : ∃ q : Int, Int.tdiv 9223372036854775807 ((l.length : Int) - 1) = q ∧ 10 < q ∧ q ≤ 9223372036854775807 := by
   refine ⟨_, rfl, ?_, ?_⟩
   ·rw [Int.tdiv_eq_ediv_of_nonneg (by decide)]
    have : (11 : Int) ≤ 9223372036854775807 / ((l.length : Int) - 1) := by
     rw [Int.le_ediv_iff_mul_le (by omega)]
     omega
    omega
   ·rw [Int.tdiv_eq_ediv_of_nonneg (by decide)]
    exact Int.ediv_le_self _ (by decide)
  clear hyr
  (refine ACalls.of_body Ty_ok mixed Tryz.func103 rfl (by kernel_rfl) Tryz.ntmps103 (by simp) (congrArg Array.toList Tryz.results103) ?_)
  simp only [slotsOf]
  (repeat' (first | (with_reducible first | exact True.intro | refine And.intro ?_ ?_ | refine aBl ?_ | (refine aS 11 [12, 40, 39, 41, 64, 63, 65] ?_; intro K hK)) | ((with_reducible first | refine aGo ?_); simp only [hm, hq, go_sem]) | ((with_reducible refine aCd ?_ ?_ (fun hb => ?_) (fun hb => ?_)); (iterate 2 simp only [hm, hq, go_sem]); all_goals (simp only [hm, hq, go_sem] at hb; try simp only [bls] at hb)) | ((iterate 6 try ((fail_if_success with_reducible refine hK _ ?_ ?_ ?_); clear hK K)); with_reducible refine hK _ ?_ ?_ ?_; rotate_left; (focus (simp only [hm, hq, go_sem]; exact rfl)); clear hK K) | (with_reducible refine aGs (fun hg0 => ?_) (fun hg0 => ?_) <;> first | (with_reducible first | exact aF1 hg0 | exact aF2 hg0) | (simp only [hg0, hm, hq, go_sem])) | (with_reducible refine aNk ?_; intro bnil hnil; try simp only []) | exact aZ | fail))
  all_goals first | omega | skip
  refine awp_loop _ (by simp only [go_sem]; rfl) (Nat × Int) (fun z => z.1 ≤ l.length ∧ 0 ≤ z.2 ∧ z.2 ≤ 10000 + 1000 * z.1) (fun z => [(5, .one (.int .i64 z.2)), (41, .one (.int .i64 z.1))]) (fun _ H => H) (fun z => l.length - z.1) (0, m) ⟨by omega, hm0, by dsimp only; omega⟩ ?_ ?_
  ·(simp only [SubF, go_sem]; (try simp only [go_sem]); repeat' (first | exact True.intro | with_reducible refine And.intro ?_ ?_ | rfl | omega))
  rintro ⟨k, t⟩ ⟨hk, ht0, htl⟩ L hL
  dsimp only at hk ht0 htl
  have hqk : ((k : Nat) : Int).toNat = k := by omega
  rcases (Decidable.em (k < l.length)) with hlt | hlt
  ·have hy := he _ (getD_mem l k [] hlt)
   (simp only [go_sem] at hL ⊢)
   (repeat' (first | (with_reducible first | exact True.intro | refine And.intro ?_ ?_ | refine aBl ?_ | (refine aS 11 [12, 40, 39, 41, 64, 63, 65] ?_; intro K hK)) | ((with_reducible first | refine aGo ?_); simp only [hqk, go_sem]) | ((with_reducible refine aCd ?_ ?_ (fun hb => ?_) (fun hb => ?_)); (iterate 2 simp only [hqk, go_sem]); all_goals (simp only [hqk, go_sem] at hb; try simp only [bls] at hb)) | ((iterate 6 try ((fail_if_success with_reducible refine hK _ ?_ ?_ ?_); clear hK K)); with_reducible refine hK _ ?_ ?_ ?_; rotate_left; (focus (simp only [hqk, go_sem]; exact rfl)); clear hK K) | (with_reducible refine aGs (fun hg0 => ?_) (fun hg0 => ?_) <;> first | (with_reducible first | exact aF1 hg0 | exact aF2 hg0) | (simp only [hg0, hqk, go_sem])) | (with_reducible refine aNk ?_; intro bnil hnil; try simp only []) | exact aZ | fail))
   all_goals first | omega | skip
   refine hL _ (k + 1, t + ((l.getD k []).length : Int)) ⟨by omega, by dsimp only; omega, by dsimp only; omega⟩ ?_ (by dsimp only; omega)
   (simp only [SubF, go_sem]; (try simp only [go_sem]); repeat' (first | exact True.intro | with_reducible refine And.intro ?_ ?_ | rfl | omega))
  have hkl : k = l.length := by omega
  subst hkl
  obtain ⟨tn, rfl⟩ : ∃ n : Nat, t = n := ⟨t.toNat, by omega⟩
  have hg := Grow_n tn (by omega)
  have hw := WriteString_u [] x (by rw [List.length_nil]; omega)
  simp only [bldU, bldN, bldR, show strRows [] = [] from rfl, List.nil_append] at hg hw
  (simp only [go_sem] at hL ⊢)
  (repeat' (first | (with_reducible first | exact True.intro | refine And.intro ?_ ?_ | refine aBl ?_ | (refine aS 11 [12, 40, 39, 41, 64, 63, 65] ?_; intro K hK)) | ((with_reducible first | refine aGo ?_); simp only [go_sem]) | ((with_reducible refine aCd ?_ ?_ (fun hb => ?_) (fun hb => ?_)); (iterate 2 simp only [go_sem]); all_goals (simp only [go_sem] at hb; try simp only [bls] at hb)) | ((iterate 6 try ((fail_if_success with_reducible refine hK _ ?_ ?_ ?_); clear hK K)); with_reducible refine hK _ ?_ ?_ ?_; rotate_left; (focus (simp only [go_sem]; exact rfl)); clear hK K) | (with_reducible refine aGs (fun hg0 => ?_) (fun hg0 => ?_) <;> first | (with_reducible first | exact aF1 hg0 | exact aF2 hg0) | (simp only [hg0, go_sem])) | (with_reducible refine aNk ?_; intro bnil hnil; try simp only []) | exact aZ | fail))
  all_goals first | omega | skip
  (refine MCallAt_T [.cell 0 1 5 1] [] [0, 1] (hg) ?_ ?_ ?_; (focus (simp only [go_sem]; done)); (focus (simp only [mside, handOk, go_sem]; (first | done | exact (by decide) | exact ⟨by decide, fun t ht => ht.elim⟩ | (refine ⟨by decide, ?_⟩; simp; done)))); simp only [go_sem])
  (repeat' (first | (with_reducible first | exact True.intro | refine And.intro ?_ ?_ | refine aBl ?_ | (refine aS 11 [12, 40, 39, 41, 64, 63, 65] ?_; intro K hK)) | ((with_reducible first | refine aGo ?_); simp only [h0, go_sem]) | ((with_reducible refine aCd ?_ ?_ (fun hb => ?_) (fun hb => ?_)); (iterate 2 simp only [h0, go_sem]); all_goals (simp only [h0, go_sem] at hb; try simp only [bls] at hb)) | ((iterate 6 try ((fail_if_success with_reducible refine hK _ ?_ ?_ ?_); clear hK K)); with_reducible refine hK _ ?_ ?_ ?_; rotate_left; (focus (simp only [h0, go_sem]; exact rfl)); clear hK K) | (with_reducible refine aGs (fun hg0 => ?_) (fun hg0 => ?_) <;> first | (with_reducible first | exact aF1 hg0 | exact aF2 hg0) | (simp only [hg0, h0, go_sem])) | (with_reducible refine aNk ?_; intro bnil hnil; try simp only []) | exact aZ | fail))
  all_goals first | omega | skip
  (refine MCallAt_i [] [0, 1] (hw) ?_ ?_; (focus (simp only [mside, handOk, go_sem]; (first | done | exact (by decide) | exact ⟨by decide, fun t ht => ht.elim⟩ | (refine ⟨by decide, ?_⟩; simp; done)))); simp only [go_sem])
  have hd1' : (l.take l.length).drop 1 = rs := by rw [List.take_length, hd1]
  (repeat' (first | (with_reducible first | exact True.intro | refine And.intro ?_ ?_ | refine aBl ?_ | (refine aS 11 [12, 40, 39, 41, 64, 63, 65] ?_; intro K hK)) | ((with_reducible first | refine aGo ?_); simp only [hd1', go_sem]) | ((with_reducible refine aCd ?_ ?_ (fun hb => ?_) (fun hb => ?_)); (iterate 2 simp only [hd1', go_sem]); all_goals (simp only [hd1', go_sem] at hb; try simp only [bls] at hb)) | ((iterate 6 try ((fail_if_success with_reducible refine hK _ ?_ ?_ ?_); clear hK K)); with_reducible refine hK _ ?_ ?_ ?_; rotate_left; (focus (simp only [hd1', go_sem]; exact rfl)); clear hK K) | (with_reducible refine aGs (fun hg0 => ?_) (fun hg0 => ?_) <;> first | (with_reducible first | exact aF1 hg0 | exact aF2 hg0) | (simp only [hg0, hd1', go_sem])) | (with_reducible refine aNk ?_; intro bnil hnil; try simp only []) | exact aZ | fail))
  all_goals first | omega | skip
  clear hL hg hw hd1 hd1' hm hq
  have hRne : R ≠ [] := by
   intro e
   have hrs : rs ≠ [] := fun h => by rw [h] at hrl; simp at hrl; omega
   obtain ⟨y0, r0, rfl⟩ := List.exists_cons_of_ne_nil hrs
   rw [e, tailS, List.flatMap_cons] at hR
   have := congrArg List.length hR
   simp only [List.length_append, List.length_nil] at this
   omega
  refine awp_loop _ (by simp only [go_sem]; rfl) (Nat × List UInt8) (fun z => z.1 ≤ rs.length ∧ R = z.2 ++ tailS sep (rs.drop z.1) ∧ z.2.length ≤ 1000 + 1010 * z.1) (fun z => [(65, .one (.int .i64 z.1))]) (fun z H => H.set 1 (.row 5 1 (strRows z.2))) (fun z => rs.length - z.1) (0, x) ⟨by omega, by simpa using hR, by dsimp only; omega⟩ ?_ ?_
  ·(simp only [SubF, go_sem]; (try simp only [go_sem]); repeat' (first | exact True.intro | with_reducible refine And.intro ?_ ?_ | rfl | omega))
  rintro ⟨k, p⟩ ⟨hk2, hres, hpl⟩ L hL
  dsimp only at hk2 hres hpl
  have hqk : ((k : Nat) : Int).toNat = k := by omega
  rcases (Decidable.em (k < rs.length)) with hlt2 | hlt2
  ·have hy := hre _ (getD_mem rs k [] hlt2)
   rw [drop_getD rs k [] hlt2, tailS, List.flatMap_cons] at hres
   generalize hyd : rs.getD k [] = w at *
   have hw1 := WriteString_u p sep (by omega)
   have hw2 := WriteString_u (p ++ sep) w (by rw [List.length_append]; omega)
   simp only [bldU, bldR] at hw1 hw2
   (simp only [go_sem] at hL ⊢)
   (repeat' (first | (with_reducible first | exact True.intro | refine And.intro ?_ ?_ | refine aBl ?_ | (refine aS 11 [12, 40, 39, 41, 64, 63, 65] ?_; intro K hK)) | ((with_reducible first | refine aGo ?_); simp only [hqk, hyd, go_sem]) | ((with_reducible refine aCd ?_ ?_ (fun hb => ?_) (fun hb => ?_)); (iterate 2 simp only [hqk, hyd, go_sem]); all_goals (simp only [hqk, hyd, go_sem] at hb; try simp only [bls] at hb)) | ((iterate 6 try ((fail_if_success with_reducible refine hK _ ?_ ?_ ?_); clear hK K)); with_reducible refine hK _ ?_ ?_ ?_; rotate_left; (focus (simp only [hqk, hyd, go_sem]; exact rfl)); clear hK K) | (with_reducible refine aGs (fun hg0 => ?_) (fun hg0 => ?_) <;> first | (with_reducible first | exact aF1 hg0 | exact aF2 hg0) | (simp only [hg0, hqk, hyd, go_sem])) | (with_reducible refine aNk ?_; intro bnil hnil; try simp only []) | exact aZ | fail))
   all_goals first | omega | skip
   (refine MCallAt_i [] [0, 1] (hw1) ?_ ?_; (focus (simp only [mside, handOk, go_sem]; (first | done | exact (by decide) | exact ⟨by decide, fun t ht => ht.elim⟩ | (refine ⟨by decide, ?_⟩; simp; done)))); simp only [go_sem])
   (repeat' (first | (with_reducible first | exact True.intro | refine And.intro ?_ ?_ | refine aBl ?_ | (refine aS 11 [12, 40, 39, 41, 64, 63, 65] ?_; intro K hK)) | ((with_reducible first | refine aGo ?_); simp only [go_sem]) | ((with_reducible refine aCd ?_ ?_ (fun hb => ?_) (fun hb => ?_)); (iterate 2 simp only [go_sem]); all_goals (simp only [go_sem] at hb; try simp only [bls] at hb)) | ((iterate 6 try ((fail_if_success with_reducible refine hK _ ?_ ?_ ?_); clear hK K)); with_reducible refine hK _ ?_ ?_ ?_; rotate_left; (focus (simp only [go_sem]; exact rfl)); clear hK K) | (with_reducible refine aGs (fun hg0 => ?_) (fun hg0 => ?_) <;> first | (with_reducible first | exact aF1 hg0 | exact aF2 hg0) | (simp only [hg0, go_sem])) | (with_reducible refine aNk ?_; intro bnil hnil; try simp only []) | exact aZ | fail))
   all_goals first | omega | skip
   (refine MCallAt_i [] [0, 1] (hw2) ?_ ?_; (focus (simp only [mside, handOk, go_sem]; (first | done | exact (by decide) | exact ⟨by decide, fun t ht => ht.elim⟩ | (refine ⟨by decide, ?_⟩; simp; done)))); simp only [go_sem])
   (repeat' (first | (with_reducible first | exact True.intro | refine And.intro ?_ ?_ | refine aBl ?_ | (refine aS 11 [12, 40, 39, 41, 64, 63, 65] ?_; intro K hK)) | ((with_reducible first | refine aGo ?_); simp only [go_sem]) | ((with_reducible refine aCd ?_ ?_ (fun hb => ?_) (fun hb => ?_)); (iterate 2 simp only [go_sem]); all_goals (simp only [go_sem] at hb; try simp only [bls] at hb)) | ((iterate 6 try ((fail_if_success with_reducible refine hK _ ?_ ?_ ?_); clear hK K)); with_reducible refine hK _ ?_ ?_ ?_; rotate_left; (focus (simp only [go_sem]; exact rfl)); clear hK K) | (with_reducible refine aGs (fun hg0 => ?_) (fun hg0 => ?_) <;> first | (with_reducible first | exact aF1 hg0 | exact aF2 hg0) | (simp only [hg0, go_sem])) | (with_reducible refine aNk ?_; intro bnil hnil; try simp only []) | exact aZ | fail))
   all_goals first | omega | skip
   refine hL _ (k + 1, p ++ sep ++ w) ⟨by omega, by rw [hres, tailS]; simp, by simp only [List.length_append]; omega⟩ ?_ (by dsimp only; omega)
   (simp only [SubF, go_sem]; (try simp only [go_sem]); repeat' (first | exact True.intro | with_reducible refine And.intro ?_ ?_ | rfl | omega))
  have hkr : k = rs.length := by omega
  subst hkr
  rw [List.drop_length, tailS, List.flatMap_nil, List.append_nil] at hres
  subst hres
  have hs1 := String_u R hRne
  simp only [bldU, bldR] at hs1
  (simp only [go_sem] at hL ⊢)
  (repeat' (first | (with_reducible first | exact True.intro | refine And.intro ?_ ?_ | refine aBl ?_ | (refine aS 11 [12, 40, 39, 41, 64, 63, 65] ?_; intro K hK)) | ((with_reducible first | refine aGo ?_); simp only [go_sem]) | ((with_reducible refine aCd ?_ ?_ (fun hb => ?_) (fun hb => ?_)); (iterate 2 simp only [go_sem]); all_goals (simp only [go_sem] at hb; try simp only [bls] at hb)) | ((iterate 6 try ((fail_if_success with_reducible refine hK _ ?_ ?_ ?_); clear hK K)); with_reducible refine hK _ ?_ ?_ ?_; rotate_left; (focus (simp only [go_sem]; exact rfl)); clear hK K) | (with_reducible refine aGs (fun hg0 => ?_) (fun hg0 => ?_) <;> first | (with_reducible first | exact aF1 hg0 | exact aF2 hg0) | (simp only [hg0, go_sem])) | (with_reducible refine aNk ?_; intro bnil hnil; try simp only []) | exact aZ | fail))
  all_goals first | omega | skip
  (refine MCallAt_i [] [0, 1] (hs1) ?_ ?_; (focus (simp only [mside, handOk, go_sem]; (first | done | exact (by decide) | exact ⟨by decide, fun t ht => ht.elim⟩ | (refine ⟨by decide, ?_⟩; simp; done)))); simp only [go_sem])
  (repeat' (first | (with_reducible first | exact True.intro | refine And.intro ?_ ?_ | refine aBl ?_ | (refine aS 11 [12, 40, 39, 41, 64, 63, 65] ?_; intro K hK)) | ((with_reducible first | refine aGo ?_); simp only [go_sem]) | ((with_reducible refine aCd ?_ ?_ (fun hb => ?_) (fun hb => ?_)); (iterate 2 simp only [go_sem]); all_goals (simp only [go_sem] at hb; try simp only [bls] at hb)) | ((iterate 6 try ((fail_if_success with_reducible refine hK _ ?_ ?_ ?_); clear hK K)); with_reducible refine hK _ ?_ ?_ ?_; rotate_left; (focus (simp only [go_sem]; exact rfl)); clear hK K) | (with_reducible refine aGs (fun hg0 => ?_) (fun hg0 => ?_) <;> first | (with_reducible first | exact aF1 hg0 | exact aF2 hg0) | (simp only [hg0, go_sem])) | (with_reducible refine aNk ?_; intro bnil hnil; try simp only []) | exact aZ | fail))
  all_goals first | omega | rfl | skip
end Go.Proofs.YtkjnjkdcpbgabaaGreatDoor
