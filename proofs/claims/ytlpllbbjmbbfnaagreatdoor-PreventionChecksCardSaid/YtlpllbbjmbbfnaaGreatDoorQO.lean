/-
 Chapter 51: the statement PreventionKeeps.
-/
import Derived.Test.YtlpllbbjmbbfnaaGreatDoorQM
set_option linter.unusedSimpArgs false
set_option linter.unusedVariables false
namespace Go.Proofs.YtlpllbbjmbbfnaaGreatDoor
open Go.Eng Go.RowKit
structure TaskOk (n : Net) (u : List Int) : Prop where
 ok : NetOk n
 ne : n.init ≠ []
 chk : prE n u = 0
 few : n.init.length ≤ 6
 len : u.length ≤ 16
 pos : ∀ t ∈ u, 0 ≤ t
theorem net_tab (k : Int) (h : k = 1 ∨ k = 2) : netE (tabN k) = 0 := by
 rcases h with rfl | rfl <;> decide +kernel
theorem choose_net (s : Nat → Int) (hs : Bytes s) (b : Bool) : netE (chooseN s b) = 0 ∧ 1 ≤ (chooseN s b).init.length ∧ (chooseN s b).init.length ≤ 6 := by
 cases b with
 | true =>
  have : 1 + s 2 % 2 = 1 ∨ 1 + s 2 % 2 = 2 := by omega
  exact ⟨net_tab _ this, by simp [chooseN, tabN], by simp [chooseN, tabN]⟩
 | false =>
  have h := makeNet_ok s hs
  have hl : (makeNet s).init.length = np s := initL_length s (np s)
  have : 1 ≤ np s ∧ np s ≤ 5 := by unfold np; omega
  exact ⟨h, by show 1 ≤ (makeNet s).init.length; omega, by show (makeNet s).init.length ≤ 6; omega⟩
theorem task_ok (s : Nat → Int) (hs : Bytes s) (b : Bool) (u : Nat) : TaskOk (chooseN s b) (taskU s b u) := by
 obtain ⟨h1, h2, h3⟩ := choose_net s hs b
 have hok := netOk_of h1
 have ht := hok.trs
 have hin : ∀ x ∈ taskU s b u, 0 ≤ x ∧ x < (chooseN s b).trs.length := fun x hx => by
  obtain ⟨i, hi, rfl, _⟩ := mem_bitsL.1 hx
  omega
 have hc : checkSet (taskU s b u) (chooseN s b).trs.length = 0 := checkSet_ok (bitsL_pw _ _) hin
 have hl := bitsL_length u (chooseN s b).trs.length
 exact ⟨hok, by intro e; rw [e] at h2; simp at h2, by rw [prE, if_neg (by omega)]; exact hc, h3, by unfold taskU; omega, fun t ht => (hin t ht).1⟩
theorem tab7_d : tabN7.d = [.list (ints [1, 0, 0, 1, 0, 0, 1]), .list (trsD tabN7.trs)] := rfl
set_option maxRecDepth 100000 in
set_option maxHeartbeats 16000000 in
theorem known_c : ACalls Tryz.prog 9 [] (.one (.bool true)) [] := by
 have hn1 := net_tab 1 (.inl rfl)
 have hn7 : netE tabN7 = 0 := by decide +kernel
 have e1 : prE (tabN 1) [] = 0 := by decide +kernel
 have e2 : prE (tabN 1) [0, 3] = 0 := by decide +kernel
 have ht := table_c
 have hP := Prevent_c (tabN 1) [] (netOk_of hn1).fits (fun _ => by decide) (by decide)
 have hX := Explain_c (tabN 1) [0, 3] (netOk_of hn1).fits (fun _ => by decide) (by decide)
 have hD := Deadlock_c tabN7 (netOk_of hn7).fits (by decide)
 rw [prO, if_neg (by omega), prev_tab] at hP
 rw [prO, if_neg (by omega), prev_tab2] at hX
 have hd7 := of_decide_eq_true dead_tab7
 rw [bnd_tab7] at hD
 simp only [dlR] at hD
 rw [if_neg (by omega)] at hD
 have hst : stpD [stepOf (tabN 1) [0, 2, 3, 5]] = [[.list (ints [0, 2, 3, 5]), .list (ints (facK 6 [0, 2, 3, 5])), .int .i64 (-1)]] := rfl
 have s1 := SameInts_c [0, 2, 3, 5] [0, 2, 3, 5] (by decide)
 have s2 := SameInts_c [0, 3] [0, 3] (by decide)
 simp only [pvR, exR, resD, hst] at hP hX
 rw [tab7_d] at hD
 have h7 : ints tabN7.init = ints [1, 0, 0, 1, 0, 0, 1] := rfl
 rw [h7] at hP
 simp only [Net.d] at ht hP hX
 generalize trsD tabN7.trs = T7 at *
 generalize ints (facK 6 [0, 2, 3, 5]) = FK at *
 generalize trsD (tabN 1).trs = T1 at *
 generalize ints (tabN 1).init = I1 at *
 simp only [ints, stpD, List.map_cons, List.map_nil, decide_true] at hP hX hD s1 s2
 (refine ACalls.of_body Ty_ok mixed Tryz.func9 rfl (by kernel_rfl) Tryz.ntmps9 (by simp) (congrArg Array.toList Tryz.results9) ?_)
 simp only [slotsOf]
 (repeat' (first | (with_reducible first | exact True.intro | refine And.intro ?_ ?_ | refine aBl ?_ | (refine aS 3 [5, 4, 9, 8, 6, 7] ?_; intro K hK)) | ((with_reducible first | refine aGo ?_); simp only [go_sem]) | ((with_reducible refine aCd ?_ ?_ (fun hb => ?_) (fun hb => ?_)); (iterate 2 simp only [go_sem]); all_goals (simp only [go_sem] at hb; try simp only [bls] at hb)) | ((iterate 6 try ((fail_if_success with_reducible refine hK _ ?_ ?_ ?_); clear hK K)); with_reducible refine hK _ ?_ ?_ ?_; rotate_left; (focus (simp only [go_sem]; exact rfl)); clear hK K) | ((first | (with_reducible first | refine xA ?_ | refine xD ?_ | refine xO ?_ | refine xR ?_ | refine xG ?_ | refine xH ?_ | refine xM ?_) | ((with_reducible refine gA ?_); refine xA ?_) | ((with_reducible refine gD ?_); refine xD ?_) | ((with_reducible refine gG ?_); refine xG ?_)); simp only [go_sem]) | (with_reducible refine aGs (fun hg0 => ?_) (fun hg0 => ?_) <;> first | (with_reducible first | exact aF1 hg0 | exact aF2 hg0) | (simp only [hg0, go_sem])) | (with_reducible refine aNk ?_; intro bnil hnil; try simp only []) | exact aZ | fail))
 (refine MCallAt_i [1] [] (calls_toM hX) ?_ ?_; (focus (simp only [mside, handOk, go_sem]; (first | done | exact (by decide) | exact ⟨by decide, fun t ht => ht.elim⟩ | (refine ⟨by decide, ?_⟩; simp; done)))); simp only [go_sem])
 (repeat' (first | (with_reducible first | exact True.intro | refine And.intro ?_ ?_ | refine aBl ?_ | (refine aS 3 [5, 4, 9, 8, 6, 7] ?_; intro K hK)) | ((with_reducible first | refine aGo ?_); simp only [go_sem]) | ((with_reducible refine aCd ?_ ?_ (fun hb => ?_) (fun hb => ?_)); (iterate 2 simp only [go_sem]); all_goals (simp only [go_sem] at hb; try simp only [bls] at hb)) | ((iterate 6 try ((fail_if_success with_reducible refine hK _ ?_ ?_ ?_); clear hK K)); with_reducible refine hK _ ?_ ?_ ?_; rotate_left; (focus (simp only [go_sem]; exact rfl)); clear hK K) | ((first | (with_reducible first | refine xA ?_ | refine xD ?_ | refine xO ?_ | refine xR ?_ | refine xG ?_ | refine xH ?_ | refine xM ?_) | ((with_reducible refine gA ?_); refine xA ?_) | ((with_reducible refine gD ?_); refine xD ?_) | ((with_reducible refine gG ?_); refine xG ?_)); simp only [go_sem]) | (with_reducible refine aGs (fun hg0 => ?_) (fun hg0 => ?_) <;> first | (with_reducible first | exact aF1 hg0 | exact aF2 hg0) | (simp only [hg0, go_sem])) | (with_reducible refine aNk ?_; intro bnil hnil; try simp only []) | exact aZ | fail))
 all_goals first | omega | skip
end Go.Proofs.YtlpllbbjmbbfnaaGreatDoor
set_option linter.unusedSimpArgs false
set_option linter.unusedVariables false
namespace Go.Proofs.YtlpllbbjmbbfnaaGreatDoor
open Go.Eng Go.RowKit
theorem none0_c : ACalls Tryz.prog 23 [.agg res0] (.one (.bool true)) [] := none_c [] ⟨[], []⟩ (by decide) (by decide) (by decide)
theorem pr_calls {n : Net} {u : List Int} (h : TaskOk n u) : ACalls Tryz.prog 16 [.agg n.d, .one (.list (ints u))] (pvR (prevR n u)) [] ∧ ACalls Tryz.prog 22 [.agg n.d, .one (.list (ints u))] (exR (prevR n u)) [] := by
 have e : prO n u = prevR n u := by rw [prO, if_neg (by rw [h.chk]; decide)]
 have hP := Prevent_c n u h.ok.fits (fun _ => h.ne) (by have := h.len; omega)
 have hX := Explain_c n u h.ok.fits (fun _ => h.ne) (by have := h.len; omega)
 rw [e] at hP hX
 exact ⟨hP, hX⟩
end Go.Proofs.YtlpllbbjmbbfnaaGreatDoor
