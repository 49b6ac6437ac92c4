/-
 Chapter 51: the statement PreventionVerifies.
-/
import Derived.Test.YtlpllbbjmbbfnaaGreatDoorQM
set_option linter.unusedSimpArgs false
set_option linter.unusedVariables false
namespace Go.Proofs.YtlpllbbjmbbfnaaGreatDoor
open Go.Eng Go.RowKit
structure TaskOk (n : Net) (u : List Int) : Prop where
 ok : NetOk n
 ne : n.init ≠ []
 chk : prE n u = 0
 few : n.init.length ≤ 6
 len : u.length ≤ 16
 pos : ∀ t ∈ u, 0 ≤ t
theorem net_tab (k : Int) (h : k = 1 ∨ k = 2) : netE (tabN k) = 0 := by
 rcases h with rfl | rfl <;> decide +kernel
theorem choose_net (s : Nat → Int) (hs : Bytes s) (b : Bool) : netE (chooseN s b) = 0 ∧ 1 ≤ (chooseN s b).init.length ∧ (chooseN s b).init.length ≤ 6 := by
 cases b with
 | true =>
  have : 1 + s 2 % 2 = 1 ∨ 1 + s 2 % 2 = 2 := by omega
  exact ⟨net_tab _ this, by simp [chooseN, tabN], by simp [chooseN, tabN]⟩
 | false =>
  have h := makeNet_ok s hs
  have hl : (makeNet s).init.length = np s := initL_length s (np s)
  have : 1 ≤ np s ∧ np s ≤ 5 := by unfold np; omega
  exact ⟨h, by show 1 ≤ (makeNet s).init.length; omega, by show (makeNet s).init.length ≤ 6; omega⟩
theorem task_ok (s : Nat → Int) (hs : Bytes s) (b : Bool) (u : Nat) : TaskOk (chooseN s b) (taskU s b u) := by
 obtain ⟨h1, h2, h3⟩ := choose_net s hs b
 have hok := netOk_of h1
 have ht := hok.trs
 have hin : ∀ x ∈ taskU s b u, 0 ≤ x ∧ x < (chooseN s b).trs.length := fun x hx => by
  obtain ⟨i, hi, rfl, _⟩ := mem_bitsL.1 hx
  omega
 have hc : checkSet (taskU s b u) (chooseN s b).trs.length = 0 := checkSet_ok (bitsL_pw _ _) hin
 have hl := bitsL_length u (chooseN s b).trs.length
 exact ⟨hok, by intro e; rw [e] at h2; simp at h2, by rw [prE, if_neg (by omega)]; exact hc, h3, by unfold taskU; omega, fun t ht => (hin t ht).1⟩
theorem tab7_d : tabN7.d = [.list (ints [1, 0, 0, 1, 0, 0, 1]), .list (trsD tabN7.trs)] := rfl
set_option maxRecDepth 100000 in
set_option maxHeartbeats 16000000 in
theorem known_c : ACalls Tryz.prog 9 [] (.one (.bool true)) [] := by
 have hn1 := net_tab 1 (.inl rfl)
 have hn7 : netE tabN7 = 0 := by decide +kernel
 have e1 : prE (tabN 1) [] = 0 := by decide +kernel
 have e2 : prE (tabN 1) [0, 3] = 0 := by decide +kernel
 have ht := table_c
 have hP := Prevent_c (tabN 1) [] (netOk_of hn1).fits (fun _ => by decide) (by decide)
 have hX := Explain_c (tabN 1) [0, 3] (netOk_of hn1).fits (fun _ => by decide) (by decide)
 have hD := Deadlock_c tabN7 (netOk_of hn7).fits (by decide)
 rw [prO, if_neg (by omega), prev_tab] at hP
 rw [prO, if_neg (by omega), prev_tab2] at hX
 have hd7 := of_decide_eq_true dead_tab7
 rw [bnd_tab7] at hD
 simp only [dlR] at hD
 rw [if_neg (by omega)] at hD
 have hst : stpD [stepOf (tabN 1) [0, 2, 3, 5]] = [[.list (ints [0, 2, 3, 5]), .list (ints (facK 6 [0, 2, 3, 5])), .int .i64 (-1)]] := rfl
 have s1 := SameInts_c [0, 2, 3, 5] [0, 2, 3, 5] (by decide)
 have s2 := SameInts_c [0, 3] [0, 3] (by decide)
 simp only [pvR, exR, resD, hst] at hP hX
 rw [tab7_d] at hD
 have h7 : ints tabN7.init = ints [1, 0, 0, 1, 0, 0, 1] := rfl
 rw [h7] at hP
 simp only [Net.d] at ht hP hX
 generalize trsD tabN7.trs = T7 at *
 generalize ints (facK 6 [0, 2, 3, 5]) = FK at *
 generalize trsD (tabN 1).trs = T1 at *
 generalize ints (tabN 1).init = I1 at *
 simp only [ints, stpD, List.map_cons, List.map_nil, decide_true] at hP hX hD s1 s2
 (refine ACalls.of_body Ty_ok mixed Tryz.func9 rfl (by kernel_rfl) Tryz.ntmps9 (by simp) (congrArg Array.toList Tryz.results9) ?_)
 simp only [slotsOf]
 (repeat' (first | (with_reducible first | exact True.intro | refine And.intro ?_ ?_ | refine aBl ?_ | (refine aS 3 [5, 4, 9, 8, 6, 7] ?_; intro K hK)) | ((with_reducible first | refine aGo ?_); simp only [go_sem]) | ((with_reducible refine aCd ?_ ?_ (fun hb => ?_) (fun hb => ?_)); (iterate 2 simp only [go_sem]); all_goals (simp only [go_sem] at hb; try simp only [bls] at hb)) | ((iterate 6 try ((fail_if_success with_reducible refine hK _ ?_ ?_ ?_); clear hK K)); with_reducible refine hK _ ?_ ?_ ?_; rotate_left; (focus (simp only [go_sem]; exact rfl)); clear hK K) | ((first | (with_reducible first | refine xA ?_ | refine xD ?_ | refine xO ?_ | refine xR ?_ | refine xG ?_ | refine xH ?_ | refine xM ?_) | ((with_reducible refine gA ?_); refine xA ?_) | ((with_reducible refine gD ?_); refine xD ?_) | ((with_reducible refine gG ?_); refine xG ?_)); simp only [go_sem]) | (with_reducible refine aGs (fun hg0 => ?_) (fun hg0 => ?_) <;> first | (with_reducible first | exact aF1 hg0 | exact aF2 hg0) | (simp only [hg0, go_sem])) | (with_reducible refine aNk ?_; intro bnil hnil; try simp only []) | exact aZ | fail))
 (refine MCallAt_i [1] [] (calls_toM hX) ?_ ?_; (focus (simp only [mside, handOk, go_sem]; (first | done | exact (by decide) | exact ⟨by decide, fun t ht => ht.elim⟩ | (refine ⟨by decide, ?_⟩; simp; done)))); simp only [go_sem])
 (repeat' (first | (with_reducible first | exact True.intro | refine And.intro ?_ ?_ | refine aBl ?_ | (refine aS 3 [5, 4, 9, 8, 6, 7] ?_; intro K hK)) | ((with_reducible first | refine aGo ?_); simp only [go_sem]) | ((with_reducible refine aCd ?_ ?_ (fun hb => ?_) (fun hb => ?_)); (iterate 2 simp only [go_sem]); all_goals (simp only [go_sem] at hb; try simp only [bls] at hb)) | ((iterate 6 try ((fail_if_success with_reducible refine hK _ ?_ ?_ ?_); clear hK K)); with_reducible refine hK _ ?_ ?_ ?_; rotate_left; (focus (simp only [go_sem]; exact rfl)); clear hK K) | ((first | (with_reducible first | refine xA ?_ | refine xD ?_ | refine xO ?_ | refine xR ?_ | refine xG ?_ | refine xH ?_ | refine xM ?_) | ((with_reducible refine gA ?_); refine xA ?_) | ((with_reducible refine gD ?_); refine xD ?_) | ((with_reducible refine gG ?_); refine xG ?_)); simp only [go_sem]) | (with_reducible refine aGs (fun hg0 => ?_) (fun hg0 => ?_) <;> first | (with_reducible first | exact aF1 hg0 | exact aF2 hg0) | (simp only [hg0, go_sem])) | (with_reducible refine aNk ?_; intro bnil hnil; try simp only []) | exact aZ | fail))
 all_goals first | omega | skip
end Go.Proofs.YtlpllbbjmbbfnaaGreatDoor
set_option linter.unusedSimpArgs false
set_option linter.unusedVariables false
namespace Go.Proofs.YtlpllbbjmbbfnaaGreatDoor
open Go.Eng Go.RowKit
theorem ACalls.weak {P : Program} {f : FuncId} {args : List AV} {r r' : AV} {Hn : List AObj} (h : LeV r r') (hc : ACalls P f args r Hn) : ACalls P f args r' Hn := ⟨hc.ok, fun w M vs hM hv => (hc.run w M vs hM hv).mono fun e w' hh => by
 obtain ⟨v, β, h1, h2⟩ := hh
 exact ⟨v, β, h1, { h2 with val := h _ _ _ _ h2.val }⟩⟩
end Go.Proofs.YtlpllbbjmbbfnaaGreatDoor
set_option linter.unusedSimpArgs false
set_option linter.unusedVariables false
namespace Go.Proofs.YtlpllbbjmbbfnaaGreatDoor
open Go.Eng Go.RowKit
structure Stp.Small (x : Stp) : Prop where
 ne : 0 < x.set.length
 set : x.set.length ≤ 10
 fac : x.con.fac.length ≤ 10
theorem Stp.Small.fits {x : Stp} (h : x.Small) : x.Fits := ⟨by have := h.set; omega, by have := h.fac; omega⟩
theorem step_small {m : Net} {u s : List Int} (hn : netE m = 0) (h : nextF m u = some s) : (stepOf m s).Small := by
 obtain ⟨h1, h2⟩ := nextF_mem h
 have hS := setOk_of hn h1
 have hi := (netOk_of hn).init
 refine ⟨?_, hS.len, by show (facK m.init.length s).length ≤ 10; rw [facK_length]; exact hi⟩
 simp only [ctlB, Bool.and_eq_true, decide_eq_true_eq] at h2
 have h3 := h2.1.2
 show 0 < s.length
 cases s with
 | nil => simp [sumAt] at h3
 | cons x l => simp
def POut.small : POut → Prop
 | .err _ => True
 | .ok st m => netE m = 0 ∧ ∀ x ∈ st, x.Small
 | .dead st m _ => netE m = 0 ∧ ∀ x ∈ st, x.Small
theorem prevF_small {u : List Int} : ∀ (f : Nat) (st : List Stp) (m : Net), netE m = 0 → (∀ x ∈ st, x.Small) → (prevF u f st m).small
 | 0, st, m, _, _ => trivial
 | f + 1, st, m, hm, hs => by
  simp only [prevF]
  split
  ·trivial
  ·split
   ·exact ⟨hm, hs⟩
   ·split
    ·exact ⟨hm, hs⟩
    ·rename_i s hx
     split
     ·trivial
     ·rename_i hz
      have hz : monE m (kepC m.init.length s) = 0 := by omega
      refine prevF_small f _ _ (netE_of (mon_ok (monOk_of hz).1)) fun x hx' => ?_
      rcases List.mem_append.1 hx' with h | h
      ·exact hs x h
      ·simp only [List.mem_singleton] at h
       subst h
       exact step_small hm hx
theorem prevR_small {n : Net} (u : List Int) (hn : netE n = 0) : (prevR n u).small := prevF_small _ _ _ hn fun x h => by simp at h
end Go.Proofs.YtlpllbbjmbbfnaaGreatDoor
