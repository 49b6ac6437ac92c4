/-
 The law TopMonitorsAreSupervisors.
-/
import Derived.Test.YtkjllcmpjghmkaaGreatDoorT8
set_option linter.unusedSimpArgs false
set_option linter.unusedVariables false
namespace Go.Proofs.YtkjllcmpjghmkaaGreatDoor
open Go.Eng Go.RowKit
theorem zd5 (s : Nat → Int) : ∀ x ∈ (z1h s).init, 0 ≤ x ∧ x ≤ 3 := by
 intro x hx
 simp only [z1h, initL, List.mem_map, tok] at hx
 obtain ⟨p, _, rfl⟩ := hx
 omega
theorem zan : ∀ (f m : List Int), (∀ x ∈ f, -3 ≤ x ∧ x ≤ 3) → (∀ x ∈ m, 0 ≤ x ∧ x ≤ 3) → -9 * (m.length : Int) ≤ dot f m
 | [], m, _, _ => by simp only [dot]; omega
 | _ :: _, [], _, _ => by simp only [dot]; simp
 | a :: f, x :: m, hf, hm => by
  have ih := zan f m (fun y hy => hf y (by simp [hy])) fun y hy => hm y (by simp [hy])
  have h1 := hf a (by simp)
  have h2 := hm x (by simp)
  have h3 : -3 * x ≤ a * x := Int.mul_le_mul_of_nonneg_right h1.1 h2.1
  simp only [dot, List.length_cons]
  omega
set_option maxRecDepth 100000 in
set_option maxHeartbeats 64000000 in
theorem z9l (s : Nat → Int) (hs : Bytes s) (f : Nat → Int) (bits : Int) (hbits : 0 ≤ bits ∧ bits ≤ 255) :
  ACalls Tryz.prog 3 [.agg (z0Y 37 s), .agg [.int .i8 (f 0), .int .i8 (f 1), .int .i8 (f 2), .int .i8 (f 3), .int .i8 (f 4), .int .i8 (f 5)], .one (.int .u8 bits)] (.one (.bool true)) [] := by
 have hk := zjI
 have hm := zkq s hs
 have hN := zdz s hs
 have hsmall := zd5 s
 have hnp : 1 ≤ np s ∧ np s ≤ 5 := by unfold np; omega
 have hK5 : (z1h s).init.length = np s := z2g s (np s)
 have hnum := zdq (z1h s) (z0K hN).fits
 have hok := zjw (z0K hN)
 have hnu := zgV (z1h s)
 have hi2 : (numN (z1h s)).init = (z1h s).init := rfl
 rw [← hi2] at hsmall hK5
 generalize z1h s = n0 at *
 generalize numN n0 = n at *
 clear hi2 hN
 have hfit := hok.fits
 have hi10 := hok.init
 have ht10 := hok.trs
 have h0n : n.init ≠ [] := fun e => by rw [e] at hK5; simp at hK5; omega
 have hN := z8M hok
 have hc := zhO n f (f 5) hN
 have hsm := zjf n f (f 5) hfit
 have hcb : -8 < (Small n f (f 5)).bound ∧ (Small n f (f 5)).bound < 8 := z1U (f 5) 8 (by omega)
 have hcf : ∀ x ∈ (Small n f (f 5)).fac, -3 ≤ x ∧ x ≤ 3 := fun x hx => by
  simp only [Small, z3F, List.mem_map] at hx
  obtain ⟨i, _, rfl⟩ := hx
  have := z1U (f (i % 5)) 4 (by omega)
  omega
 generalize Small n f (f 5) = c at *
 have hd := zan c.fac n.init hcf hsmall
 have hr : c.bound - dot c.fac n.init ≤ 1000 := by omega
 obtain ⟨_, q2, q3, q4, q5⟩ := z1v hc
 have hcl : c.fac.length ≤ 1000000 := by omega
 have hAu := z2R n [] hfit h0n (by decide) (fun m hm => by simp at hm)
 rw [z3l] at hAu
 have hFb := zbV n c hfit hc h0n
 have hMo := z7u n c hfit hcl
 cases hB : bndF n with
 | inl e =>
  have hbne := zaH hB
  have hau : autF n [] = .inl e := by rw [autF, if_neg (by omega), hB, auG, mksE, if_neg (by omega)]
  rw [hau] at hAu
  simp only [auR, Aut.d, Aut.zero] at hAu
  simp only [Net.d, Con.d] at hm hnum hsm hAu
  (refine ACalls.of_body Ty_ok mixed Tryz.func3 rfl (by kernel_rfl) Tryz.ntmps3 (by simp) (congrArg Array.toList Tryz.results3) ?_)
  simp only [z00]
  (repeat' (first | (with_reducible first | refine And.intro ?_ ?_ | (refine aS 19 [20, 22, 21] ?_; intro K hK)) | ((with_reducible refine aGo ?_); simp only [go_sem]) | ((with_reducible refine aCd ?_ ?_ (fun hb => ?_) (fun hb => ?_)); (iterate 2 simp only [go_sem]); all_goals (simp only [go_sem] at hb; try simp only [bls] at hb)) | ((iterate 6 try ((fail_if_success with_reducible refine hK _ ?_ ?_ ?_); clear hK K)); with_reducible refine hK _ ?_ ?_ ?_; rotate_left; (focus (simp only [go_sem]; exact rfl)); clear hK K) | ((first | (with_reducible refine xA ?_) | ((with_reducible refine gA ?_); refine xA ?_)); simp only [go_sem]) | exact aZ | fail))
  all_goals first | omega | skip
 | inr r =>
  obtain ⟨nd, ed⟩ := r
  obtain ⟨hau, hAn⟩ := z4y hnu hB
  rw [hau] at hAu hFb
  simp only [auR, fbR] at hAu hFb
  have hF := hAn.found
  have hml := z1s n nd
  obtain ⟨f1, f2⟩ := z4x hF
  have hCl := zax hF c [] ⟨fun x hx => (by cases hx), List.Pairwise.nil⟩ (by decide)
  rw [show ints [] = [] from rfl] at hCl
  have hLf : resL (autA n nd []) (badL c (autM n nd) (autM n nd).length) [] (autM n nd).length = left0 (autM n nd).length (badL c (autM n nd) (autM n nd).length) := zhz _ _ _ _
  simp only [resD0, hLf, resD] at hCl
  have hst : (autA n nd []).states = ((autM n nd).length : Nat) := by rw [hml]; rfl
  have hbl := z43 c (autM n nd) (autM n nd).length
  have hmn := (z57 hF).2
  have hwl : (z0v (autM n nd)).length = (autM n nd).length := by simp [z0v]
  have hleft := fun (k : Nat) (hk : k < (autO n nd).1.length) => za3 c (autM n nd) (k := k) (by omega)
  by_cases hm0 : monE n c = 0
  ·obtain ⟨hMk, _, hL⟩ := z8S hm0
   obtain ⟨ndm, edm, hBm⟩ := zg0 hMk hB hr
   obtain ⟨haum, hAm⟩ := z4y (z4m hnu) hBm
   have hne2 : (z04 n c).init ≠ [] := fun e => by
    have := z2F (n := n) (c := c)
    rw [e] at this; simp at this
   have hAu2 := z2R (z04 n c) [] (zcp hMk).fits hne2 (by decide) (fun m hm => by simp at hm)
   rw [z3l, haum] at hAu2
   have hSM := zig hMk hAn hAm hnu hleft
   have hEq := ze3 (autA (z04 n c) ndm []) (autA (z04 n c) ndm []) (zcU hAm.found)
   rw [decide_eq_true rfl] at hEq
   rw [hm0, hL] at hMo
   have hW := fun u h1 h2 => zgr n c u nd ed hok h0n hnu hc hr hB h1 h2
   rw [hSM] at hCl
   simp only [auR] at hAu2
   clear hSM hleft hLf hm0 hMk hL hBm haum hAm hne2 hau hAn hF f1 f2 hml hd hcf
   generalize keptL _ _ = K at hCl
   generalize resN _ _ _ _ = RN at hCl
   generalize supO _ _ = O at hCl
   generalize z04 n c = m at *
   generalize badL c (autM n nd) (autM n nd).length = bad at *
   generalize autA m ndm [] = b at *
   generalize autM m ndm = V2 at *
   generalize autA n nd [] = a at *
   generalize autM n nd = V at *
   generalize unkL RN.1.length = U at *
   simp only [Net.d, Con.d, Aut.d] at hm hnum hsm hAu hFb hCl hMo hAu2 hEq hW
   (refine ACalls.of_body Ty_ok mixed Tryz.func3 rfl (by kernel_rfl) Tryz.ntmps3 (by simp) (congrArg Array.toList Tryz.results3) ?_)
   simp only [z00]
   (repeat' (first | (with_reducible first | refine aBl ?_ | (refine aS 19 [20, 22, 21] ?_; intro K hK)) | ((with_reducible refine aGo ?_); simp only [hwl, go_sem]) | ((with_reducible refine aCd ?_ ?_ (fun hb => ?_) (fun hb => ?_)); (iterate 2 simp only [hwl, go_sem]); all_goals (simp only [hwl, go_sem] at hb; try simp only [bls] at hb)) | ((iterate 6 try ((fail_if_success with_reducible refine hK _ ?_ ?_ ?_); clear hK K)); with_reducible refine hK _ ?_ ?_ ?_; rotate_left; (focus (simp only [hwl, go_sem]; exact rfl)); clear hK K) | ((first | (with_reducible first | refine xA ?_ | refine xG ?_) | ((with_reducible refine gA ?_); refine xA ?_)); simp only [hwl, go_sem]) | exact aZ | fail))
   all_goals first | omega | skip
   refine z02 _ (by simp only [go_sem]; rfl) (Nat × List Int) (fun x => x.1 ≤ n.trs.length ∧ (∀ y ∈ x.2, 0 ≤ y ∧ y < x.1) ∧ x.2.Pairwise (· < ·) ∧ x.2.length ≤ x.1)
    (fun x => [(21, .one (.own 8)), (22, .one (.int .i64 x.1))]) (fun x H => H.set 8 (.row 3 1 (ints x.2))) (fun x => n.trs.length - x.1) (0, []) ⟨by omega, (fun y hy => by simp at hy), .nil, Nat.le_refl _⟩ ?_ ?_
   ·(simp only [SubF, List.set_cons_succ, List.set_cons_zero, show ints [] = [] from rfl, go_sem]; (try simp only [List.set_cons_succ, List.set_cons_zero, show ints [] = [] from rfl, go_sem]); repeat' (first | exact True.intro | with_reducible refine And.intro ?_ ?_ | rfl | omega))
   rintro ⟨k, u⟩ ⟨hk1, hu1, hu2, hu3⟩ L hL
   simp only at hk1 hu1 hu2 hu3
   by_cases hlt : k < n.trs.length
   ·(simp only [List.set_cons_succ, List.set_cons_zero, go_sem] at hL ⊢)
    (repeat' (first | (with_reducible first | refine And.intro ?_ ?_ | refine aBl ?_ | (refine aS 19 [20, 22, 21] ?_; intro K hK)) | ((with_reducible refine aGo ?_); simp only [go_sem]) | ((with_reducible refine aCd ?_ ?_ (fun hb => ?_) (fun hb => ?_)); (iterate 2 simp only [go_sem]); all_goals (simp only [go_sem] at hb; try simp only [bls] at hb)) | ((iterate 6 try ((fail_if_success with_reducible refine hK _ ?_ ?_ ?_); clear hK K)); with_reducible refine hK _ ?_ ?_ ?_; rotate_left; (focus (simp only [go_sem]; exact rfl)); clear hK K) | exact aZ | fail))
    all_goals first | omega | skip
    ·refine hL _ (k + 1, u ++ [(k : Int)]) ⟨by simp only; omega, fun y hy => ?_, ?_, by simp only [List.length_append, List.length_singleton]; omega⟩ ?_ (by simp only; omega)
     ·simp only at hy
      rcases List.mem_append.1 hy with hy | hy
      ·have := hu1 y hy; simp only; omega
      ·rw [List.mem_singleton] at hy; subst hy; simp only; omega
     ·refine List.pairwise_append.2 ⟨hu2, List.pairwise_singleton _ _, fun x hx y hy => ?_⟩
      rw [List.mem_singleton] at hy; subst hy
      exact (hu1 x hx).2
     ·simp only [← z0f]
      (simp only [SubF, z0e, List.set_cons_succ, List.set_cons_zero, go_sem]; (try simp only [z0e, List.set_cons_succ, List.set_cons_zero, go_sem]); repeat' (first | exact True.intro | with_reducible refine And.intro ?_ ?_ | rfl | omega))
    ·refine hL _ (k + 1, u) ⟨by simp only; omega, fun y hy => by have := hu1 y hy; simp only; omega, hu2, by simp only; omega⟩ ?_ (by simp only; omega)
     (simp only [SubF, List.set_cons_succ, List.set_cons_zero, go_sem]; (try simp only [List.set_cons_succ, List.set_cons_zero, go_sem]); repeat' (first | exact True.intro | with_reducible refine And.intro ?_ ?_ | rfl | omega))
   have hkT : k = n.trs.length := by omega
   subst hkT
   have hW := hW u ⟨hu1, hu2⟩ (by omega)
   (simp only [List.set_cons_succ, List.set_cons_zero, go_sem] at hL ⊢)
   (repeat' (first | (with_reducible first | refine And.intro ?_ ?_ | refine aBl ?_ | (refine aS 19 [20, 22, 21] ?_; intro K hK)) | ((with_reducible refine aGo ?_); simp only [go_sem]) | ((with_reducible refine aCd ?_ ?_ (fun hb => ?_) (fun hb => ?_)); (iterate 2 simp only [go_sem]); all_goals (simp only [go_sem] at hb; try simp only [bls] at hb)) | ((iterate 6 try ((fail_if_success with_reducible refine hK _ ?_ ?_ ?_); clear hK K)); with_reducible refine hK _ ?_ ?_ ?_; rotate_left; (focus (simp only [go_sem]; exact rfl)); clear hK K) | ((with_reducible refine xA ?_); simp only [go_sem]) | exact aZ | fail))
   all_goals first | omega | skip
  ·rcases zcq hc hm0 with h19 | h3
   ·have hlow : c.bound < dot c.fac n.init := by
     unfold monE at h19
     rw [if_neg (by omega)] at h19
     split at h19
     ·omega
     ·split at h19 <;> omega
    have hbad := zj5 c (autM n nd) (k := 0) (l := (autM n nd).length) (by omega) (by rw [f2]; exact hlow)
    have hlf0 : leftB (left0 (autM n nd).length (badL c (autM n nd) (autM n nd).length)) 0 = false := by
     have h := hleft 0 f1
     rw [f2, decide_eq_false (by omega)] at h
     exact h
    have hsO : supO (autA n nd []) (left0 (autM n nd).length (badL c (autM n nd) (autM n nd).length)) = ([], []) := by rw [supO, if_pos (.inr hlf0)]
    have hsA : supA (autA n nd []) (left0 (autM n nd).length (badL c (autM n nd) (autM n nd).length)) = ⟨(autA n nd []).alph, 0, [], []⟩ := by rw [supA, hsO, z2j]; rfl
    have hb00 : (badL c (autM n nd) 0).length = 0 := rfl
    rw [hb00] at hbad
    obtain ⟨hbd1, hbd2⟩ := hbad
    rw [h19, show monL n c = Net.zero by rw [monL, if_neg hm0]] at hMo
    rw [hsA, hsO] at hCl
    clear hleft hLf hm0 hau hAn hF f1 f2 hml hd hcf h19 hlow hlf0 hsO hsA hb00
    generalize keptL _ _ = K at hCl
    generalize resN _ _ _ _ = RN at hCl
    generalize badL c (autM n nd) (autM n nd).length = bad at *
    generalize autA n nd [] = a at *
    generalize autM n nd = V at *
    generalize unkL RN.1.length = U at *
    simp only [Net.d, Con.d, Aut.d, Net.zero] at hm hnum hsm hAu hFb hCl hMo
    (refine ACalls.of_body Ty_ok mixed Tryz.func3 rfl (by kernel_rfl) Tryz.ntmps3 (by simp) (congrArg Array.toList Tryz.results3) ?_)
    simp only [z00]
    (repeat' (first | (with_reducible first | refine And.intro ?_ ?_ | (refine aS 19 [20, 22, 21] ?_; intro K hK)) | ((with_reducible refine aGo ?_); simp only [hwl, hbd2, go_sem]) | ((with_reducible refine aCd ?_ ?_ (fun hb => ?_) (fun hb => ?_)); (iterate 2 simp only [hwl, hbd2, go_sem]); all_goals (simp only [hwl, hbd2, go_sem] at hb; try simp only [bls] at hb)) | ((iterate 6 try ((fail_if_success with_reducible refine hK _ ?_ ?_ ?_); clear hK K)); with_reducible refine hK _ ?_ ?_ ?_; rotate_left; (focus (simp only [hwl, hbd2, go_sem]; exact rfl)); clear hK K) | ((first | (with_reducible refine xA ?_) | ((with_reducible refine gA ?_); refine xA ?_)); simp only [hwl, hbd2, go_sem]) | exact aZ | fail))
    all_goals first | omega | exact decide_eq_true (by omega) | skip
   ·rw [h3, show monL n c = Net.zero by rw [monL, if_neg hm0]] at hMo
    clear hleft hLf hm0 hau hAn hF f1 f2 hml hd hcf h3
    generalize keptL _ _ = K at hCl
    generalize resN _ _ _ _ = RN at hCl
    generalize supA _ _ = A at hCl
    generalize supO _ _ = O at hCl
    generalize badL c (autM n nd) (autM n nd).length = bad at *
    generalize autA n nd [] = a at *
    generalize autM n nd = V at *
    generalize unkL RN.1.length = U at *
    simp only [Net.d, Con.d, Aut.d, Net.zero] at hm hnum hsm hAu hFb hCl hMo
    (refine ACalls.of_body Ty_ok mixed Tryz.func3 rfl (by kernel_rfl) Tryz.ntmps3 (by simp) (congrArg Array.toList Tryz.results3) ?_)
    simp only [z00]
    (repeat' (first | (with_reducible (refine aS 19 [20, 22, 21] ?_; intro K hK)) | ((with_reducible refine aGo ?_); simp only [hwl, go_sem]) | ((with_reducible refine aCd ?_ ?_ (fun hb => ?_) (fun hb => ?_)); (iterate 2 simp only [hwl, go_sem]); all_goals (simp only [hwl, go_sem] at hb; try simp only [bls] at hb)) | ((iterate 6 try ((fail_if_success with_reducible refine hK _ ?_ ?_ ?_); clear hK K)); with_reducible refine hK _ ?_ ?_ ?_; rotate_left; (focus (simp only [hwl, go_sem]; exact rfl)); clear hK K) | ((first | (with_reducible refine xA ?_) | ((with_reducible refine gA ?_); refine xA ?_)); simp only [hwl, go_sem]) | exact aZ | fail))
    all_goals first | omega | skip
end Go.Proofs.YtkjllcmpjghmkaaGreatDoor
