/-
 Chapter 51: the statement PreventionChecks.
-/
import Derived.Test.YtlpllbbjmbbfnaaGreatDoorQO
set_option linter.unusedSimpArgs false
set_option linter.unusedVariables false
namespace Go.Proofs.YtlpllbbjmbbfnaaGreatDoor
open Go.Eng Go.RowKit
set_option maxHeartbeats 4000000 in
theorem refList_c (xs : List Int) (m : Int) (hn : xs.length ≤ 1000000) : ACalls Tryz.prog 31 [.one (.list (ints xs)), .one (.int .i64 m)] (.one (.int .i64 (checkSet xs m))) [] := by
 (refine ACalls.of_body Ty_ok mixed Tryz.func31 rfl (by kernel_rfl) Tryz.ntmps31 (by simp) (congrArg Array.toList Tryz.results31) ?_)
 simp only [slotsOf]
 (repeat' (first | (with_reducible first | exact True.intro | refine And.intro ?_ ?_ | refine aBl ?_ | (refine aS 6 [] ?_; intro K hK)) | ((with_reducible first | refine aGo ?_ | refine rD (id := 6) ?_); simp only [go_sem]) | ((with_reducible refine aCd ?_ ?_ (fun hb => ?_) (fun hb => ?_)); (iterate 2 simp only [go_sem]); all_goals (simp only [go_sem] at hb; try simp only [bls] at hb)) | ((iterate 6 try ((fail_if_success with_reducible refine hK _ ?_ ?_ ?_); clear hK K)); with_reducible refine hK _ ?_ ?_ ?_; rotate_left; (focus (simp only [go_sem]; exact rfl)); clear hK K) | (with_reducible refine aGs (fun hg0 => ?_) (fun hg0 => ?_) <;> first | (with_reducible first | exact aF1 hg0 | exact aF2 hg0) | (simp only [hg0, go_sem])) | (with_reducible refine aNk ?_; intro bnil hnil; try simp only []) | exact aZ | fail))
 all_goals first | omega | skip
 refine awp_loop _ (by simp only [go_sem]; rfl) Nat (fun k => k ≤ xs.length ∧ checkSet xs m = csFrom m (xs.drop k) (prevOf xs k)) (fun k => [(5, .one (.int .i64 k))]) (fun _ H => H) (fun k => xs.length - k) 0 ⟨by omega, by simp [checkSet, prevOf]⟩ ?_ ?_
 ·(simp only [SubF, go_sem]; (try simp only [go_sem]); repeat' (first | exact True.intro | with_reducible refine And.intro ?_ ?_ | rfl | omega))
 rintro k ⟨hk, hres⟩ L hL
 have e1 := toNat_pred k
 (simp only [go_sem] at hL ⊢)
 (repeat' (first | (with_reducible first | exact True.intro | refine And.intro ?_ ?_ | refine aBl ?_ | (refine aS 6 [] ?_; intro K hK)) | ((with_reducible first | refine aGo ?_ | refine rD (id := 6) ?_); simp only [e1, go_sem]) | ((with_reducible refine aCd ?_ ?_ (fun hb => ?_) (fun hb => ?_)); (iterate 2 simp only [e1, go_sem]); all_goals (simp only [e1, go_sem] at hb; try simp only [bls] at hb)) | ((iterate 6 try ((fail_if_success with_reducible refine hK _ ?_ ?_ ?_); clear hK K)); with_reducible refine hK _ ?_ ?_ ?_; rotate_left; (focus (simp only [e1, go_sem]; exact rfl)); clear hK K) | (with_reducible refine aGs (fun hg0 => ?_) (fun hg0 => ?_) <;> first | (with_reducible first | exact aF1 hg0 | exact aF2 hg0) | (simp only [hg0, e1, go_sem])) | (with_reducible refine aNk ?_; intro bnil hnil; try simp only []) | exact aZ | fail))
 all_goals first | omega | skip
 ·rw [cs_step (by omega) hres, if_pos hb]
 ·rw [cs_step (by omega) hres, if_neg (by omega), if_pos ⟨by omega, hb.2⟩]
 ·have h1 := cs_step (by omega) hres
  rw [if_neg (by omega), if_neg (by omega)] at h1
  exact hL _ (k + 1) ⟨by omega, h1⟩ (by (simp only [SubF, go_sem]; (try simp only [go_sem]); repeat' (first | exact True.intro | with_reducible refine And.intro ?_ ?_ | rfl | omega))) (by omega)
 ·rw [hres, drop_end xs k (by omega)]; rfl
theorem hE0 {x : Int} (h : x ≠ 0) : (x == 0) = false := by simpa using h
theorem trs_few {n : Net} (h1 : n.init.length ≤ 11) (h2 : n.trs.length ≤ 11) (h3 : ∀ t ∈ n.trs, t.inn.length ≤ 11 ∧ t.out.length ≤ 11) : n.Fits :=
 ⟨by omega, by omega, fun t ht => by have := h3 t ht; omega, fun t ht => by have := h3 t ht; omega⟩
theorem all_getD {n : Net} (h : ∀ j, j < n.trs.length → (n.trs.getD j Tr.no).inn.length ≤ 11 ∧ (n.trs.getD j Tr.no).out.length ≤ 11) : ∀ t ∈ n.trs, t.inn.length ≤ 11 ∧ t.out.length ≤ 11 := fun t ht => by
 obtain ⟨j, hj, rfl⟩ := List.mem_iff_getElem.1 ht
 have := h j hj
 simpa [List.getD, List.getElem?_eq_getElem hj] using this
set_option maxRecDepth 100000 in
set_option maxHeartbeats 32000000 in
theorem PreventionChecks_c (n : Net) (l : List Int) : ACalls Tryz.prog 8 [.agg n.d, .one (.list (ints l))] (.one (.bool true)) [] := by
 have hKn := known_c
 by_cases hbig : n.init.length ≤ 11 ∧ n.trs.length ≤ 11 ∧ l.length ≤ 8
 ·obtain ⟨h11, ht11, hl8⟩ := hbig
  (refine ACalls.of_body Ty_ok mixed Tryz.func8 rfl (by kernel_rfl) Tryz.ntmps8 (by simp) (congrArg Array.toList Tryz.results8) ?_)
  simp only [slotsOf, Net.d]
  (repeat' (first | (with_reducible first | exact True.intro | refine And.intro ?_ ?_ | refine aBl ?_ | (refine aS 19 [] ?_; intro K hK)) | ((with_reducible first | refine aGo ?_ | refine rP Ty_ok mixed 11 [0, 1, 5, 6] [.mid [pe 2, pe 3, ⟨4, 0, true, false, false, [], []⟩, ⟨7, 1, false, false, false, [0], []⟩, ⟨8, 1, false, false, false, [0], []⟩] 1, .one 9, .mid [pe 10, pe 11] 0] ?_ | refine rP Ty_ok mixed 13 [1, 3] [.mid [pe 0, ⟨2, 0, true, false, false, [], []⟩, ⟨4, 1, false, false, false, [], []⟩, ⟨5, 1, false, false, false, [], []⟩, ⟨6, 1, false, false, false, [], []⟩, ⟨7, 1, false, false, false, [], []⟩, ⟨8, 1, false, false, false, [], []⟩, ⟨9, 1, false, false, false, [], []⟩, ⟨10, 1, false, false, false, [], []⟩, ⟨11, 1, false, false, false, [], []⟩, ⟨12, 1, false, false, false, [], []⟩, ⟨13, 1, false, false, false, [], []⟩, ⟨14, 1, false, false, false, [], []⟩, ⟨15, 1, false, false, false, [], []⟩, ⟨16, 1, false, false, false, [], []⟩, ⟨17, 1, false, false, false, [], []⟩, ⟨18, 1, false, false, false, [], []⟩, ⟨19, 1, true, false, false, [], []⟩] 2, .one 20, .mid [pe 21, pe 22, pe 23, pe 24, pe 25, pe 26, pe 27, pe 28, pe 29, pe 30, pe 31, pe 32, pe 33, pe 34, pe 35, pe 36, pe 37, pe 38] 0] ?_); simp only [go_sem]) | ((with_reducible refine aCd ?_ ?_ (fun hb => ?_) (fun hb => ?_)); (iterate 2 simp only [go_sem]); all_goals (simp only [go_sem] at hb; try simp only [bls] at hb)) | ((iterate 6 try ((fail_if_success with_reducible refine hK _ ?_ ?_ ?_); clear hK K)); with_reducible refine hK _ ?_ ?_ ?_; rotate_left; (focus (simp only [go_sem]; exact rfl)); clear hK K) | ((first | (with_reducible first | refine xA ?_ | refine xD ?_ | refine xO ?_ | refine xR ?_ | refine xG ?_ | refine xH ?_ | refine xM ?_) | ((with_reducible refine gA ?_); refine xA ?_) | ((with_reducible refine gD ?_); refine xD ?_) | ((with_reducible refine gG ?_); refine xG ?_)); simp only [go_sem]) | (with_reducible refine aGs (fun hg0 => ?_) (fun hg0 => ?_) <;> first | (with_reducible first | exact aF1 hg0 | exact aF2 hg0) | (simp only [hg0, go_sem])) | (with_reducible refine aNk ?_; intro bnil hnil; try simp only []) | exact aZ | fail))
  all_goals first | omega | skip
  refine awp_loop _ (by simp only [go_sem]; rfl) Nat (fun k => k ≤ n.trs.length ∧ ∀ j, j < k → (n.trs.getD j Tr.no).inn.length ≤ 11 ∧ (n.trs.getD j Tr.no).out.length ≤ 11) (fun k => [(5, .one (.int .i64 k))]) (fun _ H => H) (fun k => n.trs.length - k) 0 ⟨by omega, fun j h => by omega⟩ ?_ ?_
  ·(simp only [SubF, go_sem]; (try simp only [go_sem]); repeat' (first | exact True.intro | with_reducible refine And.intro ?_ ?_ | rfl | omega))
  rintro k ⟨hk, hsm⟩ L hL
  have hq : ((k : Nat) : Int).toNat = k := by omega
  by_cases hlt : k < n.trs.length
  ·have hg := trs_get hlt [.int .i64 0, .nil, .nil]
   have hL2 : (n.trs.getD k Tr.no).inn.length ≤ 11 → (n.trs.getD k Tr.no).out.length ≤ 11 → ∀ j, j < k + 1 → (n.trs.getD j Tr.no).inn.length ≤ 11 ∧ (n.trs.getD j Tr.no).out.length ≤ 11 := fun a b j hj => by
    by_cases h : j = k
    ·subst h; exact ⟨a, b⟩
    ·exact hsm j (by omega)
   generalize n.trs.getD k Tr.no = t at hg hL2
   (simp only [go_sem] at hL ⊢)
   (repeat' (first | (with_reducible first | exact True.intro | refine And.intro ?_ ?_ | refine aBl ?_ | (refine aS 19 [] ?_; intro K hK)) | ((with_reducible first | refine aGo ?_ | refine rP Ty_ok mixed 11 [0, 1, 5, 6] [.mid [pe 2, pe 3, ⟨4, 0, true, false, false, [], []⟩, ⟨7, 1, false, false, false, [0], []⟩, ⟨8, 1, false, false, false, [0], []⟩] 1, .one 9, .mid [pe 10, pe 11] 0] ?_ | refine rP Ty_ok mixed 13 [1, 3] [.mid [pe 0, ⟨2, 0, true, false, false, [], []⟩, ⟨4, 1, false, false, false, [], []⟩, ⟨5, 1, false, false, false, [], []⟩, ⟨6, 1, false, false, false, [], []⟩, ⟨7, 1, false, false, false, [], []⟩, ⟨8, 1, false, false, false, [], []⟩, ⟨9, 1, false, false, false, [], []⟩, ⟨10, 1, false, false, false, [], []⟩, ⟨11, 1, false, false, false, [], []⟩, ⟨12, 1, false, false, false, [], []⟩, ⟨13, 1, false, false, false, [], []⟩, ⟨14, 1, false, false, false, [], []⟩, ⟨15, 1, false, false, false, [], []⟩, ⟨16, 1, false, false, false, [], []⟩, ⟨17, 1, false, false, false, [], []⟩, ⟨18, 1, false, false, false, [], []⟩, ⟨19, 1, true, false, false, [], []⟩] 2, .one 20, .mid [pe 21, pe 22, pe 23, pe 24, pe 25, pe 26, pe 27, pe 28, pe 29, pe 30, pe 31, pe 32, pe 33, pe 34, pe 35, pe 36, pe 37, pe 38] 0] ?_); simp only [hg, hq, go_sem]) | ((with_reducible refine aCd ?_ ?_ (fun hb => ?_) (fun hb => ?_)); (iterate 2 simp only [hg, hq, go_sem]); all_goals (simp only [hg, hq, go_sem] at hb; try simp only [bls] at hb)) | ((iterate 6 try ((fail_if_success with_reducible refine hK _ ?_ ?_ ?_); clear hK K)); with_reducible refine hK _ ?_ ?_ ?_; rotate_left; (focus (simp only [hg, hq, go_sem]; exact rfl)); clear hK K) | (with_reducible refine aGs (fun hg0 => ?_) (fun hg0 => ?_) <;> first | (with_reducible first | exact aF1 hg0 | exact aF2 hg0) | (simp only [hg0, hg, hq, go_sem])) | (with_reducible refine aNk ?_; intro bnil hnil; try simp only []) | exact aZ | fail))
   all_goals first | omega | exact fun h => ⟨h, by omega, by omega⟩ | skip
   exact hL _ (k + 1) ⟨by omega, hL2 (by omega) (by omega)⟩ (by (simp only [SubF, go_sem]; (try simp only [go_sem]); repeat' (first | exact True.intro | with_reducible refine And.intro ?_ ?_ | rfl | omega))) (by omega)
  ·have hkl : k = n.trs.length := by omega
   subst hkl
   have hf := trs_few h11 ht11 (all_getD hsm)
   clear hsm hL
   have hCk := netCheck_c n hf
   have hr1 := refList_c l n.trs.length (by omega)
   have hr2 := refList_c l n.init.length (by omega)
   have hCo := Constraint_c n l hf (by omega)
   have hPc := prCheck_c n l hf (by omega)
   have hNo := none0_c
   have hpw : prE n l = if netE n ≠ 0 then netE n else checkSet l n.trs.length := rfl
   have hbad : prE n l ≠ 0 → ACalls Tryz.prog 12 [.agg n.d, .one (.list (ints l))] (.tup [.agg Stp.no.d, .one (.bool false), .one (.int .i64 (prE n l))]) [] ∧
     ACalls Tryz.prog 16 [.agg n.d, .one (.list (ints l))] (.tup [.agg res0, .one (.int .i64 (prE n l))]) [] ∧
     ACalls Tryz.prog 22 [.agg n.d, .one (.list (ints l))] (.tup [.one (.list []), .one (.list []), .one (.bool false), .one (.int .i64 (prE n l))]) [] ∧
     ACalls Tryz.prog 27 [.agg n.d, .agg (resD [] n), .one (.list (ints l))] (.one (.int .i64 (prE n l))) [] := fun hE => by
    have a1 := Next_c n l hf (fun h => absurd h hE) (by omega)
    have a2 := Prevent_c n l hf (fun h => absurd h hE) (by omega)
    have a3 := Explain_c n l hf (fun h => absurd h hE) (by omega)
    have a4 := Verify_c n n [] l hf (fun h => absurd h hE) (by omega) (by decide) (fun x h => by simp at h)
    rw [nxR, if_pos hE] at a1
    rw [prO, if_pos hE] at a2 a3
    rw [vfE, if_pos hE] at a4
    exact ⟨a1, a2, a3, a4⟩
   have e0 : stpD [] = [] := rfl
   have z00 : ((0 : Int) != 0) = false := rfl
   have hne0 : ∀ x : Int, (x != x) = false := fun x => by simp
   have hlc := lConstraint_c n.init.length l (by omega) (by omega)
   have hsc0 := lSameCon_c ⟨[], 0⟩ (kepC n.init.length l) (by decide)
   have hfc : (kepC n.init.length l).fac = facK n.init.length l := rfl
   have hbc : (kepC n.init.length l).bound = -1 := rfl
   have hnil : ints [] = [] := rfl
   simp only [Con.d, hfc, hbc, hnil] at hlc hsc0
   simp only [stpNo_d, res0, resD, e0] at hbad hNo
   simp only [Net.d] at hCk hCo hPc hbad
   by_cases hE : netE n = 0
   ·rw [if_neg (by omega)] at hpw
    rw [hpw] at hbad hPc
    by_cases hS : checkSet l n.init.length = 0
    ·rw [ktR, if_neg (by omega), if_neg (by omega)] at hCo
     have hsc := lSameCon_c (kepC n.init.length l) (kepC n.init.length l) (by show (facK n.init.length l).length ≤ 1000000; rw [facK_length]; omega)
     rw [decide_eq_true rfl] at hsc
     have hfl := facK_length n.init.length l
     simp only [Con.d, hfc, hbc] at hCo hsc
     clear hsc0
     generalize facK n.init.length l = fk at *
     rw [hS] at hr2
     rw [hE] at hCk
     by_cases hW : checkSet l n.trs.length = 0
     ·rw [hW] at hr1 hPc
      (simp only [go_sem])
      (repeat' (first | (with_reducible first | exact True.intro | refine And.intro ?_ ?_ | refine aBl ?_ | (refine aS 19 [] ?_; intro K hK)) | ((with_reducible first | refine aGo ?_ | refine rP Ty_ok mixed 11 [0, 1, 5, 6] [.mid [pe 2, pe 3, ⟨4, 0, true, false, false, [], []⟩, ⟨7, 1, false, false, false, [0], []⟩, ⟨8, 1, false, false, false, [0], []⟩] 1, .one 9, .mid [pe 10, pe 11] 0] ?_ | refine rP Ty_ok mixed 13 [1, 3] [.mid [pe 0, ⟨2, 0, true, false, false, [], []⟩, ⟨4, 1, false, false, false, [], []⟩, ⟨5, 1, false, false, false, [], []⟩, ⟨6, 1, false, false, false, [], []⟩, ⟨7, 1, false, false, false, [], []⟩, ⟨8, 1, false, false, false, [], []⟩, ⟨9, 1, false, false, false, [], []⟩, ⟨10, 1, false, false, false, [], []⟩, ⟨11, 1, false, false, false, [], []⟩, ⟨12, 1, false, false, false, [], []⟩, ⟨13, 1, false, false, false, [], []⟩, ⟨14, 1, false, false, false, [], []⟩, ⟨15, 1, false, false, false, [], []⟩, ⟨16, 1, false, false, false, [], []⟩, ⟨17, 1, false, false, false, [], []⟩, ⟨18, 1, false, false, false, [], []⟩, ⟨19, 1, true, false, false, [], []⟩] 2, .one 20, .mid [pe 21, pe 22, pe 23, pe 24, pe 25, pe 26, pe 27, pe 28, pe 29, pe 30, pe 31, pe 32, pe 33, pe 34, pe 35, pe 36, pe 37, pe 38] 0] ?_); simp only [z00, hne0, go_sem]) | ((with_reducible refine aCd ?_ ?_ (fun hb => ?_) (fun hb => ?_)); (iterate 2 simp only [z00, hne0, go_sem]); all_goals (simp only [z00, hne0, go_sem] at hb; try simp only [bls] at hb)) | ((iterate 6 try ((fail_if_success with_reducible refine hK _ ?_ ?_ ?_); clear hK K)); with_reducible refine hK _ ?_ ?_ ?_; rotate_left; (focus (simp only [z00, hne0, go_sem]; exact rfl)); clear hK K) | ((first | (with_reducible first | refine xA ?_ | refine xD ?_ | refine xO ?_ | refine xR ?_ | refine xG ?_ | refine xH ?_ | refine xM ?_) | ((with_reducible refine gA ?_); refine xA ?_) | ((with_reducible refine gD ?_); refine xD ?_) | ((with_reducible refine gG ?_); refine xG ?_)); simp only [z00, hne0, go_sem]) | (with_reducible refine aGs (fun hg0 => ?_) (fun hg0 => ?_) <;> first | (with_reducible first | exact aF1 hg0 | exact aF2 hg0) | (simp only [hg0, z00, hne0, go_sem])) | (with_reducible refine aNk ?_; intro bnil hnil; try simp only []) | exact aZ | fail))
      all_goals first | omega | skip
     ·obtain ⟨b1, b2, b3, b4⟩ := hbad hW
      have hz := hE0 hW
      generalize checkSet l n.trs.length = W at *
      (simp only [go_sem])
      (repeat' (first | (with_reducible first | exact True.intro | refine And.intro ?_ ?_ | refine aBl ?_ | (refine aS 19 [] ?_; intro K hK)) | ((with_reducible first | refine aGo ?_ | refine rP Ty_ok mixed 11 [0, 1, 5, 6] [.mid [pe 2, pe 3, ⟨4, 0, true, false, false, [], []⟩, ⟨7, 1, false, false, false, [0], []⟩, ⟨8, 1, false, false, false, [0], []⟩] 1, .one 9, .mid [pe 10, pe 11] 0] ?_ | refine rP Ty_ok mixed 13 [1, 3] [.mid [pe 0, ⟨2, 0, true, false, false, [], []⟩, ⟨4, 1, false, false, false, [], []⟩, ⟨5, 1, false, false, false, [], []⟩, ⟨6, 1, false, false, false, [], []⟩, ⟨7, 1, false, false, false, [], []⟩, ⟨8, 1, false, false, false, [], []⟩, ⟨9, 1, false, false, false, [], []⟩, ⟨10, 1, false, false, false, [], []⟩, ⟨11, 1, false, false, false, [], []⟩, ⟨12, 1, false, false, false, [], []⟩, ⟨13, 1, false, false, false, [], []⟩, ⟨14, 1, false, false, false, [], []⟩, ⟨15, 1, false, false, false, [], []⟩, ⟨16, 1, false, false, false, [], []⟩, ⟨17, 1, false, false, false, [], []⟩, ⟨18, 1, false, false, false, [], []⟩, ⟨19, 1, true, false, false, [], []⟩] 2, .one 20, .mid [pe 21, pe 22, pe 23, pe 24, pe 25, pe 26, pe 27, pe 28, pe 29, pe 30, pe 31, pe 32, pe 33, pe 34, pe 35, pe 36, pe 37, pe 38] 0] ?_); simp only [hz, z00, hne0, go_sem]) | ((with_reducible refine aCd ?_ ?_ (fun hb => ?_) (fun hb => ?_)); (iterate 2 simp only [hz, z00, hne0, go_sem]); all_goals (simp only [hz, z00, hne0, go_sem] at hb; try simp only [bls] at hb)) | ((iterate 6 try ((fail_if_success with_reducible refine hK _ ?_ ?_ ?_); clear hK K)); with_reducible refine hK _ ?_ ?_ ?_; rotate_left; (focus (simp only [hz, z00, hne0, go_sem]; exact rfl)); clear hK K) | ((first | (with_reducible first | refine xA ?_ | refine xD ?_ | refine xO ?_ | refine xR ?_ | refine xG ?_ | refine xH ?_ | refine xM ?_) | ((with_reducible refine gA ?_); refine xA ?_) | ((with_reducible refine gD ?_); refine xD ?_) | ((with_reducible refine gG ?_); refine xG ?_)); simp only [hz, z00, hne0, go_sem]) | (with_reducible refine aGs (fun hg0 => ?_) (fun hg0 => ?_) <;> first | (with_reducible first | exact aF1 hg0 | exact aF2 hg0) | (simp only [hg0, hz, z00, hne0, go_sem])) | (with_reducible refine aNk ?_; intro bnil hnil; try simp only []) | exact aZ | fail))
      all_goals first | omega | skip
    ·rw [ktR, if_neg (by omega), if_pos hS] at hCo
     rw [hE] at hCk
     have hzs := hE0 hS
     generalize checkSet l n.init.length = S at *
     by_cases hW : checkSet l n.trs.length = 0
     ·rw [hW] at hr1 hPc
      (simp only [go_sem])
      (repeat' (first | (with_reducible first | exact True.intro | refine And.intro ?_ ?_ | refine aBl ?_ | (refine aS 19 [] ?_; intro K hK)) | ((with_reducible first | refine aGo ?_ | refine rP Ty_ok mixed 11 [0, 1, 5, 6] [.mid [pe 2, pe 3, ⟨4, 0, true, false, false, [], []⟩, ⟨7, 1, false, false, false, [0], []⟩, ⟨8, 1, false, false, false, [0], []⟩] 1, .one 9, .mid [pe 10, pe 11] 0] ?_ | refine rP Ty_ok mixed 13 [1, 3] [.mid [pe 0, ⟨2, 0, true, false, false, [], []⟩, ⟨4, 1, false, false, false, [], []⟩, ⟨5, 1, false, false, false, [], []⟩, ⟨6, 1, false, false, false, [], []⟩, ⟨7, 1, false, false, false, [], []⟩, ⟨8, 1, false, false, false, [], []⟩, ⟨9, 1, false, false, false, [], []⟩, ⟨10, 1, false, false, false, [], []⟩, ⟨11, 1, false, false, false, [], []⟩, ⟨12, 1, false, false, false, [], []⟩, ⟨13, 1, false, false, false, [], []⟩, ⟨14, 1, false, false, false, [], []⟩, ⟨15, 1, false, false, false, [], []⟩, ⟨16, 1, false, false, false, [], []⟩, ⟨17, 1, false, false, false, [], []⟩, ⟨18, 1, false, false, false, [], []⟩, ⟨19, 1, true, false, false, [], []⟩] 2, .one 20, .mid [pe 21, pe 22, pe 23, pe 24, pe 25, pe 26, pe 27, pe 28, pe 29, pe 30, pe 31, pe 32, pe 33, pe 34, pe 35, pe 36, pe 37, pe 38] 0] ?_); simp only [hzs, z00, hne0, go_sem]) | ((with_reducible refine aCd ?_ ?_ (fun hb => ?_) (fun hb => ?_)); (iterate 2 simp only [hzs, z00, hne0, go_sem]); all_goals (simp only [hzs, z00, hne0, go_sem] at hb; try simp only [bls] at hb)) | ((iterate 6 try ((fail_if_success with_reducible refine hK _ ?_ ?_ ?_); clear hK K)); with_reducible refine hK _ ?_ ?_ ?_; rotate_left; (focus (simp only [hzs, z00, hne0, go_sem]; exact rfl)); clear hK K) | ((first | (with_reducible first | refine xA ?_ | refine xD ?_ | refine xO ?_ | refine xR ?_ | refine xG ?_ | refine xH ?_ | refine xM ?_) | ((with_reducible refine gA ?_); refine xA ?_) | ((with_reducible refine gD ?_); refine xD ?_) | ((with_reducible refine gG ?_); refine xG ?_)); simp only [hzs, z00, hne0, go_sem]) | (with_reducible refine aGs (fun hg0 => ?_) (fun hg0 => ?_) <;> first | (with_reducible first | exact aF1 hg0 | exact aF2 hg0) | (simp only [hg0, hzs, z00, hne0, go_sem])) | (with_reducible refine aNk ?_; intro bnil hnil; try simp only []) | exact aZ | fail))
      all_goals first | omega | skip
     ·obtain ⟨b1, b2, b3, b4⟩ := hbad hW
      have hz := hE0 hW
      generalize checkSet l n.trs.length = W at *
      (simp only [go_sem])
      (repeat' (first | (with_reducible first | exact True.intro | refine And.intro ?_ ?_ | refine aBl ?_ | (refine aS 19 [] ?_; intro K hK)) | ((with_reducible first | refine aGo ?_ | refine rP Ty_ok mixed 11 [0, 1, 5, 6] [.mid [pe 2, pe 3, ⟨4, 0, true, false, false, [], []⟩, ⟨7, 1, false, false, false, [0], []⟩, ⟨8, 1, false, false, false, [0], []⟩] 1, .one 9, .mid [pe 10, pe 11] 0] ?_ | refine rP Ty_ok mixed 13 [1, 3] [.mid [pe 0, ⟨2, 0, true, false, false, [], []⟩, ⟨4, 1, false, false, false, [], []⟩, ⟨5, 1, false, false, false, [], []⟩, ⟨6, 1, false, false, false, [], []⟩, ⟨7, 1, false, false, false, [], []⟩, ⟨8, 1, false, false, false, [], []⟩, ⟨9, 1, false, false, false, [], []⟩, ⟨10, 1, false, false, false, [], []⟩, ⟨11, 1, false, false, false, [], []⟩, ⟨12, 1, false, false, false, [], []⟩, ⟨13, 1, false, false, false, [], []⟩, ⟨14, 1, false, false, false, [], []⟩, ⟨15, 1, false, false, false, [], []⟩, ⟨16, 1, false, false, false, [], []⟩, ⟨17, 1, false, false, false, [], []⟩, ⟨18, 1, false, false, false, [], []⟩, ⟨19, 1, true, false, false, [], []⟩] 2, .one 20, .mid [pe 21, pe 22, pe 23, pe 24, pe 25, pe 26, pe 27, pe 28, pe 29, pe 30, pe 31, pe 32, pe 33, pe 34, pe 35, pe 36, pe 37, pe 38] 0] ?_); simp only [hz, hzs, z00, hne0, go_sem]) | ((with_reducible refine aCd ?_ ?_ (fun hb => ?_) (fun hb => ?_)); (iterate 2 simp only [hz, hzs, z00, hne0, go_sem]); all_goals (simp only [hz, hzs, z00, hne0, go_sem] at hb; try simp only [bls] at hb)) | ((iterate 6 try ((fail_if_success with_reducible refine hK _ ?_ ?_ ?_); clear hK K)); with_reducible refine hK _ ?_ ?_ ?_; rotate_left; (focus (simp only [hz, hzs, z00, hne0, go_sem]; exact rfl)); clear hK K) | ((first | (with_reducible first | refine xA ?_ | refine xD ?_ | refine xO ?_ | refine xR ?_ | refine xG ?_ | refine xH ?_ | refine xM ?_) | ((with_reducible refine gA ?_); refine xA ?_) | ((with_reducible refine gD ?_); refine xD ?_) | ((with_reducible refine gG ?_); refine xG ?_)); simp only [hz, hzs, z00, hne0, go_sem]) | (with_reducible refine aGs (fun hg0 => ?_) (fun hg0 => ?_) <;> first | (with_reducible first | exact aF1 hg0 | exact aF2 hg0) | (simp only [hg0, hz, hzs, z00, hne0, go_sem])) | (with_reducible refine aNk ?_; intro bnil hnil; try simp only []) | exact aZ | fail))
      all_goals first | omega | skip
   ·rw [if_pos hE] at hpw
    rw [ktR, if_pos hE] at hCo
    obtain ⟨b1, b2, b3, b4⟩ := hbad (by omega)
    rw [hpw] at b1 b2 b3 b4 hPc
    have hz := hE0 hE
    generalize netE n = W at *
    (simp only [go_sem])
    (repeat' (first | (with_reducible first | exact True.intro | refine And.intro ?_ ?_ | refine aBl ?_ | (refine aS 19 [] ?_; intro K hK)) | ((with_reducible first | refine aGo ?_ | refine rP Ty_ok mixed 11 [0, 1, 5, 6] [.mid [pe 2, pe 3, ⟨4, 0, true, false, false, [], []⟩, ⟨7, 1, false, false, false, [0], []⟩, ⟨8, 1, false, false, false, [0], []⟩] 1, .one 9, .mid [pe 10, pe 11] 0] ?_ | refine rP Ty_ok mixed 13 [1, 3] [.mid [pe 0, ⟨2, 0, true, false, false, [], []⟩, ⟨4, 1, false, false, false, [], []⟩, ⟨5, 1, false, false, false, [], []⟩, ⟨6, 1, false, false, false, [], []⟩, ⟨7, 1, false, false, false, [], []⟩, ⟨8, 1, false, false, false, [], []⟩, ⟨9, 1, false, false, false, [], []⟩, ⟨10, 1, false, false, false, [], []⟩, ⟨11, 1, false, false, false, [], []⟩, ⟨12, 1, false, false, false, [], []⟩, ⟨13, 1, false, false, false, [], []⟩, ⟨14, 1, false, false, false, [], []⟩, ⟨15, 1, false, false, false, [], []⟩, ⟨16, 1, false, false, false, [], []⟩, ⟨17, 1, false, false, false, [], []⟩, ⟨18, 1, false, false, false, [], []⟩, ⟨19, 1, true, false, false, [], []⟩] 2, .one 20, .mid [pe 21, pe 22, pe 23, pe 24, pe 25, pe 26, pe 27, pe 28, pe 29, pe 30, pe 31, pe 32, pe 33, pe 34, pe 35, pe 36, pe 37, pe 38] 0] ?_); simp only [hz, z00, hne0, go_sem]) | ((with_reducible refine aCd ?_ ?_ (fun hb => ?_) (fun hb => ?_)); (iterate 2 simp only [hz, z00, hne0, go_sem]); all_goals (simp only [hz, z00, hne0, go_sem] at hb; try simp only [bls] at hb)) | ((iterate 6 try ((fail_if_success with_reducible refine hK _ ?_ ?_ ?_); clear hK K)); with_reducible refine hK _ ?_ ?_ ?_; rotate_left; (focus (simp only [hz, z00, hne0, go_sem]; exact rfl)); clear hK K) | ((first | (with_reducible first | refine xA ?_ | refine xD ?_ | refine xO ?_ | refine xR ?_ | refine xG ?_ | refine xH ?_ | refine xM ?_) | ((with_reducible refine gA ?_); refine xA ?_) | ((with_reducible refine gD ?_); refine xD ?_) | ((with_reducible refine gG ?_); refine xG ?_)); simp only [hz, z00, hne0, go_sem]) | (with_reducible refine aGs (fun hg0 => ?_) (fun hg0 => ?_) <;> first | (with_reducible first | exact aF1 hg0 | exact aF2 hg0) | (simp only [hg0, hz, z00, hne0, go_sem])) | (with_reducible refine aNk ?_; intro bnil hnil; try simp only []) | exact aZ | fail))
    all_goals first | omega | skip
 ·(refine ACalls.of_body Ty_ok mixed Tryz.func8 rfl (by kernel_rfl) Tryz.ntmps8 (by simp) (congrArg Array.toList Tryz.results8) ?_)
  simp only [slotsOf, Net.d]
  (repeat' (first | (with_reducible first | exact True.intro | refine And.intro ?_ ?_ | refine aBl ?_ | (refine aS 19 [] ?_; intro K hK)) | ((with_reducible first | refine aGo ?_ | refine rP Ty_ok mixed 11 [0, 1, 5, 6] [.mid [pe 2, pe 3, ⟨4, 0, true, false, false, [], []⟩, ⟨7, 1, false, false, false, [0], []⟩, ⟨8, 1, false, false, false, [0], []⟩] 1, .one 9, .mid [pe 10, pe 11] 0] ?_ | refine rP Ty_ok mixed 13 [1, 3] [.mid [pe 0, ⟨2, 0, true, false, false, [], []⟩, ⟨4, 1, false, false, false, [], []⟩, ⟨5, 1, false, false, false, [], []⟩, ⟨6, 1, false, false, false, [], []⟩, ⟨7, 1, false, false, false, [], []⟩, ⟨8, 1, false, false, false, [], []⟩, ⟨9, 1, false, false, false, [], []⟩, ⟨10, 1, false, false, false, [], []⟩, ⟨11, 1, false, false, false, [], []⟩, ⟨12, 1, false, false, false, [], []⟩, ⟨13, 1, false, false, false, [], []⟩, ⟨14, 1, false, false, false, [], []⟩, ⟨15, 1, false, false, false, [], []⟩, ⟨16, 1, false, false, false, [], []⟩, ⟨17, 1, false, false, false, [], []⟩, ⟨18, 1, false, false, false, [], []⟩, ⟨19, 1, true, false, false, [], []⟩] 2, .one 20, .mid [pe 21, pe 22, pe 23, pe 24, pe 25, pe 26, pe 27, pe 28, pe 29, pe 30, pe 31, pe 32, pe 33, pe 34, pe 35, pe 36, pe 37, pe 38] 0] ?_); simp only [go_sem]) | ((with_reducible refine aCd ?_ ?_ (fun hb => ?_) (fun hb => ?_)); (iterate 2 simp only [go_sem]); all_goals (simp only [go_sem] at hb; try simp only [bls] at hb)) | ((iterate 6 try ((fail_if_success with_reducible refine hK _ ?_ ?_ ?_); clear hK K)); with_reducible refine hK _ ?_ ?_ ?_; rotate_left; (focus (simp only [go_sem]; exact rfl)); clear hK K) | ((first | (with_reducible first | refine xA ?_ | refine xD ?_ | refine xO ?_ | refine xR ?_ | refine xG ?_ | refine xH ?_ | refine xM ?_) | ((with_reducible refine gA ?_); refine xA ?_) | ((with_reducible refine gD ?_); refine xD ?_) | ((with_reducible refine gG ?_); refine xG ?_)); simp only [go_sem]) | (with_reducible refine aGs (fun hg0 => ?_) (fun hg0 => ?_) <;> first | (with_reducible first | exact aF1 hg0 | exact aF2 hg0) | (simp only [hg0, go_sem])) | (with_reducible refine aNk ?_; intro bnil hnil; try simp only []) | exact aZ | fail))
  all_goals first | omega | skip
end Go.Proofs.YtlpllbbjmbbfnaaGreatDoor
