/-
 The law TopSiphonsAreDeadlocks.
-/
import Derived.Test.YtljpfdehnjemlaaGreatDoorTQ
set_option linter.unusedSimpArgs false
set_option linter.unusedVariables false
namespace Go.Proofs.YtljpfdehnjemlaaGreatDoor
open Go.Eng Go.RowKit
theorem num_prE {n : Net} {u : List Int} (hok : NetOk n) (h : prE n u = 0) : prE (numN n) u = 0 := by
 have h1 := netE_of (num_ok hok)
 have h2 := netE_of hok
 rw [prE, if_neg (by omega)] at h ⊢
 rw [num_len]; exact h
theorem trsNum_length (i : Nat) (l : List Tr) : (trsD (numK i l)).length = l.length := by rw [trs_length, numK_length]
set_option maxRecDepth 100000 in
set_option maxHeartbeats 64000000 in
theorem TopSiphons_c (s : Nat → Int) (hs : Bytes s) (b : Bool) (q : Nat) (hq : q < 65536) : ACalls Tryz.prog 4 [.agg (bytesD 37 s ++ [.bool b, .int .u16 q])] (.one (.bool true)) [] := by
 have hKn := kn51_c
 obtain ⟨hok0, hne, hE, h6, hul, hpos⟩ := task_ok s hs b q
 have hCh := ChooseO_c s hs b
 rw [taskU] at hE hul hpos
 have hbq := fun k (hk : k < 16) => bit_u16 q k hq hk
 have htl := task_len s [.bool b, .int .u16 q]
 have t1 := task_take s [.bool b, .int .u16 q]
 have t2 := task_drop s [.bool b, .int .u16 q] 0
 have t3 := task_drop s [.bool b, .int .u16 q] 1
 simp only [List.length_cons, List.length_nil, Nat.reduceAdd, List.drop_zero, List.drop_succ_cons] at htl t2 t3
 have hfz : ∀ t o, (bytesD 37 s ++ [D.bool b, D.int .u16 q]).map (D.fz t o) = bytesD 37 s ++ [D.bool b, D.int .u16 q] := fun t o => by rw [List.map_append, bytesD_fz]; rfl
 have hfz2 : ∀ t o t' o', (bytesD 37 s ++ [D.bool b, D.int .u16 q]).map (D.fz t o ∘ D.fz t' o') = bytesD 37 s ++ [D.bool b, D.int .u16 q] := fun t o t' o' => by rw [← List.map_map, hfz, hfz]
 have htg : (bytesD 37 s ++ [D.bool b, D.int .u16 q]).flatMap D.tags = [] := by rw [List.flatMap_append, bytesD_none]; rfl
 generalize chooseN s b = n0 at *
 have ht10 := hok0.trs
 have hi10 := hok0.init
 (refine ACalls.of_body Ty_ok mixed Tryz.func4 rfl (by kernel_rfl) Tryz.ntmps4 (by simp) (congrArg Array.toList Tryz.results4) ?_)
 simp only [slotsOf]
 (repeat' (first | (with_reducible first | refine aBl ?_ | (refine aS 6 [8, 10, 13, 9, 15, 17, 14, 12, 16, 11, 19, 18, 7] ?_; intro K hK)) | ((with_reducible refine aGo ?_); simp only [htl, t1, t2, t3, go_sem]) | ((with_reducible refine aCd ?_ ?_ (fun hb => ?_) (fun hb => ?_)); (iterate 2 simp only [htl, t1, t2, t3, go_sem]); all_goals (simp only [htl, t1, t2, t3, go_sem] at hb; try simp only [bls] at hb)) | ((iterate 6 try ((fail_if_success with_reducible refine hK _ ?_ ?_ ?_); clear hK K)); with_reducible refine hK _ ?_ ?_ ?_; rotate_left; (focus (simp only [htl, t1, t2, t3, go_sem]; exact rfl)); clear hK K) | ((first | (with_reducible refine xA ?_) | ((with_reducible refine gA ?_); refine xA ?_)); simp only [htl, t1, t2, t3, go_sem]) | fail))
 all_goals first | omega | skip
 refine awp_loop _ (by simp only [go_sem]; rfl) Nat (fun k => k ≤ n0.trs.length) (fun k => [(4, .one (.own 4)), (5, .one (.int .i64 k))]) (fun k _ => [.var 62 (bytesD 37 s ++ [.bool b, .int .u16 q]), .row 3 1 (ints n0.init), .row 66 3 (trsD (numK k n0.trs)), .var 32 [.own 1, .own 2], .row 3 1 (ints (bitsL q k))]) (fun k => n0.trs.length - k) 0 (by omega) ?_ ?_
 ·have e0 : ints (bitsL q 0) = [] := rfl
  rw [e0, numK_zero]
  (simp only [SubF, go_sem]; (try simp only [go_sem]); repeat' (first | exact True.intro | with_reducible refine And.intro ?_ ?_ | rfl | omega))
 rintro k hk L hL
 have hkl := trsNum_length k n0.trs
 have hbl := bitsL_length q k
 by_cases hlt : k < n0.trs.length
 ·have hbit := hbq k (by omega)
  have e2 := bitsL_succ q k
  have hset := numK_set hlt
  have hq2 : ((k : Nat) : Int).toNat = k := by omega
  have hget := trs_get (l := numK k n0.trs) (k := k) (by rw [numK_length]; exact hlt) []
  have hg2 : (numK k n0.trs).getD k Tr.no = n0.trs.getD k Tr.no := by rw [numK_get hlt, if_neg (by omega)]
  rw [hg2] at hget
  generalize n0.trs.getD k Tr.no = t at *
  (simp only [go_sem] at hL ⊢)
  (repeat' (first | (with_reducible first | refine And.intro ?_ ?_ | refine aBl ?_ | (refine aS 6 [8, 10, 13, 9, 15, 17, 14, 12, 16, 11, 19, 18, 7] ?_; intro K hK)) | ((with_reducible refine aGo ?_); simp only [htl, t1, t2, t3, hkl, hq2, hget, hfz, go_sem]) | ((with_reducible refine aCd ?_ ?_ (fun hb => ?_) (fun hb => ?_)); (iterate 2 simp only [htl, t1, t2, t3, hkl, hq2, hget, hfz, go_sem]); all_goals (simp only [htl, t1, t2, t3, hkl, hq2, hget, hfz, go_sem] at hb; try simp only [bls] at hb)) | ((iterate 6 try ((fail_if_success with_reducible refine hK _ ?_ ?_ ?_); clear hK K)); with_reducible refine hK _ ?_ ?_ ?_; rotate_left; (focus (simp only [htl, t1, t2, t3, hkl, hq2, hget, hfz, go_sem]; exact rfl)); clear hK K) | exact aZ | fail))
  all_goals first | omega | skip
  ·rw [hbit] at hb
   rw [if_pos hb] at e2
   simp only [ints_one, ints_append, ← e2]
   rw [hset]
   exact hL _ (k + 1) (by omega) (by (simp only [SubF, htg, go_sem]; (try simp only [htg, go_sem]); repeat' (first | exact True.intro | with_reducible refine And.intro ?_ ?_ | rfl | omega))) (by omega)
  ·rw [hbit] at hb
   rw [if_neg hb, List.append_nil] at e2
   simp only [← e2]
   rw [hset]
   exact hL _ (k + 1) (by omega) (by (simp only [SubF, go_sem]; (try simp only [go_sem]); repeat' (first | exact True.intro | with_reducible refine And.intro ?_ ?_ | rfl | omega))) (by omega)
 ·have : k = n0.trs.length := by omega
  subst this
  have hok := num_ok hok0
  have hnu := num_numd n0
  have hE2 := num_prE hok0 hE
  have hne2 : (numN n0).init ≠ [] := hne
  have hnl := num_len n0
  generalize hu : bitsL q n0.trs.length = u at *
  have hi2 : (numN n0).init = n0.init := rfl
  have hG := Graph_c (numN n0) hok.fits hne2 fun nd ed h => by
   obtain ⟨_, q2, q3⟩ := bnd_ok h
   have hil : (numN n0).init.length = n0.init.length := rfl
   exact ⟨q3, fun x hx => by have := q2.len x hx; omega⟩
  have hbe := fun e => bnd_errs (n := numN n0) (e := e) (netE_of hok)
  have hD := Dead_c (numN n0) hok.fits hne2
  simp only [Net.d] at hG hD
  rw [← hi2] at hi10 h6 ⊢
  rw [show numK n0.trs.length n0.trs = (numN n0).trs from rfl, ← hnl] at hkl ⊢
  rw [← hnl] at hk
  generalize numN n0 = n at *
  (simp only [go_sem] at hL ⊢)
  (repeat' (first | (with_reducible first | refine And.intro ?_ ?_ | refine aBl ?_ | (refine aS 6 [8, 10, 13, 9, 15, 17, 14, 12, 16, 11, 19, 18, 7] ?_; intro K hK)) | ((with_reducible refine aGo ?_); simp only [hkl, hfz, go_sem]) | ((with_reducible refine aCd ?_ ?_ (fun hb => ?_) (fun hb => ?_)); (iterate 2 simp only [hkl, hfz, go_sem]); all_goals (simp only [hkl, hfz, go_sem] at hb; try simp only [bls] at hb)) | ((iterate 6 try ((fail_if_success with_reducible refine hK _ ?_ ?_ ?_); clear hK K)); with_reducible refine hK _ ?_ ?_ ?_; rotate_left; (focus (simp only [hkl, hfz, go_sem]; exact rfl)); clear hK K) | exact aZ | fail))
  all_goals first | omega | skip
  cases hB : bndF n with
  | inl e =>
   have hbe := hbe e hB
   rw [hB] at hG
   simp only [grR] at hG
   (refine MCallAt_i [1, 2] [] (calls_toM hG) ?_ ?_; (focus (simp only [mside, handOk, go_sem]; (first | done | exact (by decide) | exact ⟨by decide, fun t ht => ht.elim⟩ | (refine ⟨by decide, ?_⟩; simp; done)))); simp only [go_sem])
   (repeat' (first | (with_reducible (refine aS 6 [8, 10, 13, 9, 15, 17, 14, 12, 16, 11, 19, 18, 7] ?_; intro K hK)) | ((with_reducible refine aGo ?_); simp only [hfz, go_sem]) | ((with_reducible refine aCd ?_ ?_ (fun hb => ?_) (fun hb => ?_)); (iterate 2 simp only [hfz, go_sem]); all_goals (simp only [hfz, go_sem] at hb; try simp only [bls] at hb)) | ((iterate 6 try ((fail_if_success with_reducible refine hK _ ?_ ?_ ?_); clear hK K)); with_reducible refine hK _ ?_ ?_ ?_; rotate_left; (focus (simp only [hfz, go_sem]; exact rfl)); clear hK K) | exact aZ | fail))
   all_goals first | omega | skip
   rcases hbe with rfl | rfl <;> rfl
  | inr r =>
   obtain ⟨nd, ed⟩ := r
   rw [hB] at hG hD
   simp only [grR, ddR] at hG hD
   (refine MCallAt_i [1, 2] [] (calls_toM hG) ?_ ?_; (focus (simp only [mside, handOk, go_sem]; (first | done | exact (by decide) | exact ⟨by decide, fun t ht => ht.elim⟩ | (refine ⟨by decide, ?_⟩; simp; done)))); simp only [go_sem])
   by_cases hfew : (nd.length : Int) ≤ 60
   ·have hF := (bnd_found hB).1
    have hdk : ∀ a ∈ deadsF n nd, a.length = n.init.length ∧ (∀ x ∈ a, 0 ≤ x ∧ x ≤ 65536) ∧ ableL n a n.trs.length = [] := fun a ha => by
     obtain ⟨x, hx, rfl⟩ := List.mem_map.1 ha
     obtain ⟨x1, x2⟩ := List.mem_filter.1 hx
     rw [stuckB, decide_eq_true_eq] at x2
     exact ⟨hF.nodes.len x x1, hF.nodes.tok x x1, List.eq_nil_of_length_eq_zero x2⟩
    have hdl : (deadsF n nd).length ≤ 60 := by
     have := List.length_filter_le (stuckB n) nd
     rw [deadsF, List.length_map]; omega
    (repeat' (first | (with_reducible first | refine aBl ?_ | (refine aS 6 [8, 10, 13, 9, 15, 17, 14, 12, 16, 11, 19, 18, 7] ?_; intro K hK)) | ((with_reducible refine aGo ?_); simp only [hfz, hfz2, List.length_map, go_sem]) | ((with_reducible refine aCd ?_ ?_ (fun hb => ?_) (fun hb => ?_)); (iterate 2 simp only [hfz, hfz2, List.length_map, go_sem]); all_goals (simp only [hfz, hfz2, List.length_map, go_sem] at hb; try simp only [bls] at hb)) | ((iterate 6 try ((fail_if_success with_reducible refine hK _ ?_ ?_ ?_); clear hK K)); with_reducible refine hK _ ?_ ?_ ?_; rotate_left; (focus (simp only [hfz, hfz2, List.length_map, go_sem]; exact rfl)); clear hK K) | ((with_reducible refine xA ?_); simp only [hfz, hfz2, List.length_map, go_sem]) | fail))
    all_goals first | omega | skip
    generalize deadsF n nd = DL at *
    have hS := single_c n hok.fits
    have hPr := Prevent_c n u hok.fits (fun _ => hne2) (by omega)
    have eP : prO n u = prevR n u := by rw [prO, if_neg (by omega)]
    rw [eP] at hPr
    simp only [Net.d] at hS hPr
    refine awp_loop _ (by simp only [go_sem]; rfl) Nat (fun k => k ≤ DL.length) (fun k => [(11, .one (.int .i64 k))]) (fun _ H => H) (fun k => DL.length - k) 0 (by omega) ?_ ?_
    ·(simp only [SubF, htg, go_sem]; (try simp only [htg, go_sem]); repeat' (first | exact True.intro | with_reducible refine And.intro ?_ ?_ | rfl | omega))
    rintro k hk L2 hL2
    by_cases hgo : k < DL.length ∧ singleN n = true ∧ 0 < n.trs.length
    ·obtain ⟨hlt, hsi, htp⟩ := hgo
     rw [hsi] at hS
     have hq2 : ((k : Nat) : Int).toNat = k := by omega
     have b1 := words_at (l := DL) hlt [.nil]
     have b2 := words_at (l := DL) hlt []
     obtain ⟨d1, d2, d3⟩ := hdk _ (getD_mem DL k [] hlt)
     generalize DL.getD k [] = a at *
     have hdi := dead_in hok hsi htp d1 d2 d3
     simp only [go_sem] at hL2 ⊢
     (repeat' (first | (with_reducible first | refine aBl ?_ | (refine aS 6 [8, 10, 13, 9, 15, 17, 14, 12, 16, 11, 19, 18, 7] ?_; intro K hK)) | ((with_reducible refine aGo ?_); simp only [hq2, b1, b2, hfz, hfz2, trs_length, go_sem]) | ((with_reducible refine aCd ?_ ?_ (fun hb => ?_) (fun hb => ?_)); (iterate 2 simp only [hq2, b1, b2, hfz, hfz2, trs_length, go_sem]); all_goals (simp only [hq2, b1, b2, hfz, hfz2, trs_length, go_sem] at hb; try simp only [bls] at hb)) | ((iterate 6 try ((fail_if_success with_reducible refine hK _ ?_ ?_ ?_); clear hK K)); with_reducible refine hK _ ?_ ?_ ?_; rotate_left; (focus (simp only [hq2, b1, b2, hfz, hfz2, trs_length, go_sem]; exact rfl)); clear hK K) | ((with_reducible refine xG ?_); simp only [hq2, b1, b2, hfz, hfz2, trs_length, go_sem]) | exact aZ | fail))
     all_goals first | omega | skip
     refine awp_loop _ (by simp only [go_sem]; rfl) Nat (fun p => p ≤ a.length) (fun p => [(12, .one (.own 5)), (13, .one (.int .i64 p))]) (fun p _ => [.var 62 (bytesD 37 s ++ [.bool b, .int .u16 q]), .gone, .gone, .var 32 [.list (ints n.init), .list (trsD n.trs)], .row 3 1 (ints u), .row 3 1 (ints (zeroK a p))]) (fun p => a.length - p) 0 (by omega) ?_ ?_
     ·have e0 : ints (zeroK a 0) = [] := rfl
      rw [e0]
      (simp only [SubF, htg, go_sem]; (try simp only [htg, go_sem]); repeat' (first | exact True.intro | with_reducible refine And.intro ?_ ?_ | rfl | omega))
     rintro p hp L3 hL3
     have hzk := zeroK_length a p
     have hs3 := zeroK_succ a p
     by_cases hltp : p < a.length
     ·have hq3 : ((p : Nat) : Int).toNat = p := by omega
      have c1 := ints_at (l := a) hltp
      simp only [go_sem] at hL3 ⊢
      (repeat' (first | (with_reducible first | refine And.intro ?_ ?_ | refine aBl ?_ | (refine aS 6 [8, 10, 13, 9, 15, 17, 14, 12, 16, 11, 19, 18, 7] ?_; intro K hK)) | ((with_reducible refine aGo ?_); simp only [hq2, b1, b2, hq3, c1, hfz, hfz2, go_sem]) | ((with_reducible refine aCd ?_ ?_ (fun hb => ?_) (fun hb => ?_)); (iterate 2 simp only [hq2, b1, b2, hq3, c1, hfz, hfz2, go_sem]); all_goals (simp only [hq2, b1, b2, hq3, c1, hfz, hfz2, go_sem] at hb; try simp only [bls] at hb)) | ((iterate 6 try ((fail_if_success with_reducible refine hK _ ?_ ?_ ?_); clear hK K)); with_reducible refine hK _ ?_ ?_ ?_; rotate_left; (focus (simp only [hq2, b1, b2, hq3, c1, hfz, hfz2, go_sem]; exact rfl)); clear hK K) | exact aZ | fail))
      all_goals first | omega | skip
      ·rw [if_pos hb] at hs3
       simp only [ints_one, ints_append, ← hs3]
       exact hL3 _ (p + 1) (by omega) (by (simp only [SubF, htg, go_sem]; (try simp only [htg, go_sem]); repeat' (first | exact True.intro | with_reducible refine And.intro ?_ ?_ | rfl | omega))) (by omega)
      ·rw [if_neg hb, List.append_nil] at hs3
       simp only [← hs3]
       exact hL3 _ (p + 1) (by omega) (by (simp only [SubF, htg, go_sem]; (try simp only [htg, go_sem]); repeat' (first | exact True.intro | with_reducible refine And.intro ?_ ?_ | rfl | omega))) (by omega)
     ·have : p = a.length := by omega
      subst this
      rw [show zeroK a a.length = zeroL a from rfl] at hzk ⊢
      have hIs := Is_c n (zeroL a) 1 hok.fits (by omega)
      have hEm := Empty_c n a hok.fits (by omega)
      have hSu := Subset_c (zeroL a) (zeroL a) (by omega)
      rw [hdi.si, hdi.is] at hIs
      rw [hdi.emp, hdi.mark] at hEm
      rw [minus_self] at hSu
      have hpos0 := hdi.ne
      generalize zeroL a = Z at *
      simp only [Net.d, decide_true, Bool.and_self, List.length_nil] at hIs hEm hSu
      simp only [go_sem] at hL2 ⊢
      (repeat' (first | (with_reducible first | refine And.intro ?_ ?_ | refine aBl ?_ | (refine aS 6 [8, 10, 13, 9, 15, 17, 14, 12, 16, 11, 19, 18, 7] ?_; intro K hK)) | ((with_reducible first | refine aGo ?_ | refine rP Ty_ok mixed 27 [1, 2] [.mid [pe 0, pe 3, pe 4] 0, .one 5, .mid [pe 6, pe 7, pe 8, pe 9, pe 10] 0] ?_); simp only [hq2, b1, b2, hfz, hfz2, go_sem]) | ((with_reducible refine aCd ?_ ?_ (fun hb => ?_) (fun hb => ?_)); (iterate 2 simp only [hq2, b1, b2, hfz, hfz2, go_sem]); all_goals (simp only [hq2, b1, b2, hfz, hfz2, go_sem] at hb; try simp only [bls] at hb)) | ((iterate 6 try ((fail_if_success with_reducible refine hK _ ?_ ?_ ?_); clear hK K)); with_reducible refine hK _ ?_ ?_ ?_; rotate_left; (focus (simp only [hq2, b1, b2, hfz, hfz2, go_sem]; exact rfl)); clear hK K) | ((with_reducible first | refine xA ?_ | refine xG ?_); simp only [hq2, b1, b2, hfz, hfz2, go_sem]) | exact aZ | fail))
      all_goals first | omega | skip
      exact hL2 _ (k + 1) (by omega) (by (simp only [SubF, htg, go_sem]; (try simp only [htg, go_sem]); repeat' (first | exact True.intro | with_reducible refine And.intro ?_ ?_ | rfl | omega))) (by omega)
    ·simp only [go_sem] at hL2 ⊢
     (repeat' (first | (with_reducible first | refine aBl ?_ | (refine aS 6 [8, 10, 13, 9, 15, 17, 14, 12, 16, 11, 19, 18, 7] ?_; intro K hK)) | ((with_reducible refine aGo ?_); simp only [hfz, hfz2, trs_length, go_sem]) | ((with_reducible refine aCd ?_ ?_ (fun hb => ?_) (fun hb => ?_)); (iterate 2 simp only [hfz, hfz2, trs_length, go_sem]); all_goals (simp only [hfz, hfz2, trs_length, go_sem] at hb; try simp only [bls] at hb)) | ((iterate 6 try ((fail_if_success with_reducible refine hK _ ?_ ?_ ?_); clear hK K)); with_reducible refine hK _ ?_ ?_ ?_; rotate_left; (focus (simp only [hfz, hfz2, trs_length, go_sem]; exact rfl)); clear hK K) | ((with_reducible refine xG ?_); simp only [hfz, hfz2, trs_length, go_sem]) | fail))
     all_goals first | omega | skip
     ·exact absurd ⟨by omega, hb.1.2, by omega⟩ hgo
     cases hR : prevR n u with
     | err e =>
      have h3 := prevR_errs (netE_of hok) hR
      rw [hR] at hPr
      simp only [pvR, res0] at hPr
      (refine MCallAt_i [4] [] (calls_toM hPr) ?_ ?_; (focus (simp only [mside, handOk, go_sem]; (first | done | exact (by decide) | exact ⟨by decide, fun t ht => ht.elim⟩ | (refine ⟨by decide, ?_⟩; simp; done)))); simp only [go_sem])
      (repeat' (first | (with_reducible (refine aS 6 [8, 10, 13, 9, 15, 17, 14, 12, 16, 11, 19, 18, 7] ?_; intro K hK)) | ((with_reducible refine aGo ?_); simp only [hfz, hfz2, go_sem]) | ((with_reducible refine aCd ?_ ?_ (fun hb => ?_) (fun hb => ?_)); (iterate 2 simp only [hfz, hfz2, go_sem]); all_goals (simp only [hfz, hfz2, go_sem] at hb; try simp only [bls] at hb)) | ((iterate 6 try ((fail_if_success with_reducible refine hK _ ?_ ?_ ?_); clear hK K)); with_reducible refine hK _ ?_ ?_ ?_; rotate_left; (focus (simp only [hfz, hfz2, go_sem]; exact rfl)); clear hK K) | exact aZ | fail))
      all_goals first | omega | skip
     | dead st m run =>
      rw [hR] at hPr
      simp only [pvR, res0] at hPr
      (refine MCallAt_i [4] [] (calls_toM hPr) ?_ ?_; (focus (simp only [mside, handOk, go_sem]; (first | done | exact (by decide) | exact ⟨by decide, fun t ht => ht.elim⟩ | (refine ⟨by decide, ?_⟩; simp; done)))); simp only [go_sem])
      (repeat' (first | (with_reducible (refine aS 6 [8, 10, 13, 9, 15, 17, 14, 12, 16, 11, 19, 18, 7] ?_; intro K hK)) | ((with_reducible refine aGo ?_); simp only [hfz, hfz2, go_sem]) | ((with_reducible refine aCd ?_ ?_ (fun hb => ?_) (fun hb => ?_)); (iterate 2 simp only [hfz, hfz2, go_sem]); all_goals (simp only [hfz, hfz2, go_sem] at hb; try simp only [bls] at hb)) | ((iterate 6 try ((fail_if_success with_reducible refine hK _ ?_ ?_ ?_); clear hK K)); with_reducible refine hK _ ?_ ?_ ?_; rotate_left; (focus (simp only [hfz, hfz2, go_sem]; exact rfl)); clear hK K) | exact aZ | fail))
      all_goals first | omega | skip
     | ok st m =>
      have hfit := prevF_ok hpos (11 - n.init.length) [] n (st' := st) (m' := m) (Fit.nil n.init hok rfl fun x hx => (hok.tok x hx).1) hR
      obtain ⟨hFit, _, ndm, edm, hbm, hdm⟩ := hfit
      have hPv := ttPrevented_c hok hnu hne2 hFit hB hbm hdm
      rw [hR] at hPr
      simp only [Net.d, pvR, resD] at hPr hPv
      (refine MCallAt_i [4] [] (calls_toM hPr) ?_ ?_; (focus (simp only [mside, handOk, go_sem]; (first | done | exact (by decide) | exact ⟨by decide, fun t ht => ht.elim⟩ | (refine ⟨by decide, ?_⟩; simp; done)))); simp only [go_sem])
      (repeat' (first | (with_reducible (refine aS 6 [8, 10, 13, 9, 15, 17, 14, 12, 16, 11, 19, 18, 7] ?_; intro K hK)) | ((with_reducible refine aGo ?_); simp only [hfz, hfz2, go_sem]) | ((with_reducible refine aCd ?_ ?_ (fun hb => ?_) (fun hb => ?_)); (iterate 2 simp only [hfz, hfz2, go_sem]); all_goals (simp only [hfz, hfz2, go_sem] at hb; try simp only [bls] at hb)) | ((iterate 6 try ((fail_if_success with_reducible refine hK _ ?_ ?_ ?_); clear hK K)); with_reducible refine hK _ ?_ ?_ ?_; rotate_left; (focus (simp only [hfz, hfz2, go_sem]; exact rfl)); clear hK K) | ((with_reducible refine xA ?_); simp only [hfz, hfz2, go_sem]) | fail))
      all_goals first | omega | skip
   ·(repeat' (first | (with_reducible (refine aS 6 [8, 10, 13, 9, 15, 17, 14, 12, 16, 11, 19, 18, 7] ?_; intro K hK)) | ((with_reducible refine aGo ?_); simp only [hfz, hfz2, List.length_map, go_sem]) | ((with_reducible refine aCd ?_ ?_ (fun hb => ?_) (fun hb => ?_)); (iterate 2 simp only [hfz, hfz2, List.length_map, go_sem]); all_goals (simp only [hfz, hfz2, List.length_map, go_sem] at hb; try simp only [bls] at hb)) | ((iterate 6 try ((fail_if_success with_reducible refine hK _ ?_ ?_ ?_); clear hK K)); with_reducible refine hK _ ?_ ?_ ?_; rotate_left; (focus (simp only [hfz, hfz2, List.length_map, go_sem]; exact rfl)); clear hK K) | exact aZ | fail))
    all_goals first | omega | skip
end Go.Proofs.YtljpfdehnjemlaaGreatDoor
