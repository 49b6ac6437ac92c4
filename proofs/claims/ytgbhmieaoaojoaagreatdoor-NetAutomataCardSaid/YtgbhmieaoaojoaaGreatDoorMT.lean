/-
 Contracts: follows.
-/
import Derived.Test.YtgbhmieaoaojoaaGreatDoorMS
import Derived.Test.YtgbhmieaoaojoaaGreatDoorMC
set_option linter.unusedSimpArgs false
set_option linter.unusedVariables false
namespace Go.Proofs.YtgbhmieaoaojoaaGreatDoor
open Go.Eng Go.RowKit
def eaP (n : Net) (es : List Edg) (y : Edg) (k : Nat) : Bool := (List.range k).any fun j => sameK n (es.getD j Edg.no) y
theorem eaP_succ (n : Net) (es : List Edg) (y : Edg) (k : Nat) : eaP n es y (k + 1) = (eaP n es y k || sameK n (es.getD k Edg.no) y) := by
 rw [eaP, List.range_succ, List.any_append]; simp [eaP]
theorem take_mem_succ (mk : List (List Int)) (m : List Int) (j : Nat) (hj : j < mk.length) : decide (m ∈ mk.take (j + 1)) = (decide (m ∈ mk.take j) || decide (mk.getD j [] = m)) := by
 rw [take_succ_getD mk j [] hj, Bool.eq_iff_iff]
 simp only [List.mem_append, List.mem_singleton, Bool.or_eq_true, decide_eq_true_eq]
 constructor
 ·rintro (h | h)
  ·exact .inl h
  ·exact .inr h.symm
 ·rintro (h | h)
  ·exact .inl h
  ·exact .inr h.symm
set_option maxRecDepth 20000 in
set_option maxHeartbeats 64000000 in
theorem follows_c (n : Net) (nd : List SN) (mk : List (List Int)) (h : AutOk n nd) (hel : (grE n nd).length ≤ 50000) (hmn : mk.length ≤ 1000000) (hml : ∀ m ∈ mk, m.length ≤ 1000000) :
  ACalls Tryz.prog 30 [.agg n.d, .one (.list (snsD nd)), .one (.list (edgsD (grE n nd))), .one (.list (wordsD mk)), .agg (autA n nd mk).d, .one (.list (wordsD (autM n nd)))] (.one (.bool true)) [] := by
 have hno := h.found.ok
 have hfit := hno.fits
 have hi10 := hno.init
 have ht10 := hno.trs
 have hnl := h.found.le
 have hnp := found_pos h.found
 have hEv := Events_c n hfit
 rw [evR, if_neg (by rw [netE_of hno]; decide)] at hEv
 have hevl := evsN_length n
 have hSI := SameInts_c (evsN n) (evsN n) (by omega)
 rw [decide_eq_true (rfl : evsN n = evsN n)] at hSI
 have hNb := autO_numb h.found
 have hlen := autO_len h
 have hMl : (autM n nd).length = nd.length := by rw [autM, List.length_map, hlen]
 have hMat : ∀ k, k < nd.length → (autM n nd).getD k [] = atM nd ((autO n nd).1.getD k 0) := fun k hk => by
  simp only [autM, List.getD, List.getElem?_map, List.getElem?_eq_getElem (show k < (autO n nd).1.length by omega)]; rfl
 have hpos := fun (i : Nat) (hi : i < nd.length) => posn_ok (autO_all h i hi)
 have hmar := fun (i : Nat) (hi : i < nd.length) => aut_marked h (mk := mk) hi
 have hstp := fun (y : Edg) hy => aut_step h (y := y) hy
 have hcnt := aut_count h
 have hge := grE_ok h.found
 have hA : autA n nd mk = ⟨evsN n, ((autO n nd).1.length : Nat), mkL nd mk (autO n nd).1 (autO n nd).1.length, (autO n nd).2⟩ := rfl
 have hmkl := mkL_length nd mk (autO n nd).1 (autO n nd).1.length
 have hEl : (autO n nd).2.length ≤ 50000 := by rw [← hcnt]; exact Nat.le_trans (cntF_le n _ _) hel
 have hSt := fun s e => refStep_c (autA n nd mk) s e (by rw [hA]; simp only; omega)
 have hHa := fun x => lHas_c (autA n nd mk).marked x (by rw [hA]; simp only; omega)
 have hp0 : posn (autO n nd).1 0 = 0 := by
  have := posn_of hNb.ok.nodup hNb.first.1
  rw [hNb.first.2] at this; exact this
 have hnodup := hNb.ok.nodup
 have hpne := fun (i : Nat) (hi : i < nd.length) k hk hne => posn_ne hnodup (autO_all h i hi) (k := k) hk hne
 have hrng := hNb.ok.rng
 have hatm : ∀ x : Int, 0 ≤ x → x < nd.length → atM nd x = (nd.getD x.toNat SN.no).m := fun x _ _ => rfl
 have hap := fun (i j : Nat) (hi : i < nd.length) (hj : j < nd.length) (e : (nd.getD i SN.no).m = (nd.getD j SN.no).m) => (by
  rw [← ixM_at h.found hi, ← ixM_at h.found hj, e] : i = j)
 have hml2 := h.found.nodes.len
 have hMal : (autA n nd mk).alph = evsN n := rfl
 have hMst : (autA n nd mk).states = (nd.length : Nat) := by rw [hA, hlen]
 have hMed : (autA n nd mk).edges = (autO n nd).2 := rfl
 generalize grE n nd = ed at *
 generalize autM n nd = V at *
 generalize hOO : (autO n nd).1 = O at *
 generalize hES : (autO n nd).2 = ES at *
 clear hA hmkl
 generalize autA n nd mk = A at *
 obtain ⟨alph, states, marked, edges⟩ := A
 simp only at hMal hMst hMed hmar hHa hSt
 subst hMal
 subst hMst
 subst hMed
 generalize evsN n = evs at *
 simp only [Net.d, Aut.d] at hEv hSt
 (refine ACalls.of_body Ty_ok mixed Tryz.func30 rfl (by kernel_rfl) Tryz.ntmps30 (by simp) (congrArg Array.toList Tryz.results30) ?_)
 simp only [slotsOf, Net.d, Aut.d]
 (repeat' (first | (with_reducible first | exact True.intro | refine And.intro ?_ ?_ | refine aBl ?_ | (refine aS 14 [19, 17, 18, 16, 22, 24, 23, 21, 20, 15] ?_; intro K hK)) | ((with_reducible first | refine aGo ?_ | refine rP Ty_ok mixed 9 [0, 1] [.mid [pe 2, pe 3, pe 4, pe 5, pe 6, pe 7, pe 8, pe 9, pe 10, pe 11, pe 12, pe 13] 0, .one 14, .mid [pe 15, pe 16] 0] ?_ | refine rP Ty_ok mixed 18 [0, 1] [.mid [pe 2, pe 3, pe 4, pe 5, pe 6, pe 7, pe 8, pe 9, pe 10] 0, .one 11, .mid [pe 12, pe 13] 0] ?_ | refine rD (id := 25) ?_ | refine rP Ty_ok mixed 26 [1, 2, 3, 9, 11, 12, 13] [.mid [pe 0, pe 4, pe 5, pe 6, pe 7, pe 8, ⟨10, 0, true, false, false, [], []⟩, ⟨14, 1, false, false, false, [0], []⟩, ⟨15, 1, false, false, false, [0], []⟩, ⟨16, 1, false, false, false, [0], []⟩, ⟨17, 1, false, false, false, [0], []⟩, ⟨18, 1, false, false, false, [0], []⟩, ⟨19, 1, false, false, false, [], []⟩] 1] ?_ | refine rD (id := 32) ?_); simp only [hMl, List.length_replicate, go_sem]) | ((with_reducible refine aCd ?_ ?_ (fun hb => ?_) (fun hb => ?_)); (iterate 2 simp only [hMl, List.length_replicate, go_sem]); all_goals (simp only [hMl, List.length_replicate, go_sem] at hb; try simp only [bls] at hb)) | ((iterate 6 try ((fail_if_success with_reducible refine hK _ ?_ ?_ ?_); clear hK K)); with_reducible refine hK _ ?_ ?_ ?_; rotate_left; (focus (simp only [hMl, List.length_replicate, go_sem]; exact rfl)); clear hK K) | ((first | (with_reducible first | refine xA ?_ | refine xD ?_ | refine xO ?_ | refine xR ?_ | refine xG ?_ | refine xH ?_ | refine xM ?_) | ((with_reducible refine gA ?_); refine xA ?_) | ((with_reducible refine gD ?_); refine xD ?_) | ((with_reducible refine gG ?_); refine xG ?_)); simp only [hMl, List.length_replicate, go_sem]) | (with_reducible refine aGs (fun hg0 => ?_) (fun hg0 => ?_) <;> first | (with_reducible first | exact aF1 hg0 | exact aF2 hg0) | (simp only [hg0, hMl, List.length_replicate, go_sem])) | (with_reducible refine aNk ?_; intro bnil hnil; try simp only []) | exact aZ | fail))
 all_goals first | omega | skip
 refine awp_loop _ (by simp only [go_sem]; rfl) Nat (fun i => i ≤ nd.length) (fun i => [(16, .one (.int .i64 i))]) (fun i H => H.set 2 (.row 3 1 (ints (atP O nd.length i)))) (fun i => nd.length - i) 0 (by omega) ?_ ?_
 ·have e0 : ints (atP O nd.length 0) = List.replicate nd.length [.int .i64 0] := by rw [atP_zero]; simp [ints]
  rw [e0]
  (simp only [SubF, List.set_cons_succ, List.set_cons_zero, go_sem]; (try simp only [List.set_cons_succ, List.set_cons_zero, go_sem]); repeat' (first | exact True.intro | with_reducible refine And.intro ?_ ?_ | rfl | omega))
 rintro i hi L hL
 have hq : ((i : Nat) : Int).toNat = i := by omega
 have hal := atP_length O nd.length i
 by_cases hlt : i < nd.length
 ·have a1 := sns_at (l := nd) hlt [.nil, .int .i64 0, .int .i64 0]
  have a2 := sns_at (l := nd) hlt []
  obtain ⟨p1, p2⟩ := hpos i hlt
  have hm := hmar i hlt
  have hset := (atP_succ O hlt).symm
  have hxl := hml2 _ (getD_mem nd i SN.no hlt)
  have hneq : ∀ k, k < nd.length → k ≠ posn O i → V.getD k [] ≠ (nd.getD i SN.no).m := fun k hk hne e => by
   have hko : k < O.length := by omega
   have hr := hrng _ (getD_mem O k 0 hko)
   rw [hMat k hk, hatm _ hr.1 hr.2] at e
   have := hap _ _ (by omega) hlt e
   exact hpne i hlt k hko hne (by omega)
  have heq : V.getD (posn O i) [] = (nd.getD i SN.no).m := by
   rw [hMat _ (by omega), p2, atM, Int.toNat_natCast]
  have hVl : ∀ k, k < nd.length → (V.getD k []).length = n.init.length := fun k hk => by
   have hr := hrng _ (getD_mem O k 0 (by omega))
   rw [hMat k hk, hatm _ hr.1 hr.2]
   exact hml2 _ (getD_mem nd _ SN.no (by omega))
  generalize nd.getD i SN.no = x at *
  generalize posn O i = P at *
  (simp only [List.set_cons_succ, List.set_cons_zero, go_sem] at hL ⊢)
  (repeat' (first | (with_reducible first | exact True.intro | refine And.intro ?_ ?_ | refine aBl ?_ | (refine aS 14 [19, 17, 18, 16, 22, 24, 23, 21, 20, 15] ?_; intro K hK)) | ((with_reducible first | refine aGo ?_ | refine rP Ty_ok mixed 9 [0, 1] [.mid [pe 2, pe 3, pe 4, pe 5, pe 6, pe 7, pe 8, pe 9, pe 10, pe 11, pe 12, pe 13] 0, .one 14, .mid [pe 15, pe 16] 0] ?_ | refine rP Ty_ok mixed 18 [0, 1] [.mid [pe 2, pe 3, pe 4, pe 5, pe 6, pe 7, pe 8, pe 9, pe 10] 0, .one 11, .mid [pe 12, pe 13] 0] ?_ | refine rD (id := 25) ?_ | refine rP Ty_ok mixed 26 [1, 2, 3, 9, 11, 12, 13] [.mid [pe 0, pe 4, pe 5, pe 6, pe 7, pe 8, ⟨10, 0, true, false, false, [], []⟩, ⟨14, 1, false, false, false, [0], []⟩, ⟨15, 1, false, false, false, [0], []⟩, ⟨16, 1, false, false, false, [0], []⟩, ⟨17, 1, false, false, false, [0], []⟩, ⟨18, 1, false, false, false, [0], []⟩, ⟨19, 1, false, false, false, [], []⟩] 1] ?_ | refine rD (id := 32) ?_); simp only [hq, a1, a2, go_sem]) | ((with_reducible refine aCd ?_ ?_ (fun hb => ?_) (fun hb => ?_)); (iterate 2 simp only [hq, a1, a2, go_sem]); all_goals (simp only [hq, a1, a2, go_sem] at hb; try simp only [bls] at hb)) | ((iterate 6 try ((fail_if_success with_reducible refine hK _ ?_ ?_ ?_); clear hK K)); with_reducible refine hK _ ?_ ?_ ?_; rotate_left; (focus (simp only [hq, a1, a2, go_sem]; exact rfl)); clear hK K) | (with_reducible refine aGs (fun hg0 => ?_) (fun hg0 => ?_) <;> first | (with_reducible first | exact aF1 hg0 | exact aF2 hg0) | (simp only [hg0, hq, a1, a2, go_sem])) | (with_reducible refine aNk ?_; intro bnil hnil; try simp only []) | exact aZ | fail))
  all_goals first | omega | skip
  refine awp_loop _ (by simp only [go_sem]; rfl) Nat (fun k => k ≤ P) (fun k => [(17, .one (.int .i64 k))]) (fun _ H => H) (fun k => P - k) 0 (by omega) ?_ ?_
  ·(simp only [SubF, go_sem]; (try simp only [go_sem]); repeat' (first | exact True.intro | with_reducible refine And.intro ?_ ?_ | rfl | omega))
  rintro k hk L2 hL2
  have hq2 : ((k : Nat) : Int).toNat = k := by omega
  have b1 := words_at (l := V) (k := k) (by omega) [.nil]
  have b2 := words_at (l := V) (k := k) (by omega) []
  have hSa := SameInts_c (V.getD k []) x.m (by rw [hVl k (by omega)]; omega)
  by_cases hkp : k = P
  ·subst hkp
   rw [heq] at b1 b2
   rw [heq, decide_eq_true (rfl : x.m = x.m)] at hSa
   have hH := hHa k
   (simp only [go_sem] at hL2 ⊢)
   have hpu := ints_put (l := atP O nd.length i) (k := i) (by omega) k
   rw [hset] at hpu
   (repeat' (first | (with_reducible first | exact True.intro | refine And.intro ?_ ?_ | refine aBl ?_ | (refine aS 14 [19, 17, 18, 16, 22, 24, 23, 21, 20, 15] ?_; intro K hK)) | ((with_reducible first | refine aGo ?_ | refine rP Ty_ok mixed 9 [0, 1] [.mid [pe 2, pe 3, pe 4, pe 5, pe 6, pe 7, pe 8, pe 9, pe 10, pe 11, pe 12, pe 13] 0, .one 14, .mid [pe 15, pe 16] 0] ?_ | refine rP Ty_ok mixed 18 [0, 1] [.mid [pe 2, pe 3, pe 4, pe 5, pe 6, pe 7, pe 8, pe 9, pe 10] 0, .one 11, .mid [pe 12, pe 13] 0] ?_ | refine rD (id := 25) ?_ | refine rP Ty_ok mixed 26 [1, 2, 3, 9, 11, 12, 13] [.mid [pe 0, pe 4, pe 5, pe 6, pe 7, pe 8, ⟨10, 0, true, false, false, [], []⟩, ⟨14, 1, false, false, false, [0], []⟩, ⟨15, 1, false, false, false, [0], []⟩, ⟨16, 1, false, false, false, [0], []⟩, ⟨17, 1, false, false, false, [0], []⟩, ⟨18, 1, false, false, false, [0], []⟩, ⟨19, 1, false, false, false, [], []⟩] 1] ?_ | refine rD (id := 32) ?_); simp only [hq, hq2, a1, a2, b1, b2, hal, hMl, hpu, go_sem]) | ((with_reducible refine aCd ?_ ?_ (fun hb => ?_) (fun hb => ?_)); (iterate 2 simp only [hq, hq2, a1, a2, b1, b2, hal, hMl, hpu, go_sem]); all_goals (simp only [hq, hq2, a1, a2, b1, b2, hal, hMl, hpu, go_sem] at hb; try simp only [bls] at hb)) | ((iterate 6 try ((fail_if_success with_reducible refine hK _ ?_ ?_ ?_); clear hK K)); with_reducible refine hK _ ?_ ?_ ?_; rotate_left; (focus (simp only [hq, hq2, a1, a2, b1, b2, hal, hMl, hpu, go_sem]; exact rfl)); clear hK K) | ((first | (with_reducible first | refine xA ?_ | refine xD ?_ | refine xO ?_ | refine xR ?_ | refine xG ?_ | refine xH ?_ | refine xM ?_) | ((with_reducible refine gA ?_); refine xA ?_) | ((with_reducible refine gD ?_); refine xD ?_) | ((with_reducible refine gG ?_); refine xG ?_)); simp only [hq, hq2, a1, a2, b1, b2, hal, hMl, hpu, go_sem]) | (with_reducible refine aGs (fun hg0 => ?_) (fun hg0 => ?_) <;> first | (with_reducible first | exact aF1 hg0 | exact aF2 hg0) | (simp only [hg0, hq, hq2, a1, a2, b1, b2, hal, hMl, hpu, go_sem])) | (with_reducible refine aNk ?_; intro bnil hnil; try simp only []) | exact aZ | fail))
   all_goals first | omega | (intro hg; exact ⟨hg, by omega, by omega⟩) | skip
   clear hL2
   refine awp_loop _ (by simp only [go_sem]; rfl) Nat (fun j => j ≤ mk.length) (fun j => [(18, .one (.bool (decide (x.m ∈ mk.take j)))), (19, .one (.int .i64 j))]) (fun _ H => H) (fun j => mk.length - j) 0 (by omega) ?_ ?_
   ·(simp only [SubF, List.take_zero, List.not_mem_nil, decide_false, go_sem]; (try simp only [List.take_zero, List.not_mem_nil, decide_false, go_sem]); repeat' (first | exact True.intro | with_reducible refine And.intro ?_ ?_ | rfl | omega))
   rintro j hj L3 hL3
   have hq3 : ((j : Nat) : Int).toNat = j := by omega
   by_cases hjl : j < mk.length
   ·have c1 := words_at (l := mk) hjl [.nil]
    have c2 := words_at (l := mk) hjl []
    have hts := take_mem_succ mk x.m j hjl
    have hSb := SameInts_c (mk.getD j []) x.m (hml _ (getD_mem mk j [] hjl))
    generalize mk.getD j [] = z at *
    generalize decide (x.m ∈ mk.take j) = B at *
    (simp only [go_sem] at hL3 ⊢)
    (repeat' (first | (with_reducible first | exact True.intro | refine And.intro ?_ ?_ | refine aBl ?_ | (refine aS 14 [19, 17, 18, 16, 22, 24, 23, 21, 20, 15] ?_; intro K hK)) | ((with_reducible first | refine aGo ?_ | refine rP Ty_ok mixed 9 [0, 1] [.mid [pe 2, pe 3, pe 4, pe 5, pe 6, pe 7, pe 8, pe 9, pe 10, pe 11, pe 12, pe 13] 0, .one 14, .mid [pe 15, pe 16] 0] ?_ | refine rP Ty_ok mixed 18 [0, 1] [.mid [pe 2, pe 3, pe 4, pe 5, pe 6, pe 7, pe 8, pe 9, pe 10] 0, .one 11, .mid [pe 12, pe 13] 0] ?_ | refine rD (id := 25) ?_ | refine rP Ty_ok mixed 26 [1, 2, 3, 9, 11, 12, 13] [.mid [pe 0, pe 4, pe 5, pe 6, pe 7, pe 8, ⟨10, 0, true, false, false, [], []⟩, ⟨14, 1, false, false, false, [0], []⟩, ⟨15, 1, false, false, false, [0], []⟩, ⟨16, 1, false, false, false, [0], []⟩, ⟨17, 1, false, false, false, [0], []⟩, ⟨18, 1, false, false, false, [0], []⟩, ⟨19, 1, false, false, false, [], []⟩] 1] ?_ | refine rD (id := 32) ?_); simp only [hq, hq3, a1, a2, c1, c2, go_sem]) | ((with_reducible refine aCd ?_ ?_ (fun hb => ?_) (fun hb => ?_)); (iterate 2 simp only [hq, hq3, a1, a2, c1, c2, go_sem]); all_goals (simp only [hq, hq3, a1, a2, c1, c2, go_sem] at hb; try simp only [bls] at hb)) | ((iterate 6 try ((fail_if_success with_reducible refine hK _ ?_ ?_ ?_); clear hK K)); with_reducible refine hK _ ?_ ?_ ?_; rotate_left; (focus (simp only [hq, hq3, a1, a2, c1, c2, go_sem]; exact rfl)); clear hK K) | ((first | (with_reducible first | refine xA ?_ | refine xD ?_ | refine xO ?_ | refine xR ?_ | refine xG ?_ | refine xH ?_ | refine xM ?_) | ((with_reducible refine gA ?_); refine xA ?_) | ((with_reducible refine gD ?_); refine xD ?_) | ((with_reducible refine gG ?_); refine xG ?_)); simp only [hq, hq3, a1, a2, c1, c2, go_sem]) | (with_reducible refine aGs (fun hg0 => ?_) (fun hg0 => ?_) <;> first | (with_reducible first | exact aF1 hg0 | exact aF2 hg0) | (simp only [hg0, hq, hq3, a1, a2, c1, c2, go_sem])) | (with_reducible refine aNk ?_; intro bnil hnil; try simp only []) | exact aZ | fail))
    all_goals first | omega | (intro hg; exact ⟨hg, by omega, by omega⟩) | skip
    refine hL3 _ (j + 1) (by omega) ?_ (by omega)
    simp only [hts]
    (simp only [SubF, go_sem]; (try simp only [go_sem]); repeat' (first | exact True.intro | with_reducible refine And.intro ?_ ?_ | rfl | omega))
   ·have hjm : j = mk.length := by omega
    subst hjm
    have hmd : decide ((k : Int) ∈ marked) = decide (x.m ∈ mk) := by rw [Bool.eq_iff_iff, decide_eq_true_eq, decide_eq_true_eq]; exact hm
    rw [hmd] at hH
    rw [List.take_length]
    generalize decide (x.m ∈ mk) = B at *
    (simp only [go_sem] at hL3 ⊢)
    (repeat' (first | (with_reducible first | exact True.intro | refine And.intro ?_ ?_ | refine aBl ?_ | (refine aS 14 [19, 17, 18, 16, 22, 24, 23, 21, 20, 15] ?_; intro K hK)) | ((with_reducible first | refine aGo ?_ | refine rP Ty_ok mixed 9 [0, 1] [.mid [pe 2, pe 3, pe 4, pe 5, pe 6, pe 7, pe 8, pe 9, pe 10, pe 11, pe 12, pe 13] 0, .one 14, .mid [pe 15, pe 16] 0] ?_ | refine rP Ty_ok mixed 18 [0, 1] [.mid [pe 2, pe 3, pe 4, pe 5, pe 6, pe 7, pe 8, pe 9, pe 10] 0, .one 11, .mid [pe 12, pe 13] 0] ?_ | refine rD (id := 25) ?_ | refine rP Ty_ok mixed 26 [1, 2, 3, 9, 11, 12, 13] [.mid [pe 0, pe 4, pe 5, pe 6, pe 7, pe 8, ⟨10, 0, true, false, false, [], []⟩, ⟨14, 1, false, false, false, [0], []⟩, ⟨15, 1, false, false, false, [0], []⟩, ⟨16, 1, false, false, false, [0], []⟩, ⟨17, 1, false, false, false, [0], []⟩, ⟨18, 1, false, false, false, [0], []⟩, ⟨19, 1, false, false, false, [], []⟩] 1] ?_ | refine rD (id := 32) ?_); simp only [hq, hq3, a1, a2, go_sem]) | ((with_reducible refine aCd ?_ ?_ (fun hb => ?_) (fun hb => ?_)); (iterate 2 simp only [hq, hq3, a1, a2, go_sem]); all_goals (simp only [hq, hq3, a1, a2, go_sem] at hb; try simp only [bls] at hb)) | ((iterate 6 try ((fail_if_success with_reducible refine hK _ ?_ ?_ ?_); clear hK K)); with_reducible refine hK _ ?_ ?_ ?_; rotate_left; (focus (simp only [hq, hq3, a1, a2, go_sem]; exact rfl)); clear hK K) | ((first | (with_reducible first | refine xA ?_ | refine xD ?_ | refine xO ?_ | refine xR ?_ | refine xG ?_ | refine xH ?_ | refine xM ?_) | ((with_reducible refine gA ?_); refine xA ?_) | ((with_reducible refine gD ?_); refine xD ?_) | ((with_reducible refine gG ?_); refine xG ?_)); simp only [hq, hq3, a1, a2, go_sem]) | (with_reducible refine aGs (fun hg0 => ?_) (fun hg0 => ?_) <;> first | (with_reducible first | exact aF1 hg0 | exact aF2 hg0) | (simp only [hg0, hq, hq3, a1, a2, go_sem])) | (with_reducible refine aNk ?_; intro bnil hnil; try simp only []) | exact aZ | fail))
    all_goals first | omega | skip
    exact hL _ (i + 1) (by omega) (by (simp only [SubF, List.set_cons_succ, List.set_cons_zero, go_sem]; (try simp only [List.set_cons_succ, List.set_cons_zero, go_sem]); repeat' (first | exact True.intro | with_reducible refine And.intro ?_ ?_ | rfl | omega))) (by omega)
  ·rw [decide_eq_false (hneq k (by omega) hkp)] at hSa
   generalize V.getD k [] = y at *
   (simp only [go_sem] at hL2 ⊢)
   (repeat' (first | (with_reducible first | exact True.intro | refine And.intro ?_ ?_ | refine aBl ?_ | (refine aS 14 [19, 17, 18, 16, 22, 24, 23, 21, 20, 15] ?_; intro K hK)) | ((with_reducible first | refine aGo ?_ | refine rP Ty_ok mixed 9 [0, 1] [.mid [pe 2, pe 3, pe 4, pe 5, pe 6, pe 7, pe 8, pe 9, pe 10, pe 11, pe 12, pe 13] 0, .one 14, .mid [pe 15, pe 16] 0] ?_ | refine rP Ty_ok mixed 18 [0, 1] [.mid [pe 2, pe 3, pe 4, pe 5, pe 6, pe 7, pe 8, pe 9, pe 10] 0, .one 11, .mid [pe 12, pe 13] 0] ?_ | refine rD (id := 25) ?_ | refine rP Ty_ok mixed 26 [1, 2, 3, 9, 11, 12, 13] [.mid [pe 0, pe 4, pe 5, pe 6, pe 7, pe 8, ⟨10, 0, true, false, false, [], []⟩, ⟨14, 1, false, false, false, [0], []⟩, ⟨15, 1, false, false, false, [0], []⟩, ⟨16, 1, false, false, false, [0], []⟩, ⟨17, 1, false, false, false, [0], []⟩, ⟨18, 1, false, false, false, [0], []⟩, ⟨19, 1, false, false, false, [], []⟩] 1] ?_ | refine rD (id := 32) ?_); simp only [hq, hq2, a1, a2, b1, b2, hal, hMl, go_sem]) | ((with_reducible refine aCd ?_ ?_ (fun hb => ?_) (fun hb => ?_)); (iterate 2 simp only [hq, hq2, a1, a2, b1, b2, hal, hMl, go_sem]); all_goals (simp only [hq, hq2, a1, a2, b1, b2, hal, hMl, go_sem] at hb; try simp only [bls] at hb)) | ((iterate 6 try ((fail_if_success with_reducible refine hK _ ?_ ?_ ?_); clear hK K)); with_reducible refine hK _ ?_ ?_ ?_; rotate_left; (focus (simp only [hq, hq2, a1, a2, b1, b2, hal, hMl, go_sem]; exact rfl)); clear hK K) | ((first | (with_reducible first | refine xA ?_ | refine xD ?_ | refine xO ?_ | refine xR ?_ | refine xG ?_ | refine xH ?_ | refine xM ?_) | ((with_reducible refine gA ?_); refine xA ?_) | ((with_reducible refine gD ?_); refine xD ?_) | ((with_reducible refine gG ?_); refine xG ?_)); simp only [hq, hq2, a1, a2, b1, b2, hal, hMl, go_sem]) | (with_reducible refine aGs (fun hg0 => ?_) (fun hg0 => ?_) <;> first | (with_reducible first | exact aF1 hg0 | exact aF2 hg0) | (simp only [hg0, hq, hq2, a1, a2, b1, b2, hal, hMl, go_sem])) | (with_reducible refine aNk ?_; intro bnil hnil; try simp only []) | exact aZ | fail))
   all_goals first | omega | (intro hg; exact ⟨hg, by omega, by omega⟩) | skip
   all_goals exact hL2 _ (k + 1) (by omega) (by (simp only [SubF, go_sem]; (try simp only [go_sem]); repeat' (first | exact True.intro | with_reducible refine And.intro ?_ ?_ | rfl | omega))) (by omega)
 have hil : i = nd.length := by omega
 subst hil
 have hget := fun (j : Nat) (hj : j < nd.length) => atP_get O (N := nd.length) hj
 have hpl := fun (j : Nat) (hj : j < nd.length) => (hpos j hj).1
 (simp only [List.set_cons_succ, List.set_cons_zero, go_sem] at hL ⊢)
 (repeat' (first | (with_reducible first | exact True.intro | refine And.intro ?_ ?_ | refine aBl ?_ | (refine aS 14 [19, 17, 18, 16, 22, 24, 23, 21, 20, 15] ?_; intro K hK)) | ((with_reducible first | refine aGo ?_ | refine rP Ty_ok mixed 9 [0, 1] [.mid [pe 2, pe 3, pe 4, pe 5, pe 6, pe 7, pe 8, pe 9, pe 10, pe 11, pe 12, pe 13] 0, .one 14, .mid [pe 15, pe 16] 0] ?_ | refine rP Ty_ok mixed 18 [0, 1] [.mid [pe 2, pe 3, pe 4, pe 5, pe 6, pe 7, pe 8, pe 9, pe 10] 0, .one 11, .mid [pe 12, pe 13] 0] ?_ | refine rD (id := 25) ?_ | refine rP Ty_ok mixed 26 [1, 2, 3, 9, 11, 12, 13] [.mid [pe 0, pe 4, pe 5, pe 6, pe 7, pe 8, ⟨10, 0, true, false, false, [], []⟩, ⟨14, 1, false, false, false, [0], []⟩, ⟨15, 1, false, false, false, [0], []⟩, ⟨16, 1, false, false, false, [0], []⟩, ⟨17, 1, false, false, false, [0], []⟩, ⟨18, 1, false, false, false, [0], []⟩, ⟨19, 1, false, false, false, [], []⟩] 1] ?_ | refine rD (id := 32) ?_); simp only [go_sem]) | ((with_reducible refine aCd ?_ ?_ (fun hb => ?_) (fun hb => ?_)); (iterate 2 simp only [go_sem]); all_goals (simp only [go_sem] at hb; try simp only [bls] at hb)) | ((iterate 6 try ((fail_if_success with_reducible refine hK _ ?_ ?_ ?_); clear hK K)); with_reducible refine hK _ ?_ ?_ ?_; rotate_left; (focus (simp only [go_sem]; exact rfl)); clear hK K) | (with_reducible refine aGs (fun hg0 => ?_) (fun hg0 => ?_) <;> first | (with_reducible first | exact aF1 hg0 | exact aF2 hg0) | (simp only [hg0, go_sem])) | (with_reducible refine aNk ?_; intro bnil hnil; try simp only []) | exact aZ | fail))
 all_goals first | omega | skip
 clear hL hlt
 refine awp_loop _ (by simp only [go_sem]; rfl) Nat (fun i => i ≤ ed.length) (fun i => [(20, .one (.int .i64 (cntF n ed i : Nat))), (21, .one (.int .i64 i))]) (fun _ H => H) (fun i => ed.length - i) 0 (by omega) ?_ ?_
 ·(simp only [SubF, show cntF n ed 0 = 0 from rfl, go_sem]; (try simp only [show cntF n ed 0 = 0 from rfl, go_sem]); repeat' (first | exact True.intro | with_reducible refine And.intro ?_ ?_ | rfl | omega))
 rintro i hie L hL
 have hq : ((i : Nat) : Int).toNat = i := by omega
 have hcl := cntF_le n ed i
 by_cases hlt : i < ed.length
 ·have a1 := edgs_at (l := ed) hlt [.int .i64 0, .int .i64 0, .int .i64 0]
  have a2 := edgs_at (l := ed) hlt []
  have hym := getD_mem ed i Edg.no hlt
  have hyr := hge _ hym
  have hys := hstp _ hym
  have hcs := cntF_succ n ed i
  have hea : earl n ed i = eaP n ed (ed.getD i Edg.no) i := rfl
  rw [hea] at hcs
  clear hea
  generalize ed.getD i Edg.no = y at *
  have b1 := trs_get (l := n.trs) (k := y.ev.toNat) (by omega) [.int .i64 0, .nil, .nil]
  have b2 := trs_get (l := n.trs) (k := y.ev.toNat) (by omega) []
  have hE1 : evOf n y.ev = (n.trs.getD y.ev.toNat Tr.no).event := rfl
  have hsK : ∀ x : Edg, sameK n x y = (decide (x.src = y.src) && decide (evOf n x.ev = evOf n y.ev)) := fun x => rfl
  have g1 := ints_at (l := atP O nd.length nd.length) (k := y.src.toNat) (by omega)
  have g2 := ints_at (l := atP O nd.length nd.length) (k := y.dst.toNat) (by omega)
  rw [hget _ (by omega), show ((y.src.toNat : Nat) : Int) = y.src by omega] at g1
  rw [hget _ (by omega), show ((y.dst.toNat : Nat) : Int) = y.dst by omega] at g2
  have hS := hSt (posn O y.src) (evOf n y.ev)
  rw [hys] at hS
  generalize posn O y.src = P1 at *
  generalize posn O y.dst = P2 at *
  generalize hEv2 : evOf n y.ev = ev at *
  generalize n.trs.getD y.ev.toNat Tr.no = t at *
  rw [← hE1] at b1 b2
  (simp only [go_sem] at hL ⊢)
  (repeat' (first | (with_reducible first | exact True.intro | refine And.intro ?_ ?_ | refine aBl ?_ | (refine aS 14 [19, 17, 18, 16, 22, 24, 23, 21, 20, 15] ?_; intro K hK)) | ((with_reducible first | refine aGo ?_ | refine rP Ty_ok mixed 9 [0, 1] [.mid [pe 2, pe 3, pe 4, pe 5, pe 6, pe 7, pe 8, pe 9, pe 10, pe 11, pe 12, pe 13] 0, .one 14, .mid [pe 15, pe 16] 0] ?_ | refine rP Ty_ok mixed 18 [0, 1] [.mid [pe 2, pe 3, pe 4, pe 5, pe 6, pe 7, pe 8, pe 9, pe 10] 0, .one 11, .mid [pe 12, pe 13] 0] ?_ | refine rD (id := 25) ?_ | refine rP Ty_ok mixed 26 [1, 2, 3, 9, 11, 12, 13] [.mid [pe 0, pe 4, pe 5, pe 6, pe 7, pe 8, ⟨10, 0, true, false, false, [], []⟩, ⟨14, 1, false, false, false, [0], []⟩, ⟨15, 1, false, false, false, [0], []⟩, ⟨16, 1, false, false, false, [0], []⟩, ⟨17, 1, false, false, false, [0], []⟩, ⟨18, 1, false, false, false, [0], []⟩, ⟨19, 1, false, false, false, [], []⟩] 1] ?_ | refine rD (id := 32) ?_); simp only [hq, a1, a2, b1, b2, g1, g2, hal, go_sem]) | ((with_reducible refine aCd ?_ ?_ (fun hb => ?_) (fun hb => ?_)); (iterate 2 simp only [hq, a1, a2, b1, b2, g1, g2, hal, go_sem]); all_goals (simp only [hq, a1, a2, b1, b2, g1, g2, hal, go_sem] at hb; try simp only [bls] at hb)) | ((iterate 6 try ((fail_if_success with_reducible refine hK _ ?_ ?_ ?_); clear hK K)); with_reducible refine hK _ ?_ ?_ ?_; rotate_left; (focus (simp only [hq, a1, a2, b1, b2, g1, g2, hal, go_sem]; exact rfl)); clear hK K) | ((first | (with_reducible first | refine xA ?_ | refine xD ?_ | refine xO ?_ | refine xR ?_ | refine xG ?_ | refine xH ?_ | refine xM ?_) | ((with_reducible refine gA ?_); refine xA ?_) | ((with_reducible refine gD ?_); refine xD ?_) | ((with_reducible refine gG ?_); refine xG ?_)); simp only [hq, a1, a2, b1, b2, g1, g2, hal, go_sem]) | (with_reducible refine aGs (fun hg0 => ?_) (fun hg0 => ?_) <;> first | (with_reducible first | exact aF1 hg0 | exact aF2 hg0) | (simp only [hg0, hq, a1, a2, b1, b2, g1, g2, hal, go_sem])) | (with_reducible refine aNk ?_; intro bnil hnil; try simp only []) | exact aZ | fail))
  all_goals first | omega | skip
  refine awp_loop _ (by simp only [go_sem]; rfl) Nat (fun k => k ≤ i) (fun k => [(23, .one (.bool (eaP n ed y k))), (24, .one (.int .i64 k))]) (fun _ H => H) (fun k => i - k) 0 (by omega) ?_ ?_
  ·(simp only [SubF, show eaP n ed y 0 = false from rfl, go_sem]; (try simp only [show eaP n ed y 0 = false from rfl, go_sem]); repeat' (first | exact True.intro | with_reducible refine And.intro ?_ ?_ | rfl | omega))
  rintro k hki L2 hL2
  have hq2 : ((k : Nat) : Int).toNat = k := by omega
  by_cases hkl : k < i
  ·have c1 := edgs_at (l := ed) (k := k) (by omega) [.int .i64 0, .int .i64 0, .int .i64 0]
   have c2 := edgs_at (l := ed) (k := k) (by omega) []
   have hxr := hge _ (getD_mem ed k Edg.no (by omega))
   have hes := eaP_succ n ed y k
   rw [hsK] at hes
   generalize ed.getD k Edg.no = x at *
   have d1 := trs_get (l := n.trs) (k := x.ev.toNat) (by omega) [.int .i64 0, .nil, .nil]
   have d2 := trs_get (l := n.trs) (k := x.ev.toNat) (by omega) []
   rw [show (n.trs.getD x.ev.toNat Tr.no).event = evOf n x.ev from rfl] at d1 d2
   generalize evOf n x.ev = ex at *
   generalize n.trs.getD x.ev.toNat Tr.no = tx at *
   generalize eaP n ed y k = B at *
   (simp only [go_sem] at hL2 ⊢)
   (repeat' (first | (with_reducible first | exact True.intro | refine And.intro ?_ ?_ | refine aBl ?_ | (refine aS 14 [19, 17, 18, 16, 22, 24, 23, 21, 20, 15] ?_; intro K hK)) | ((with_reducible first | refine aGo ?_ | refine rP Ty_ok mixed 9 [0, 1] [.mid [pe 2, pe 3, pe 4, pe 5, pe 6, pe 7, pe 8, pe 9, pe 10, pe 11, pe 12, pe 13] 0, .one 14, .mid [pe 15, pe 16] 0] ?_ | refine rP Ty_ok mixed 18 [0, 1] [.mid [pe 2, pe 3, pe 4, pe 5, pe 6, pe 7, pe 8, pe 9, pe 10] 0, .one 11, .mid [pe 12, pe 13] 0] ?_ | refine rD (id := 25) ?_ | refine rP Ty_ok mixed 26 [1, 2, 3, 9, 11, 12, 13] [.mid [pe 0, pe 4, pe 5, pe 6, pe 7, pe 8, ⟨10, 0, true, false, false, [], []⟩, ⟨14, 1, false, false, false, [0], []⟩, ⟨15, 1, false, false, false, [0], []⟩, ⟨16, 1, false, false, false, [0], []⟩, ⟨17, 1, false, false, false, [0], []⟩, ⟨18, 1, false, false, false, [0], []⟩, ⟨19, 1, false, false, false, [], []⟩] 1] ?_ | refine rD (id := 32) ?_); simp only [hq, hq2, a1, a2, c1, c2, d1, d2, go_sem]) | ((with_reducible refine aCd ?_ ?_ (fun hb => ?_) (fun hb => ?_)); (iterate 2 simp only [hq, hq2, a1, a2, c1, c2, d1, d2, go_sem]); all_goals (simp only [hq, hq2, a1, a2, c1, c2, d1, d2, go_sem] at hb; try simp only [bls] at hb)) | ((iterate 6 try ((fail_if_success with_reducible refine hK _ ?_ ?_ ?_); clear hK K)); with_reducible refine hK _ ?_ ?_ ?_; rotate_left; (focus (simp only [hq, hq2, a1, a2, c1, c2, d1, d2, go_sem]; exact rfl)); clear hK K) | (with_reducible refine aGs (fun hg0 => ?_) (fun hg0 => ?_) <;> first | (with_reducible first | exact aF1 hg0 | exact aF2 hg0) | (simp only [hg0, hq, hq2, a1, a2, c1, c2, d1, d2, go_sem])) | (with_reducible refine aNk ?_; intro bnil hnil; try simp only []) | exact aZ | fail))
   all_goals first | omega | (intro hg; exact ⟨hg, by omega, by omega⟩) | (intro hg; exact ⟨hg, fun h => by simp [hg, h]⟩) | skip
   have hes2 : eaP n ed y (k + 1) = (B || (x.src == y.src && ex == ev)) := hes
   refine hL2 _ (k + 1) (by omega) ?_ (by omega)
   simp only [hes2]
   (simp only [SubF, go_sem]; (try simp only [go_sem]); repeat' (first | exact True.intro | with_reducible refine And.intro ?_ ?_ | rfl | omega))
  ·have hkl2 : k = i := by omega
   subst hkl2
   generalize eaP n ed y k = B at *
   (simp only [go_sem] at hL2 ⊢)
   cases B with
   | true =>
    (repeat' (first | (with_reducible first | exact True.intro | refine And.intro ?_ ?_ | refine aBl ?_ | (refine aS 14 [19, 17, 18, 16, 22, 24, 23, 21, 20, 15] ?_; intro K hK)) | ((with_reducible first | refine aGo ?_ | refine rP Ty_ok mixed 9 [0, 1] [.mid [pe 2, pe 3, pe 4, pe 5, pe 6, pe 7, pe 8, pe 9, pe 10, pe 11, pe 12, pe 13] 0, .one 14, .mid [pe 15, pe 16] 0] ?_ | refine rP Ty_ok mixed 18 [0, 1] [.mid [pe 2, pe 3, pe 4, pe 5, pe 6, pe 7, pe 8, pe 9, pe 10] 0, .one 11, .mid [pe 12, pe 13] 0] ?_ | refine rD (id := 25) ?_ | refine rP Ty_ok mixed 26 [1, 2, 3, 9, 11, 12, 13] [.mid [pe 0, pe 4, pe 5, pe 6, pe 7, pe 8, ⟨10, 0, true, false, false, [], []⟩, ⟨14, 1, false, false, false, [0], []⟩, ⟨15, 1, false, false, false, [0], []⟩, ⟨16, 1, false, false, false, [0], []⟩, ⟨17, 1, false, false, false, [0], []⟩, ⟨18, 1, false, false, false, [0], []⟩, ⟨19, 1, false, false, false, [], []⟩] 1] ?_ | refine rD (id := 32) ?_); simp only [hq, a1, a2, go_sem]) | ((with_reducible refine aCd ?_ ?_ (fun hb => ?_) (fun hb => ?_)); (iterate 2 simp only [hq, a1, a2, go_sem]); all_goals (simp only [hq, a1, a2, go_sem] at hb; try simp only [bls] at hb)) | ((iterate 6 try ((fail_if_success with_reducible refine hK _ ?_ ?_ ?_); clear hK K)); with_reducible refine hK _ ?_ ?_ ?_; rotate_left; (focus (simp only [hq, a1, a2, go_sem]; exact rfl)); clear hK K) | (with_reducible refine aGs (fun hg0 => ?_) (fun hg0 => ?_) <;> first | (with_reducible first | exact aF1 hg0 | exact aF2 hg0) | (simp only [hg0, hq, a1, a2, go_sem])) | (with_reducible refine aNk ?_; intro bnil hnil; try simp only []) | exact aZ | fail))
    all_goals first | omega | skip
    refine hL _ (k + 1) (by omega) ?_ (by omega)
    simp only [hcs, if_true, Nat.add_zero]
    (simp only [SubF, go_sem]; (try simp only [go_sem]); repeat' (first | exact True.intro | with_reducible refine And.intro ?_ ?_ | rfl | omega))
   | false =>
    (repeat' (first | (with_reducible first | exact True.intro | refine And.intro ?_ ?_ | refine aBl ?_ | (refine aS 14 [19, 17, 18, 16, 22, 24, 23, 21, 20, 15] ?_; intro K hK)) | ((with_reducible first | refine aGo ?_ | refine rP Ty_ok mixed 9 [0, 1] [.mid [pe 2, pe 3, pe 4, pe 5, pe 6, pe 7, pe 8, pe 9, pe 10, pe 11, pe 12, pe 13] 0, .one 14, .mid [pe 15, pe 16] 0] ?_ | refine rP Ty_ok mixed 18 [0, 1] [.mid [pe 2, pe 3, pe 4, pe 5, pe 6, pe 7, pe 8, pe 9, pe 10] 0, .one 11, .mid [pe 12, pe 13] 0] ?_ | refine rD (id := 25) ?_ | refine rP Ty_ok mixed 26 [1, 2, 3, 9, 11, 12, 13] [.mid [pe 0, pe 4, pe 5, pe 6, pe 7, pe 8, ⟨10, 0, true, false, false, [], []⟩, ⟨14, 1, false, false, false, [0], []⟩, ⟨15, 1, false, false, false, [0], []⟩, ⟨16, 1, false, false, false, [0], []⟩, ⟨17, 1, false, false, false, [0], []⟩, ⟨18, 1, false, false, false, [0], []⟩, ⟨19, 1, false, false, false, [], []⟩] 1] ?_ | refine rD (id := 32) ?_); simp only [hq, a1, a2, go_sem]) | ((with_reducible refine aCd ?_ ?_ (fun hb => ?_) (fun hb => ?_)); (iterate 2 simp only [hq, a1, a2, go_sem]); all_goals (simp only [hq, a1, a2, go_sem] at hb; try simp only [bls] at hb)) | ((iterate 6 try ((fail_if_success with_reducible refine hK _ ?_ ?_ ?_); clear hK K)); with_reducible refine hK _ ?_ ?_ ?_; rotate_left; (focus (simp only [hq, a1, a2, go_sem]; exact rfl)); clear hK K) | (with_reducible refine aGs (fun hg0 => ?_) (fun hg0 => ?_) <;> first | (with_reducible first | exact aF1 hg0 | exact aF2 hg0) | (simp only [hg0, hq, a1, a2, go_sem])) | (with_reducible refine aNk ?_; intro bnil hnil; try simp only []) | exact aZ | fail))
    all_goals first | omega | skip
    refine hL _ (k + 1) (by omega) ?_ (by omega)
    simp only [hcs, Bool.false_eq_true, if_false]
    (simp only [SubF, go_sem]; (try simp only [go_sem]); repeat' (first | exact True.intro | with_reducible refine And.intro ?_ ?_ | rfl | omega))
 ·have hil : i = ed.length := by omega
  subst hil
  have g0 := ints_at (l := atP O nd.length nd.length) (k := 0) (by omega)
  rw [hget 0 hnp, show (((0 : Nat) : Int)) = 0 from rfl, hp0] at g0
  rw [hcnt] at *
  (simp only [go_sem] at hL ⊢)
  (repeat' (first | (with_reducible first | exact True.intro | refine And.intro ?_ ?_ | refine aBl ?_ | (refine aS 14 [19, 17, 18, 16, 22, 24, 23, 21, 20, 15] ?_; intro K hK)) | ((with_reducible first | refine aGo ?_ | refine rP Ty_ok mixed 9 [0, 1] [.mid [pe 2, pe 3, pe 4, pe 5, pe 6, pe 7, pe 8, pe 9, pe 10, pe 11, pe 12, pe 13] 0, .one 14, .mid [pe 15, pe 16] 0] ?_ | refine rP Ty_ok mixed 18 [0, 1] [.mid [pe 2, pe 3, pe 4, pe 5, pe 6, pe 7, pe 8, pe 9, pe 10] 0, .one 11, .mid [pe 12, pe 13] 0] ?_ | refine rD (id := 25) ?_ | refine rP Ty_ok mixed 26 [1, 2, 3, 9, 11, 12, 13] [.mid [pe 0, pe 4, pe 5, pe 6, pe 7, pe 8, ⟨10, 0, true, false, false, [], []⟩, ⟨14, 1, false, false, false, [0], []⟩, ⟨15, 1, false, false, false, [0], []⟩, ⟨16, 1, false, false, false, [0], []⟩, ⟨17, 1, false, false, false, [0], []⟩, ⟨18, 1, false, false, false, [0], []⟩, ⟨19, 1, false, false, false, [], []⟩] 1] ?_ | refine rD (id := 32) ?_); simp only [g0, hal, go_sem]) | ((with_reducible refine aCd ?_ ?_ (fun hb => ?_) (fun hb => ?_)); (iterate 2 simp only [g0, hal, go_sem]); all_goals (simp only [g0, hal, go_sem] at hb; try simp only [bls] at hb)) | ((iterate 6 try ((fail_if_success with_reducible refine hK _ ?_ ?_ ?_); clear hK K)); with_reducible refine hK _ ?_ ?_ ?_; rotate_left; (focus (simp only [g0, hal, go_sem]; exact rfl)); clear hK K) | (with_reducible refine aGs (fun hg0 => ?_) (fun hg0 => ?_) <;> first | (with_reducible first | exact aF1 hg0 | exact aF2 hg0) | (simp only [hg0, g0, hal, go_sem])) | (with_reducible refine aNk ?_; intro bnil hnil; try simp only []) | exact aZ | fail))
  all_goals first | omega | skip
end Go.Proofs.YtgbhmieaoaojoaaGreatDoor
