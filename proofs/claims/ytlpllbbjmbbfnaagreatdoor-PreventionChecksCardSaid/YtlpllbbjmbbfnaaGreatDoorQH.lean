/-
 Contracts of chapter 51: whether a siphon can be controlled; the next step.
-/
import Derived.Test.YtlpllbbjmbbfnaaGreatDoorQG
set_option linter.unusedSimpArgs false
set_option linter.unusedVariables false
namespace Go.Proofs.YtlpllbbjmbbfnaaGreatDoor
open Go.Eng Go.RowKit
structure SetOk (n : Net) (s : List Int) : Prop where
 len : s.length ≤ 10
 nd : s.Nodup
 place : ∀ x ∈ s, 0 ≤ x ∧ x < n.init.length
 chk : checkSet s n.init.length = 0
 si : siE n s 1 = 0
theorem setOk_of {n : Net} {s : List Int} (hn : netE n = 0) (hs : s ∈ minL 1 n) : SetOk n s := by
 obtain ⟨h1, h2, h3⟩ := setsY_el (minL_el hs).1
 have hi := (netOk_of hn).init
 have hset : checkSet s n.init.length = 0 := checkSet_ok h2 h3
 exact ⟨by omega, h2.imp fun h => by omega, h3, hset, by rw [siE, if_neg (by omega), if_neg (by omega), if_neg (by omega)]⟩
theorem emX_ok {n : Net} {s : List Int} (h : SetOk n s) {nd : List SN} {ed : List Edg} (hb : bndF n = .inr (nd, ed)) : (emX n s).2.2 = 0 := by
 have := h.si
 rw [emX, if_neg (by omega), hb]
 simp only
 split <;> rfl
theorem dot_kep {n : Net} {s : List Int} (h : SetOk n s) (m : List Int) : dot (kepC n.init.length s).fac m = -(sumAt m s) := dot_facK _ m s h.nd h.place
theorem chk_kep {n : Net} {s u : List Int} (hE : prE n u = 0) : chkE n (kepC n.init.length s) u = 0 := by
 obtain ⟨hn, hu⟩ := prE_ok hE
 rw [chkE, if_neg (by rw [conE_kep hn]; decide)]
 exact hu
theorem val_kep {n : Net} {s : List Int} (hn : netE n = 0) (h : SetOk n s) : valV n (kepC n.init.length s) n.init = -(sumAt n.init s) ∧ valE n (kepC n.init.length s) n.init = 0 := by
 have hok := netOk_of hn
 have hm : markE n n.init = 0 := markE_of hok rfl fun x hx => hok.tok x hx
 have hc := conE_kep (s := s) hn
 refine ⟨?_, by rw [valE, if_neg (by omega), hm]⟩
 rw [valV, if_neg (by omega), dot_kep h]
theorem Adm_ok (n : Net) (c : Con) (u : List Int) (hn : n.Fits) (hc : c.fac.length ≤ 1000000) (hul : u.length ≤ 1000000) (hchk : chkE n c u = 0) :
  ACalls Tryz.prog 59 [.agg n.d, .agg c.d, .one (.list (ints u))] (.tup [.one (.int .i64 (max (raisingL n c u) 0)), .one (.bool (decide (raisingL n c u < 0))), .one (.int .i64 0)]) [] := by
 have h := Admissible_c n c u hn hc hul
 have e1 : (if chkE n c u ≠ 0 then 0 else max (raisingL n c u) 0) = max (raisingL n c u) 0 := if_neg (by omega)
 have e2 : decide (chkE n c u = 0 ∧ raisingL n c u < 0) = decide (raisingL n c u < 0) := by simp [hchk]
 rw [e1, e2, hchk] at h
 exact h
set_option maxHeartbeats 4000000 in
theorem controlled_c (n : Net) (u s : List Int) (h0 : n.init ≠ []) (hE : prE n u = 0) {nd : List SN} {ed : List Edg} (hb : bndF n = .inr (nd, ed)) (hs : s ∈ minL 1 n) (hul : u.length ≤ 1000000) :
  ACalls Tryz.prog 41 [.agg n.d, .agg (stepOf n s).d, .one (.list (ints u))] (.tup [.one (.bool (ctlB n u s)), .one (.int .i64 0)]) [] := by
 obtain ⟨hn, hu⟩ := prE_ok hE
 have hok := netOk_of hn
 have hS := setOk_of hn hs
 have hsl := hS.len
 have hi := hok.init
 have hfl := facK_length n.init.length s
 have hEm := Emptied_c n s hok.fits (fun _ => h0) (by omega)
 have hme := emX_ok hS hb
 obtain ⟨v1, v2⟩ := val_kep hn hS
 have hV := Value_c n (kepC n.init.length s) n.init hok.fits (by simp only [kepC]; omega) (by omega)
 have hA := Adm_ok n (kepC n.init.length s) u hok.fits (by simp only [kepC]; omega) hul (chk_kep hE)
 rw [v1, v2] at hV
 rw [ctlB]
 generalize raisingL n (kepC n.init.length s) u = R at *
 generalize emX n s = X at *
 obtain ⟨x1, x2, x3⟩ := X
 simp only at hme hEm
 subst hme
 simp only [Net.d, Con.d, kepC] at hEm hV hA
 simp only [kepC]
 generalize sumAt n.init s = Z at *
 cases x2 with
 | false =>
  (refine ACalls.of_body Ty_ok mixed Tryz.func41 rfl (by kernel_rfl) Tryz.ntmps41 (by simp) (congrArg Array.toList Tryz.results41) ?_)
  simp only [slotsOf, Net.d, Stp.d, stepOf, kepC]
  (repeat' (first | (with_reducible first | exact True.intro | refine And.intro ?_ ?_ | refine aBl ?_ | (refine aS 8 [9, 11, 13, 10] ?_; intro K hK)) | ((with_reducible first | refine aGo ?_); simp only [go_sem]) | ((with_reducible refine aCd ?_ ?_ (fun hb => ?_) (fun hb => ?_)); (iterate 2 simp only [go_sem]); all_goals (simp only [go_sem] at hb; try simp only [bls] at hb)) | ((iterate 6 try ((fail_if_success with_reducible refine hK _ ?_ ?_ ?_); clear hK K)); with_reducible refine hK _ ?_ ?_ ?_; rotate_left; (focus (simp only [go_sem]; exact rfl)); clear hK K) | ((first | (with_reducible first | refine xA ?_ | refine xD ?_ | refine xO ?_ | refine xR ?_ | refine xG ?_ | refine xH ?_ | refine xM ?_) | ((with_reducible refine gA ?_); refine xA ?_) | ((with_reducible refine gD ?_); refine xD ?_) | ((with_reducible refine gG ?_); refine xG ?_)); simp only [go_sem]) | (with_reducible refine aGs (fun hg0 => ?_) (fun hg0 => ?_) <;> first | (with_reducible first | exact aF1 hg0 | exact aF2 hg0) | (simp only [hg0, go_sem])) | (with_reducible refine aNk ?_; intro bnil hnil; try simp only []) | exact aZ | fail))
  all_goals first | omega | skip
 | true =>
  (refine ACalls.of_body Ty_ok mixed Tryz.func41 rfl (by kernel_rfl) Tryz.ntmps41 (by simp) (congrArg Array.toList Tryz.results41) ?_)
  simp only [slotsOf, Net.d, Stp.d, stepOf, kepC]
  (repeat' (first | (with_reducible first | exact True.intro | refine And.intro ?_ ?_ | refine aBl ?_ | (refine aS 8 [9, 11, 13, 10] ?_; intro K hK)) | ((with_reducible first | refine aGo ?_); simp only [go_sem]) | ((with_reducible refine aCd ?_ ?_ (fun hb => ?_) (fun hb => ?_)); (iterate 2 simp only [go_sem]); all_goals (simp only [go_sem] at hb; try simp only [bls] at hb)) | ((iterate 6 try ((fail_if_success with_reducible refine hK _ ?_ ?_ ?_); clear hK K)); with_reducible refine hK _ ?_ ?_ ?_; rotate_left; (focus (simp only [go_sem]; exact rfl)); clear hK K) | ((first | (with_reducible first | refine xA ?_ | refine xD ?_ | refine xO ?_ | refine xR ?_ | refine xG ?_ | refine xH ?_ | refine xM ?_) | ((with_reducible refine gA ?_); refine xA ?_) | ((with_reducible refine gD ?_); refine xD ?_) | ((with_reducible refine gG ?_); refine xG ?_)); simp only [go_sem]) | (with_reducible refine aGs (fun hg0 => ?_) (fun hg0 => ?_) <;> first | (with_reducible first | exact aF1 hg0 | exact aF2 hg0) | (simp only [hg0, go_sem])) | (with_reducible refine aNk ?_; intro bnil hnil; try simp only []) | exact aZ | fail))
  all_goals first | omega | skip
  ·have : decide (0 < Z) = false := decide_eq_false (by omega)
   rw [this]; rfl
  ·have : decide (0 < Z) = true := decide_eq_true (by omega)
   rw [this]; simp
def nxR (n : Net) (u : List Int) : AV := if prE n u ≠ 0 then .tup [.agg Stp.no.d, .one (.bool false), .one (.int .i64 (prE n u))] else match bndF n with
 | .inl e => .tup [.agg Stp.no.d, .one (.bool false), .one (.int .i64 e)]
 | .inr _ => match nextF n u with
  | none => .tup [.agg Stp.no.d, .one (.bool false), .one (.int .i64 0)]
  | some s => .tup [.agg (stepOf n s).d, .one (.bool true), .one (.int .i64 0)]
def optD : Option Stp → List D
 | none => [.nil, .nil, .int .i64 0]
 | some s => s.d
theorem stpNo_d : Stp.no.d = [.list [], .list [], .int .i64 0] := rfl
set_option maxHeartbeats 16000000 in
theorem Next_c (n : Net) (u : List Int) (hf : n.Fits) (h0 : prE n u = 0 → n.init ≠ []) (hul : u.length ≤ 1000000) : ACalls Tryz.prog 12 [.agg n.d, .one (.list (ints u))] (nxR n u) [] := by
 have h1 := prCheck_c n u hf hul
 by_cases hE : prE n u = 0
 ·obtain ⟨hn, hu⟩ := prE_ok hE
  have hok := netOk_of hn
  have hne := h0 hE
  have hi10 := hok.init
  have hG := Graph_c n hf hne fun nd ed h => by
   obtain ⟨_, q2, q3⟩ := bnd_ok h
   exact ⟨q3, fun x hx => by have := q2.len x hx; omega⟩
  have hsi : siE n [] 1 = 0 := by rw [siE, if_neg (by omega), if_neg (by rw [show checkSet [] n.init.length = 0 from rfl]; decide), if_neg (by omega)]
  have hM := Minimal_c n 1 hf fun _ => hne
  rw [hsi, if_pos rfl] at hM
  have hnz := fun e => bnd_ne (n := n) (e := e)
  rw [nxR, if_neg (by omega)]
  cases hbn : bndF n with
  | inl e =>
   have hnz := hnz e hbn
   rw [hbn] at hG
   simp only [grR] at hG
   simp only [stpNo_d]
   simp only [Net.d] at h1 hG
   (refine ACalls.of_body Ty_ok mixed Tryz.func12 rfl (by kernel_rfl) Tryz.ntmps12 (by simp) (congrArg Array.toList Tryz.results12) ?_)
   simp only [slotsOf, Net.d]
   (repeat' (first | (with_reducible first | exact True.intro | refine And.intro ?_ ?_ | refine aBl ?_ | (refine aS 12 [39, 38, 40] ?_; intro K hK)) | ((with_reducible first | refine aGo ?_); simp only [hE, go_sem]) | ((with_reducible refine aCd ?_ ?_ (fun hb => ?_) (fun hb => ?_)); (iterate 2 simp only [hE, go_sem]); all_goals (simp only [hE, go_sem] at hb; try simp only [bls] at hb)) | ((iterate 6 try ((fail_if_success with_reducible refine hK _ ?_ ?_ ?_); clear hK K)); with_reducible refine hK _ ?_ ?_ ?_; rotate_left; (focus (simp only [hE, go_sem]; exact rfl)); clear hK K) | ((first | (with_reducible first | refine xA ?_ | refine xD ?_ | refine xO ?_ | refine xR ?_ | refine xG ?_ | refine xH ?_ | refine xM ?_) | ((with_reducible refine gA ?_); refine xA ?_) | ((with_reducible refine gD ?_); refine xD ?_) | ((with_reducible refine gG ?_); refine xG ?_)); simp only [hE, go_sem]) | (with_reducible refine aGs (fun hg0 => ?_) (fun hg0 => ?_) <;> first | (with_reducible first | exact aF1 hg0 | exact aF2 hg0) | (simp only [hg0, hE, go_sem])) | (with_reducible refine aNk ?_; intro bnil hnil; try simp only []) | exact aZ | fail))
   all_goals first | omega | skip
  | inr r =>
   obtain ⟨nd, ed⟩ := r
   rw [hbn] at hG
   simp only [grR] at hG
   simp only
   have hml := minL_length 1 n
   have hpow : 2 ^ n.init.length ≤ 1024 := Nat.le_trans (Nat.pow_le_pow_right (by omega) hi10) (by decide)
   generalize hR : (match nextF n u with | none => AV.tup [.agg Stp.no.d, .one (.bool false), .one (.int .i64 0)] | some s => .tup [.agg (stepOf n s).d, .one (.bool true), .one (.int .i64 0)]) = R
   simp only [Net.d] at h1 hG hM
   (refine ACalls.of_body Ty_ok mixed Tryz.func12 rfl (by kernel_rfl) Tryz.ntmps12 (by simp) (congrArg Array.toList Tryz.results12) ?_)
   simp only [slotsOf, Net.d]
   (repeat' (first | (with_reducible first | exact True.intro | refine And.intro ?_ ?_ | refine aBl ?_ | (refine aS 12 [39, 38, 40] ?_; intro K hK)) | ((with_reducible first | refine aGo ?_); simp only [hE, go_sem]) | ((with_reducible refine aCd ?_ ?_ (fun hb => ?_) (fun hb => ?_)); (iterate 2 simp only [hE, go_sem]); all_goals (simp only [hE, go_sem] at hb; try simp only [bls] at hb)) | ((iterate 6 try ((fail_if_success with_reducible refine hK _ ?_ ?_ ?_); clear hK K)); with_reducible refine hK _ ?_ ?_ ?_; rotate_left; (focus (simp only [hE, go_sem]; exact rfl)); clear hK K) | ((first | (with_reducible first | refine xA ?_ | refine xD ?_ | refine xO ?_ | refine xR ?_ | refine xG ?_ | refine xH ?_ | refine xM ?_) | ((with_reducible refine gA ?_); refine xA ?_) | ((with_reducible refine gD ?_); refine xD ?_) | ((with_reducible refine gG ?_); refine xG ?_)); simp only [hE, go_sem]) | (with_reducible refine aGs (fun hg0 => ?_) (fun hg0 => ?_) <;> first | (with_reducible first | exact aF1 hg0 | exact aF2 hg0) | (simp only [hg0, hE, go_sem])) | (with_reducible refine aNk ?_; intro bnil hnil; try simp only []) | exact aZ | fail))
   all_goals first | omega | skip
   refine awp_loop _ (by simp only [go_sem]; rfl) (Nat × Option Stp) (fun x => x.1 ≤ (minL 1 n).length ∧ nextF n u = ((minL 1 n).drop x.1).find? (ctlB n u)) (fun x => [(40, .one (.int .i64 x.1))]) (fun x _ => [.var 33 [.list (ints n.init), .list (trsD n.trs)], .var 40 (optD x.2)]) (fun x => (minL 1 n).length - x.1) (0, none) ⟨Nat.zero_le _, rfl⟩ ?_ ?_
   ·simp only [optD]
    (simp only [SubF, go_sem]; (try simp only [go_sem]); repeat' (first | exact True.intro | with_reducible refine And.intro ?_ ?_ | rfl | omega))
   rintro ⟨k, o⟩ ⟨hk, hnx⟩ L hL
   simp only at hk hnx
   have hq : ((k : Nat) : Int).toNat = k := by omega
   by_cases hlt : k < (minL 1 n).length
   ·have hw := words_at (l := minL 1 n) hlt [.nil]
    have hmem := getD_mem (minL 1 n) k [] hlt
    have hst := find_step (d := []) hlt hnx
    have hS := setOk_of hn hmem
    have hsl := hS.len
    have hkp := kept_c n ((minL 1 n).getD k []) hf hS.place (by omega)
    have hct := controlled_c n u ((minL 1 n).getD k []) hne hE hbn hmem hul
    generalize (minL 1 n).getD k [] = s at *
    simp only [Net.d, Con.d, kepC] at hkp
    simp only [Net.d, Stp.d, stepOf, kepC] at hct
    cases hcb : ctlB n u s with
    | true =>
     rw [hcb] at hct
     rw [hcb, if_pos rfl] at hst
     rw [hst] at hR
     simp only [stepOf, Stp.d, kepC] at hR
     subst hR
     cases o
     all_goals
      simp only [optD, Stp.d] at hL ⊢
      (simp only [go_sem] at hL ⊢)
      (repeat' (first | (with_reducible first | exact True.intro | refine And.intro ?_ ?_ | refine aBl ?_ | (refine aS 12 [39, 38, 40] ?_; intro K hK)) | ((with_reducible first | refine aGo ?_); simp only [hw, hq, go_sem]) | ((with_reducible refine aCd ?_ ?_ (fun hb => ?_) (fun hb => ?_)); (iterate 2 simp only [hw, hq, go_sem]); all_goals (simp only [hw, hq, go_sem] at hb; try simp only [bls] at hb)) | ((iterate 6 try ((fail_if_success with_reducible refine hK _ ?_ ?_ ?_); clear hK K)); with_reducible refine hK _ ?_ ?_ ?_; rotate_left; (focus (simp only [hw, hq, go_sem]; exact rfl)); clear hK K) | ((first | (with_reducible first | refine xA ?_ | refine xD ?_ | refine xO ?_ | refine xR ?_ | refine xG ?_ | refine xH ?_ | refine xM ?_) | ((with_reducible refine gA ?_); refine xA ?_) | ((with_reducible refine gD ?_); refine xD ?_) | ((with_reducible refine gG ?_); refine xG ?_)); simp only [hw, hq, go_sem]) | (with_reducible refine aGs (fun hg0 => ?_) (fun hg0 => ?_) <;> first | (with_reducible first | exact aF1 hg0 | exact aF2 hg0) | (simp only [hg0, hw, hq, go_sem])) | (with_reducible refine aNk ?_; intro bnil hnil; try simp only []) | exact aZ | fail))
      all_goals first | omega | skip
    | false =>
     rw [hcb] at hct
     rw [hcb, if_neg (by decide)] at hst
     have hL2 := fun σ' hs => hL σ' (k + 1, some ⟨s, ⟨facK n.init.length s, -1⟩⟩) ⟨by simp only; omega, hst⟩ hs (by simp only; omega)
     simp only [optD, Stp.d] at hL2
     clear hL
     cases o
     all_goals
      simp only [optD, Stp.d] at hL2 ⊢
      (simp only [go_sem] at hL2 ⊢)
      (repeat' (first | (with_reducible first | exact True.intro | refine And.intro ?_ ?_ | refine aBl ?_ | (refine aS 12 [39, 38, 40] ?_; intro K hK)) | ((with_reducible first | refine aGo ?_); simp only [hw, hq, go_sem]) | ((with_reducible refine aCd ?_ ?_ (fun hb => ?_) (fun hb => ?_)); (iterate 2 simp only [hw, hq, go_sem]); all_goals (simp only [hw, hq, go_sem] at hb; try simp only [bls] at hb)) | ((iterate 6 try ((fail_if_success with_reducible refine hK _ ?_ ?_ ?_); clear hK K)); with_reducible refine hK _ ?_ ?_ ?_; rotate_left; (focus (simp only [hw, hq, go_sem]; exact rfl)); clear hK K) | ((first | (with_reducible first | refine xA ?_ | refine xD ?_ | refine xO ?_ | refine xR ?_ | refine xG ?_ | refine xH ?_ | refine xM ?_) | ((with_reducible refine gA ?_); refine xA ?_) | ((with_reducible refine gD ?_); refine xD ?_) | ((with_reducible refine gG ?_); refine xG ?_)); simp only [hw, hq, go_sem]) | (with_reducible refine aGs (fun hg0 => ?_) (fun hg0 => ?_) <;> first | (with_reducible first | exact aF1 hg0 | exact aF2 hg0) | (simp only [hg0, hw, hq, go_sem])) | (with_reducible refine aNk ?_; intro bnil hnil; try simp only []) | exact aZ | fail))
      all_goals first | omega | skip
      exact hL2 _ (by (simp only [SubF, go_sem]; (try simp only [go_sem]); repeat' (first | exact True.intro | with_reducible refine And.intro ?_ ?_ | rfl | omega)))
   ·rw [drop_end _ k (by omega), List.find?_nil] at hnx
    rw [hnx] at hR
    simp only [stpNo_d] at hR
    subst hR
    cases o
    all_goals
     simp only [optD, Stp.d] at hL ⊢
     (simp only [go_sem] at hL ⊢)
     (repeat' (first | (with_reducible first | exact True.intro | refine And.intro ?_ ?_ | refine aBl ?_ | (refine aS 12 [39, 38, 40] ?_; intro K hK)) | ((with_reducible first | refine aGo ?_); simp only [go_sem]) | ((with_reducible refine aCd ?_ ?_ (fun hb => ?_) (fun hb => ?_)); (iterate 2 simp only [go_sem]); all_goals (simp only [go_sem] at hb; try simp only [bls] at hb)) | ((iterate 6 try ((fail_if_success with_reducible refine hK _ ?_ ?_ ?_); clear hK K)); with_reducible refine hK _ ?_ ?_ ?_; rotate_left; (focus (simp only [go_sem]; exact rfl)); clear hK K) | (with_reducible refine aGs (fun hg0 => ?_) (fun hg0 => ?_) <;> first | (with_reducible first | exact aF1 hg0 | exact aF2 hg0) | (simp only [hg0, go_sem])) | (with_reducible refine aNk ?_; intro bnil hnil; try simp only []) | exact aZ | fail))
     all_goals first | omega | skip
 ·rw [nxR, if_pos hE]
  simp only [stpNo_d]
  simp only [Net.d] at h1
  (refine ACalls.of_body Ty_ok mixed Tryz.func12 rfl (by kernel_rfl) Tryz.ntmps12 (by simp) (congrArg Array.toList Tryz.results12) ?_)
  simp only [slotsOf, Net.d]
  (repeat' (first | (with_reducible first | exact True.intro | refine And.intro ?_ ?_ | refine aBl ?_ | (refine aS 12 [39, 38, 40] ?_; intro K hK)) | ((with_reducible first | refine aGo ?_); simp only [go_sem]) | ((with_reducible refine aCd ?_ ?_ (fun hb => ?_) (fun hb => ?_)); (iterate 2 simp only [go_sem]); all_goals (simp only [go_sem] at hb; try simp only [bls] at hb)) | ((iterate 6 try ((fail_if_success with_reducible refine hK _ ?_ ?_ ?_); clear hK K)); with_reducible refine hK _ ?_ ?_ ?_; rotate_left; (focus (simp only [go_sem]; exact rfl)); clear hK K) | ((first | (with_reducible first | refine xA ?_ | refine xD ?_ | refine xO ?_ | refine xR ?_ | refine xG ?_ | refine xH ?_ | refine xM ?_) | ((with_reducible refine gA ?_); refine xA ?_) | ((with_reducible refine gD ?_); refine xD ?_) | ((with_reducible refine gG ?_); refine xG ?_)); simp only [go_sem]) | (with_reducible refine aGs (fun hg0 => ?_) (fun hg0 => ?_) <;> first | (with_reducible first | exact aF1 hg0 | exact aF2 hg0) | (simp only [hg0, go_sem])) | (with_reducible refine aNk ?_; intro bnil hnil; try simp only []) | exact aZ | fail))
  all_goals first | omega | skip
end Go.Proofs.YtlpllbbjmbbfnaaGreatDoor
