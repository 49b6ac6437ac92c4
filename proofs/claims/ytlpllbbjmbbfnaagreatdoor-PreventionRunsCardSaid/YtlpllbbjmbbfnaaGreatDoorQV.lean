/-
 Chapter 51: the statement PreventionRuns.
-/
import Derived.Test.YtlpllbbjmbbfnaaGreatDoorQS
set_option linter.unusedSimpArgs false
set_option linter.unusedVariables false
namespace Go.Proofs.YtlpllbbjmbbfnaaGreatDoor
open Go.Eng Go.RowKit
def u8s (l : List Int) : List (List D) := l.map fun z => [.int .u8 z]
theorem u8s_length (l : List Int) : (u8s l).length = l.length := by simp [u8s]
theorem u8s_getD (xs : List Int) (k : Nat) : (u8s xs).getD k [.int .u8 0] = [.int .u8 (xs.getD k 0)] := by
 simp only [u8s, List.getD, List.getElem?_map]
 cases xs[k]? <;> rfl
theorem u8s_at {l : List Int} {k : Nat} (h : k < l.length) : (u8s l).getD k [] = [.int .u8 (l.getD k 0)] := by
 simp [u8s, List.getD, List.getElem?_eq_getElem h]
theorem u8s_sz (xs : List Int) : (∀ r : List D, r ∈ u8s xs → r.length = 1) ↔ True := ⟨fun _ => trivial, fun _ r hr => by obtain ⟨z, _, rfl⟩ := List.mem_map.1 hr; rfl⟩
attribute [go_sem] u8s_length u8s_getD u8s_sz
theorem sumTake_bound {a : List Int} (ha : ∀ x ∈ a, 0 ≤ x ∧ x ≤ 65536) (s : List Int) (hs : ∀ y ∈ s, 0 ≤ y ∧ y < a.length) : ∀ j, j ≤ s.length → 0 ≤ sumAt a (s.take j) ∧ sumAt a (s.take j) ≤ 65536 * j
 | 0, _ => by simp [sumAt]
 | j + 1, h => by
  have h1 := sumTake_bound ha s hs j (by omega)
  have h2 := hs _ (getD_mem s j 0 (by omega))
  have h3 := ha _ (getD_mem a (s.getD j 0).toNat 0 (by omega))
  rw [sumAt_take a s j (by omega)]
  omega
set_option maxRecDepth 100000 in
set_option maxHeartbeats 64000000 in
theorem PreventionRuns_c (s : Nat → Int) (hs : Bytes s) (b : Bool) (q : Nat) (hq : q < 65536) (l : List Int) (hl : ∀ x ∈ l, 0 ≤ x ∧ x ≤ 255) (hln : l.length ≤ 9223372036854775807) : ACalls Tryz.prog 4 [.agg (bytesD 37 s ++ [.bool b, .int .u16 q]), .one (.list (u8s l))] (.one (.bool true)) [] := by
 have hKn := known_c
 have hT := task_ok s hs b q
 have hO := open_c s hs b q hq (by have := hT.ok.trs; omega)
 generalize taskU s b q = u at *
 generalize chooseN s b = n at *
 have hok := hT.ok
 have hi := hok.init
 have hul := hT.len
 have hF := fair_c n hok.fits hT.ne
 have hP := Prevent_c n u hok.fits (fun _ => hT.ne) (by omega)
 have e : prO n u = prevR n u := by rw [prO, if_neg (by rw [hT.chk]; decide)]
 rw [e] at hP
 have hsm := prevR_small u (netE_of hok)
 have hpl := prevF_len (u := u) (11 - n.init.length) [] n
 have hper := fun e => prevR_errs (n := n) (u := u) (e := e) (netE_of hok)
 have hfit := fun st m => prevF_ok hT.pos (11 - n.init.length) [] n (st' := st) (m' := m) (Fit.nil n.init hok rfl fun x hx => (hok.tok x hx).1)
 have htl := task_len s [.bool b, .int .u16 q]
 simp only [List.length_cons, List.length_nil, Nat.reduceAdd] at htl
 simp only [Net.d] at hO hF hP
 by_cases h10 : l.length ≤ 10
 case neg =>
  (refine ACalls.of_body Ty_ok mixed Tryz.func4 rfl (by kernel_rfl) Tryz.ntmps4 (by simp) (congrArg Array.toList Tryz.results4) ?_)
  simp only [slotsOf]
  (repeat' (first | (with_reducible first | exact True.intro | refine And.intro ?_ ?_ | refine aBl ?_ | (refine aS 27 [] ?_; intro K hK)) | ((with_reducible first | refine aGo ?_ | refine rP Ty_ok mixed 16 [1, 2] [.mid [pe 0, pe 3, pe 4, pe 5] 0, .one 6, .mid [pe 7, pe 8, pe 9, pe 10, pe 11] 0] ?_ | refine rP Ty_ok mixed 43 [1, 2, 6] [.mid [pe 0, pe 3, pe 4, pe 5] 0, .one 7, .mid [pe 8, pe 9, pe 10, pe 11, pe 12, pe 13, pe 14] 0] ?_); simp only [htl, go_sem]) | ((with_reducible refine aCd ?_ ?_ (fun hb => ?_) (fun hb => ?_)); (iterate 2 simp only [htl, go_sem]); all_goals (simp only [htl, go_sem] at hb; try simp only [bls] at hb)) | ((iterate 6 try ((fail_if_success with_reducible refine hK _ ?_ ?_ ?_); clear hK K)); with_reducible refine hK _ ?_ ?_ ?_; rotate_left; (focus (simp only [htl, go_sem]; exact rfl)); clear hK K) | ((first | (with_reducible first | refine xA ?_ | refine xD ?_ | refine xO ?_ | refine xR ?_ | refine xG ?_ | refine xH ?_ | refine xM ?_) | ((with_reducible refine gA ?_); refine xA ?_) | ((with_reducible refine gD ?_); refine xD ?_) | ((with_reducible refine gG ?_); refine xG ?_)); simp only [htl, go_sem]) | (with_reducible refine aGs (fun hg0 => ?_) (fun hg0 => ?_) <;> first | (with_reducible first | exact aF1 hg0 | exact aF2 hg0) | (simp only [hg0, htl, go_sem])) | (with_reducible refine aNk ?_; intro bnil hnil; try simp only []) | exact aZ | fail))
  all_goals first | omega | skip
 cases hfb : fairB n with
 | false =>
  rw [hfb] at hF
  (refine ACalls.of_body Ty_ok mixed Tryz.func4 rfl (by kernel_rfl) Tryz.ntmps4 (by simp) (congrArg Array.toList Tryz.results4) ?_)
  simp only [slotsOf]
  (repeat' (first | (with_reducible first | exact True.intro | refine And.intro ?_ ?_ | refine aBl ?_ | (refine aS 27 [] ?_; intro K hK)) | ((with_reducible first | refine aGo ?_ | refine rP Ty_ok mixed 16 [1, 2] [.mid [pe 0, pe 3, pe 4, pe 5] 0, .one 6, .mid [pe 7, pe 8, pe 9, pe 10, pe 11] 0] ?_ | refine rP Ty_ok mixed 43 [1, 2, 6] [.mid [pe 0, pe 3, pe 4, pe 5] 0, .one 7, .mid [pe 8, pe 9, pe 10, pe 11, pe 12, pe 13, pe 14] 0] ?_); simp only [htl, go_sem]) | ((with_reducible refine aCd ?_ ?_ (fun hb => ?_) (fun hb => ?_)); (iterate 2 simp only [htl, go_sem]); all_goals (simp only [htl, go_sem] at hb; try simp only [bls] at hb)) | ((iterate 6 try ((fail_if_success with_reducible refine hK _ ?_ ?_ ?_); clear hK K)); with_reducible refine hK _ ?_ ?_ ?_; rotate_left; (focus (simp only [htl, go_sem]; exact rfl)); clear hK K) | ((first | (with_reducible first | refine xA ?_ | refine xD ?_ | refine xO ?_ | refine xR ?_ | refine xG ?_ | refine xH ?_ | refine xM ?_) | ((with_reducible refine gA ?_); refine xA ?_) | ((with_reducible refine gD ?_); refine xD ?_) | ((with_reducible refine gG ?_); refine xG ?_)); simp only [htl, go_sem]) | (with_reducible refine aGs (fun hg0 => ?_) (fun hg0 => ?_) <;> first | (with_reducible first | exact aF1 hg0 | exact aF2 hg0) | (simp only [hg0, htl, go_sem])) | (with_reducible refine aNk ?_; intro bnil hnil; try simp only []) | exact aZ | fail))
  all_goals first | omega | skip
 | true =>
  rw [hfb] at hF
  cases hR : prevR n u with
  | err e =>
   have h3 := hper e hR
   rw [hR] at hP
   simp only [pvR, res0] at hP
   (refine ACalls.of_body Ty_ok mixed Tryz.func4 rfl (by kernel_rfl) Tryz.ntmps4 (by simp) (congrArg Array.toList Tryz.results4) ?_)
   simp only [slotsOf]
   (repeat' (first | (with_reducible first | exact True.intro | refine And.intro ?_ ?_ | refine aBl ?_ | (refine aS 27 [] ?_; intro K hK)) | ((with_reducible first | refine aGo ?_ | refine rP Ty_ok mixed 16 [1, 2] [.mid [pe 0, pe 3, pe 4, pe 5] 0, .one 6, .mid [pe 7, pe 8, pe 9, pe 10, pe 11] 0] ?_ | refine rP Ty_ok mixed 43 [1, 2, 6] [.mid [pe 0, pe 3, pe 4, pe 5] 0, .one 7, .mid [pe 8, pe 9, pe 10, pe 11, pe 12, pe 13, pe 14] 0] ?_); simp only [htl, go_sem]) | ((with_reducible refine aCd ?_ ?_ (fun hb => ?_) (fun hb => ?_)); (iterate 2 simp only [htl, go_sem]); all_goals (simp only [htl, go_sem] at hb; try simp only [bls] at hb)) | ((iterate 6 try ((fail_if_success with_reducible refine hK _ ?_ ?_ ?_); clear hK K)); with_reducible refine hK _ ?_ ?_ ?_; rotate_left; (focus (simp only [htl, go_sem]; exact rfl)); clear hK K) | ((first | (with_reducible first | refine xA ?_ | refine xD ?_ | refine xO ?_ | refine xR ?_ | refine xG ?_ | refine xH ?_ | refine xM ?_) | ((with_reducible refine gA ?_); refine xA ?_) | ((with_reducible refine gD ?_); refine xD ?_) | ((with_reducible refine gG ?_); refine xG ?_)); simp only [htl, go_sem]) | (with_reducible refine aGs (fun hg0 => ?_) (fun hg0 => ?_) <;> first | (with_reducible first | exact aF1 hg0 | exact aF2 hg0) | (simp only [hg0, htl, go_sem])) | (with_reducible refine aNk ?_; intro bnil hnil; try simp only []) | exact aZ | fail))
   all_goals first | omega | skip
  | dead st m run =>
   rw [hR] at hP
   simp only [pvR, res0] at hP
   (refine ACalls.of_body Ty_ok mixed Tryz.func4 rfl (by kernel_rfl) Tryz.ntmps4 (by simp) (congrArg Array.toList Tryz.results4) ?_)
   simp only [slotsOf]
   (repeat' (first | (with_reducible first | exact True.intro | refine And.intro ?_ ?_ | refine aBl ?_ | (refine aS 27 [] ?_; intro K hK)) | ((with_reducible first | refine aGo ?_ | refine rP Ty_ok mixed 16 [1, 2] [.mid [pe 0, pe 3, pe 4, pe 5] 0, .one 6, .mid [pe 7, pe 8, pe 9, pe 10, pe 11] 0] ?_ | refine rP Ty_ok mixed 43 [1, 2, 6] [.mid [pe 0, pe 3, pe 4, pe 5] 0, .one 7, .mid [pe 8, pe 9, pe 10, pe 11, pe 12, pe 13, pe 14] 0] ?_); simp only [htl, go_sem]) | ((with_reducible refine aCd ?_ ?_ (fun hb => ?_) (fun hb => ?_)); (iterate 2 simp only [htl, go_sem]); all_goals (simp only [htl, go_sem] at hb; try simp only [bls] at hb)) | ((iterate 6 try ((fail_if_success with_reducible refine hK _ ?_ ?_ ?_); clear hK K)); with_reducible refine hK _ ?_ ?_ ?_; rotate_left; (focus (simp only [htl, go_sem]; exact rfl)); clear hK K) | ((first | (with_reducible first | refine xA ?_ | refine xD ?_ | refine xO ?_ | refine xR ?_ | refine xG ?_ | refine xH ?_ | refine xM ?_) | ((with_reducible refine gA ?_); refine xA ?_) | ((with_reducible refine gD ?_); refine xD ?_) | ((with_reducible refine gG ?_); refine xG ?_)); simp only [htl, go_sem]) | (with_reducible refine aGs (fun hg0 => ?_) (fun hg0 => ?_) <;> first | (with_reducible first | exact aF1 hg0 | exact aF2 hg0) | (simp only [hg0, htl, go_sem])) | (with_reducible refine aNk ?_; intro bnil hnil; try simp only []) | exact aZ | fail))
   all_goals first | omega | skip
  | ok st m =>
   rw [hR] at hP hsm
   obtain ⟨hm, hsm⟩ := hsm
   have hls := hpl.1 st m hR
   simp only [List.length_nil, Nat.zero_add] at hls
   obtain ⟨hFit, _, nd, ed, hbm, hdm⟩ := hfit st m hR
   have hW0 := onWay_init hFit hbm hdm
   clear hfit hpl hper hbm hdm nd ed
   have hokm := netOk_of hm
   have him := hokm.init
   have htm := hokm.trs
   have htn := hok.trs
   simp only [pvR, resD] at hP
   (refine ACalls.of_body Ty_ok mixed Tryz.func4 rfl (by kernel_rfl) Tryz.ntmps4 (by simp) (congrArg Array.toList Tryz.results4) ?_)
   simp only [slotsOf]
   (repeat' (first | (with_reducible first | exact True.intro | refine And.intro ?_ ?_ | refine aBl ?_ | (refine aS 27 [] ?_; intro K hK)) | ((with_reducible first | refine aGo ?_ | refine rP Ty_ok mixed 16 [1, 2] [.mid [pe 0, pe 3, pe 4, pe 5] 0, .one 6, .mid [pe 7, pe 8, pe 9, pe 10, pe 11] 0] ?_ | refine rP Ty_ok mixed 43 [1, 2, 6] [.mid [pe 0, pe 3, pe 4, pe 5] 0, .one 7, .mid [pe 8, pe 9, pe 10, pe 11, pe 12, pe 13, pe 14] 0] ?_); simp only [htl, go_sem]) | ((with_reducible refine aCd ?_ ?_ (fun hb => ?_) (fun hb => ?_)); (iterate 2 simp only [htl, go_sem]); all_goals (simp only [htl, go_sem] at hb; try simp only [bls] at hb)) | ((iterate 6 try ((fail_if_success with_reducible refine hK _ ?_ ?_ ?_); clear hK K)); with_reducible refine hK _ ?_ ?_ ?_; rotate_left; (focus (simp only [htl, go_sem]; exact rfl)); clear hK K) | ((first | (with_reducible first | refine xA ?_ | refine xD ?_ | refine xO ?_ | refine xR ?_ | refine xG ?_ | refine xH ?_ | refine xM ?_) | ((with_reducible refine gA ?_); refine xA ?_) | ((with_reducible refine gD ?_); refine xD ?_) | ((with_reducible refine gG ?_); refine xG ?_)); simp only [htl, go_sem]) | (with_reducible refine aGs (fun hg0 => ?_) (fun hg0 => ?_) <;> first | (with_reducible first | exact aF1 hg0 | exact aF2 hg0) | (simp only [hg0, htl, go_sem])) | (with_reducible refine aNk ?_; intro bnil hnil; try simp only []) | exact aZ | fail))
   all_goals first | omega | skip
   refine awp_loop _ (by simp only [go_sem]; rfl) (Nat × List Int) (fun x => x.1 ≤ l.length ∧ OnWay n u st m x.2) (fun x => [(9, .one (.list (ints x.2))), (10, .one (.int .i64 x.1))]) (fun _ H => H) (fun x => l.length + 1 - x.1) (0, m.init) ⟨by omega, hW0⟩ ?_ ?_
   ·(simp only [SubF, go_sem]; (try simp only [go_sem]); repeat' (first | exact True.intro | with_reducible refine And.intro ?_ ?_ | rfl | omega))
   rintro ⟨i, a⟩ ⟨hi', hW⟩ L hL
   simp only at hi' hW hL ⊢
   obtain ⟨_, hal, hil, htr, hpos⟩ := hW.fit.facts
   obtain ⟨hma, hmn⟩ := hW.marks hok
   have hE1 := Enabled_c m a hokm.fits (by omega)
   have hE2 := Enabled_c n (a.take n.init.length) hok.fits (by rw [List.length_take]; omega)
   rw [enabledL, if_pos hma, hma] at hE1
   rw [enabledL, if_pos hmn, hmn] at hE2
   have hsub := hW.fit.sub
   have hunc := hW.fit.unc
   have htok := hW.fit.tok
   have hlive := hW.live
   have hfires := fun t ht => hW.fires hok (t := t) ht
   have hstep := fun t ht => (hW.step (t := t) ht).1
   have hbd := fun (x : Stp) (hx : x ∈ st) => sumTake_bound hW.tok x.set (htok x hx).2
   have hFi1 := fun t => Fire_c m a t hokm.fits (by omega)
   have hFi2 := fun t => Fire_c n (a.take n.init.length) t hok.fits (by rw [List.length_take]; omega)
   have hatk := hW.tok
   have hal1 := ableL_length m a m.trs.length
   have hal2 := ableL_length n (a.take n.init.length) n.trs.length
   have htk : (a.take n.init.length).length = n.init.length := by rw [List.length_take]; omega
   generalize ableL m a m.trs.length = able at *
   generalize ableL n (a.take n.init.length) n.trs.length = old at *
   have hav : 0 < able.length := by
    cases able with
    | nil => exact absurd rfl hlive
    | cons x l => simp
   simp only [Net.d] at hE1 hE2 hFi1 hFi2
   have hsum : (a.length : Int) = (n.init.length : Int) + (st.length : Int) := by omega
   have hvp : ¬ (able.length : Int) = 0 := by omega
   have hvp' : ((able.length : Int) == 0) = false := by simpa using hvp
   (simp only [go_sem] at hL ⊢)
   (repeat' (first | (with_reducible first | exact True.intro | refine And.intro ?_ ?_ | refine aBl ?_ | (refine aS 27 [] ?_; intro K hK)) | ((with_reducible first | refine aGo ?_ | refine rP Ty_ok mixed 16 [1, 2] [.mid [pe 0, pe 3, pe 4, pe 5] 0, .one 6, .mid [pe 7, pe 8, pe 9, pe 10, pe 11] 0] ?_ | refine rP Ty_ok mixed 43 [1, 2, 6] [.mid [pe 0, pe 3, pe 4, pe 5] 0, .one 7, .mid [pe 8, pe 9, pe 10, pe 11, pe 12, pe 13, pe 14] 0] ?_); simp only [hsum, hvp', go_sem]) | ((with_reducible refine aCd ?_ ?_ (fun hb => ?_) (fun hb => ?_)); (iterate 2 simp only [hsum, hvp', go_sem]); all_goals (simp only [hsum, hvp', go_sem] at hb; try simp only [bls] at hb)) | ((iterate 6 try ((fail_if_success with_reducible refine hK _ ?_ ?_ ?_); clear hK K)); with_reducible refine hK _ ?_ ?_ ?_; rotate_left; (focus (simp only [hsum, hvp', go_sem]; exact rfl)); clear hK K) | ((first | (with_reducible first | refine xA ?_ | refine xD ?_ | refine xO ?_ | refine xR ?_ | refine xG ?_ | refine xH ?_ | refine xM ?_) | ((with_reducible refine gA ?_); refine xA ?_) | ((with_reducible refine gD ?_); refine xD ?_) | ((with_reducible refine gG ?_); refine xG ?_)); simp only [hsum, hvp', go_sem]) | (with_reducible refine aGs (fun hg0 => ?_) (fun hg0 => ?_) <;> first | (with_reducible first | exact aF1 hg0 | exact aF2 hg0) | (simp only [hg0, hsum, hvp', go_sem])) | (with_reducible refine aNk ?_; intro bnil hnil; try simp only []) | exact aZ | fail))
   all_goals first | omega | skip
   have hO := hL
   clear hL
   refine awp_loop _ (by simp only [go_sem]; rfl) Nat (fun j => j ≤ able.length) (fun j => [(15, .one (.int .i64 j))]) (fun _ H => H) (fun j => able.length - j) 0 (Nat.zero_le _) ?_ ?_
   ·(simp only [SubF, go_sem]; (try simp only [go_sem]); repeat' (first | exact True.intro | with_reducible refine And.intro ?_ ?_ | rfl | omega))
   rintro j hj L2 hL2
   by_cases hlj : j < able.length
   ·have hh := lHas_c old (able.getD j 0) (by omega)
    rw [decide_eq_true (hsub _ (getD_mem able j 0 hlj))] at hh
    (simp only [go_sem] at hL2 ⊢)
    (repeat' (first | (with_reducible first | exact True.intro | refine And.intro ?_ ?_ | refine aBl ?_ | (refine aS 27 [] ?_; intro K hK)) | ((with_reducible first | refine aGo ?_ | refine rP Ty_ok mixed 16 [1, 2] [.mid [pe 0, pe 3, pe 4, pe 5] 0, .one 6, .mid [pe 7, pe 8, pe 9, pe 10, pe 11] 0] ?_ | refine rP Ty_ok mixed 43 [1, 2, 6] [.mid [pe 0, pe 3, pe 4, pe 5] 0, .one 7, .mid [pe 8, pe 9, pe 10, pe 11, pe 12, pe 13, pe 14] 0] ?_); simp only [go_sem]) | ((with_reducible refine aCd ?_ ?_ (fun hb => ?_) (fun hb => ?_)); (iterate 2 simp only [go_sem]); all_goals (simp only [go_sem] at hb; try simp only [bls] at hb)) | ((iterate 6 try ((fail_if_success with_reducible refine hK _ ?_ ?_ ?_); clear hK K)); with_reducible refine hK _ ?_ ?_ ?_; rotate_left; (focus (simp only [go_sem]; exact rfl)); clear hK K) | ((first | (with_reducible first | refine xA ?_ | refine xD ?_ | refine xO ?_ | refine xR ?_ | refine xG ?_ | refine xH ?_ | refine xM ?_) | ((with_reducible refine gA ?_); refine xA ?_) | ((with_reducible refine gD ?_); refine xD ?_) | ((with_reducible refine gG ?_); refine xG ?_)); simp only [go_sem]) | (with_reducible refine aGs (fun hg0 => ?_) (fun hg0 => ?_) <;> first | (with_reducible first | exact aF1 hg0 | exact aF2 hg0) | (simp only [hg0, go_sem])) | (with_reducible refine aNk ?_; intro bnil hnil; try simp only []) | exact aZ | fail))
    all_goals first | omega | skip
    exact hL2 _ (j + 1) (by omega) (by (simp only [SubF, go_sem]; (try simp only [go_sem]); repeat' (first | exact True.intro | with_reducible refine And.intro ?_ ?_ | rfl | omega))) (by omega)
   (simp only [go_sem])
   (repeat' (first | (with_reducible first | exact True.intro | refine And.intro ?_ ?_ | refine aBl ?_ | (refine aS 27 [] ?_; intro K hK)) | ((with_reducible first | refine aGo ?_ | refine rP Ty_ok mixed 16 [1, 2] [.mid [pe 0, pe 3, pe 4, pe 5] 0, .one 6, .mid [pe 7, pe 8, pe 9, pe 10, pe 11] 0] ?_ | refine rP Ty_ok mixed 43 [1, 2, 6] [.mid [pe 0, pe 3, pe 4, pe 5] 0, .one 7, .mid [pe 8, pe 9, pe 10, pe 11, pe 12, pe 13, pe 14] 0] ?_); simp only [go_sem]) | ((with_reducible refine aCd ?_ ?_ (fun hb => ?_) (fun hb => ?_)); (iterate 2 simp only [go_sem]); all_goals (simp only [go_sem] at hb; try simp only [bls] at hb)) | ((iterate 6 try ((fail_if_success with_reducible refine hK _ ?_ ?_ ?_); clear hK K)); with_reducible refine hK _ ?_ ?_ ?_; rotate_left; (focus (simp only [go_sem]; exact rfl)); clear hK K) | (with_reducible refine aGs (fun hg0 => ?_) (fun hg0 => ?_) <;> first | (with_reducible first | exact aF1 hg0 | exact aF2 hg0) | (simp only [hg0, go_sem])) | (with_reducible refine aNk ?_; intro bnil hnil; try simp only []) | exact aZ | fail))
   all_goals first | omega | skip
   clear hL2
   refine awp_loop _ (by simp only [go_sem]; rfl) Nat (fun j => j ≤ old.length) (fun j => [(16, .one (.int .i64 j))]) (fun _ H => H) (fun j => old.length - j) 0 (Nat.zero_le _) ?_ ?_
   ·(simp only [SubF, go_sem]; (try simp only [go_sem]); repeat' (first | exact True.intro | with_reducible refine And.intro ?_ ?_ | rfl | omega))
   rintro j2 hj2 L3 hL3
   by_cases hlj2 : j2 < old.length
   ·have hh1 := lHas_c u (old.getD j2 0) (by omega)
    have hh2 := lHas_c able (old.getD j2 0) (by omega)
    by_cases hmu : old.getD j2 0 ∈ u
    ·rw [decide_eq_true hmu] at hh1
     rw [decide_eq_true (hunc _ hmu (getD_mem old j2 0 hlj2))] at hh2
     (simp only [go_sem] at hL3 ⊢)
     (repeat' (first | (with_reducible first | exact True.intro | refine And.intro ?_ ?_ | refine aBl ?_ | (refine aS 27 [] ?_; intro K hK)) | ((with_reducible first | refine aGo ?_ | refine rP Ty_ok mixed 16 [1, 2] [.mid [pe 0, pe 3, pe 4, pe 5] 0, .one 6, .mid [pe 7, pe 8, pe 9, pe 10, pe 11] 0] ?_ | refine rP Ty_ok mixed 43 [1, 2, 6] [.mid [pe 0, pe 3, pe 4, pe 5] 0, .one 7, .mid [pe 8, pe 9, pe 10, pe 11, pe 12, pe 13, pe 14] 0] ?_); simp only [go_sem]) | ((with_reducible refine aCd ?_ ?_ (fun hb => ?_) (fun hb => ?_)); (iterate 2 simp only [go_sem]); all_goals (simp only [go_sem] at hb; try simp only [bls] at hb)) | ((iterate 6 try ((fail_if_success with_reducible refine hK _ ?_ ?_ ?_); clear hK K)); with_reducible refine hK _ ?_ ?_ ?_; rotate_left; (focus (simp only [go_sem]; exact rfl)); clear hK K) | ((first | (with_reducible first | refine xA ?_ | refine xD ?_ | refine xO ?_ | refine xR ?_ | refine xG ?_ | refine xH ?_ | refine xM ?_) | ((with_reducible refine gA ?_); refine xA ?_) | ((with_reducible refine gD ?_); refine xD ?_) | ((with_reducible refine gG ?_); refine xG ?_)); simp only [go_sem]) | (with_reducible refine aGs (fun hg0 => ?_) (fun hg0 => ?_) <;> first | (with_reducible first | exact aF1 hg0 | exact aF2 hg0) | (simp only [hg0, go_sem])) | (with_reducible refine aNk ?_; intro bnil hnil; try simp only []) | exact aZ | fail))
     all_goals first | omega | exact fun h => ⟨h, by omega, by omega⟩ | skip
     exact hL3 _ (j2 + 1) (by omega) (by (simp only [SubF, go_sem]; (try simp only [go_sem]); repeat' (first | exact True.intro | with_reducible refine And.intro ?_ ?_ | rfl | omega))) (by omega)
    ·rw [decide_eq_false hmu] at hh1
     (simp only [go_sem] at hL3 ⊢)
     (repeat' (first | (with_reducible first | exact True.intro | refine And.intro ?_ ?_ | refine aBl ?_ | (refine aS 27 [] ?_; intro K hK)) | ((with_reducible first | refine aGo ?_ | refine rP Ty_ok mixed 16 [1, 2] [.mid [pe 0, pe 3, pe 4, pe 5] 0, .one 6, .mid [pe 7, pe 8, pe 9, pe 10, pe 11] 0] ?_ | refine rP Ty_ok mixed 43 [1, 2, 6] [.mid [pe 0, pe 3, pe 4, pe 5] 0, .one 7, .mid [pe 8, pe 9, pe 10, pe 11, pe 12, pe 13, pe 14] 0] ?_); simp only [go_sem]) | ((with_reducible refine aCd ?_ ?_ (fun hb => ?_) (fun hb => ?_)); (iterate 2 simp only [go_sem]); all_goals (simp only [go_sem] at hb; try simp only [bls] at hb)) | ((iterate 6 try ((fail_if_success with_reducible refine hK _ ?_ ?_ ?_); clear hK K)); with_reducible refine hK _ ?_ ?_ ?_; rotate_left; (focus (simp only [go_sem]; exact rfl)); clear hK K) | ((first | (with_reducible first | refine xA ?_ | refine xD ?_ | refine xO ?_ | refine xR ?_ | refine xG ?_ | refine xH ?_ | refine xM ?_) | ((with_reducible refine gA ?_); refine xA ?_) | ((with_reducible refine gD ?_); refine xD ?_) | ((with_reducible refine gG ?_); refine xG ?_)); simp only [go_sem]) | (with_reducible refine aGs (fun hg0 => ?_) (fun hg0 => ?_) <;> first | (with_reducible first | exact aF1 hg0 | exact aF2 hg0) | (simp only [hg0, go_sem])) | (with_reducible refine aNk ?_; intro bnil hnil; try simp only []) | exact aZ | fail))
     all_goals first | omega | exact fun h => ⟨h, by omega, by omega⟩ | skip
     exact hL3 _ (j2 + 1) (by omega) (by (simp only [SubF, go_sem]; (try simp only [go_sem]); repeat' (first | exact True.intro | with_reducible refine And.intro ?_ ?_ | rfl | omega))) (by omega)
   (simp only [go_sem])
   (repeat' (first | (with_reducible first | exact True.intro | refine And.intro ?_ ?_ | refine aBl ?_ | (refine aS 27 [] ?_; intro K hK)) | ((with_reducible first | refine aGo ?_ | refine rP Ty_ok mixed 16 [1, 2] [.mid [pe 0, pe 3, pe 4, pe 5] 0, .one 6, .mid [pe 7, pe 8, pe 9, pe 10, pe 11] 0] ?_ | refine rP Ty_ok mixed 43 [1, 2, 6] [.mid [pe 0, pe 3, pe 4, pe 5] 0, .one 7, .mid [pe 8, pe 9, pe 10, pe 11, pe 12, pe 13, pe 14] 0] ?_); simp only [go_sem]) | ((with_reducible refine aCd ?_ ?_ (fun hb => ?_) (fun hb => ?_)); (iterate 2 simp only [go_sem]); all_goals (simp only [go_sem] at hb; try simp only [bls] at hb)) | ((iterate 6 try ((fail_if_success with_reducible refine hK _ ?_ ?_ ?_); clear hK K)); with_reducible refine hK _ ?_ ?_ ?_; rotate_left; (focus (simp only [go_sem]; exact rfl)); clear hK K) | (with_reducible refine aGs (fun hg0 => ?_) (fun hg0 => ?_) <;> first | (with_reducible first | exact aF1 hg0 | exact aF2 hg0) | (simp only [hg0, go_sem])) | (with_reducible refine aNk ?_; intro bnil hnil; try simp only []) | exact aZ | fail))
   all_goals first | omega | skip
   clear hL3
   refine awp_loop _ (by simp only [go_sem]; rfl) Nat (fun j => j ≤ st.length) (fun j => [(17, .one (.int .i64 j))]) (fun _ H => H) (fun j => st.length - j) 0 (Nat.zero_le _) ?_ ?_
   ·(simp only [SubF, go_sem]; (try simp only [go_sem]); repeat' (first | exact True.intro | with_reducible refine And.intro ?_ ?_ | rfl | omega))
   rintro j3 hj3 L4 hL4
   have hq3 : ((j3 : Nat) : Int).toNat = j3 := by omega
   by_cases hlj3 : j3 < st.length
   ·have hg := stp_get hlj3 [.nil, .nil, .int .i64 0]
    have hmem := getD_mem st j3 Stp.no hlj3
    have hx1 := htok _ hmem
    have hx2 := hbd _ hmem
    have hx3 := (hsm _ hmem).set
    generalize st.getD j3 Stp.no = x at *
    (simp only [go_sem])
    (repeat' (first | (with_reducible first | exact True.intro | refine And.intro ?_ ?_ | refine aBl ?_ | (refine aS 27 [] ?_; intro K hK)) | ((with_reducible first | refine aGo ?_ | refine rP Ty_ok mixed 16 [1, 2] [.mid [pe 0, pe 3, pe 4, pe 5] 0, .one 6, .mid [pe 7, pe 8, pe 9, pe 10, pe 11] 0] ?_ | refine rP Ty_ok mixed 43 [1, 2, 6] [.mid [pe 0, pe 3, pe 4, pe 5] 0, .one 7, .mid [pe 8, pe 9, pe 10, pe 11, pe 12, pe 13, pe 14] 0] ?_); simp only [hg, hq3, go_sem]) | ((with_reducible refine aCd ?_ ?_ (fun hb => ?_) (fun hb => ?_)); (iterate 2 simp only [hg, hq3, go_sem]); all_goals (simp only [hg, hq3, go_sem] at hb; try simp only [bls] at hb)) | ((iterate 6 try ((fail_if_success with_reducible refine hK _ ?_ ?_ ?_); clear hK K)); with_reducible refine hK _ ?_ ?_ ?_; rotate_left; (focus (simp only [hg, hq3, go_sem]; exact rfl)); clear hK K) | (with_reducible refine aGs (fun hg0 => ?_) (fun hg0 => ?_) <;> first | (with_reducible first | exact aF1 hg0 | exact aF2 hg0) | (simp only [hg0, hg, hq3, go_sem])) | (with_reducible refine aNk ?_; intro bnil hnil; try simp only []) | exact aZ | fail))
    all_goals first | omega | skip
    refine awp_loop _ (by simp only [go_sem]; rfl) Nat (fun p => p ≤ x.set.length) (fun p => [(18, .one (.int .i64 (sumAt a (x.set.take p)))), (19, .one (.int .i64 p))]) (fun _ H => H) (fun p => x.set.length - p) 0 (Nat.zero_le _) ?_ ?_
    ·have z0 : sumAt a (x.set.take 0) = 0 := rfl
     rw [z0]
     (simp only [SubF, go_sem]; (try simp only [go_sem]); repeat' (first | exact True.intro | with_reducible refine And.intro ?_ ?_ | rfl | omega))
    rintro p hp L5 hL5
    by_cases hlp : p < x.set.length
    ·have y1 := hx1.2 _ (getD_mem x.set p 0 hlp)
     have y2 := hx2 p (by omega)
     have y3 := hx2 (p + 1) (by omega)
     have y4 := sumAt_take a x.set p hlp
     have y5 := ints_at (l := a) (k := (x.set.getD p 0).toNat) (by omega)
     (simp only [go_sem] at hL5 ⊢)
     (repeat' (first | (with_reducible first | exact True.intro | refine And.intro ?_ ?_ | refine aBl ?_ | (refine aS 27 [] ?_; intro K hK)) | ((with_reducible first | refine aGo ?_ | refine rP Ty_ok mixed 16 [1, 2] [.mid [pe 0, pe 3, pe 4, pe 5] 0, .one 6, .mid [pe 7, pe 8, pe 9, pe 10, pe 11] 0] ?_ | refine rP Ty_ok mixed 43 [1, 2, 6] [.mid [pe 0, pe 3, pe 4, pe 5] 0, .one 7, .mid [pe 8, pe 9, pe 10, pe 11, pe 12, pe 13, pe 14] 0] ?_); simp only [hg, hq3, y5, go_sem]) | ((with_reducible refine aCd ?_ ?_ (fun hb => ?_) (fun hb => ?_)); (iterate 2 simp only [hg, hq3, y5, go_sem]); all_goals (simp only [hg, hq3, y5, go_sem] at hb; try simp only [bls] at hb)) | ((iterate 6 try ((fail_if_success with_reducible refine hK _ ?_ ?_ ?_); clear hK K)); with_reducible refine hK _ ?_ ?_ ?_; rotate_left; (focus (simp only [hg, hq3, y5, go_sem]; exact rfl)); clear hK K) | (with_reducible refine aGs (fun hg0 => ?_) (fun hg0 => ?_) <;> first | (with_reducible first | exact aF1 hg0 | exact aF2 hg0) | (simp only [hg0, hg, hq3, y5, go_sem])) | (with_reducible refine aNk ?_; intro bnil hnil; try simp only []) | exact aZ | fail))
     all_goals first | omega | skip
     refine hL5 _ (p + 1) (by omega) ?_ (by omega)
     rw [y4]
     (simp only [SubF, go_sem]; (try simp only [go_sem]); repeat' (first | exact True.intro | with_reducible refine And.intro ?_ ?_ | rfl | omega))
    ·have hpe : p = x.set.length := by omega
     subst hpe
     rw [List.take_length]
     have y6 : ¬ sumAt a x.set = 0 := by omega
     (simp only [go_sem] at hL4 ⊢)
     (repeat' (first | (with_reducible first | exact True.intro | refine And.intro ?_ ?_ | refine aBl ?_ | (refine aS 27 [] ?_; intro K hK)) | ((with_reducible first | refine aGo ?_ | refine rP Ty_ok mixed 16 [1, 2] [.mid [pe 0, pe 3, pe 4, pe 5] 0, .one 6, .mid [pe 7, pe 8, pe 9, pe 10, pe 11] 0] ?_ | refine rP Ty_ok mixed 43 [1, 2, 6] [.mid [pe 0, pe 3, pe 4, pe 5] 0, .one 7, .mid [pe 8, pe 9, pe 10, pe 11, pe 12, pe 13, pe 14] 0] ?_); simp only [hg, hq3, go_sem]) | ((with_reducible refine aCd ?_ ?_ (fun hb => ?_) (fun hb => ?_)); (iterate 2 simp only [hg, hq3, go_sem]); all_goals (simp only [hg, hq3, go_sem] at hb; try simp only [bls] at hb)) | ((iterate 6 try ((fail_if_success with_reducible refine hK _ ?_ ?_ ?_); clear hK K)); with_reducible refine hK _ ?_ ?_ ?_; rotate_left; (focus (simp only [hg, hq3, go_sem]; exact rfl)); clear hK K) | (with_reducible refine aGs (fun hg0 => ?_) (fun hg0 => ?_) <;> first | (with_reducible first | exact aF1 hg0 | exact aF2 hg0) | (simp only [hg0, hg, hq3, go_sem])) | (with_reducible refine aNk ?_; intro bnil hnil; try simp only []) | exact aZ | fail))
     all_goals first | omega | skip
     exact hL4 _ (j3 + 1) (by omega) (by (simp only [SubF, go_sem]; (try simp only [go_sem]); repeat' (first | exact True.intro | with_reducible refine And.intro ?_ ?_ | rfl | omega))) (by omega)
   clear hL4
   by_cases hend : i = l.length
   ·subst hend
    (simp only [go_sem])
    (repeat' (first | (with_reducible first | exact True.intro | refine And.intro ?_ ?_ | refine aBl ?_ | (refine aS 27 [] ?_; intro K hK)) | ((with_reducible first | refine aGo ?_ | refine rP Ty_ok mixed 16 [1, 2] [.mid [pe 0, pe 3, pe 4, pe 5] 0, .one 6, .mid [pe 7, pe 8, pe 9, pe 10, pe 11] 0] ?_ | refine rP Ty_ok mixed 43 [1, 2, 6] [.mid [pe 0, pe 3, pe 4, pe 5] 0, .one 7, .mid [pe 8, pe 9, pe 10, pe 11, pe 12, pe 13, pe 14] 0] ?_); simp only [go_sem]) | ((with_reducible refine aCd ?_ ?_ (fun hb => ?_) (fun hb => ?_)); (iterate 2 simp only [go_sem]); all_goals (simp only [go_sem] at hb; try simp only [bls] at hb)) | ((iterate 6 try ((fail_if_success with_reducible refine hK _ ?_ ?_ ?_); clear hK K)); with_reducible refine hK _ ?_ ?_ ?_; rotate_left; (focus (simp only [go_sem]; exact rfl)); clear hK K) | (with_reducible refine aGs (fun hg0 => ?_) (fun hg0 => ?_) <;> first | (with_reducible first | exact aF1 hg0 | exact aF2 hg0) | (simp only [hg0, go_sem])) | (with_reducible refine aNk ?_; intro bnil hnil; try simp only []) | exact aZ | fail))
    all_goals first | omega | skip
   ·have hil : i < l.length := by omega
    have hqi : ((i : Nat) : Int).toNat = i := by omega
    have hu8 := u8s_at (l := l) hil
    obtain ⟨z1, z2, z3⟩ := mod_idx (l.getD i 0) able.length (hl _ (getD_mem l i 0 hil)) hav
    have htm := getD_mem able ((l.getD i 0).tmod able.length).toNat 0 (by omega)
    generalize hteq : able.getD ((l.getD i 0).tmod able.length).toNat 0 = t at *
    obtain ⟨f1, f2⟩ := hfires t htm
    have hW2 := hstep t htm
    have hF1 := hFi1 t
    have hF2 := hFi2 t
    rw [f1] at hF1
    rw [f2] at hF2
    have hTl : (firedL (m.trs.getD t.toNat Tr.no) a).length = a.length := firedL_length _ _
    generalize firedL (m.trs.getD t.toNat Tr.no) a = T at *
    have hTt : (T.take n.init.length).length = n.init.length := by rw [List.length_take]; omega
    have hss := SameInts_c (T.take n.init.length) (T.take n.init.length) (by omega)
    rw [decide_eq_true rfl] at hss
    have hcm : ¬ (a.length : Int) < (n.init.length : Int) := by omega
    (simp only [go_sem] at hO ⊢)
    (repeat' (first | (with_reducible first | exact True.intro | refine And.intro ?_ ?_ | refine aBl ?_ | (refine aS 27 [] ?_; intro K hK)) | ((with_reducible first | refine aGo ?_ | refine rP Ty_ok mixed 16 [1, 2] [.mid [pe 0, pe 3, pe 4, pe 5] 0, .one 6, .mid [pe 7, pe 8, pe 9, pe 10, pe 11] 0] ?_ | refine rP Ty_ok mixed 43 [1, 2, 6] [.mid [pe 0, pe 3, pe 4, pe 5] 0, .one 7, .mid [pe 8, pe 9, pe 10, pe 11, pe 12, pe 13, pe 14] 0] ?_); simp only [hqi, hu8, z3, hteq, hTl, hTt, hsum, go_sem]) | ((with_reducible refine aCd ?_ ?_ (fun hb => ?_) (fun hb => ?_)); (iterate 2 simp only [hqi, hu8, z3, hteq, hTl, hTt, hsum, go_sem]); all_goals (simp only [hqi, hu8, z3, hteq, hTl, hTt, hsum, go_sem] at hb; try simp only [bls] at hb)) | ((iterate 6 try ((fail_if_success with_reducible refine hK _ ?_ ?_ ?_); clear hK K)); with_reducible refine hK _ ?_ ?_ ?_; rotate_left; (focus (simp only [hqi, hu8, z3, hteq, hTl, hTt, hsum, go_sem]; exact rfl)); clear hK K) | ((first | (with_reducible first | refine xA ?_ | refine xD ?_ | refine xO ?_ | refine xR ?_ | refine xG ?_ | refine xH ?_ | refine xM ?_) | ((with_reducible refine gA ?_); refine xA ?_) | ((with_reducible refine gD ?_); refine xD ?_) | ((with_reducible refine gG ?_); refine xG ?_)); simp only [hqi, hu8, z3, hteq, hTl, hTt, hsum, go_sem]) | (with_reducible refine aGs (fun hg0 => ?_) (fun hg0 => ?_) <;> first | (with_reducible first | exact aF1 hg0 | exact aF2 hg0) | (simp only [hg0, hqi, hu8, z3, hteq, hTl, hTt, hsum, go_sem])) | (with_reducible refine aNk ?_; intro bnil hnil; try simp only []) | exact aZ | fail))
    all_goals first | omega | exact fun h => ⟨h, by omega, by omega⟩ | skip
    exact hO _ (i + 1, T) ⟨by simp only; omega, hW2⟩ (by (simp only [SubF, go_sem]; (try simp only [go_sem]); repeat' (first | exact True.intro | with_reducible refine And.intro ?_ ?_ | rfl | omega))) (by simp only; omega)
end Go.Proofs.YtlpllbbjmbbfnaaGreatDoor
