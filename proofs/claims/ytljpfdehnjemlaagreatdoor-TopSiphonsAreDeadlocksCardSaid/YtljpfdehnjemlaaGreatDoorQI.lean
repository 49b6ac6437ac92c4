/-
 Contracts of chapter 51: prevention: its rounds, what it returns, why it fails.
-/
import Derived.Test.YtljpfdehnjemlaaGreatDoorQH
set_option linter.unusedSimpArgs false
set_option linter.unusedVariables false
namespace Go.Proofs.YtljpfdehnjemlaaGreatDoor
open Go.Eng Go.RowKit
def res0 : List D := [.list [], .list [], .list []]
def pdR : POut → AV
 | .err e => .tup [.agg res0, .one (.list []), .one (.bool false), .one (.int .i64 e)]
 | .ok st m => .tup [.agg (resD st m), .one (.list []), .one (.bool false), .one (.int .i64 0)]
 | .dead st m run => .tup [.agg (resD st m), .one (.list (ints run)), .one (.bool true), .one (.int .i64 0)]
def pvR : POut → AV
 | .err e => .tup [.agg res0, .one (.int .i64 e)]
 | .ok st m => .tup [.agg (resD st m), .one (.int .i64 0)]
 | .dead _ _ _ => .tup [.agg res0, .one (.int .i64 20)]
def exR : POut → AV
 | .err e => .tup [.one (.list []), .one (.list []), .one (.bool false), .one (.int .i64 e)]
 | .ok _ _ => .tup [.one (.list []), .one (.list []), .one (.bool false), .one (.int .i64 0)]
 | .dead st _ run => .tup [.one (.list (stpD st)), .one (.list (ints run)), .one (.bool true), .one (.int .i64 0)]
def prO (n : Net) (u : List Int) : POut := if prE n u ≠ 0 then .err (prE n u) else prevR n u
structure Rnd (n : Net) (u : List Int) (st : List Stp) (m : Net) (R : POut) : Prop where
 net : netE m = 0
 chk : prE m u = 0
 ne : m.init ≠ []
 len : m.init.length = n.init.length + st.length
 run : prevF u (11 - m.init.length) st m = R
theorem Rnd.next {n m : Net} {u s : List Int} {st : List Stp} {R : POut} (h : Rnd n u st m R) {nd : List SN} {ed : List Edg} (hb : bndF m = .inr (nd, ed)) (hd : 0 ≤ deadFrom m nd 0) (hs : nextF m u = some s) (hm : monE m (kepC m.init.length s) = 0) :
  Rnd n u (st ++ [stepOf m s]) (monNet m (kepC m.init.length s)) R := by
 have hok := netOk_of h.net
 have hi := hok.init
 have hM := (monOk_of hm).1
 have hf := hM.few
 obtain ⟨_, hu⟩ := prE_ok h.chk
 have hE : netE (monNet m (kepC m.init.length s)) = 0 := netE_of (mon_ok hM)
 refine ⟨hE, by rw [prE, if_neg (by omega), mon_len]; exact hu, by intro e; have := mon_init (n := m) (c := kepC m.init.length s); rw [e] at this; simp at this, ?_, ?_⟩
 ·rw [mon_init, h.len, List.length_append]; simp only [List.length_singleton]; omega
 ·rw [← h.run, show 11 - m.init.length = (10 - m.init.length) + 1 by omega, prevF_go hb hd hs hm, mon_init, show 11 - (m.init.length + 1) = 10 - m.init.length by omega]
set_option maxHeartbeats 16000000 in
theorem prevented_c (n : Net) (u : List Int) (hf : n.Fits) (h0 : prE n u = 0 → n.init ≠ []) (hul : u.length ≤ 1000000) : ACalls Tryz.prog 55 [.agg n.d, .one (.list (ints u))] (pdR (prO n u)) [] := by
 have h1 := prCheck_c n u hf hul
 by_cases hE : prE n u = 0
 ·obtain ⟨hn, hu⟩ := prE_ok hE
  have hok := netOk_of hn
  have hne := h0 hE
  have hi10 := hok.init
  have hr1 := RevNet_c n hf
  have hnr : netE (revN n) = 0 := netE_of (rev_ok hok)
  have hr2 := RevNet_c (revN n) (rev_ok hok).fits
  rw [rvR, if_neg (by omega)] at hr1 hr2
  rw [rev_rev] at hr2
  have hRnd : Rnd n u [] n (prO n u) := ⟨hn, hE, hne, by simp, by rw [prO, if_neg (by omega)]; rfl⟩
  generalize prO n u = R at *
  simp only [Net.d] at h1 hr1 hr2
  (refine ACalls.of_body Ty_ok mixed Tryz.func55 rfl (by kernel_rfl) Tryz.ntmps55 (by simp) (congrArg Array.toList Tryz.results55) ?_)
  simp only [slotsOf, Net.d]
  (repeat' (first | (with_reducible first | refine aBl ?_ | (refine aS 11 [] ?_; intro K hK)) | ((with_reducible refine aGo ?_); simp only [hE, go_sem]) | ((with_reducible refine aCd ?_ ?_ (fun hb => ?_) (fun hb => ?_)); (iterate 2 simp only [hE, go_sem]); all_goals (simp only [hE, go_sem] at hb; try simp only [bls] at hb)) | ((iterate 6 try ((fail_if_success with_reducible refine hK _ ?_ ?_ ?_); clear hK K)); with_reducible refine hK _ ?_ ?_ ?_; rotate_left; (focus (simp only [hE, go_sem]; exact rfl)); clear hK K) | ((with_reducible refine xA ?_); simp only [hE, go_sem]) | fail))
  all_goals first | omega | skip
  refine awp_loopT [.cell 1 0 172 3] _ (by simp only [go_sem]; rfl) (Int × List Stp × Net) (fun x => x.2.1.length ≤ 10 ∧ (x.1 ≠ 0 → R = .err x.1) ∧ (x.1 = 0 → Rnd n u x.2.1 x.2.2 R)) (fun x => [(7, .one (.int .i64 x.1))]) (fun x => [.var 32 [.list (ints n.init), .list (trsD n.trs)], .var 78 [.own 3, .list (ints x.2.2.init), .list (trsD x.2.2.trs)], .gone, .row 172 3 (stpD x.2.1)]) (fun x => if x.1 = 0 then 12 - x.2.2.init.length else 0) (0, [], n) ⟨by simp, fun h => absurd rfl h, fun _ => hRnd⟩ ?_ ?_
  ·have e0 : stpD [] = [] := rfl
   rw [e0]
   (simp only [SubF, go_sem]; (try simp only [go_sem]); repeat' (first | exact True.intro | with_reducible refine And.intro ?_ ?_ | rfl | omega))
  rintro ⟨e, st, m⟩ ⟨hsl, hbad, hgo⟩ L hL
  simp only at hsl hbad hgo hL ⊢
  by_cases he : e = 0
  ·subst he
   have hr := hgo rfl
   have hok := netOk_of hr.net
   have hm10 := hok.init
   have hmt := hok.trs
   have hD := Deadlock_c m hok.fits hr.ne
   have hN := Next_c m u hok.fits (fun _ => hr.ne) hul
   have hnz := fun e => bnd_ne (n := m) (e := e)
   rw [nxR, if_neg (by rw [hr.chk]; decide)] at hN
   have hrun := hr.run
   rw [show 11 - m.init.length = (10 - m.init.length) + 1 by omega] at hrun
   cases hb : bndF m with
   | inl e' =>
    have hnz := hnz e' hb
    rw [prevF_bad hb] at hrun
    subst hrun
    rw [hb] at hD
    simp only [dlR] at hD
    simp only [Net.d] at hD
    simp only [pdR, res0]
    (simp only [go_sem] at hL ⊢)
    (repeat' (first | (with_reducible first | refine aBl ?_ | (refine aS 11 [] ?_; intro K hK)) | ((with_reducible refine aGo ?_); simp only [go_sem]) | ((with_reducible refine aCd ?_ ?_ (fun hb => ?_) (fun hb => ?_)); (iterate 2 simp only [go_sem]); all_goals (simp only [go_sem] at hb; try simp only [bls] at hb)) | ((iterate 6 try ((fail_if_success with_reducible refine hK _ ?_ ?_ ?_); clear hK K)); with_reducible refine hK _ ?_ ?_ ?_; rotate_left; (focus (simp only [go_sem]; exact rfl)); clear hK K) | ((with_reducible refine xA ?_); simp only [go_sem]) | exact aZ | fail))
    all_goals first | omega | rfl | skip
   | inr r =>
    obtain ⟨nd, ed⟩ := r
    rw [hb] at hD hN
    simp only [dlR] at hD
    by_cases hd : 0 ≤ deadFrom m nd 0
    ·rw [if_pos hd] at hD
     cases hx : nextF m u with
     | none =>
      rw [prevF_dead hb (by omega) hx] at hrun
      subst hrun
      rw [hx] at hN
      simp only [stpNo_d] at hN
      simp only [Net.d] at hD hN
      simp only [pdR, resD]
      generalize pathF nd (deadFrom m nd 0) = W at *
      (simp only [go_sem] at hL ⊢)
      (repeat' (first | (with_reducible first | refine aBl ?_ | (refine aS 11 [] ?_; intro K hK)) | ((with_reducible refine aGo ?_); simp only [go_sem]) | ((with_reducible refine aCd ?_ ?_ (fun hb => ?_) (fun hb => ?_)); (iterate 2 simp only [go_sem]); all_goals (simp only [go_sem] at hb; try simp only [bls] at hb)) | ((iterate 6 try ((fail_if_success with_reducible refine hK _ ?_ ?_ ?_); clear hK K)); with_reducible refine hK _ ?_ ?_ ?_; rotate_left; (focus (simp only [go_sem]; exact rfl)); clear hK K) | ((with_reducible refine xA ?_); simp only [go_sem]) | fail))
      all_goals first | omega | skip
     | some s =>
      rw [hx] at hN
      have hkl := facK_length m.init.length s
      have hMo := Monitor_c m (kepC m.init.length s) hok.fits (by simp only [kepC]; omega)
      by_cases hme : monE m (kepC m.init.length s) = 0
      ·have hnext := hr.next hb hd hx hme
       have hml : monL m (kepC m.init.length s) = monNet m (kepC m.init.length s) := by rw [monL, if_pos hme]
       have hil := mon_init (n := m) (c := kepC m.init.length s)
       have hl2 : (st ++ [stepOf m s]).length ≤ 10 := by
        have := hnext.len
        have := (netOk_of hnext.net).init
        rw [List.length_append] at *
        simp only [List.length_singleton] at *
        omega
       rw [hme, hml] at hMo
       have est : stepOf m s = ⟨s, kepC m.init.length s⟩ := rfl
       rw [est] at hnext hl2
       generalize monNet m (kepC m.init.length s) = m2 at *
       simp only [stepOf, Stp.d, kepC] at hN
       simp only [Net.d, Con.d, kepC] at hD hN hMo
       simp only [kepC] at hnext hl2
       generalize pathF nd (deadFrom m nd 0) = W at *
       generalize facK m.init.length s = fk at *
       (simp only [go_sem] at hL ⊢)
       (repeat' (first | (with_reducible first | refine And.intro ?_ ?_ | refine aBl ?_ | (refine aS 11 [] ?_; intro K hK)) | ((with_reducible refine aGo ?_); simp only [go_sem]) | ((with_reducible refine aCd ?_ ?_ (fun hb => ?_) (fun hb => ?_)); (iterate 2 simp only [go_sem]); all_goals (simp only [go_sem] at hb; try simp only [bls] at hb)) | ((iterate 6 try ((fail_if_success with_reducible refine hK _ ?_ ?_ ?_); clear hK K)); with_reducible refine hK _ ?_ ?_ ?_; rotate_left; (focus (simp only [go_sem]; exact rfl)); clear hK K) | ((with_reducible refine xA ?_); simp only [go_sem]) | exact aZ | fail))
       all_goals first | omega | skip
       rw [stp_one, stp_append]
       exact hL _ (0, st ++ [⟨s, ⟨fk, -1⟩⟩], m2) ⟨hl2, fun h => absurd rfl h, fun _ => hnext⟩ (by (simp only [SubF, go_sem]; (try simp only [go_sem]); repeat' (first | exact True.intro | with_reducible refine And.intro ?_ ?_ | rfl | omega))) (by simp only [if_true]; omega)
      ·rw [prevF_mon hb hd hx hme] at hrun
       have hmz : monL m (kepC m.init.length s) = Net.zero := by rw [monL, if_neg hme]
       rw [hmz] at hMo
       generalize monE m (kepC m.init.length s) = q at *
       simp only [stepOf, Stp.d, kepC] at hN
       simp only [Net.d, Con.d, kepC, Net.zero] at hD hN hMo
       generalize pathF nd (deadFrom m nd 0) = W at *
       generalize facK m.init.length s = fk at *
       (simp only [go_sem] at hL ⊢)
       (repeat' (first | (with_reducible first | refine And.intro ?_ ?_ | refine aBl ?_ | (refine aS 11 [] ?_; intro K hK)) | ((with_reducible refine aGo ?_); simp only [go_sem]) | ((with_reducible refine aCd ?_ ?_ (fun hb => ?_) (fun hb => ?_)); (iterate 2 simp only [go_sem]); all_goals (simp only [go_sem] at hb; try simp only [bls] at hb)) | ((iterate 6 try ((fail_if_success with_reducible refine hK _ ?_ ?_ ?_); clear hK K)); with_reducible refine hK _ ?_ ?_ ?_; rotate_left; (focus (simp only [go_sem]; exact rfl)); clear hK K) | ((with_reducible refine xA ?_); simp only [go_sem]) | exact aZ | fail))
       all_goals first | omega | skip
       exact hL _ (q, st, ⟨[], []⟩) ⟨hsl, fun _ => hrun.symm, fun h => absurd h hme⟩ (by (simp only [SubF, go_sem]; (try simp only [go_sem]); repeat' (first | exact True.intro | with_reducible refine And.intro ?_ ?_ | rfl | omega))) (by simp only [hme, if_true, if_false]; omega)
    ·rw [if_neg hd] at hD
     rw [prevF_stop hb (by omega)] at hrun
     subst hrun
     simp only [Net.d] at hD
     simp only [pdR, resD]
     (simp only [go_sem] at hL ⊢)
     (repeat' (first | (with_reducible first | refine aBl ?_ | (refine aS 11 [] ?_; intro K hK)) | ((with_reducible refine aGo ?_); simp only [go_sem]) | ((with_reducible refine aCd ?_ ?_ (fun hb => ?_) (fun hb => ?_)); (iterate 2 simp only [go_sem]); all_goals (simp only [go_sem] at hb; try simp only [bls] at hb)) | ((iterate 6 try ((fail_if_success with_reducible refine hK _ ?_ ?_ ?_); clear hK K)); with_reducible refine hK _ ?_ ?_ ?_; rotate_left; (focus (simp only [go_sem]; exact rfl)); clear hK K) | ((with_reducible refine xA ?_); simp only [go_sem]) | fail))
     all_goals first | omega | rfl | skip
  ·have hR := hbad he
   subst hR
   simp only [pdR, res0]
   (simp only [go_sem] at hL ⊢)
   (repeat' (first | (with_reducible first | refine aBl ?_ | (refine aS 11 [] ?_; intro K hK)) | ((with_reducible refine aGo ?_); simp only [go_sem]) | ((with_reducible refine aCd ?_ ?_ (fun hb => ?_) (fun hb => ?_)); (iterate 2 simp only [go_sem]); all_goals (simp only [go_sem] at hb; try simp only [bls] at hb)) | ((iterate 6 try ((fail_if_success with_reducible refine hK _ ?_ ?_ ?_); clear hK K)); with_reducible refine hK _ ?_ ?_ ?_; rotate_left; (focus (simp only [go_sem]; exact rfl)); clear hK K) | exact aZ | fail))
   all_goals first | omega | rfl | skip
 ·rw [prO, if_pos hE]
  simp only [pdR, res0]
  simp only [Net.d] at h1
  (refine ACalls.of_body Ty_ok mixed Tryz.func55 rfl (by kernel_rfl) Tryz.ntmps55 (by simp) (congrArg Array.toList Tryz.results55) ?_)
  simp only [slotsOf, Net.d]
  (repeat' (first | (with_reducible (refine aS 11 [] ?_; intro K hK)) | ((with_reducible refine aGo ?_); simp only [go_sem]) | ((with_reducible refine aCd ?_ ?_ (fun hb => ?_) (fun hb => ?_)); (iterate 2 simp only [go_sem]); all_goals (simp only [go_sem] at hb; try simp only [bls] at hb)) | ((iterate 6 try ((fail_if_success with_reducible refine hK _ ?_ ?_ ?_); clear hK K)); with_reducible refine hK _ ?_ ?_ ?_; rotate_left; (focus (simp only [go_sem]; exact rfl)); clear hK K) | ((with_reducible refine xA ?_); simp only [go_sem]) | exact aZ | fail))
  all_goals first | omega | skip
theorem prO_errs {n : Net} {u : List Int} {e : Int} (h : prO n u = .err e) : e ≠ 0 ∧ (prE n u = 0 → e = 3 ∨ e = 23) := by
 unfold prO at h
 split at h
 ·rename_i h1
  cases h
  exact ⟨h1, fun h2 => absurd h2 h1⟩
 ·rename_i h1
  have hn := (prE_ok (n := n) (u := u) (by omega)).1
  have := prevR_errs hn h
  exact ⟨by omega, fun _ => this⟩
theorem Prevent_c (n : Net) (u : List Int) (hf : n.Fits) (h0 : prE n u = 0 → n.init ≠ []) (hul : u.length ≤ 1000000) : ACalls Tryz.prog 23 [.agg n.d, .one (.list (ints u))] (pvR (prO n u)) [] := by
 have h1 := prevented_c n u hf h0 hul
 have h2 := fun e => prO_errs (n := n) (u := u) (e := e)
 simp only [Net.d] at h1
 generalize prO n u = R at *
 cases R with
 | err e =>
  have h2 := (h2 e rfl).1
  simp only [pdR, pvR, res0] at h1 ⊢
  (refine ACalls.of_body Ty_ok mixed Tryz.func23 rfl (by kernel_rfl) Tryz.ntmps23 (by simp) (congrArg Array.toList Tryz.results23) ?_)
  simp only [slotsOf, Net.d]
  (repeat' (first | (with_reducible (refine aS 7 [9, 8] ?_; intro K hK)) | ((with_reducible refine aGo ?_); simp only [go_sem]) | ((with_reducible refine aCd ?_ ?_ (fun hb => ?_) (fun hb => ?_)); (iterate 2 simp only [go_sem]); all_goals (simp only [go_sem] at hb; try simp only [bls] at hb)) | ((iterate 6 try ((fail_if_success with_reducible refine hK _ ?_ ?_ ?_); clear hK K)); with_reducible refine hK _ ?_ ?_ ?_; rotate_left; (focus (simp only [go_sem]; exact rfl)); clear hK K) | ((with_reducible refine xA ?_); simp only [go_sem]) | exact aZ | fail))
  all_goals first | omega | skip
 | ok st m =>
  simp only [pdR, pvR, resD] at h1 ⊢
  (refine ACalls.of_body Ty_ok mixed Tryz.func23 rfl (by kernel_rfl) Tryz.ntmps23 (by simp) (congrArg Array.toList Tryz.results23) ?_)
  simp only [slotsOf, Net.d]
  (repeat' (first | (with_reducible (refine aS 7 [9, 8] ?_; intro K hK)) | ((with_reducible refine aGo ?_); simp only [go_sem]) | ((with_reducible refine aCd ?_ ?_ (fun hb => ?_) (fun hb => ?_)); (iterate 2 simp only [go_sem]); all_goals (simp only [go_sem] at hb; try simp only [bls] at hb)) | ((iterate 6 try ((fail_if_success with_reducible refine hK _ ?_ ?_ ?_); clear hK K)); with_reducible refine hK _ ?_ ?_ ?_; rotate_left; (focus (simp only [go_sem]; exact rfl)); clear hK K) | ((with_reducible refine xA ?_); simp only [go_sem]) | fail))
  all_goals first | omega | skip
 | dead st m run =>
  simp only [pdR, pvR, resD, res0] at h1 ⊢
  (refine ACalls.of_body Ty_ok mixed Tryz.func23 rfl (by kernel_rfl) Tryz.ntmps23 (by simp) (congrArg Array.toList Tryz.results23) ?_)
  simp only [slotsOf, Net.d]
  (repeat' (first | (with_reducible (refine aS 7 [9, 8] ?_; intro K hK)) | ((with_reducible refine aGo ?_); simp only [go_sem]) | ((with_reducible refine aCd ?_ ?_ (fun hb => ?_) (fun hb => ?_)); (iterate 2 simp only [go_sem]); all_goals (simp only [go_sem] at hb; try simp only [bls] at hb)) | ((iterate 6 try ((fail_if_success with_reducible refine hK _ ?_ ?_ ?_); clear hK K)); with_reducible refine hK _ ?_ ?_ ?_; rotate_left; (focus (simp only [go_sem]; exact rfl)); clear hK K) | ((with_reducible refine xA ?_); simp only [go_sem]) | fail))
  all_goals first | omega | skip
theorem Explain_c (n : Net) (u : List Int) (hf : n.Fits) (h0 : prE n u = 0 → n.init ≠ []) (hul : u.length ≤ 1000000) : ACalls Tryz.prog 90 [.agg n.d, .one (.list (ints u))] (exR (prO n u)) [] := by
 have h1 := prevented_c n u hf h0 hul
 have h2 := fun e => prO_errs (n := n) (u := u) (e := e)
 simp only [Net.d] at h1
 generalize prO n u = R at *
 cases R with
 | err e =>
  have h2 := (h2 e rfl).1
  simp only [pdR, exR, res0] at h1 ⊢
  (refine ACalls.of_body Ty_ok mixed Tryz.func90 rfl (by kernel_rfl) Tryz.ntmps90 (by simp) (congrArg Array.toList Tryz.results90) ?_)
  simp only [slotsOf, Net.d]
  (repeat' (first | (with_reducible (refine aS 10 [] ?_; intro K hK)) | ((with_reducible refine aGo ?_); simp only [go_sem]) | ((with_reducible refine aCd ?_ ?_ (fun hb => ?_) (fun hb => ?_)); (iterate 2 simp only [go_sem]); all_goals (simp only [go_sem] at hb; try simp only [bls] at hb)) | ((iterate 6 try ((fail_if_success with_reducible refine hK _ ?_ ?_ ?_); clear hK K)); with_reducible refine hK _ ?_ ?_ ?_; rotate_left; (focus (simp only [go_sem]; exact rfl)); clear hK K) | ((with_reducible refine xA ?_); simp only [go_sem]) | fail))
  all_goals first | omega | skip
 | ok st m =>
  simp only [pdR, exR, resD] at h1 ⊢
  (refine ACalls.of_body Ty_ok mixed Tryz.func90 rfl (by kernel_rfl) Tryz.ntmps90 (by simp) (congrArg Array.toList Tryz.results90) ?_)
  simp only [slotsOf, Net.d]
  (repeat' (first | (with_reducible (refine aS 10 [] ?_; intro K hK)) | ((with_reducible refine aGo ?_); simp only [go_sem]) | ((with_reducible refine aCd ?_ ?_ (fun hb => ?_) (fun hb => ?_)); (iterate 2 simp only [go_sem]); all_goals (simp only [go_sem] at hb; try simp only [bls] at hb)) | ((iterate 6 try ((fail_if_success with_reducible refine hK _ ?_ ?_ ?_); clear hK K)); with_reducible refine hK _ ?_ ?_ ?_; rotate_left; (focus (simp only [go_sem]; exact rfl)); clear hK K) | ((with_reducible refine xA ?_); simp only [go_sem]) | fail))
  all_goals first | omega | skip
 | dead st m run =>
  simp only [pdR, exR, resD] at h1 ⊢
  (refine ACalls.of_body Ty_ok mixed Tryz.func90 rfl (by kernel_rfl) Tryz.ntmps90 (by simp) (congrArg Array.toList Tryz.results90) ?_)
  simp only [slotsOf, Net.d]
  (repeat' (first | (with_reducible (refine aS 10 [] ?_; intro K hK)) | ((with_reducible refine aGo ?_); simp only [go_sem]) | ((with_reducible refine aCd ?_ ?_ (fun hb => ?_) (fun hb => ?_)); (iterate 2 simp only [go_sem]); all_goals (simp only [go_sem] at hb; try simp only [bls] at hb)) | ((iterate 6 try ((fail_if_success with_reducible refine hK _ ?_ ?_ ?_); clear hK K)); with_reducible refine hK _ ?_ ?_ ?_; rotate_left; (focus (simp only [go_sem]; exact rfl)); clear hK K) | ((with_reducible refine xA ?_); simp only [go_sem]) | fail))
  all_goals first | omega | skip
end Go.Proofs.YtljpfdehnjemlaaGreatDoor
