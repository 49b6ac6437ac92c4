/-
 Contracts of chapter 51: what is verified.
-/
import Derived.Test.YtlpllbbjmbbfnaaGreatDoorQI
set_option linter.unusedSimpArgs false
set_option linter.unusedVariables false
namespace Go.Proofs.YtlpllbbjmbbfnaaGreatDoor
open Go.Eng Go.RowKit
def maR (u : List Int) (n : Net) (x : Stp) : Net × Bool :=
 if x.set ∈ minL 1 n ∧ x.con = kepC n.init.length x.set ∧ raisingL n x.con u < 0 then (monL n x.con, decide (monE n x.con = 0)) else (n, false)
theorem maR_some {u : List Int} {n : Net} {x : Stp} (h : (maR u n x).2 = true) : madeO u n x = some (maR u n x).1 := by
 unfold maR at h ⊢
 split at h
 ·rename_i hc
  have hz : monE n x.con = 0 := of_decide_eq_true h
  rw [if_pos hc, madeO, if_pos ⟨hc.1, hc.2.1, hc.2.2, hz⟩, monL, if_pos hz]
 ·cases h
theorem maR_none {u : List Int} {n : Net} {x : Stp} (h : (maR u n x).2 = false) : madeO u n x = none := by
 unfold maR at h
 split at h
 ·have hz : ¬ monE n x.con = 0 := of_decide_eq_false h
  rw [madeO, if_neg fun hc => hz hc.2.2.2]
 ·rename_i hc
  rw [madeO, if_neg fun h => hc ⟨h.1, h.2.1, h.2.2.1⟩]
theorem made1_c (s : List Int) (x : Stp) (hn : s.length ≤ 1000000) : ACalls Tryz.prog 93 [.one (.list (ints s)), .one (.ref x.d)] (.one (.bool (decide (s = x.set)))) [] := by
 have h1 := EqualInts_c s x.set hn
 (refine ACalls.of_body Ty_ok mixed Tryz.func93 rfl (by kernel_rfl) Tryz.ntmps93 (by simp) (congrArg Array.toList Tryz.results93) ?_)
 simp only [slotsOf, Stp.d]
 (repeat' (first | (with_reducible first | exact True.intro | refine And.intro ?_ ?_ | refine aBl ?_ | (refine aS 4 [] ?_; intro K hK)) | ((with_reducible first | refine aGo ?_); simp only [go_sem]) | ((with_reducible refine aCd ?_ ?_ (fun hb => ?_) (fun hb => ?_)); (iterate 2 simp only [go_sem]); all_goals (simp only [go_sem] at hb; try simp only [bls] at hb)) | ((iterate 6 try ((fail_if_success with_reducible refine hK _ ?_ ?_ ?_); clear hK K)); with_reducible refine hK _ ?_ ?_ ?_; rotate_left; (focus (simp only [go_sem]; exact rfl)); clear hK K) | ((first | (with_reducible first | refine xA ?_ | refine xD ?_ | refine xO ?_ | refine xR ?_ | refine xG ?_ | refine xH ?_ | refine xM ?_) | ((with_reducible refine gA ?_); refine xA ?_) | ((with_reducible refine gD ?_); refine xD ?_) | ((with_reducible refine gG ?_); refine xG ?_)); simp only [go_sem]) | (with_reducible refine aGs (fun hg0 => ?_) (fun hg0 => ?_) <;> first | (with_reducible first | exact aF1 hg0 | exact aF2 hg0) | (simp only [hg0, go_sem])) | (with_reducible refine aNk ?_; intro bnil hnil; try simp only []) | exact aZ | fail))
set_option maxHeartbeats 16000000 in
theorem made_c (n : Net) (u : List Int) (x : Stp) (hE : prE n u = 0) (h0 : n.init ≠ []) (hx : x.Fits) (hul : u.length ≤ 1000000) : ACalls Tryz.prog 58 [.agg n.d, .agg x.d, .one (.list (ints u))] (.tup [.agg (maR u n x).1.d, .one (.bool (maR u n x).2)]) [] := by
 obtain ⟨hn, hu⟩ := prE_ok hE
 have hok := netOk_of hn
 have hi10 := hok.init
 have hsi : siE n [] 1 = 0 := by rw [siE, if_neg (by omega), if_neg (by rw [show checkSet [] n.init.length = 0 from rfl]; decide), if_neg (by omega)]
 have hM := Minimal_c n 1 hok.fits fun _ => h0
 rw [hsi, if_pos rfl] at hM
 have hml := minL_length 1 n
 have hpow : 2 ^ n.init.length ≤ 1024 := Nat.le_trans (Nat.pow_le_pow_right (by omega) hi10) (by decide)
 have hcf := ContainsFuncWords_c (minL 1 n) 93 [.ref x.d] (fun s => decide (s = x.set)) (by omega) (capsOk_ref1 _) (fun s hs => made1_c s x (by have := (setOk_of hn hs).len; omega))
 rw [mem_minL_b] at hcf
 simp only [Net.d, Stp.d] at hM hcf
 by_cases hin : x.set ∈ minL 1 n
 ·have hS := setOk_of hn hin
  rw [decide_eq_true hin] at hcf
  have hkp := kept_c n x.set hok.fits hS.place (by have := hS.len; omega)
  have hsm := prSame_c x.con (kepC n.init.length x.set) hx.fac
  by_cases hc : x.con = kepC n.init.length x.set
  ·rw [decide_eq_true hc] at hsm
   have hA := Adm_ok n x.con u hok.fits hx.fac hul (by rw [hc]; exact chk_kep hE)
   have hMo := Monitor_c n x.con hok.fits hx.fac
   have hfc : (kepC n.init.length x.set).fac = facK n.init.length x.set := rfl
   have hbc : (kepC n.init.length x.set).bound = -1 := rfl
   simp only [Net.d, Con.d, hfc, hbc] at hkp hsm hA hMo
   by_cases hr : raisingL n x.con u < 0
   ·have e : maR u n x = (monL n x.con, decide (monE n x.con = 0)) := if_pos ⟨hin, hc, hr⟩
    rw [e]
    rw [decide_eq_true hr] at hA
    generalize monL n x.con = m2 at *
    generalize monE n x.con = q at *
    generalize facK n.init.length x.set = fk at *
    (refine ACalls.of_body Ty_ok mixed Tryz.func58 rfl (by kernel_rfl) Tryz.ntmps58 (by simp) (congrArg Array.toList Tryz.results58) ?_)
    simp only [slotsOf, Net.d, Stp.d]
    (repeat' (first | (with_reducible first | exact True.intro | refine And.intro ?_ ?_ | refine aBl ?_ | (refine aS 10 [11] ?_; intro K hK)) | ((with_reducible first | refine aGo ?_ | refine rP Ty_ok mixed 4 [0, 3] [.mid [pe 1, pe 2, pe 4, ⟨5, 0, true, false, false, [], []⟩] 1, .one 6, .one 7] ?_); simp only [go_sem]) | ((with_reducible refine aCd ?_ ?_ (fun hb => ?_) (fun hb => ?_)); (iterate 2 simp only [go_sem]); all_goals (simp only [go_sem] at hb; try simp only [bls] at hb)) | ((iterate 6 try ((fail_if_success with_reducible refine hK _ ?_ ?_ ?_); clear hK K)); with_reducible refine hK _ ?_ ?_ ?_; rotate_left; (focus (simp only [go_sem]; exact rfl)); clear hK K) | ((first | (with_reducible first | refine xA ?_ | refine xD ?_ | refine xO ?_ | refine xR ?_ | refine xG ?_ | refine xH ?_ | refine xM ?_) | ((with_reducible refine gA ?_); refine xA ?_) | ((with_reducible refine gD ?_); refine xD ?_) | ((with_reducible refine gG ?_); refine xG ?_)); simp only [go_sem]) | (with_reducible refine aGs (fun hg0 => ?_) (fun hg0 => ?_) <;> first | (with_reducible first | exact aF1 hg0 | exact aF2 hg0) | (simp only [hg0, go_sem])) | (with_reducible refine aNk ?_; intro bnil hnil; try simp only []) | exact aZ | fail))
    all_goals first | omega | rfl | skip
   ·have e : maR u n x = (n, false) := if_neg fun h => hr h.2.2
    rw [e]
    rw [decide_eq_false hr] at hA
    generalize facK n.init.length x.set = fk at *
    (refine ACalls.of_body Ty_ok mixed Tryz.func58 rfl (by kernel_rfl) Tryz.ntmps58 (by simp) (congrArg Array.toList Tryz.results58) ?_)
    simp only [slotsOf, Net.d, Stp.d]
    (repeat' (first | (with_reducible first | exact True.intro | refine And.intro ?_ ?_ | refine aBl ?_ | (refine aS 10 [11] ?_; intro K hK)) | ((with_reducible first | refine aGo ?_ | refine rP Ty_ok mixed 4 [0, 3] [.mid [pe 1, pe 2, pe 4, ⟨5, 0, true, false, false, [], []⟩] 1, .one 6, .one 7] ?_); simp only [go_sem]) | ((with_reducible refine aCd ?_ ?_ (fun hb => ?_) (fun hb => ?_)); (iterate 2 simp only [go_sem]); all_goals (simp only [go_sem] at hb; try simp only [bls] at hb)) | ((iterate 6 try ((fail_if_success with_reducible refine hK _ ?_ ?_ ?_); clear hK K)); with_reducible refine hK _ ?_ ?_ ?_; rotate_left; (focus (simp only [go_sem]; exact rfl)); clear hK K) | ((first | (with_reducible first | refine xA ?_ | refine xD ?_ | refine xO ?_ | refine xR ?_ | refine xG ?_ | refine xH ?_ | refine xM ?_) | ((with_reducible refine gA ?_); refine xA ?_) | ((with_reducible refine gD ?_); refine xD ?_) | ((with_reducible refine gG ?_); refine xG ?_)); simp only [go_sem]) | (with_reducible refine aGs (fun hg0 => ?_) (fun hg0 => ?_) <;> first | (with_reducible first | exact aF1 hg0 | exact aF2 hg0) | (simp only [hg0, go_sem])) | (with_reducible refine aNk ?_; intro bnil hnil; try simp only []) | exact aZ | fail))
    all_goals first | omega | skip
  ·have e : maR u n x = (n, false) := if_neg fun h => hc h.2.1
   rw [e]
   rw [decide_eq_false hc] at hsm
   have hfc : (kepC n.init.length x.set).fac = facK n.init.length x.set := rfl
   have hbc : (kepC n.init.length x.set).bound = -1 := rfl
   simp only [Net.d, Con.d, hfc, hbc] at hkp hsm
   generalize facK n.init.length x.set = fk at *
   (refine ACalls.of_body Ty_ok mixed Tryz.func58 rfl (by kernel_rfl) Tryz.ntmps58 (by simp) (congrArg Array.toList Tryz.results58) ?_)
   simp only [slotsOf, Net.d, Stp.d]
   (repeat' (first | (with_reducible first | exact True.intro | refine And.intro ?_ ?_ | refine aBl ?_ | (refine aS 10 [11] ?_; intro K hK)) | ((with_reducible first | refine aGo ?_ | refine rP Ty_ok mixed 4 [0, 3] [.mid [pe 1, pe 2, pe 4, ⟨5, 0, true, false, false, [], []⟩] 1, .one 6, .one 7] ?_); simp only [go_sem]) | ((with_reducible refine aCd ?_ ?_ (fun hb => ?_) (fun hb => ?_)); (iterate 2 simp only [go_sem]); all_goals (simp only [go_sem] at hb; try simp only [bls] at hb)) | ((iterate 6 try ((fail_if_success with_reducible refine hK _ ?_ ?_ ?_); clear hK K)); with_reducible refine hK _ ?_ ?_ ?_; rotate_left; (focus (simp only [go_sem]; exact rfl)); clear hK K) | ((first | (with_reducible first | refine xA ?_ | refine xD ?_ | refine xO ?_ | refine xR ?_ | refine xG ?_ | refine xH ?_ | refine xM ?_) | ((with_reducible refine gA ?_); refine xA ?_) | ((with_reducible refine gD ?_); refine xD ?_) | ((with_reducible refine gG ?_); refine xG ?_)); simp only [go_sem]) | (with_reducible refine aGs (fun hg0 => ?_) (fun hg0 => ?_) <;> first | (with_reducible first | exact aF1 hg0 | exact aF2 hg0) | (simp only [hg0, go_sem])) | (with_reducible refine aNk ?_; intro bnil hnil; try simp only []) | exact aZ | fail))
   all_goals first | omega | skip
 ·have e : maR u n x = (n, false) := if_neg fun h => hin h.1
  rw [e]
  rw [decide_eq_false hin] at hcf
  (refine ACalls.of_body Ty_ok mixed Tryz.func58 rfl (by kernel_rfl) Tryz.ntmps58 (by simp) (congrArg Array.toList Tryz.results58) ?_)
  simp only [slotsOf, Net.d, Stp.d]
  (repeat' (first | (with_reducible first | exact True.intro | refine And.intro ?_ ?_ | refine aBl ?_ | (refine aS 10 [11] ?_; intro K hK)) | ((with_reducible first | refine aGo ?_ | refine rP Ty_ok mixed 4 [0, 3] [.mid [pe 1, pe 2, pe 4, ⟨5, 0, true, false, false, [], []⟩] 1, .one 6, .one 7] ?_); simp only [go_sem]) | ((with_reducible refine aCd ?_ ?_ (fun hb => ?_) (fun hb => ?_)); (iterate 2 simp only [go_sem]); all_goals (simp only [go_sem] at hb; try simp only [bls] at hb)) | ((iterate 6 try ((fail_if_success with_reducible refine hK _ ?_ ?_ ?_); clear hK K)); with_reducible refine hK _ ?_ ?_ ?_; rotate_left; (focus (simp only [go_sem]; exact rfl)); clear hK K) | ((first | (with_reducible first | refine xA ?_ | refine xD ?_ | refine xO ?_ | refine xR ?_ | refine xG ?_ | refine xH ?_ | refine xM ?_) | ((with_reducible refine gA ?_); refine xA ?_) | ((with_reducible refine gD ?_); refine xD ?_) | ((with_reducible refine gG ?_); refine xG ?_)); simp only [go_sem]) | (with_reducible refine aGs (fun hg0 => ?_) (fun hg0 => ?_) <;> first | (with_reducible first | exact aF1 hg0 | exact aF2 hg0) | (simp only [hg0, go_sem])) | (with_reducible refine aNk ?_; intro bnil hnil; try simp only []) | exact aZ | fail))
  all_goals first | omega | skip
theorem ver_step {u : List Int} {c : Net} {st : List Stp} {k : Nat} {b : Option Net} (hk : k < st.length) (h : b = verF u c (st.drop k)) : b = match madeO u c (st.getD k Stp.no) with | none => none | some m => verF u m (st.drop (k + 1)) := by
 rw [drop_getD st k Stp.no hk, verF] at h
 exact h
def vb : Bool → Int
 | true => 0
 | false => 24
def vfE (u : List Int) (n : Net) (st : List Stp) (m : Net) : Int := if prE n u ≠ 0 then prE n u else vb (verB u n st m)
set_option maxHeartbeats 16000000 in
theorem Verify_c (n m : Net) (st : List Stp) (u : List Int) (hf : n.Fits) (h0 : prE n u = 0 → n.init ≠ []) (hul : u.length ≤ 1000000) (hsl : st.length ≤ 1000) (hst : ∀ x ∈ st, x.Fits) : ACalls Tryz.prog 27 [.agg n.d, .agg (resD st m), .one (.list (ints u))] (.one (.int .i64 (vfE u n st m))) [] := by
 have h1 := prCheck_c n u hf hul
 by_cases hE : prE n u = 0
 ·have hne := h0 hE
  rw [vfE, if_neg (by omega)]
  generalize hB : vb (verB u n st m) = B
  simp only [Net.d] at h1
  (refine ACalls.of_body Ty_ok mixed Tryz.func27 rfl (by kernel_rfl) Tryz.ntmps27 (by simp) (congrArg Array.toList Tryz.results27) ?_)
  simp only [slotsOf, Net.d, resD]
  (repeat' (first | (with_reducible first | exact True.intro | refine And.intro ?_ ?_ | refine aBl ?_ | (refine aS 11 [22, 21, 23, 13, 12] ?_; intro K hK)) | ((with_reducible first | refine aGo ?_); simp only [hE, go_sem]) | ((with_reducible refine aCd ?_ ?_ (fun hb => ?_) (fun hb => ?_)); (iterate 2 simp only [hE, go_sem]); all_goals (simp only [hE, go_sem] at hb; try simp only [bls] at hb)) | ((iterate 6 try ((fail_if_success with_reducible refine hK _ ?_ ?_ ?_); clear hK K)); with_reducible refine hK _ ?_ ?_ ?_; rotate_left; (focus (simp only [hE, go_sem]; exact rfl)); clear hK K) | ((first | (with_reducible first | refine xA ?_ | refine xD ?_ | refine xO ?_ | refine xR ?_ | refine xG ?_ | refine xH ?_ | refine xM ?_) | ((with_reducible refine gA ?_); refine xA ?_) | ((with_reducible refine gD ?_); refine xD ?_) | ((with_reducible refine gG ?_); refine xG ?_)); simp only [hE, go_sem]) | (with_reducible refine aGs (fun hg0 => ?_) (fun hg0 => ?_) <;> first | (with_reducible first | exact aF1 hg0 | exact aF2 hg0) | (simp only [hg0, hE, go_sem])) | (with_reducible refine aNk ?_; intro bnil hnil; try simp only []) | exact aZ | fail))
  all_goals first | omega | skip
  refine awp_loop _ (by simp only [go_sem]; rfl) (Nat × Net) (fun x => x.1 ≤ st.length ∧ prE x.2 u = 0 ∧ x.2.init ≠ [] ∧ verF u n st = verF u x.2 (st.drop x.1)) (fun x => [(23, .one (.int .i64 x.1))]) (fun x _ => [.var 33 [.list (ints x.2.init), .list (trsD x.2.trs)], .var 55 [.list (stpD st), .list (ints m.init), .list (trsD m.trs)]]) (fun x => st.length - x.1) (0, n) ⟨Nat.zero_le _, hE, hne, by rw [List.drop_zero]⟩ ?_ ?_
  ·(simp only [SubF, go_sem]; (try simp only [go_sem]); repeat' (first | exact True.intro | with_reducible refine And.intro ?_ ?_ | rfl | omega))
  rintro ⟨k, c⟩ ⟨hk, hcE, hc0, hv⟩ L hL
  simp only at hk hcE hc0 hv hL ⊢
  have hq : ((k : Nat) : Int).toNat = k := by omega
  by_cases hlt : k < st.length
  ·have hg := stp_get hlt [.nil, .nil, .int .i64 0]
   have hfx := hst _ (getD_mem st k Stp.no hlt)
   have hv2 := ver_step hlt hv
   generalize st.getD k Stp.no = x at *
   have hmd := made_c c u x hcE hc0 hfx hul
   have hS := maR_some (u := u) (n := c) (x := x)
   have hN := maR_none (u := u) (n := c) (x := x)
   obtain ⟨hcn, hcu⟩ := prE_ok hcE
   simp only [Net.d, Stp.d] at hmd
   cases hb2 : (maR u c x).2 with
   | true =>
    rw [hb2] at hmd
    have hS := hS hb2
    rw [hS] at hv2
    obtain ⟨r1, r2, r3⟩ := made_ok hS
    generalize (maR u c x).1 = c2 at *
    have r4 : prE c2 u = 0 := by rw [prE, if_neg (by rw [netE_of r1]; decide), r3]; exact hcu
    have r5 : c2.init ≠ [] := by intro e; rw [e] at r2; simp at r2
    (simp only [go_sem] at hL ⊢)
    (repeat' (first | (with_reducible first | exact True.intro | refine And.intro ?_ ?_ | refine aBl ?_ | (refine aS 11 [22, 21, 23, 13, 12] ?_; intro K hK)) | ((with_reducible first | refine aGo ?_); simp only [hg, hq, go_sem]) | ((with_reducible refine aCd ?_ ?_ (fun hb => ?_) (fun hb => ?_)); (iterate 2 simp only [hg, hq, go_sem]); all_goals (simp only [hg, hq, go_sem] at hb; try simp only [bls] at hb)) | ((iterate 6 try ((fail_if_success with_reducible refine hK _ ?_ ?_ ?_); clear hK K)); with_reducible refine hK _ ?_ ?_ ?_; rotate_left; (focus (simp only [hg, hq, go_sem]; exact rfl)); clear hK K) | ((first | (with_reducible first | refine xA ?_ | refine xD ?_ | refine xO ?_ | refine xR ?_ | refine xG ?_ | refine xH ?_ | refine xM ?_) | ((with_reducible refine gA ?_); refine xA ?_) | ((with_reducible refine gD ?_); refine xD ?_) | ((with_reducible refine gG ?_); refine xG ?_)); simp only [hg, hq, go_sem]) | (with_reducible refine aGs (fun hg0 => ?_) (fun hg0 => ?_) <;> first | (with_reducible first | exact aF1 hg0 | exact aF2 hg0) | (simp only [hg0, hg, hq, go_sem])) | (with_reducible refine aNk ?_; intro bnil hnil; try simp only []) | exact aZ | fail))
    all_goals first | omega | skip
    exact hL _ (k + 1, c2) ⟨by simp only; omega, r4, r5, hv2⟩ (by (simp only [SubF, go_sem]; (try simp only [go_sem]); repeat' (first | exact True.intro | with_reducible refine And.intro ?_ ?_ | rfl | omega))) (by simp only; omega)
   | false =>
    rw [hb2] at hmd
    rw [hN hb2] at hv2
    have e : verB u n st m = false := by rw [verB, hv2]
    rw [e] at hB
    simp only [vb] at hB
    subst hB
    generalize (maR u c x).1 = c2 at *
    (simp only [go_sem] at hL ⊢)
    (repeat' (first | (with_reducible first | exact True.intro | refine And.intro ?_ ?_ | refine aBl ?_ | (refine aS 11 [22, 21, 23, 13, 12] ?_; intro K hK)) | ((with_reducible first | refine aGo ?_); simp only [hg, hq, go_sem]) | ((with_reducible refine aCd ?_ ?_ (fun hb => ?_) (fun hb => ?_)); (iterate 2 simp only [hg, hq, go_sem]); all_goals (simp only [hg, hq, go_sem] at hb; try simp only [bls] at hb)) | ((iterate 6 try ((fail_if_success with_reducible refine hK _ ?_ ?_ ?_); clear hK K)); with_reducible refine hK _ ?_ ?_ ?_; rotate_left; (focus (simp only [hg, hq, go_sem]; exact rfl)); clear hK K) | ((first | (with_reducible first | refine xA ?_ | refine xD ?_ | refine xO ?_ | refine xR ?_ | refine xG ?_ | refine xH ?_ | refine xM ?_) | ((with_reducible refine gA ?_); refine xA ?_) | ((with_reducible refine gD ?_); refine xD ?_) | ((with_reducible refine gG ?_); refine xG ?_)); simp only [hg, hq, go_sem]) | (with_reducible refine aGs (fun hg0 => ?_) (fun hg0 => ?_) <;> first | (with_reducible first | exact aF1 hg0 | exact aF2 hg0) | (simp only [hg0, hg, hq, go_sem])) | (with_reducible refine aNk ?_; intro bnil hnil; try simp only []) | exact aZ | fail))
    all_goals first | omega | skip
  ·rw [drop_end _ k (by omega), verF] at hv
   have e : verB u n st m = (decide (c = m) && liveB c) := by rw [verB, hv]
   rw [e] at hB
   obtain ⟨hcn, hcu⟩ := prE_ok hcE
   have hok := netOk_of hcn
   have hEq := netEqual_c c m hok.fits
   have hD := Deadlock_c c hok.fits hc0
   have hnz := fun e => bnd_ne (n := c) (e := e)
   simp only [Net.d] at hEq hD
   by_cases hcm : c = m
   ·rw [decide_eq_true hcm] at hEq hB
    rw [Bool.true_and, liveB] at hB
    generalize bndF c = Z at *
    cases Z with
    | inl e =>
     have hnz := hnz e rfl
     simp only [dlR] at hD
     simp only [vb] at hB
     subst hB
     (simp only [go_sem] at hL ⊢)
     (repeat' (first | (with_reducible first | exact True.intro | refine And.intro ?_ ?_ | refine aBl ?_ | (refine aS 11 [22, 21, 23, 13, 12] ?_; intro K hK)) | ((with_reducible first | refine aGo ?_); simp only [go_sem]) | ((with_reducible refine aCd ?_ ?_ (fun hb => ?_) (fun hb => ?_)); (iterate 2 simp only [go_sem]); all_goals (simp only [go_sem] at hb; try simp only [bls] at hb)) | ((iterate 6 try ((fail_if_success with_reducible refine hK _ ?_ ?_ ?_); clear hK K)); with_reducible refine hK _ ?_ ?_ ?_; rotate_left; (focus (simp only [go_sem]; exact rfl)); clear hK K) | ((first | (with_reducible first | refine xA ?_ | refine xD ?_ | refine xO ?_ | refine xR ?_ | refine xG ?_ | refine xH ?_ | refine xM ?_) | ((with_reducible refine gA ?_); refine xA ?_) | ((with_reducible refine gD ?_); refine xD ?_) | ((with_reducible refine gG ?_); refine xG ?_)); simp only [go_sem]) | (with_reducible refine aGs (fun hg0 => ?_) (fun hg0 => ?_) <;> first | (with_reducible first | exact aF1 hg0 | exact aF2 hg0) | (simp only [hg0, go_sem])) | (with_reducible refine aNk ?_; intro bnil hnil; try simp only []) | exact aZ | fail))
     all_goals first | omega | skip
    | inr r =>
     obtain ⟨nd, ed⟩ := r
     simp only [dlR] at hD
     simp only at hB
     by_cases hd : 0 ≤ deadFrom c nd 0
     ·rw [if_pos hd] at hD
      have e2 : decide (deadFrom c nd 0 < 0) = false := decide_eq_false (by omega)
      rw [e2] at hB
      simp only [vb] at hB
      subst hB
      (simp only [go_sem] at hL ⊢)
      (repeat' (first | (with_reducible first | exact True.intro | refine And.intro ?_ ?_ | refine aBl ?_ | (refine aS 11 [22, 21, 23, 13, 12] ?_; intro K hK)) | ((with_reducible first | refine aGo ?_); simp only [go_sem]) | ((with_reducible refine aCd ?_ ?_ (fun hb => ?_) (fun hb => ?_)); (iterate 2 simp only [go_sem]); all_goals (simp only [go_sem] at hb; try simp only [bls] at hb)) | ((iterate 6 try ((fail_if_success with_reducible refine hK _ ?_ ?_ ?_); clear hK K)); with_reducible refine hK _ ?_ ?_ ?_; rotate_left; (focus (simp only [go_sem]; exact rfl)); clear hK K) | ((first | (with_reducible first | refine xA ?_ | refine xD ?_ | refine xO ?_ | refine xR ?_ | refine xG ?_ | refine xH ?_ | refine xM ?_) | ((with_reducible refine gA ?_); refine xA ?_) | ((with_reducible refine gD ?_); refine xD ?_) | ((with_reducible refine gG ?_); refine xG ?_)); simp only [go_sem]) | (with_reducible refine aGs (fun hg0 => ?_) (fun hg0 => ?_) <;> first | (with_reducible first | exact aF1 hg0 | exact aF2 hg0) | (simp only [hg0, go_sem])) | (with_reducible refine aNk ?_; intro bnil hnil; try simp only []) | exact aZ | fail))
      all_goals first | omega | skip
     ·rw [if_neg hd] at hD
      have e2 : decide (deadFrom c nd 0 < 0) = true := decide_eq_true (by omega)
      rw [e2] at hB
      simp only [vb] at hB
      subst hB
      (simp only [go_sem] at hL ⊢)
      (repeat' (first | (with_reducible first | exact True.intro | refine And.intro ?_ ?_ | refine aBl ?_ | (refine aS 11 [22, 21, 23, 13, 12] ?_; intro K hK)) | ((with_reducible first | refine aGo ?_); simp only [go_sem]) | ((with_reducible refine aCd ?_ ?_ (fun hb => ?_) (fun hb => ?_)); (iterate 2 simp only [go_sem]); all_goals (simp only [go_sem] at hb; try simp only [bls] at hb)) | ((iterate 6 try ((fail_if_success with_reducible refine hK _ ?_ ?_ ?_); clear hK K)); with_reducible refine hK _ ?_ ?_ ?_; rotate_left; (focus (simp only [go_sem]; exact rfl)); clear hK K) | ((first | (with_reducible first | refine xA ?_ | refine xD ?_ | refine xO ?_ | refine xR ?_ | refine xG ?_ | refine xH ?_ | refine xM ?_) | ((with_reducible refine gA ?_); refine xA ?_) | ((with_reducible refine gD ?_); refine xD ?_) | ((with_reducible refine gG ?_); refine xG ?_)); simp only [go_sem]) | (with_reducible refine aGs (fun hg0 => ?_) (fun hg0 => ?_) <;> first | (with_reducible first | exact aF1 hg0 | exact aF2 hg0) | (simp only [hg0, go_sem])) | (with_reducible refine aNk ?_; intro bnil hnil; try simp only []) | exact aZ | fail))
      all_goals first | omega | skip
   ·rw [decide_eq_false hcm] at hEq hB
    simp only [Bool.false_and, vb] at hB
    subst hB
    (simp only [go_sem] at hL ⊢)
    (repeat' (first | (with_reducible first | exact True.intro | refine And.intro ?_ ?_ | refine aBl ?_ | (refine aS 11 [22, 21, 23, 13, 12] ?_; intro K hK)) | ((with_reducible first | refine aGo ?_); simp only [go_sem]) | ((with_reducible refine aCd ?_ ?_ (fun hb => ?_) (fun hb => ?_)); (iterate 2 simp only [go_sem]); all_goals (simp only [go_sem] at hb; try simp only [bls] at hb)) | ((iterate 6 try ((fail_if_success with_reducible refine hK _ ?_ ?_ ?_); clear hK K)); with_reducible refine hK _ ?_ ?_ ?_; rotate_left; (focus (simp only [go_sem]; exact rfl)); clear hK K) | ((first | (with_reducible first | refine xA ?_ | refine xD ?_ | refine xO ?_ | refine xR ?_ | refine xG ?_ | refine xH ?_ | refine xM ?_) | ((with_reducible refine gA ?_); refine xA ?_) | ((with_reducible refine gD ?_); refine xD ?_) | ((with_reducible refine gG ?_); refine xG ?_)); simp only [go_sem]) | (with_reducible refine aGs (fun hg0 => ?_) (fun hg0 => ?_) <;> first | (with_reducible first | exact aF1 hg0 | exact aF2 hg0) | (simp only [hg0, go_sem])) | (with_reducible refine aNk ?_; intro bnil hnil; try simp only []) | exact aZ | fail))
    all_goals first | omega | skip
 ·rw [vfE, if_pos hE]
  simp only [Net.d] at h1
  (refine ACalls.of_body Ty_ok mixed Tryz.func27 rfl (by kernel_rfl) Tryz.ntmps27 (by simp) (congrArg Array.toList Tryz.results27) ?_)
  simp only [slotsOf, Net.d, resD]
  (repeat' (first | (with_reducible first | exact True.intro | refine And.intro ?_ ?_ | refine aBl ?_ | (refine aS 11 [22, 21, 23, 13, 12] ?_; intro K hK)) | ((with_reducible first | refine aGo ?_); simp only [go_sem]) | ((with_reducible refine aCd ?_ ?_ (fun hb => ?_) (fun hb => ?_)); (iterate 2 simp only [go_sem]); all_goals (simp only [go_sem] at hb; try simp only [bls] at hb)) | ((iterate 6 try ((fail_if_success with_reducible refine hK _ ?_ ?_ ?_); clear hK K)); with_reducible refine hK _ ?_ ?_ ?_; rotate_left; (focus (simp only [go_sem]; exact rfl)); clear hK K) | ((first | (with_reducible first | refine xA ?_ | refine xD ?_ | refine xO ?_ | refine xR ?_ | refine xG ?_ | refine xH ?_ | refine xM ?_) | ((with_reducible refine gA ?_); refine xA ?_) | ((with_reducible refine gD ?_); refine xD ?_) | ((with_reducible refine gG ?_); refine xG ?_)); simp only [go_sem]) | (with_reducible refine aGs (fun hg0 => ?_) (fun hg0 => ?_) <;> first | (with_reducible first | exact aF1 hg0 | exact aF2 hg0) | (simp only [hg0, go_sem])) | (with_reducible refine aNk ?_; intro bnil hnil; try simp only []) | exact aZ | fail))
  all_goals first | omega | skip
end Go.Proofs.YtlpllbbjmbbfnaaGreatDoor
