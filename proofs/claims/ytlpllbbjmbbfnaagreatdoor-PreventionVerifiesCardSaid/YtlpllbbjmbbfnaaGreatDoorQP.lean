/-
 Contracts of chapter 51's law: whether a result is right.
-/
import Derived.Test.YtlpllbbjmbbfnaaGreatDoorQN
set_option linter.unusedSimpArgs false
set_option linter.unusedVariables false
namespace Go.Proofs.YtlpllbbjmbbfnaaGreatDoor
open Go.Eng Go.RowKit
def memK (x : List Int) (l : List (List Int)) (k : Nat) : Bool := decide (x ∈ l.take k)
theorem memK_succ {x : List Int} {l : List (List Int)} {k : Nat} (hk : k < l.length) : memK x l (k + 1) = (memK x l k || decide (l.getD k [] = x)) := by
 unfold memK
 rw [take_succ_getD l k [] hk, Bool.eq_iff_iff]
 simp only [Bool.or_eq_true, decide_eq_true_eq, List.mem_append, List.mem_singleton]
 exact or_congr Iff.rfl ⟨fun h => h.symm, fun h => h.symm⟩
theorem memK_all {x : List Int} {l : List (List Int)} : memK x l l.length = decide (x ∈ l) := by unfold memK; rw [List.take_length]
theorem hE0 {x : Int} (h : x ≠ 0) : (x == 0) = false := by simpa using h
set_option maxRecDepth 100000 in
set_option maxHeartbeats 32000000 in
theorem right_c (n m : Net) (st : List Stp) (u : List Int) (h0 : n.init ≠ []) (hE : prE n u = 0) (hul : u.length ≤ 1000000) (hsl : st.length ≤ 1000) (hst : ∀ x ∈ st, x.Fits) : ACalls Tryz.prog 29 [.agg n.d, .agg (resD st m), .one (.list (ints u))] (.one (.bool (verB u n st m))) [] := by
 generalize hB : verB u n st m = B
 (refine ACalls.of_body Ty_ok mixed Tryz.func29 rfl (by kernel_rfl) Tryz.ntmps29 (by simp) (congrArg Array.toList Tryz.results29) ?_)
 simp only [slotsOf, Net.d, resD]
 (repeat' (first | (with_reducible first | exact True.intro | refine And.intro ?_ ?_ | refine aBl ?_ | (refine aS 12 [14, 13, 16, 15, 19, 18] ?_; intro K hK)) | ((with_reducible first | refine aGo ?_ | refine rP Ty_ok mixed 9 [0, 1] [.mid [pe 2, pe 3, pe 4, pe 5, pe 6, pe 7, pe 8, pe 9, pe 10, pe 11] 0, .one 12, .mid [pe 13, pe 14] 0] ?_ | refine rP Ty_ok mixed 10 [0] [.mid [pe 1, pe 2, pe 3, pe 4, pe 5, pe 6, pe 7, pe 8, pe 9, pe 10, pe 11, pe 12, pe 13, pe 14, pe 15, pe 16, pe 17, pe 18, pe 19, pe 20, pe 21, ⟨22, 0, true, false, false, [], []⟩] 1, .one 23, .mid [pe 24, pe 25] 0] ?_ | refine rP Ty_ok mixed 12 [1, 3, 7] [.mid [pe 0, pe 2, pe 4, pe 5, pe 6] 0, .one 8, .mid [pe 9, pe 10, pe 11, pe 12, pe 13, pe 14, pe 15] 0] ?_ | refine rP Ty_ok mixed 13 [1, 3] [.mid [pe 0, pe 2, pe 4, pe 5, pe 6, ⟨7, 0, true, false, false, [], []⟩, ⟨8, 1, false, false, false, [], []⟩, ⟨9, 1, false, false, false, [], []⟩, ⟨10, 1, false, true, false, [], []⟩, ⟨11, 1, true, false, false, [0], []⟩] 2, .one 12, .one 13] ?_); simp only [go_sem]) | ((with_reducible refine aCd ?_ ?_ (fun hb => ?_) (fun hb => ?_)); (iterate 2 simp only [go_sem]); all_goals (simp only [go_sem] at hb; try simp only [bls] at hb)) | ((iterate 6 try ((fail_if_success with_reducible refine hK _ ?_ ?_ ?_); clear hK K)); with_reducible refine hK _ ?_ ?_ ?_; rotate_left; (focus (simp only [go_sem]; exact rfl)); clear hK K) | (with_reducible refine aGs (fun hg0 => ?_) (fun hg0 => ?_) <;> first | (with_reducible first | exact aF1 hg0 | exact aF2 hg0) | (simp only [hg0, go_sem])) | (with_reducible refine aNk ?_; intro bnil hnil; try simp only []) | exact aZ | fail))
 all_goals first | omega | skip
 refine awp_loop _ (by simp only [go_sem]; rfl) (Nat × Net) (fun x => x.1 ≤ st.length ∧ prE x.2 u = 0 ∧ x.2.init ≠ [] ∧ verF u n st = verF u x.2 (st.drop x.1)) (fun x => [(7, .one (.int .i64 x.1))]) (fun x _ => [.var 33 [.list (ints x.2.init), .list (trsD x.2.trs)], .var 55 [.list (stpD st), .list (ints m.init), .list (trsD m.trs)]]) (fun x => st.length - x.1) (0, n) ⟨Nat.zero_le _, hE, h0, by rw [List.drop_zero]⟩ ?_ ?_
 ·(simp only [SubF, go_sem]; (try simp only [go_sem]); repeat' (first | exact True.intro | with_reducible refine And.intro ?_ ?_ | rfl | omega))
 rintro ⟨k, c⟩ ⟨hk, hcE, hc0, hv⟩ L hL
 simp only at hk hcE hc0 hv hL ⊢
 have hq : ((k : Nat) : Int).toNat = k := by omega
 obtain ⟨hcn, hcu⟩ := prE_ok hcE
 have hok := netOk_of hcn
 have hi10 := hok.init
 by_cases hlt : k < st.length
 ·have hg := stp_get hlt [.nil, .nil, .int .i64 0]
  have hfx := hst _ (getD_mem st k Stp.no hlt)
  have hv2 := ver_step hlt hv
  generalize st.getD k Stp.no = x at *
  have hsi : siE c [] 1 = 0 := by rw [siE, if_neg (by omega), if_neg (by rw [show checkSet [] c.init.length = 0 from rfl]; decide), if_neg (by omega)]
  have hM := Minimal_c c 1 hok.fits fun _ => hc0
  rw [hsi, if_pos rfl] at hM
  have hml := minL_length 1 c
  have hpow : 2 ^ c.init.length ≤ 1024 := Nat.le_trans (Nat.pow_le_pow_right (by omega) hi10) (by decide)
  have hlc := lConstraint_c c.init.length x.set (by omega) hfx.set
  have hsc := lSameCon_c x.con (kepC c.init.length x.set) hfx.fac
  have hMo := Monitor_c c x.con hok.fits hfx.fac
  have hA : x.con = kepC c.init.length x.set → ACalls Tryz.prog 59 [.agg c.d, .agg x.con.d, .one (.list (ints u))] (.tup [.one (.int .i64 (max (raisingL c x.con u) 0)), .one (.bool (decide (raisingL c x.con u < 0))), .one (.int .i64 0)]) [] := fun e => Adm_ok c x.con u hok.fits hfx.fac hul (by rw [e]; exact chk_kep hcE)
  have hmd : madeO u c x = if x.set ∈ minL 1 c ∧ x.con = kepC c.init.length x.set ∧ raisingL c x.con u < 0 ∧ monE c x.con = 0 then some (monNet c x.con) else none := rfl
  have hlen : ∀ s ∈ minL 1 c, s.length ≤ 10 := fun s hs => (setOk_of hcn hs).len
  have hmok := fun m2 => made_ok (u := u) (n := c) (m := m2) (x := x)
  have hfail : madeO u c x = none → B = false := fun e => by rw [← hB, verB, hv2, e]
  generalize minL 1 c = ML at *
  have hfc : (kepC c.init.length x.set).fac = facK c.init.length x.set := rfl
  have hbc : (kepC c.init.length x.set).bound = -1 := rfl
  simp only [Net.d, Con.d, hfc, hbc] at hM hlc hsc hMo hA
  (simp only [go_sem] at hL ⊢)
  (repeat' (first | (with_reducible first | exact True.intro | refine And.intro ?_ ?_ | refine aBl ?_ | (refine aS 12 [14, 13, 16, 15, 19, 18] ?_; intro K hK)) | ((with_reducible first | refine aGo ?_ | refine rP Ty_ok mixed 9 [0, 1] [.mid [pe 2, pe 3, pe 4, pe 5, pe 6, pe 7, pe 8, pe 9, pe 10, pe 11] 0, .one 12, .mid [pe 13, pe 14] 0] ?_ | refine rP Ty_ok mixed 10 [0] [.mid [pe 1, pe 2, pe 3, pe 4, pe 5, pe 6, pe 7, pe 8, pe 9, pe 10, pe 11, pe 12, pe 13, pe 14, pe 15, pe 16, pe 17, pe 18, pe 19, pe 20, pe 21, ⟨22, 0, true, false, false, [], []⟩] 1, .one 23, .mid [pe 24, pe 25] 0] ?_ | refine rP Ty_ok mixed 12 [1, 3, 7] [.mid [pe 0, pe 2, pe 4, pe 5, pe 6] 0, .one 8, .mid [pe 9, pe 10, pe 11, pe 12, pe 13, pe 14, pe 15] 0] ?_ | refine rP Ty_ok mixed 13 [1, 3] [.mid [pe 0, pe 2, pe 4, pe 5, pe 6, ⟨7, 0, true, false, false, [], []⟩, ⟨8, 1, false, false, false, [], []⟩, ⟨9, 1, false, false, false, [], []⟩, ⟨10, 1, false, true, false, [], []⟩, ⟨11, 1, true, false, false, [0], []⟩] 2, .one 12, .one 13] ?_); simp only [hg, hq, go_sem]) | ((with_reducible refine aCd ?_ ?_ (fun hb => ?_) (fun hb => ?_)); (iterate 2 simp only [hg, hq, go_sem]); all_goals (simp only [hg, hq, go_sem] at hb; try simp only [bls] at hb)) | ((iterate 6 try ((fail_if_success with_reducible refine hK _ ?_ ?_ ?_); clear hK K)); with_reducible refine hK _ ?_ ?_ ?_; rotate_left; (focus (simp only [hg, hq, go_sem]; exact rfl)); clear hK K) | ((first | (with_reducible first | refine xA ?_ | refine xD ?_ | refine xO ?_ | refine xR ?_ | refine xG ?_ | refine xH ?_ | refine xM ?_) | ((with_reducible refine gA ?_); refine xA ?_) | ((with_reducible refine gD ?_); refine xD ?_) | ((with_reducible refine gG ?_); refine xG ?_)); simp only [hg, hq, go_sem]) | (with_reducible refine aGs (fun hg0 => ?_) (fun hg0 => ?_) <;> first | (with_reducible first | exact aF1 hg0 | exact aF2 hg0) | (simp only [hg0, hg, hq, go_sem])) | (with_reducible refine aNk ?_; intro bnil hnil; try simp only []) | exact aZ | fail))
  all_goals first | omega | skip
  refine awp_loop _ (by simp only [go_sem]; rfl) Nat (fun j => j ≤ ML.length) (fun j => [(10, .one (.bool (memK x.set ML j))), (11, .one (.int .i64 j))]) (fun _ H => H) (fun j => ML.length - j) 0 (Nat.zero_le _) ?_ ?_
  ·have e0 : memK x.set ML 0 = false := rfl
   rw [e0]
   (simp only [SubF, go_sem]; (try simp only [go_sem]); repeat' (first | exact True.intro | with_reducible refine And.intro ?_ ?_ | rfl | omega))
  rintro j hj L3 hL3
  by_cases hlj : j < ML.length
  ·have hw := words_at (l := ML) hlj [.nil]
   have hss := SameInts_c (ML.getD j []) x.set (by have := hlen _ (getD_mem ML j [] hlj); omega)
   have hms := memK_succ (x := x.set) hlj
   generalize memK x.set ML j = B1 at *
   generalize ML.getD j [] = y at *
   cases B1
   all_goals
    (simp only [go_sem] at hL3 ⊢)
    (repeat' (first | (with_reducible first | exact True.intro | refine And.intro ?_ ?_ | refine aBl ?_ | (refine aS 12 [14, 13, 16, 15, 19, 18] ?_; intro K hK)) | ((with_reducible first | refine aGo ?_ | refine rP Ty_ok mixed 9 [0, 1] [.mid [pe 2, pe 3, pe 4, pe 5, pe 6, pe 7, pe 8, pe 9, pe 10, pe 11] 0, .one 12, .mid [pe 13, pe 14] 0] ?_ | refine rP Ty_ok mixed 10 [0] [.mid [pe 1, pe 2, pe 3, pe 4, pe 5, pe 6, pe 7, pe 8, pe 9, pe 10, pe 11, pe 12, pe 13, pe 14, pe 15, pe 16, pe 17, pe 18, pe 19, pe 20, pe 21, ⟨22, 0, true, false, false, [], []⟩] 1, .one 23, .mid [pe 24, pe 25] 0] ?_ | refine rP Ty_ok mixed 12 [1, 3, 7] [.mid [pe 0, pe 2, pe 4, pe 5, pe 6] 0, .one 8, .mid [pe 9, pe 10, pe 11, pe 12, pe 13, pe 14, pe 15] 0] ?_ | refine rP Ty_ok mixed 13 [1, 3] [.mid [pe 0, pe 2, pe 4, pe 5, pe 6, ⟨7, 0, true, false, false, [], []⟩, ⟨8, 1, false, false, false, [], []⟩, ⟨9, 1, false, false, false, [], []⟩, ⟨10, 1, false, true, false, [], []⟩, ⟨11, 1, true, false, false, [0], []⟩] 2, .one 12, .one 13] ?_); simp only [hw, hg, hq, go_sem]) | ((with_reducible refine aCd ?_ ?_ (fun hb => ?_) (fun hb => ?_)); (iterate 2 simp only [hw, hg, hq, go_sem]); all_goals (simp only [hw, hg, hq, go_sem] at hb; try simp only [bls] at hb)) | ((iterate 6 try ((fail_if_success with_reducible refine hK _ ?_ ?_ ?_); clear hK K)); with_reducible refine hK _ ?_ ?_ ?_; rotate_left; (focus (simp only [hw, hg, hq, go_sem]; exact rfl)); clear hK K) | ((first | (with_reducible first | refine xA ?_ | refine xD ?_ | refine xO ?_ | refine xR ?_ | refine xG ?_ | refine xH ?_ | refine xM ?_) | ((with_reducible refine gA ?_); refine xA ?_) | ((with_reducible refine gD ?_); refine xD ?_) | ((with_reducible refine gG ?_); refine xG ?_)); simp only [hw, hg, hq, go_sem]) | (with_reducible refine aGs (fun hg0 => ?_) (fun hg0 => ?_) <;> first | (with_reducible first | exact aF1 hg0 | exact aF2 hg0) | (simp only [hg0, hw, hg, hq, go_sem])) | (with_reducible refine aNk ?_; intro bnil hnil; try simp only []) | exact aZ | fail))
    all_goals first | omega | skip
    refine hL3 _ (j + 1) (by omega) ?_ (by omega)
    rw [hms]
    (simp only [SubF, go_sem]; (try simp only [go_sem]); repeat' (first | exact True.intro | with_reducible refine And.intro ?_ ?_ | rfl | omega))
  ·have hjl : j = ML.length := by omega
   subst hjl
   rw [memK_all]
   clear hL3
   by_cases hin : x.set ∈ ML
   ·rw [decide_eq_true hin]
    by_cases hc : x.con = kepC c.init.length x.set
    ·rw [decide_eq_true hc] at hsc
     have hA := hA hc
     by_cases hr : raisingL c x.con u < 0
     ·rw [decide_eq_true hr] at hA
      by_cases hz : monE c x.con = 0
      ·have hsome : madeO u c x = some (monNet c x.con) := by rw [hmd, if_pos ⟨hin, hc, hr, hz⟩]
       obtain ⟨r1, r2, r3⟩ := hmok _ hsome
       rw [hsome] at hv2
       rw [hz, show monL c x.con = monNet c x.con from by rw [monL, if_pos hz]] at hMo
       generalize raisingL c x.con u = q at *
       generalize monNet c x.con = c2 at *
       have r4 : prE c2 u = 0 := by rw [prE, if_neg (by rw [netE_of r1]; decide), r3]; exact hcu
       have r5 : c2.init ≠ [] := by intro e; rw [e] at r2; simp at r2
       (simp only [go_sem] at hL ⊢)
       (repeat' (first | (with_reducible first | exact True.intro | refine And.intro ?_ ?_ | refine aBl ?_ | (refine aS 12 [14, 13, 16, 15, 19, 18] ?_; intro K hK)) | ((with_reducible first | refine aGo ?_ | refine rP Ty_ok mixed 9 [0, 1] [.mid [pe 2, pe 3, pe 4, pe 5, pe 6, pe 7, pe 8, pe 9, pe 10, pe 11] 0, .one 12, .mid [pe 13, pe 14] 0] ?_ | refine rP Ty_ok mixed 10 [0] [.mid [pe 1, pe 2, pe 3, pe 4, pe 5, pe 6, pe 7, pe 8, pe 9, pe 10, pe 11, pe 12, pe 13, pe 14, pe 15, pe 16, pe 17, pe 18, pe 19, pe 20, pe 21, ⟨22, 0, true, false, false, [], []⟩] 1, .one 23, .mid [pe 24, pe 25] 0] ?_ | refine rP Ty_ok mixed 12 [1, 3, 7] [.mid [pe 0, pe 2, pe 4, pe 5, pe 6] 0, .one 8, .mid [pe 9, pe 10, pe 11, pe 12, pe 13, pe 14, pe 15] 0] ?_ | refine rP Ty_ok mixed 13 [1, 3] [.mid [pe 0, pe 2, pe 4, pe 5, pe 6, ⟨7, 0, true, false, false, [], []⟩, ⟨8, 1, false, false, false, [], []⟩, ⟨9, 1, false, false, false, [], []⟩, ⟨10, 1, false, true, false, [], []⟩, ⟨11, 1, true, false, false, [0], []⟩] 2, .one 12, .one 13] ?_); simp only [hg, hq, go_sem]) | ((with_reducible refine aCd ?_ ?_ (fun hb => ?_) (fun hb => ?_)); (iterate 2 simp only [hg, hq, go_sem]); all_goals (simp only [hg, hq, go_sem] at hb; try simp only [bls] at hb)) | ((iterate 6 try ((fail_if_success with_reducible refine hK _ ?_ ?_ ?_); clear hK K)); with_reducible refine hK _ ?_ ?_ ?_; rotate_left; (focus (simp only [hg, hq, go_sem]; exact rfl)); clear hK K) | ((first | (with_reducible first | refine xA ?_ | refine xD ?_ | refine xO ?_ | refine xR ?_ | refine xG ?_ | refine xH ?_ | refine xM ?_) | ((with_reducible refine gA ?_); refine xA ?_) | ((with_reducible refine gD ?_); refine xD ?_) | ((with_reducible refine gG ?_); refine xG ?_)); simp only [hg, hq, go_sem]) | (with_reducible refine aGs (fun hg0 => ?_) (fun hg0 => ?_) <;> first | (with_reducible first | exact aF1 hg0 | exact aF2 hg0) | (simp only [hg0, hg, hq, go_sem])) | (with_reducible refine aNk ?_; intro bnil hnil; try simp only []) | exact aZ | fail))
       all_goals first | omega | exact fun h => ⟨h, by omega, by omega⟩ | skip
       exact hL _ (k + 1, c2) ⟨by simp only; omega, r4, r5, hv2⟩ (by (simp only [SubF, go_sem]; (try simp only [go_sem]); repeat' (first | exact True.intro | with_reducible refine And.intro ?_ ?_ | rfl | omega))) (by simp only; omega)
      ·have hf := hfail (by rw [hmd, if_neg fun h => hz h.2.2.2])
       subst hf
       generalize raisingL c x.con u = q at *
       generalize monL c x.con = c2 at *
       generalize monE c x.con = z at *
       (simp only [go_sem])
       (repeat' (first | (with_reducible first | exact True.intro | refine And.intro ?_ ?_ | refine aBl ?_ | (refine aS 12 [14, 13, 16, 15, 19, 18] ?_; intro K hK)) | ((with_reducible first | refine aGo ?_ | refine rP Ty_ok mixed 9 [0, 1] [.mid [pe 2, pe 3, pe 4, pe 5, pe 6, pe 7, pe 8, pe 9, pe 10, pe 11] 0, .one 12, .mid [pe 13, pe 14] 0] ?_ | refine rP Ty_ok mixed 10 [0] [.mid [pe 1, pe 2, pe 3, pe 4, pe 5, pe 6, pe 7, pe 8, pe 9, pe 10, pe 11, pe 12, pe 13, pe 14, pe 15, pe 16, pe 17, pe 18, pe 19, pe 20, pe 21, ⟨22, 0, true, false, false, [], []⟩] 1, .one 23, .mid [pe 24, pe 25] 0] ?_ | refine rP Ty_ok mixed 12 [1, 3, 7] [.mid [pe 0, pe 2, pe 4, pe 5, pe 6] 0, .one 8, .mid [pe 9, pe 10, pe 11, pe 12, pe 13, pe 14, pe 15] 0] ?_ | refine rP Ty_ok mixed 13 [1, 3] [.mid [pe 0, pe 2, pe 4, pe 5, pe 6, ⟨7, 0, true, false, false, [], []⟩, ⟨8, 1, false, false, false, [], []⟩, ⟨9, 1, false, false, false, [], []⟩, ⟨10, 1, false, true, false, [], []⟩, ⟨11, 1, true, false, false, [0], []⟩] 2, .one 12, .one 13] ?_); simp only [hg, hq, go_sem]) | ((with_reducible refine aCd ?_ ?_ (fun hb => ?_) (fun hb => ?_)); (iterate 2 simp only [hg, hq, go_sem]); all_goals (simp only [hg, hq, go_sem] at hb; try simp only [bls] at hb)) | ((iterate 6 try ((fail_if_success with_reducible refine hK _ ?_ ?_ ?_); clear hK K)); with_reducible refine hK _ ?_ ?_ ?_; rotate_left; (focus (simp only [hg, hq, go_sem]; exact rfl)); clear hK K) | ((first | (with_reducible first | refine xA ?_ | refine xD ?_ | refine xO ?_ | refine xR ?_ | refine xG ?_ | refine xH ?_ | refine xM ?_) | ((with_reducible refine gA ?_); refine xA ?_) | ((with_reducible refine gD ?_); refine xD ?_) | ((with_reducible refine gG ?_); refine xG ?_)); simp only [hg, hq, go_sem]) | (with_reducible refine aGs (fun hg0 => ?_) (fun hg0 => ?_) <;> first | (with_reducible first | exact aF1 hg0 | exact aF2 hg0) | (simp only [hg0, hg, hq, go_sem])) | (with_reducible refine aNk ?_; intro bnil hnil; try simp only []) | exact aZ | fail))
       all_goals first | omega | exact fun h => ⟨h, by omega, by omega⟩ | skip
     ·have hf := hfail (by rw [hmd, if_neg fun h => hr h.2.2.1])
      subst hf
      rw [decide_eq_false hr] at hA
      generalize raisingL c x.con u = q at *
      generalize monL c x.con = c2 at *
      generalize monE c x.con = z at *
      (simp only [go_sem])
      (repeat' (first | (with_reducible first | exact True.intro | refine And.intro ?_ ?_ | refine aBl ?_ | (refine aS 12 [14, 13, 16, 15, 19, 18] ?_; intro K hK)) | ((with_reducible first | refine aGo ?_ | refine rP Ty_ok mixed 9 [0, 1] [.mid [pe 2, pe 3, pe 4, pe 5, pe 6, pe 7, pe 8, pe 9, pe 10, pe 11] 0, .one 12, .mid [pe 13, pe 14] 0] ?_ | refine rP Ty_ok mixed 10 [0] [.mid [pe 1, pe 2, pe 3, pe 4, pe 5, pe 6, pe 7, pe 8, pe 9, pe 10, pe 11, pe 12, pe 13, pe 14, pe 15, pe 16, pe 17, pe 18, pe 19, pe 20, pe 21, ⟨22, 0, true, false, false, [], []⟩] 1, .one 23, .mid [pe 24, pe 25] 0] ?_ | refine rP Ty_ok mixed 12 [1, 3, 7] [.mid [pe 0, pe 2, pe 4, pe 5, pe 6] 0, .one 8, .mid [pe 9, pe 10, pe 11, pe 12, pe 13, pe 14, pe 15] 0] ?_ | refine rP Ty_ok mixed 13 [1, 3] [.mid [pe 0, pe 2, pe 4, pe 5, pe 6, ⟨7, 0, true, false, false, [], []⟩, ⟨8, 1, false, false, false, [], []⟩, ⟨9, 1, false, false, false, [], []⟩, ⟨10, 1, false, true, false, [], []⟩, ⟨11, 1, true, false, false, [0], []⟩] 2, .one 12, .one 13] ?_); simp only [hg, hq, go_sem]) | ((with_reducible refine aCd ?_ ?_ (fun hb => ?_) (fun hb => ?_)); (iterate 2 simp only [hg, hq, go_sem]); all_goals (simp only [hg, hq, go_sem] at hb; try simp only [bls] at hb)) | ((iterate 6 try ((fail_if_success with_reducible refine hK _ ?_ ?_ ?_); clear hK K)); with_reducible refine hK _ ?_ ?_ ?_; rotate_left; (focus (simp only [hg, hq, go_sem]; exact rfl)); clear hK K) | ((first | (with_reducible first | refine xA ?_ | refine xD ?_ | refine xO ?_ | refine xR ?_ | refine xG ?_ | refine xH ?_ | refine xM ?_) | ((with_reducible refine gA ?_); refine xA ?_) | ((with_reducible refine gD ?_); refine xD ?_) | ((with_reducible refine gG ?_); refine xG ?_)); simp only [hg, hq, go_sem]) | (with_reducible refine aGs (fun hg0 => ?_) (fun hg0 => ?_) <;> first | (with_reducible first | exact aF1 hg0 | exact aF2 hg0) | (simp only [hg0, hg, hq, go_sem])) | (with_reducible refine aNk ?_; intro bnil hnil; try simp only []) | exact aZ | fail))
      all_goals first | omega | exact fun h => ⟨h, by omega, by omega⟩ | skip
    ·have hf := hfail (by rw [hmd, if_neg fun h => hc h.2.1])
     subst hf
     rw [decide_eq_false hc] at hsc
     (simp only [go_sem])
     (repeat' (first | (with_reducible first | exact True.intro | refine And.intro ?_ ?_ | refine aBl ?_ | (refine aS 12 [14, 13, 16, 15, 19, 18] ?_; intro K hK)) | ((with_reducible first | refine aGo ?_ | refine rP Ty_ok mixed 9 [0, 1] [.mid [pe 2, pe 3, pe 4, pe 5, pe 6, pe 7, pe 8, pe 9, pe 10, pe 11] 0, .one 12, .mid [pe 13, pe 14] 0] ?_ | refine rP Ty_ok mixed 10 [0] [.mid [pe 1, pe 2, pe 3, pe 4, pe 5, pe 6, pe 7, pe 8, pe 9, pe 10, pe 11, pe 12, pe 13, pe 14, pe 15, pe 16, pe 17, pe 18, pe 19, pe 20, pe 21, ⟨22, 0, true, false, false, [], []⟩] 1, .one 23, .mid [pe 24, pe 25] 0] ?_ | refine rP Ty_ok mixed 12 [1, 3, 7] [.mid [pe 0, pe 2, pe 4, pe 5, pe 6] 0, .one 8, .mid [pe 9, pe 10, pe 11, pe 12, pe 13, pe 14, pe 15] 0] ?_ | refine rP Ty_ok mixed 13 [1, 3] [.mid [pe 0, pe 2, pe 4, pe 5, pe 6, ⟨7, 0, true, false, false, [], []⟩, ⟨8, 1, false, false, false, [], []⟩, ⟨9, 1, false, false, false, [], []⟩, ⟨10, 1, false, true, false, [], []⟩, ⟨11, 1, true, false, false, [0], []⟩] 2, .one 12, .one 13] ?_); simp only [hg, hq, go_sem]) | ((with_reducible refine aCd ?_ ?_ (fun hb => ?_) (fun hb => ?_)); (iterate 2 simp only [hg, hq, go_sem]); all_goals (simp only [hg, hq, go_sem] at hb; try simp only [bls] at hb)) | ((iterate 6 try ((fail_if_success with_reducible refine hK _ ?_ ?_ ?_); clear hK K)); with_reducible refine hK _ ?_ ?_ ?_; rotate_left; (focus (simp only [hg, hq, go_sem]; exact rfl)); clear hK K) | ((first | (with_reducible first | refine xA ?_ | refine xD ?_ | refine xO ?_ | refine xR ?_ | refine xG ?_ | refine xH ?_ | refine xM ?_) | ((with_reducible refine gA ?_); refine xA ?_) | ((with_reducible refine gD ?_); refine xD ?_) | ((with_reducible refine gG ?_); refine xG ?_)); simp only [hg, hq, go_sem]) | (with_reducible refine aGs (fun hg0 => ?_) (fun hg0 => ?_) <;> first | (with_reducible first | exact aF1 hg0 | exact aF2 hg0) | (simp only [hg0, hg, hq, go_sem])) | (with_reducible refine aNk ?_; intro bnil hnil; try simp only []) | exact aZ | fail))
     all_goals first | omega | exact fun h => ⟨h, by omega, by omega⟩ | skip
   ·have hf := hfail (by rw [hmd, if_neg fun h => hin h.1])
    subst hf
    rw [decide_eq_false hin]
    (simp only [go_sem])
    (repeat' (first | (with_reducible first | exact True.intro | refine And.intro ?_ ?_ | refine aBl ?_ | (refine aS 12 [14, 13, 16, 15, 19, 18] ?_; intro K hK)) | ((with_reducible first | refine aGo ?_ | refine rP Ty_ok mixed 9 [0, 1] [.mid [pe 2, pe 3, pe 4, pe 5, pe 6, pe 7, pe 8, pe 9, pe 10, pe 11] 0, .one 12, .mid [pe 13, pe 14] 0] ?_ | refine rP Ty_ok mixed 10 [0] [.mid [pe 1, pe 2, pe 3, pe 4, pe 5, pe 6, pe 7, pe 8, pe 9, pe 10, pe 11, pe 12, pe 13, pe 14, pe 15, pe 16, pe 17, pe 18, pe 19, pe 20, pe 21, ⟨22, 0, true, false, false, [], []⟩] 1, .one 23, .mid [pe 24, pe 25] 0] ?_ | refine rP Ty_ok mixed 12 [1, 3, 7] [.mid [pe 0, pe 2, pe 4, pe 5, pe 6] 0, .one 8, .mid [pe 9, pe 10, pe 11, pe 12, pe 13, pe 14, pe 15] 0] ?_ | refine rP Ty_ok mixed 13 [1, 3] [.mid [pe 0, pe 2, pe 4, pe 5, pe 6, ⟨7, 0, true, false, false, [], []⟩, ⟨8, 1, false, false, false, [], []⟩, ⟨9, 1, false, false, false, [], []⟩, ⟨10, 1, false, true, false, [], []⟩, ⟨11, 1, true, false, false, [0], []⟩] 2, .one 12, .one 13] ?_); simp only [hg, hq, go_sem]) | ((with_reducible refine aCd ?_ ?_ (fun hb => ?_) (fun hb => ?_)); (iterate 2 simp only [hg, hq, go_sem]); all_goals (simp only [hg, hq, go_sem] at hb; try simp only [bls] at hb)) | ((iterate 6 try ((fail_if_success with_reducible refine hK _ ?_ ?_ ?_); clear hK K)); with_reducible refine hK _ ?_ ?_ ?_; rotate_left; (focus (simp only [hg, hq, go_sem]; exact rfl)); clear hK K) | ((first | (with_reducible first | refine xA ?_ | refine xD ?_ | refine xO ?_ | refine xR ?_ | refine xG ?_ | refine xH ?_ | refine xM ?_) | ((with_reducible refine gA ?_); refine xA ?_) | ((with_reducible refine gD ?_); refine xD ?_) | ((with_reducible refine gG ?_); refine xG ?_)); simp only [hg, hq, go_sem]) | (with_reducible refine aGs (fun hg0 => ?_) (fun hg0 => ?_) <;> first | (with_reducible first | exact aF1 hg0 | exact aF2 hg0) | (simp only [hg0, hg, hq, go_sem])) | (with_reducible refine aNk ?_; intro bnil hnil; try simp only []) | exact aZ | fail))
    all_goals first | omega | exact fun h => ⟨h, by omega, by omega⟩ | skip
 ·rw [drop_end _ k (by omega), verF] at hv
  have e : verB u n st m = (decide (c = m) && liveB c) := by rw [verB, hv]
  rw [e] at hB
  have hEq := netEqual_c c m hok.fits
  have hD := Deadlock_c c hok.fits hc0
  have hnz := fun e => bnd_ne (n := c) (e := e)
  simp only [Net.d] at hEq hD
  rw [liveB] at hB
  generalize decide (c = m) = B3 at *
  generalize bndF c = Z at *
  cases Z with
  | inl e =>
   have hnz := hnz e rfl
   have hz := hE0 hnz
   simp only [dlR] at hD
   simp only [Bool.and_false] at hB
   subst hB
   cases B3
   all_goals
    (simp only [go_sem])
    (repeat' (first | (with_reducible first | exact True.intro | refine And.intro ?_ ?_ | refine aBl ?_ | (refine aS 12 [14, 13, 16, 15, 19, 18] ?_; intro K hK)) | ((with_reducible first | refine aGo ?_ | refine rP Ty_ok mixed 9 [0, 1] [.mid [pe 2, pe 3, pe 4, pe 5, pe 6, pe 7, pe 8, pe 9, pe 10, pe 11] 0, .one 12, .mid [pe 13, pe 14] 0] ?_ | refine rP Ty_ok mixed 10 [0] [.mid [pe 1, pe 2, pe 3, pe 4, pe 5, pe 6, pe 7, pe 8, pe 9, pe 10, pe 11, pe 12, pe 13, pe 14, pe 15, pe 16, pe 17, pe 18, pe 19, pe 20, pe 21, ⟨22, 0, true, false, false, [], []⟩] 1, .one 23, .mid [pe 24, pe 25] 0] ?_ | refine rP Ty_ok mixed 12 [1, 3, 7] [.mid [pe 0, pe 2, pe 4, pe 5, pe 6] 0, .one 8, .mid [pe 9, pe 10, pe 11, pe 12, pe 13, pe 14, pe 15] 0] ?_ | refine rP Ty_ok mixed 13 [1, 3] [.mid [pe 0, pe 2, pe 4, pe 5, pe 6, ⟨7, 0, true, false, false, [], []⟩, ⟨8, 1, false, false, false, [], []⟩, ⟨9, 1, false, false, false, [], []⟩, ⟨10, 1, false, true, false, [], []⟩, ⟨11, 1, true, false, false, [0], []⟩] 2, .one 12, .one 13] ?_); simp only [hz, go_sem]) | ((with_reducible refine aCd ?_ ?_ (fun hb => ?_) (fun hb => ?_)); (iterate 2 simp only [hz, go_sem]); all_goals (simp only [hz, go_sem] at hb; try simp only [bls] at hb)) | ((iterate 6 try ((fail_if_success with_reducible refine hK _ ?_ ?_ ?_); clear hK K)); with_reducible refine hK _ ?_ ?_ ?_; rotate_left; (focus (simp only [hz, go_sem]; exact rfl)); clear hK K) | ((first | (with_reducible first | refine xA ?_ | refine xD ?_ | refine xO ?_ | refine xR ?_ | refine xG ?_ | refine xH ?_ | refine xM ?_) | ((with_reducible refine gA ?_); refine xA ?_) | ((with_reducible refine gD ?_); refine xD ?_) | ((with_reducible refine gG ?_); refine xG ?_)); simp only [hz, go_sem]) | (with_reducible refine aGs (fun hg0 => ?_) (fun hg0 => ?_) <;> first | (with_reducible first | exact aF1 hg0 | exact aF2 hg0) | (simp only [hg0, hz, go_sem])) | (with_reducible refine aNk ?_; intro bnil hnil; try simp only []) | exact aZ | fail))
    all_goals first | omega | exact fun h => ⟨h, by omega, by omega⟩ | skip
  | inr r =>
   obtain ⟨nd, ed⟩ := r
   simp only [dlR] at hD
   simp only at hB
   by_cases hd : 0 ≤ deadFrom c nd 0
   ·rw [if_pos hd] at hD
    rw [decide_eq_false (by omega), Bool.and_false] at hB
    subst hB
    generalize pathF nd (deadFrom c nd 0) = W at *
    cases B3
    all_goals
     (simp only [go_sem])
     (repeat' (first | (with_reducible first | exact True.intro | refine And.intro ?_ ?_ | refine aBl ?_ | (refine aS 12 [14, 13, 16, 15, 19, 18] ?_; intro K hK)) | ((with_reducible first | refine aGo ?_ | refine rP Ty_ok mixed 9 [0, 1] [.mid [pe 2, pe 3, pe 4, pe 5, pe 6, pe 7, pe 8, pe 9, pe 10, pe 11] 0, .one 12, .mid [pe 13, pe 14] 0] ?_ | refine rP Ty_ok mixed 10 [0] [.mid [pe 1, pe 2, pe 3, pe 4, pe 5, pe 6, pe 7, pe 8, pe 9, pe 10, pe 11, pe 12, pe 13, pe 14, pe 15, pe 16, pe 17, pe 18, pe 19, pe 20, pe 21, ⟨22, 0, true, false, false, [], []⟩] 1, .one 23, .mid [pe 24, pe 25] 0] ?_ | refine rP Ty_ok mixed 12 [1, 3, 7] [.mid [pe 0, pe 2, pe 4, pe 5, pe 6] 0, .one 8, .mid [pe 9, pe 10, pe 11, pe 12, pe 13, pe 14, pe 15] 0] ?_ | refine rP Ty_ok mixed 13 [1, 3] [.mid [pe 0, pe 2, pe 4, pe 5, pe 6, ⟨7, 0, true, false, false, [], []⟩, ⟨8, 1, false, false, false, [], []⟩, ⟨9, 1, false, false, false, [], []⟩, ⟨10, 1, false, true, false, [], []⟩, ⟨11, 1, true, false, false, [0], []⟩] 2, .one 12, .one 13] ?_); simp only [go_sem]) | ((with_reducible refine aCd ?_ ?_ (fun hb => ?_) (fun hb => ?_)); (iterate 2 simp only [go_sem]); all_goals (simp only [go_sem] at hb; try simp only [bls] at hb)) | ((iterate 6 try ((fail_if_success with_reducible refine hK _ ?_ ?_ ?_); clear hK K)); with_reducible refine hK _ ?_ ?_ ?_; rotate_left; (focus (simp only [go_sem]; exact rfl)); clear hK K) | ((first | (with_reducible first | refine xA ?_ | refine xD ?_ | refine xO ?_ | refine xR ?_ | refine xG ?_ | refine xH ?_ | refine xM ?_) | ((with_reducible refine gA ?_); refine xA ?_) | ((with_reducible refine gD ?_); refine xD ?_) | ((with_reducible refine gG ?_); refine xG ?_)); simp only [go_sem]) | (with_reducible refine aGs (fun hg0 => ?_) (fun hg0 => ?_) <;> first | (with_reducible first | exact aF1 hg0 | exact aF2 hg0) | (simp only [hg0, go_sem])) | (with_reducible refine aNk ?_; intro bnil hnil; try simp only []) | exact aZ | fail))
     all_goals first | omega | exact fun h => ⟨h, by omega, by omega⟩ | skip
   ·rw [if_neg hd] at hD
    rw [decide_eq_true (by omega), Bool.and_true] at hB
    subst hB
    cases B3
    all_goals
     (simp only [go_sem])
     (repeat' (first | (with_reducible first | exact True.intro | refine And.intro ?_ ?_ | refine aBl ?_ | (refine aS 12 [14, 13, 16, 15, 19, 18] ?_; intro K hK)) | ((with_reducible first | refine aGo ?_ | refine rP Ty_ok mixed 9 [0, 1] [.mid [pe 2, pe 3, pe 4, pe 5, pe 6, pe 7, pe 8, pe 9, pe 10, pe 11] 0, .one 12, .mid [pe 13, pe 14] 0] ?_ | refine rP Ty_ok mixed 10 [0] [.mid [pe 1, pe 2, pe 3, pe 4, pe 5, pe 6, pe 7, pe 8, pe 9, pe 10, pe 11, pe 12, pe 13, pe 14, pe 15, pe 16, pe 17, pe 18, pe 19, pe 20, pe 21, ⟨22, 0, true, false, false, [], []⟩] 1, .one 23, .mid [pe 24, pe 25] 0] ?_ | refine rP Ty_ok mixed 12 [1, 3, 7] [.mid [pe 0, pe 2, pe 4, pe 5, pe 6] 0, .one 8, .mid [pe 9, pe 10, pe 11, pe 12, pe 13, pe 14, pe 15] 0] ?_ | refine rP Ty_ok mixed 13 [1, 3] [.mid [pe 0, pe 2, pe 4, pe 5, pe 6, ⟨7, 0, true, false, false, [], []⟩, ⟨8, 1, false, false, false, [], []⟩, ⟨9, 1, false, false, false, [], []⟩, ⟨10, 1, false, true, false, [], []⟩, ⟨11, 1, true, false, false, [0], []⟩] 2, .one 12, .one 13] ?_); simp only [go_sem]) | ((with_reducible refine aCd ?_ ?_ (fun hb => ?_) (fun hb => ?_)); (iterate 2 simp only [go_sem]); all_goals (simp only [go_sem] at hb; try simp only [bls] at hb)) | ((iterate 6 try ((fail_if_success with_reducible refine hK _ ?_ ?_ ?_); clear hK K)); with_reducible refine hK _ ?_ ?_ ?_; rotate_left; (focus (simp only [go_sem]; exact rfl)); clear hK K) | ((first | (with_reducible first | refine xA ?_ | refine xD ?_ | refine xO ?_ | refine xR ?_ | refine xG ?_ | refine xH ?_ | refine xM ?_) | ((with_reducible refine gA ?_); refine xA ?_) | ((with_reducible refine gD ?_); refine xD ?_) | ((with_reducible refine gG ?_); refine xG ?_)); simp only [go_sem]) | (with_reducible refine aGs (fun hg0 => ?_) (fun hg0 => ?_) <;> first | (with_reducible first | exact aF1 hg0 | exact aF2 hg0) | (simp only [hg0, go_sem])) | (with_reducible refine aNk ?_; intro bnil hnil; try simp only []) | exact aZ | fail))
     all_goals first | omega | exact fun h => ⟨h, by omega, by omega⟩ | skip
end Go.Proofs.YtlpllbbjmbbfnaaGreatDoor
