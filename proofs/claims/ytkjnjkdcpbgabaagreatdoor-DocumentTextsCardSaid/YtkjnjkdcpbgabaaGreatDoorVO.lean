/-
 Chapter 23: the law's digits.
-/
import Derived.Test.YtkjnjkdcpbgabaaGreatDoorUX
set_option linter.unusedSimpArgs false
set_option linter.unusedVariables false
namespace Go.Proofs.YtkjnjkdcpbgabaaGreatDoor
open Go.Eng Go.RowKit
theorem itoa_nat (u : Nat) : Lib.itoa (u : Int) = Lib.decDigits u := by rw [Lib.itoa, if_neg (by omega), Int.toNat_natCast]
theorem itoa_neg (u : Nat) (h : 1 ≤ u) : Lib.itoa (-(u : Int)) = 45 :: Lib.decDigits u := by rw [Lib.itoa, if_pos (by omega), Int.natAbs_neg, Int.natAbs_natCast]
theorem dec_one {u : Nat} (h : u < 10) : Lib.decDigits u = [UInt8.ofNat (48 + u)] := by rw [Lib.decDigits, dif_pos h]
theorem dec_step {u : Nat} (h : ¬ u < 10) : Lib.decDigits u = Lib.decDigits (u / 10) ++ [UInt8.ofNat (48 + u % 10)] := by rw [Lib.decDigits, dif_neg h]
set_option maxHeartbeats 16000000 in
set_option maxRecDepth 100000 in
theorem u8_wrap {r : Nat} (h : r < 10) : IntKind.u8.wrap (r : Int) = r := by
 rw [IntKind.wrap_u8]
 omega
theorem dec_len {u : Nat} (h : u ≤ 9223372036854775807) : (Lib.decDigits u).length ≤ 21 := by
 have := Lib.itoa_length_le u (by omega) (by omega)
 rwa [itoa_nat] at this
theorem toNat_48 (r : Nat) : (48 + (r : Int)).toNat = 48 + r := by omega
set_option maxHeartbeats 16000000 in
set_option maxRecDepth 100000 in
theorem digitsN_c : ∀ (m u : Nat), u ≤ m → u ≤ 9223372036854775807 → ACalls Tryz.prog 69 [.one (.int .i64 u)] (.one (.str (Lib.decDigits u))) [] := by
 intro m
 induction m with
 | zero =>
  intro u h1 h2
  obtain rfl : u = 0 := by omega
  rw [dec_one (by decide)]
  have hw := u8_wrap (r := 0) (by decide)
  simp only [Int.natCast_zero] at hw
  (refine ACalls.of_body Ty_ok mixed Tryz.func69 rfl (by kernel_rfl) Tryz.ntmps69 (by simp) (congrArg Array.toList Tryz.results69) ?_)
  simp only [slotsOf]
  (repeat' (first | (with_reducible first | exact True.intro | refine And.intro ?_ ?_ | refine aBl ?_ | ((first | refine aS1 3 [] ?_ | refine aS2 3 [] ?_ | refine aS3 3 [] ?_ | refine aS4 3 [] ?_ | refine aSq 3 [] ?_); intro K hK)) | ((with_reducible first | refine aRg ?_ | refine aEx ?_ | refine aSk ?_ | refine aRt ?_ | refine aLk ?_ | refine aOt ?_ | refine rP Ty_ok mixed 3 [0, 5] [.mid [pe 1, pe 2, ⟨3, 0, true, false, false, [], []⟩, ⟨4, 1, false, false, false, [], []⟩, ⟨6, 1, false, false, false, [0], []⟩, ⟨7, 1, false, false, false, [0], []⟩, ⟨8, 1, false, false, false, [0], []⟩, ⟨9, 1, false, false, false, [0], []⟩, ⟨10, 1, false, false, false, [0], []⟩, ⟨11, 1, false, false, false, [0], []⟩, ⟨12, 1, false, false, false, [], []⟩, ⟨13, 1, false, false, false, [], []⟩] 1] ?_ | refine rP Ty_ok mixed 7 [0, 3] [.mid [pe 1, ⟨2, 0, true, false, false, [], []⟩, ⟨4, 1, false, false, false, [0], []⟩, ⟨5, 1, false, false, false, [0], []⟩, ⟨6, 1, false, false, false, [0], []⟩, ⟨7, 1, false, false, false, [0], []⟩, ⟨8, 1, false, false, false, [0], []⟩, ⟨9, 1, false, false, false, [], []⟩, ⟨10, 1, false, false, false, [], []⟩] 1] ?_); simp only [hw, go_sem]) | ((with_reducible refine aCd ?_ ?_ (fun hb => ?_) (fun hb => ?_)); (simp only [hw, go_sem]); (simp only [hw, go_sem]); all_goals (simp only [hw, go_sem] at hb; try simp only [bls] at hb)) | ((iterate 6 try ((fail_if_success with_reducible refine hK _ ?_ ?_ ?_); clear hK K)); with_reducible refine hK _ ?_ ?_ ?_; rotate_left; (focus (simp only [hw, go_sem]; exact rfl)); clear hK K) | (with_reducible refine aGs (fun hg0 => ?_) (fun hg0 => ?_) <;> first | (with_reducible first | exact aF1 hg0 | exact aF2 hg0) | (simp only [hg0, hw, go_sem])) | (with_reducible refine aNk ?_; intro bnil hnil; try simp only []) | (omega; done) | (intro hv; (try simp only [bls] at hv); (try simp only [bls]); omega) | (intro hg; (simp only [hg, Bool.true_and, true_and, implies_true]; try (intro hg2; simp only [hg2, Bool.not_false, Bool.not_true])); done)))
  all_goals first | omega | rfl | skip
 | succ m ih =>
  intro u h1 h2
  by_cases h : u < 10
  ·rw [dec_one h]
   have hb1 : decide ((u : Int) < 0) = false := decide_eq_false (by omega)
   have hb2 : decide ((u : Int) < 10) = true := decide_eq_true (by omega)
   have hw := u8_wrap h
   have ht := toNat_48 u
   (refine ACalls.of_body Ty_ok mixed Tryz.func69 rfl (by kernel_rfl) Tryz.ntmps69 (by simp) (congrArg Array.toList Tryz.results69) ?_)
   simp only [slotsOf]
   (repeat' (first | (with_reducible first | exact True.intro | refine And.intro ?_ ?_ | refine aBl ?_ | ((first | refine aS1 3 [] ?_ | refine aS2 3 [] ?_ | refine aS3 3 [] ?_ | refine aS4 3 [] ?_ | refine aSq 3 [] ?_); intro K hK)) | ((with_reducible first | refine aRg ?_ | refine aEx ?_ | refine aSk ?_ | refine aRt ?_ | refine aLk ?_ | refine aOt ?_ | refine rP Ty_ok mixed 3 [0, 5] [.mid [pe 1, pe 2, ⟨3, 0, true, false, false, [], []⟩, ⟨4, 1, false, false, false, [], []⟩, ⟨6, 1, false, false, false, [0], []⟩, ⟨7, 1, false, false, false, [0], []⟩, ⟨8, 1, false, false, false, [0], []⟩, ⟨9, 1, false, false, false, [0], []⟩, ⟨10, 1, false, false, false, [0], []⟩, ⟨11, 1, false, false, false, [0], []⟩, ⟨12, 1, false, false, false, [], []⟩, ⟨13, 1, false, false, false, [], []⟩] 1] ?_ | refine rP Ty_ok mixed 7 [0, 3] [.mid [pe 1, ⟨2, 0, true, false, false, [], []⟩, ⟨4, 1, false, false, false, [0], []⟩, ⟨5, 1, false, false, false, [0], []⟩, ⟨6, 1, false, false, false, [0], []⟩, ⟨7, 1, false, false, false, [0], []⟩, ⟨8, 1, false, false, false, [0], []⟩, ⟨9, 1, false, false, false, [], []⟩, ⟨10, 1, false, false, false, [], []⟩] 1] ?_); simp only [hb1, hb2, hw, ht, go_sem]) | ((with_reducible refine aCd ?_ ?_ (fun hb => ?_) (fun hb => ?_)); (simp only [hb1, hb2, hw, ht, go_sem]); (simp only [hb1, hb2, hw, ht, go_sem]); all_goals (simp only [hb1, hb2, hw, ht, go_sem] at hb; try simp only [bls] at hb)) | ((iterate 6 try ((fail_if_success with_reducible refine hK _ ?_ ?_ ?_); clear hK K)); with_reducible refine hK _ ?_ ?_ ?_; rotate_left; (focus (simp only [hb1, hb2, hw, ht, go_sem]; exact rfl)); clear hK K) | (with_reducible refine aGs (fun hg0 => ?_) (fun hg0 => ?_) <;> first | (with_reducible first | exact aF1 hg0 | exact aF2 hg0) | (simp only [hg0, hb1, hb2, hw, ht, go_sem])) | (with_reducible refine aNk ?_; intro bnil hnil; try simp only []) | (omega; done) | (intro hv; (try simp only [bls] at hv); (try simp only [bls]); omega) | (intro hg; (simp only [hg, Bool.true_and, true_and, implies_true]; try (intro hg2; simp only [hg2, Bool.not_false, Bool.not_true])); done)))
   all_goals first | omega | rfl | skip
  ·rw [dec_step h]
   have hb1 : decide ((u : Int) < 0) = false := decide_eq_false (by omega)
   have hb2 : decide ((u : Int) < 10) = false := decide_eq_false (by omega)
   have hq : Int.tdiv (u : Int) 10 = ((u / 10 : Nat) : Int) := by rw [Int.tdiv_eq_ediv_of_nonneg (by omega)]; omega
   have hr : Int.tmod (u : Int) 10 = ((u % 10 : Nat) : Int) := by rw [Int.tmod_eq_emod_of_nonneg (by omega)]; omega
   have hc := ih (u / 10) (by omega) (by omega)
   have hDl := dec_len (u := u / 10) (by omega)
   generalize Lib.decDigits (u / 10) = Dd at *
   generalize hqd : u / 10 = q at *
   generalize hrd : u % 10 = r at *
   have hr10 : r < 10 := by omega
   have hw := u8_wrap hr10
   have ht := toNat_48 r
   (refine ACalls.of_body Ty_ok mixed Tryz.func69 rfl (by kernel_rfl) Tryz.ntmps69 (by simp) (congrArg Array.toList Tryz.results69) ?_)
   simp only [slotsOf]
   (repeat' (first | (with_reducible first | exact True.intro | refine And.intro ?_ ?_ | refine aBl ?_ | ((first | refine aS1 3 [] ?_ | refine aS2 3 [] ?_ | refine aS3 3 [] ?_ | refine aS4 3 [] ?_ | refine aSq 3 [] ?_); intro K hK)) | ((with_reducible first | refine aRg ?_ | refine aEx ?_ | refine aSk ?_ | refine aRt ?_ | refine aLk ?_ | refine aOt ?_ | refine rP Ty_ok mixed 3 [0, 5] [.mid [pe 1, pe 2, ⟨3, 0, true, false, false, [], []⟩, ⟨4, 1, false, false, false, [], []⟩, ⟨6, 1, false, false, false, [0], []⟩, ⟨7, 1, false, false, false, [0], []⟩, ⟨8, 1, false, false, false, [0], []⟩, ⟨9, 1, false, false, false, [0], []⟩, ⟨10, 1, false, false, false, [0], []⟩, ⟨11, 1, false, false, false, [0], []⟩, ⟨12, 1, false, false, false, [], []⟩, ⟨13, 1, false, false, false, [], []⟩] 1] ?_ | refine rP Ty_ok mixed 7 [0, 3] [.mid [pe 1, ⟨2, 0, true, false, false, [], []⟩, ⟨4, 1, false, false, false, [0], []⟩, ⟨5, 1, false, false, false, [0], []⟩, ⟨6, 1, false, false, false, [0], []⟩, ⟨7, 1, false, false, false, [0], []⟩, ⟨8, 1, false, false, false, [0], []⟩, ⟨9, 1, false, false, false, [], []⟩, ⟨10, 1, false, false, false, [], []⟩] 1] ?_); simp only [hb1, hb2, hq, hr, hw, ht, go_sem]) | ((with_reducible refine aCd ?_ ?_ (fun hb => ?_) (fun hb => ?_)); (simp only [hb1, hb2, hq, hr, hw, ht, go_sem]); (simp only [hb1, hb2, hq, hr, hw, ht, go_sem]); all_goals (simp only [hb1, hb2, hq, hr, hw, ht, go_sem] at hb; try simp only [bls] at hb)) | ((iterate 6 try ((fail_if_success with_reducible refine hK _ ?_ ?_ ?_); clear hK K)); with_reducible refine hK _ ?_ ?_ ?_; rotate_left; (focus (simp only [hb1, hb2, hq, hr, hw, ht, go_sem]; exact rfl)); clear hK K) | ((first | (with_reducible first | refine cA hc ?_ | refine cD hc ?_ | refine cO hc ?_ | refine cR hc ?_ | refine cG (fun hg => hc) ?_ | refine cH (fun hg => hc) ?_ | refine cM (fun hg => hc) ?_) | (guard_target = CallAt _ _ _ _ _ _ _ _ _ _; refine cA hc ?_) | (guard_target = DCallAt _ _ _ _ _ _ _ _; refine cD hc ?_) | (guard_target = GCallAt _ _ _ _ _ _ _ _ _ _ _; refine cG (fun hg => hc) ?_)); simp only [hb1, hb2, hq, hr, hw, ht, go_sem]) | (with_reducible refine aGs (fun hg0 => ?_) (fun hg0 => ?_) <;> first | (with_reducible first | exact aF1 hg0 | exact aF2 hg0) | (simp only [hg0, hb1, hb2, hq, hr, hw, ht, go_sem])) | (with_reducible refine aNk ?_; intro bnil hnil; try simp only []) | (omega; done) | (intro hv; (try simp only [bls] at hv); (try simp only [bls]); omega) | (intro hg; (simp only [hg, Bool.true_and, true_and, implies_true]; try (intro hg2; simp only [hg2, Bool.not_false, Bool.not_true])); done)))
   all_goals first | omega | rfl | skip
set_option maxHeartbeats 16000000 in
set_option maxRecDepth 100000 in
theorem digits_c (n : Int) (hn : I64 n) : ACalls Tryz.prog 69 [.one (.int .i64 n)] (.one (.str (Lib.itoa n))) [] := by
 obtain ⟨hn1, hn2⟩ := hn
 by_cases h0 : 0 ≤ n
 ·obtain ⟨u, rfl⟩ : ∃ u : Nat, n = u := ⟨n.toNat, by omega⟩
  rw [itoa_nat]
  exact digitsN_c u u (Nat.le_refl _) (by omega)
 obtain ⟨u, rfl⟩ : ∃ u : Nat, n = -(u : Int) := ⟨(-n).toNat, by omega⟩
 rw [itoa_neg u (by omega)]
 have hb1 : decide (-(u : Int) < 0) = true := decide_eq_true (by omega)
 have hq : Int.tdiv (-(u : Int)) 10 = -((u / 10 : Nat) : Int) := by rw [Int.neg_tdiv, Int.tdiv_eq_ediv_of_nonneg (by omega)]; omega
 have hr : Int.tmod (-(u : Int)) 10 = -((u % 10 : Nat) : Int) := by rw [Int.neg_tmod, Int.tmod_eq_emod_of_nonneg (by omega)]; omega
 by_cases h : u < 10
 ·rw [dec_one h]
  have hw := u8_wrap h
  have ht := toNat_48 u
  have hz : u / 10 = 0 := by omega
  have hs : (0 : Int) - -(u : Int) = u := by omega
  rw [hz] at hq
  have hq0 : Int.tdiv (-(u : Int)) 10 = 0 := by rw [hq]; rfl
  (refine ACalls.of_body Ty_ok mixed Tryz.func69 rfl (by kernel_rfl) Tryz.ntmps69 (by simp) (congrArg Array.toList Tryz.results69) ?_)
  simp only [slotsOf]
  (repeat' (first | (with_reducible first | exact True.intro | refine And.intro ?_ ?_ | refine aBl ?_ | ((first | refine aS1 3 [] ?_ | refine aS2 3 [] ?_ | refine aS3 3 [] ?_ | refine aS4 3 [] ?_ | refine aSq 3 [] ?_); intro K hK)) | ((with_reducible first | refine aRg ?_ | refine aEx ?_ | refine aSk ?_ | refine aRt ?_ | refine aLk ?_ | refine aOt ?_ | refine rP Ty_ok mixed 3 [0, 5] [.mid [pe 1, pe 2, ⟨3, 0, true, false, false, [], []⟩, ⟨4, 1, false, false, false, [], []⟩, ⟨6, 1, false, false, false, [0], []⟩, ⟨7, 1, false, false, false, [0], []⟩, ⟨8, 1, false, false, false, [0], []⟩, ⟨9, 1, false, false, false, [0], []⟩, ⟨10, 1, false, false, false, [0], []⟩, ⟨11, 1, false, false, false, [0], []⟩, ⟨12, 1, false, false, false, [], []⟩, ⟨13, 1, false, false, false, [], []⟩] 1] ?_ | refine rP Ty_ok mixed 7 [0, 3] [.mid [pe 1, ⟨2, 0, true, false, false, [], []⟩, ⟨4, 1, false, false, false, [0], []⟩, ⟨5, 1, false, false, false, [0], []⟩, ⟨6, 1, false, false, false, [0], []⟩, ⟨7, 1, false, false, false, [0], []⟩, ⟨8, 1, false, false, false, [0], []⟩, ⟨9, 1, false, false, false, [], []⟩, ⟨10, 1, false, false, false, [], []⟩] 1] ?_); simp only [hb1, hq0, hw, ht, hs, go_sem]) | ((with_reducible refine aCd ?_ ?_ (fun hb => ?_) (fun hb => ?_)); (simp only [hb1, hq0, hw, ht, hs, go_sem]); (simp only [hb1, hq0, hw, ht, hs, go_sem]); all_goals (simp only [hb1, hq0, hw, ht, hs, go_sem] at hb; try simp only [bls] at hb)) | ((iterate 6 try ((fail_if_success with_reducible refine hK _ ?_ ?_ ?_); clear hK K)); with_reducible refine hK _ ?_ ?_ ?_; rotate_left; (focus (simp only [hb1, hq0, hw, ht, hs, go_sem]; exact rfl)); clear hK K) | (with_reducible refine aGs (fun hg0 => ?_) (fun hg0 => ?_) <;> first | (with_reducible first | exact aF1 hg0 | exact aF2 hg0) | (simp only [hg0, hb1, hq0, hw, ht, hs, go_sem])) | (with_reducible refine aNk ?_; intro bnil hnil; try simp only []) | (omega; done) | (intro hv; (try simp only [bls] at hv); (try simp only [bls]); omega) | (intro hg; (simp only [hg, Bool.true_and, true_and, implies_true]; try (intro hg2; simp only [hg2, Bool.not_false, Bool.not_true])); done)))
  all_goals first | omega | rfl | skip
 ·rw [dec_step h]
  have hc := digitsN_c (u / 10) (u / 10) (Nat.le_refl _) (by omega)
  have hDl := dec_len (u := u / 10) (by omega)
  generalize Lib.decDigits (u / 10) = Dd at *
  generalize hqd : u / 10 = q at *
  generalize hrd : u % 10 = r at *
  have hr10 : r < 10 := by omega
  have hw := u8_wrap hr10
  have ht := toNat_48 r
  have hs : (0 : Int) - -(q : Int) = q := by omega
  have hs2 : (0 : Int) - -(r : Int) = r := by omega
  have hne : (-(q : Int) == 0) = false := by simp; omega
  have hne2 : (-(q : Int) != 0) = true := by simp; omega
  (refine ACalls.of_body Ty_ok mixed Tryz.func69 rfl (by kernel_rfl) Tryz.ntmps69 (by simp) (congrArg Array.toList Tryz.results69) ?_)
  simp only [slotsOf]
  (repeat' (first | (with_reducible first | exact True.intro | refine And.intro ?_ ?_ | refine aBl ?_ | ((first | refine aS1 3 [] ?_ | refine aS2 3 [] ?_ | refine aS3 3 [] ?_ | refine aS4 3 [] ?_ | refine aSq 3 [] ?_); intro K hK)) | ((with_reducible first | refine aRg ?_ | refine aEx ?_ | refine aSk ?_ | refine aRt ?_ | refine aLk ?_ | refine aOt ?_ | refine rP Ty_ok mixed 3 [0, 5] [.mid [pe 1, pe 2, ⟨3, 0, true, false, false, [], []⟩, ⟨4, 1, false, false, false, [], []⟩, ⟨6, 1, false, false, false, [0], []⟩, ⟨7, 1, false, false, false, [0], []⟩, ⟨8, 1, false, false, false, [0], []⟩, ⟨9, 1, false, false, false, [0], []⟩, ⟨10, 1, false, false, false, [0], []⟩, ⟨11, 1, false, false, false, [0], []⟩, ⟨12, 1, false, false, false, [], []⟩, ⟨13, 1, false, false, false, [], []⟩] 1] ?_ | refine rP Ty_ok mixed 7 [0, 3] [.mid [pe 1, ⟨2, 0, true, false, false, [], []⟩, ⟨4, 1, false, false, false, [0], []⟩, ⟨5, 1, false, false, false, [0], []⟩, ⟨6, 1, false, false, false, [0], []⟩, ⟨7, 1, false, false, false, [0], []⟩, ⟨8, 1, false, false, false, [0], []⟩, ⟨9, 1, false, false, false, [], []⟩, ⟨10, 1, false, false, false, [], []⟩] 1] ?_); simp only [hb1, hq, hr, hw, ht, hs, hs2, hne, hne2, go_sem]) | ((with_reducible refine aCd ?_ ?_ (fun hb => ?_) (fun hb => ?_)); (simp only [hb1, hq, hr, hw, ht, hs, hs2, hne, hne2, go_sem]); (simp only [hb1, hq, hr, hw, ht, hs, hs2, hne, hne2, go_sem]); all_goals (simp only [hb1, hq, hr, hw, ht, hs, hs2, hne, hne2, go_sem] at hb; try simp only [bls] at hb)) | ((iterate 6 try ((fail_if_success with_reducible refine hK _ ?_ ?_ ?_); clear hK K)); with_reducible refine hK _ ?_ ?_ ?_; rotate_left; (focus (simp only [hb1, hq, hr, hw, ht, hs, hs2, hne, hne2, go_sem]; exact rfl)); clear hK K) | ((first | (with_reducible first | refine cA hc ?_ | refine cD hc ?_ | refine cO hc ?_ | refine cR hc ?_ | refine cG (fun hg => hc) ?_ | refine cH (fun hg => hc) ?_ | refine cM (fun hg => hc) ?_) | (guard_target = CallAt _ _ _ _ _ _ _ _ _ _; refine cA hc ?_) | (guard_target = DCallAt _ _ _ _ _ _ _ _; refine cD hc ?_) | (guard_target = GCallAt _ _ _ _ _ _ _ _ _ _ _; refine cG (fun hg => hc) ?_)); simp only [hb1, hq, hr, hw, ht, hs, hs2, hne, hne2, go_sem]) | (with_reducible refine aGs (fun hg0 => ?_) (fun hg0 => ?_) <;> first | (with_reducible first | exact aF1 hg0 | exact aF2 hg0) | (simp only [hg0, hb1, hq, hr, hw, ht, hs, hs2, hne, hne2, go_sem])) | (with_reducible refine aNk ?_; intro bnil hnil; try simp only []) | (omega; done) | (intro hv; (try simp only [bls] at hv); (try simp only [bls]); omega) | (intro hg; (simp only [hg, Bool.true_and, true_and, implies_true]; try (intro hg2; simp only [hg2, Bool.not_false, Bool.not_true])); done)))
  all_goals first | omega | rfl | skip
end Go.Proofs.YtkjnjkdcpbgabaaGreatDoor
