/-
 Chapter 23: the text of a condition.
-/
import Derived.Test.YtkjnjkdcpbgabaaGreatDoorUV
import Derived.Test.YtkjnjkdcpbgabaaGreatDoorUL
set_option linter.unusedSimpArgs false
set_option linter.unusedVariables false
namespace Go.Proofs.YtkjnjkdcpbgabaaGreatDoor
open Go.Eng Go.RowKit
def exS (y : Lt) : List UInt8 := [32] ++ y.name ++ [61] ++ Lib.itoa y.val
def tmS (y : Lt) : List UInt8 := [32] ++ Lib.itoa y.val ++ [42] ++ y.name
def condS (x : It) : List UInt8 :=
 if x.kind = 3 then [101, 120, 99, 108, 117, 100, 101, 32] ++ x.name ++ [58] ++ joinS [44] (x.locs.map exS) ++ [10]
 else [108, 105, 109, 105, 116, 32] ++ x.name ++ [58] ++ joinS [32, 43] (x.terms.map tmS) ++ [32, 60, 61, 32] ++ Lib.itoa x.bound ++ [10]
def I64 (z : Int) : Prop := -9223372036854775808 ≤ z ∧ z ≤ 9223372036854775807
structure CFits (x : It) : Prop where
 name : x.name.length ≤ 100
 locs : x.locs.length ≤ 100
 terms : x.terms.length ≤ 100
 ln : ∀ y ∈ x.locs, y.name.length ≤ 100 ∧ I64 y.val
 tn : ∀ y ∈ x.terms, y.name.length ≤ 100 ∧ I64 y.val
 bound : I64 x.bound
theorem exS_len {y : Lt} (h : y.name.length ≤ 100 ∧ I64 y.val) : (exS y).length ≤ 130 := by
 have := Lib.itoa_length_le y.val h.2.1 h.2.2
 simp only [exS, List.length_append, List.length_cons, List.length_nil]
 omega
theorem tmS_len {y : Lt} (h : y.name.length ≤ 100 ∧ I64 y.val) : (tmS y).length ≤ 130 := by
 have := Lib.itoa_length_le y.val h.2.1 h.2.2
 simp only [tmS, List.length_append, List.length_cons, List.length_nil]
 omega
theorem tailS_len (sep : List UInt8) : ∀ l : List (List UInt8), (∀ y ∈ l, y.length ≤ 130) → (tailS sep l).length ≤ (130 + sep.length) * l.length
 | [], _ => by simp [tailS]
 | y :: l, h => by
  have h1 := tailS_len sep l fun z hz => h z (List.mem_cons_of_mem _ hz)
  have h2 := h y (List.mem_cons_self ..)
  simp only [tailS, List.flatMap_cons, List.length_append, List.length_cons] at h1 ⊢
  rw [Nat.mul_succ]
  omega
theorem joinS_len (sep : List UInt8) (hs : sep.length ≤ 2) (l : List (List UInt8)) (hl : l.length ≤ 100) (h : ∀ y ∈ l, y.length ≤ 130) : (joinS sep l).length ≤ 14000 := by
 match l, hl, h with
 | [], _, _ => simp [joinS]
 | x :: r, hl, h =>
  have h1 := tailS_len sep r fun z hz => h z (List.mem_cons_of_mem _ hz)
  have h2 := h x (List.mem_cons_self ..)
  have h3 : (130 + sep.length) * r.length ≤ 132 * 100 := Nat.mul_le_mul (by omega) (by simp only [List.length_cons] at hl; omega)
  simp only [joinS, List.length_append]
  omega
set_option maxHeartbeats 16000000 in
set_option maxRecDepth 100000 in
theorem condition_c (x : It) (hf : CFits x) : ACalls Tryz.prog 66 [.agg x.d] (.one (.str (condS x))) [] := by
 obtain ⟨f1, f2, f3, f4, f5, f6⟩ := hf
 by_cases hk : x.kind = 3
 ·have hR : condS x = [101, 120, 99, 108, 117, 100, 101, 32] ++ x.name ++ [58] ++ joinS [44] (x.locs.map exS) ++ [10] := by rw [condS, if_pos hk]
  have hkt : (x.kind == 3) = true := by simpa using hk
  have hjl := joinS_len [44] (by decide) (x.locs.map exS) (by rw [List.length_map]; omega) (fun y hy => by
   obtain ⟨z, hz, rfl⟩ := List.mem_map.1 hy
   exact exS_len (f4 z hz))
  have hj := join_c (x.locs.map exS) [44] (by rw [List.length_map]; omega) (fun y hy => by
   obtain ⟨z, hz, rfl⟩ := List.mem_map.1 hy
   have := exS_len (f4 z hz)
   omega) ⟨by decide, by decide⟩
  generalize joinS [44] (x.locs.map exS) = J at *
  generalize condS x = R at *
  (refine ACalls.of_body Ty_ok mixed Tryz.func66 rfl (by kernel_rfl) Tryz.ntmps66 (by simp) (congrArg Array.toList Tryz.results66) ?_)
  simp only [slotsOf, It.d]
  (repeat' (first | (with_reducible first | exact True.intro | refine And.intro ?_ ?_ | refine aBl ?_ | (refine aS 8 [13, 12, 14, 40, 39, 41] ?_; intro K hK)) | ((with_reducible first | refine aGo ?_ | refine rP Ty_ok mixed 6 [0, 1, 5] [.mid [pe 2, pe 3, pe 4, pe 6, ⟨7, 0, true, false, false, [], []⟩, ⟨8, 1, false, false, false, [], []⟩, ⟨9, 1, false, false, false, [], []⟩] 1, .one 10, .one 11] ?_ | refine rP Ty_ok mixed 8 [0, 4] [.mid [pe 1, pe 2, pe 3, ⟨5, 0, true, false, false, [], []⟩, ⟨6, 1, false, false, false, [], []⟩, ⟨7, 1, false, false, false, [], []⟩, ⟨8, 1, false, false, false, [], []⟩] 1] ?_ | refine rP Ty_ok mixed 12 [0, 1, 6] [.mid [pe 2, ⟨3, 0, true, false, false, [], []⟩, ⟨4, 1, false, false, false, [], []⟩, ⟨5, 1, false, false, false, [], []⟩, ⟨7, 1, false, false, false, [0], []⟩, ⟨8, 1, false, false, false, [], []⟩, ⟨9, 1, false, false, false, [], []⟩] 1, .one 10, .one 11] ?_ | refine rP Ty_ok mixed 14 [0, 4, 8] [.mid [pe 1, pe 2, pe 3, ⟨5, 0, true, false, false, [], []⟩, ⟨6, 1, false, false, false, [], []⟩, ⟨7, 1, false, false, false, [], []⟩, ⟨9, 1, false, false, false, [0], []⟩, ⟨10, 1, true, false, false, [], []⟩, ⟨11, 2, false, false, false, [], []⟩, ⟨12, 2, false, false, false, [], []⟩, ⟨13, 2, false, false, false, [], []⟩] 2] ?_); simp only [hkt, go_sem]) | ((with_reducible refine aCd ?_ ?_ (fun hb => ?_) (fun hb => ?_)); (iterate 2 simp only [hkt, go_sem]); all_goals (simp only [hkt, go_sem] at hb; try simp only [bls] at hb)) | ((iterate 6 try ((fail_if_success with_reducible refine hK _ ?_ ?_ ?_); clear hK K)); with_reducible refine hK _ ?_ ?_ ?_; rotate_left; (focus (simp only [hkt, go_sem]; exact rfl)); clear hK K) | (with_reducible refine aGs (fun hg0 => ?_) (fun hg0 => ?_) <;> first | (with_reducible first | exact aF1 hg0 | exact aF2 hg0) | (simp only [hg0, hkt, go_sem])) | (with_reducible refine aNk ?_; intro bnil hnil; try simp only []) | exact aZ | fail))
  all_goals first | omega | skip
  refine awp_loop _ (by simp only [go_sem]; rfl) Nat (fun k => k ≤ x.locs.length) (fun k => [(3, .one (.own 1)), (14, .one (.int .i64 k))]) (fun k H => H.set 1 (.row 9 1 (strsD ((x.locs.take k).map exS)))) (fun k => x.locs.length - k) 0 (by omega) ?_ ?_
  ·(simp only [SubF, go_sem]; (try simp only [go_sem]); repeat' (first | exact True.intro | with_reducible refine And.intro ?_ ?_ | rfl | omega))
  rintro k hk2 L hL
  have hqk : ((k : Nat) : Int).toNat = k := by omega
  rcases (Decidable.em (k < x.locs.length)) with hlt | hlt
  ·have hy := f4 _ (getD_mem x.locs k Lt.no hlt)
   have hstep : (x.locs.take (k + 1)).map exS = (x.locs.take k).map exS ++ [exS (x.locs.getD k Lt.no)] := by rw [take_succ_getD x.locs k Lt.no hlt, List.map_append]; rfl
   have hic := itoa_c (x.locs.getD k Lt.no).val hy.2.1 hy.2.2
   have hys : exS (x.locs.getD k Lt.no) = [32] ++ (x.locs.getD k Lt.no).name ++ [61] ++ Lib.itoa (x.locs.getD k Lt.no).val := rfl
   have hil := Lib.itoa_length_le _ hy.2.1 hy.2.2
   have hPl : ((x.locs.take k).map exS).length = k := by rw [List.length_map, List.length_take]; omega
   generalize (x.locs.take k).map exS = P at *
   generalize exS (x.locs.getD k Lt.no) = Y at *
   generalize hyd : x.locs.getD k Lt.no = y at *
   generalize Lib.itoa y.val = iy at *
   (simp only [go_sem] at hL ⊢)
   (repeat' (first | (with_reducible first | exact True.intro | refine And.intro ?_ ?_ | refine aBl ?_ | (refine aS 8 [13, 12, 14, 40, 39, 41] ?_; intro K hK)) | ((with_reducible first | refine aGo ?_ | refine rP Ty_ok mixed 6 [0, 1, 5] [.mid [pe 2, pe 3, pe 4, pe 6, ⟨7, 0, true, false, false, [], []⟩, ⟨8, 1, false, false, false, [], []⟩, ⟨9, 1, false, false, false, [], []⟩] 1, .one 10, .one 11] ?_ | refine rP Ty_ok mixed 8 [0, 4] [.mid [pe 1, pe 2, pe 3, ⟨5, 0, true, false, false, [], []⟩, ⟨6, 1, false, false, false, [], []⟩, ⟨7, 1, false, false, false, [], []⟩, ⟨8, 1, false, false, false, [], []⟩] 1] ?_ | refine rP Ty_ok mixed 12 [0, 1, 6] [.mid [pe 2, ⟨3, 0, true, false, false, [], []⟩, ⟨4, 1, false, false, false, [], []⟩, ⟨5, 1, false, false, false, [], []⟩, ⟨7, 1, false, false, false, [0], []⟩, ⟨8, 1, false, false, false, [], []⟩, ⟨9, 1, false, false, false, [], []⟩] 1, .one 10, .one 11] ?_ | refine rP Ty_ok mixed 14 [0, 4, 8] [.mid [pe 1, pe 2, pe 3, ⟨5, 0, true, false, false, [], []⟩, ⟨6, 1, false, false, false, [], []⟩, ⟨7, 1, false, false, false, [], []⟩, ⟨9, 1, false, false, false, [0], []⟩, ⟨10, 1, true, false, false, [], []⟩, ⟨11, 2, false, false, false, [], []⟩, ⟨12, 2, false, false, false, [], []⟩, ⟨13, 2, false, false, false, [], []⟩] 2] ?_); simp only [hqk, hyd, go_sem]) | ((with_reducible refine aCd ?_ ?_ (fun hb => ?_) (fun hb => ?_)); (iterate 2 simp only [hqk, hyd, go_sem]); all_goals (simp only [hqk, hyd, go_sem] at hb; try simp only [bls] at hb)) | ((iterate 6 try ((fail_if_success with_reducible refine hK _ ?_ ?_ ?_); clear hK K)); with_reducible refine hK _ ?_ ?_ ?_; rotate_left; (focus (simp only [hqk, hyd, go_sem]; exact rfl)); clear hK K) | ((first | (with_reducible first | refine xA ?_ | refine xD ?_ | refine xO ?_ | refine xR ?_ | refine xG ?_ | refine xH ?_ | refine xM ?_) | ((with_reducible refine gA ?_); refine xA ?_) | ((with_reducible refine gD ?_); refine xD ?_) | ((with_reducible refine gG ?_); refine xG ?_)); simp only [hqk, hyd, go_sem]) | (with_reducible refine aGs (fun hg0 => ?_) (fun hg0 => ?_) <;> first | (with_reducible first | exact aF1 hg0 | exact aF2 hg0) | (simp only [hg0, hqk, hyd, go_sem])) | (with_reducible refine aNk ?_; intro bnil hnil; try simp only []) | exact aZ | fail))
   all_goals first | omega | (simp only [List.length_append, List.length_cons, List.length_nil]; omega) | skip
   have hrow : [[D.str (32 :: (y.name ++ [61] ++ iy))]] = strsD [Y] := by rw [hys]; simp [strsD]
   rw [hrow, strs_append, ← hstep]
   exact hL _ (k + 1) (by omega) (by (simp only [SubF, go_sem]; (try simp only [go_sem]); repeat' (first | exact True.intro | with_reducible refine And.intro ?_ ?_ | rfl | omega))) (by omega)
  have hkl : k = x.locs.length := by omega
  subst hkl
  rw [List.take_length] at *
  (simp only [go_sem] at hL ⊢)
  (repeat' (first | (with_reducible first | exact True.intro | refine And.intro ?_ ?_ | refine aBl ?_ | (refine aS 8 [13, 12, 14, 40, 39, 41] ?_; intro K hK)) | ((with_reducible first | refine aGo ?_ | refine rP Ty_ok mixed 6 [0, 1, 5] [.mid [pe 2, pe 3, pe 4, pe 6, ⟨7, 0, true, false, false, [], []⟩, ⟨8, 1, false, false, false, [], []⟩, ⟨9, 1, false, false, false, [], []⟩] 1, .one 10, .one 11] ?_ | refine rP Ty_ok mixed 8 [0, 4] [.mid [pe 1, pe 2, pe 3, ⟨5, 0, true, false, false, [], []⟩, ⟨6, 1, false, false, false, [], []⟩, ⟨7, 1, false, false, false, [], []⟩, ⟨8, 1, false, false, false, [], []⟩] 1] ?_ | refine rP Ty_ok mixed 12 [0, 1, 6] [.mid [pe 2, ⟨3, 0, true, false, false, [], []⟩, ⟨4, 1, false, false, false, [], []⟩, ⟨5, 1, false, false, false, [], []⟩, ⟨7, 1, false, false, false, [0], []⟩, ⟨8, 1, false, false, false, [], []⟩, ⟨9, 1, false, false, false, [], []⟩] 1, .one 10, .one 11] ?_ | refine rP Ty_ok mixed 14 [0, 4, 8] [.mid [pe 1, pe 2, pe 3, ⟨5, 0, true, false, false, [], []⟩, ⟨6, 1, false, false, false, [], []⟩, ⟨7, 1, false, false, false, [], []⟩, ⟨9, 1, false, false, false, [0], []⟩, ⟨10, 1, true, false, false, [], []⟩, ⟨11, 2, false, false, false, [], []⟩, ⟨12, 2, false, false, false, [], []⟩, ⟨13, 2, false, false, false, [], []⟩] 2] ?_); simp only [go_sem]) | ((with_reducible refine aCd ?_ ?_ (fun hb => ?_) (fun hb => ?_)); (iterate 2 simp only [go_sem]); all_goals (simp only [go_sem] at hb; try simp only [bls] at hb)) | ((iterate 6 try ((fail_if_success with_reducible refine hK _ ?_ ?_ ?_); clear hK K)); with_reducible refine hK _ ?_ ?_ ?_; rotate_left; (focus (simp only [go_sem]; exact rfl)); clear hK K) | ((first | (with_reducible first | refine xA ?_ | refine xD ?_ | refine xO ?_ | refine xR ?_ | refine xG ?_ | refine xH ?_ | refine xM ?_) | ((with_reducible refine gA ?_); refine xA ?_) | ((with_reducible refine gD ?_); refine xD ?_) | ((with_reducible refine gG ?_); refine xG ?_)); simp only [go_sem]) | (with_reducible refine aGs (fun hg0 => ?_) (fun hg0 => ?_) <;> first | (with_reducible first | exact aF1 hg0 | exact aF2 hg0) | (simp only [hg0, go_sem])) | (with_reducible refine aNk ?_; intro bnil hnil; try simp only []) | exact aZ | fail))
  all_goals first | omega | (simp only [List.length_append, List.length_cons, List.length_nil]; omega) | skip
  rw [hR]; simp
 ·have hR : condS x = [108, 105, 109, 105, 116, 32] ++ x.name ++ [58] ++ joinS [32, 43] (x.terms.map tmS) ++ [32, 60, 61, 32] ++ Lib.itoa x.bound ++ [10] := by rw [condS, if_neg hk]
  have hkt : (x.kind == 3) = false := by simpa using hk
  have hjl := joinS_len [32, 43] (by decide) (x.terms.map tmS) (by rw [List.length_map]; omega) (fun y hy => by
   obtain ⟨z, hz, rfl⟩ := List.mem_map.1 hy
   exact tmS_len (f5 z hz))
  have hj := join_c (x.terms.map tmS) [32, 43] (by rw [List.length_map]; omega) (fun y hy => by
   obtain ⟨z, hz, rfl⟩ := List.mem_map.1 hy
   have := tmS_len (f5 z hz)
   omega) ⟨by decide, by decide⟩
  have hib := itoa_c x.bound f6.1 f6.2
  have hibl := Lib.itoa_length_le x.bound f6.1 f6.2
  generalize Lib.itoa x.bound = ib at *
  generalize joinS [32, 43] (x.terms.map tmS) = J at *
  generalize condS x = R at *
  (refine ACalls.of_body Ty_ok mixed Tryz.func66 rfl (by kernel_rfl) Tryz.ntmps66 (by simp) (congrArg Array.toList Tryz.results66) ?_)
  simp only [slotsOf, It.d]
  (repeat' (first | (with_reducible first | exact True.intro | refine And.intro ?_ ?_ | refine aBl ?_ | (refine aS 8 [13, 12, 14, 40, 39, 41] ?_; intro K hK)) | ((with_reducible first | refine aGo ?_ | refine rP Ty_ok mixed 6 [0, 1, 5] [.mid [pe 2, pe 3, pe 4, pe 6, ⟨7, 0, true, false, false, [], []⟩, ⟨8, 1, false, false, false, [], []⟩, ⟨9, 1, false, false, false, [], []⟩] 1, .one 10, .one 11] ?_ | refine rP Ty_ok mixed 8 [0, 4] [.mid [pe 1, pe 2, pe 3, ⟨5, 0, true, false, false, [], []⟩, ⟨6, 1, false, false, false, [], []⟩, ⟨7, 1, false, false, false, [], []⟩, ⟨8, 1, false, false, false, [], []⟩] 1] ?_ | refine rP Ty_ok mixed 12 [0, 1, 6] [.mid [pe 2, ⟨3, 0, true, false, false, [], []⟩, ⟨4, 1, false, false, false, [], []⟩, ⟨5, 1, false, false, false, [], []⟩, ⟨7, 1, false, false, false, [0], []⟩, ⟨8, 1, false, false, false, [], []⟩, ⟨9, 1, false, false, false, [], []⟩] 1, .one 10, .one 11] ?_ | refine rP Ty_ok mixed 14 [0, 4, 8] [.mid [pe 1, pe 2, pe 3, ⟨5, 0, true, false, false, [], []⟩, ⟨6, 1, false, false, false, [], []⟩, ⟨7, 1, false, false, false, [], []⟩, ⟨9, 1, false, false, false, [0], []⟩, ⟨10, 1, true, false, false, [], []⟩, ⟨11, 2, false, false, false, [], []⟩, ⟨12, 2, false, false, false, [], []⟩, ⟨13, 2, false, false, false, [], []⟩] 2] ?_); simp only [hkt, go_sem]) | ((with_reducible refine aCd ?_ ?_ (fun hb => ?_) (fun hb => ?_)); (iterate 2 simp only [hkt, go_sem]); all_goals (simp only [hkt, go_sem] at hb; try simp only [bls] at hb)) | ((iterate 6 try ((fail_if_success with_reducible refine hK _ ?_ ?_ ?_); clear hK K)); with_reducible refine hK _ ?_ ?_ ?_; rotate_left; (focus (simp only [hkt, go_sem]; exact rfl)); clear hK K) | (with_reducible refine aGs (fun hg0 => ?_) (fun hg0 => ?_) <;> first | (with_reducible first | exact aF1 hg0 | exact aF2 hg0) | (simp only [hg0, hkt, go_sem])) | (with_reducible refine aNk ?_; intro bnil hnil; try simp only []) | exact aZ | fail))
  all_goals first | omega | skip
  refine awp_loop _ (by simp only [go_sem]; rfl) Nat (fun k => k ≤ x.terms.length) (fun k => [(3, .one (.own 1)), (41, .one (.int .i64 k))]) (fun k H => H.set 1 (.row 9 1 (strsD ((x.terms.take k).map tmS)))) (fun k => x.terms.length - k) 0 (by omega) ?_ ?_
  ·(simp only [SubF, go_sem]; (try simp only [go_sem]); repeat' (first | exact True.intro | with_reducible refine And.intro ?_ ?_ | rfl | omega))
  rintro k hk2 L hL
  have hqk : ((k : Nat) : Int).toNat = k := by omega
  rcases (Decidable.em (k < x.terms.length)) with hlt | hlt
  ·have hy := f5 _ (getD_mem x.terms k Lt.no hlt)
   have hstep : (x.terms.take (k + 1)).map tmS = (x.terms.take k).map tmS ++ [tmS (x.terms.getD k Lt.no)] := by rw [take_succ_getD x.terms k Lt.no hlt, List.map_append]; rfl
   have hic := itoa_c (x.terms.getD k Lt.no).val hy.2.1 hy.2.2
   have hys : tmS (x.terms.getD k Lt.no) = [32] ++ Lib.itoa (x.terms.getD k Lt.no).val ++ [42] ++ (x.terms.getD k Lt.no).name := rfl
   have hil := Lib.itoa_length_le _ hy.2.1 hy.2.2
   have hPl : ((x.terms.take k).map tmS).length = k := by rw [List.length_map, List.length_take]; omega
   generalize (x.terms.take k).map tmS = P at *
   generalize tmS (x.terms.getD k Lt.no) = Y at *
   generalize hyd : x.terms.getD k Lt.no = y at *
   generalize Lib.itoa y.val = iy at *
   (simp only [go_sem] at hL ⊢)
   (repeat' (first | (with_reducible first | exact True.intro | refine And.intro ?_ ?_ | refine aBl ?_ | (refine aS 8 [13, 12, 14, 40, 39, 41] ?_; intro K hK)) | ((with_reducible first | refine aGo ?_ | refine rP Ty_ok mixed 6 [0, 1, 5] [.mid [pe 2, pe 3, pe 4, pe 6, ⟨7, 0, true, false, false, [], []⟩, ⟨8, 1, false, false, false, [], []⟩, ⟨9, 1, false, false, false, [], []⟩] 1, .one 10, .one 11] ?_ | refine rP Ty_ok mixed 8 [0, 4] [.mid [pe 1, pe 2, pe 3, ⟨5, 0, true, false, false, [], []⟩, ⟨6, 1, false, false, false, [], []⟩, ⟨7, 1, false, false, false, [], []⟩, ⟨8, 1, false, false, false, [], []⟩] 1] ?_ | refine rP Ty_ok mixed 12 [0, 1, 6] [.mid [pe 2, ⟨3, 0, true, false, false, [], []⟩, ⟨4, 1, false, false, false, [], []⟩, ⟨5, 1, false, false, false, [], []⟩, ⟨7, 1, false, false, false, [0], []⟩, ⟨8, 1, false, false, false, [], []⟩, ⟨9, 1, false, false, false, [], []⟩] 1, .one 10, .one 11] ?_ | refine rP Ty_ok mixed 14 [0, 4, 8] [.mid [pe 1, pe 2, pe 3, ⟨5, 0, true, false, false, [], []⟩, ⟨6, 1, false, false, false, [], []⟩, ⟨7, 1, false, false, false, [], []⟩, ⟨9, 1, false, false, false, [0], []⟩, ⟨10, 1, true, false, false, [], []⟩, ⟨11, 2, false, false, false, [], []⟩, ⟨12, 2, false, false, false, [], []⟩, ⟨13, 2, false, false, false, [], []⟩] 2] ?_); simp only [hqk, hyd, go_sem]) | ((with_reducible refine aCd ?_ ?_ (fun hb => ?_) (fun hb => ?_)); (iterate 2 simp only [hqk, hyd, go_sem]); all_goals (simp only [hqk, hyd, go_sem] at hb; try simp only [bls] at hb)) | ((iterate 6 try ((fail_if_success with_reducible refine hK _ ?_ ?_ ?_); clear hK K)); with_reducible refine hK _ ?_ ?_ ?_; rotate_left; (focus (simp only [hqk, hyd, go_sem]; exact rfl)); clear hK K) | ((first | (with_reducible first | refine xA ?_ | refine xD ?_ | refine xO ?_ | refine xR ?_ | refine xG ?_ | refine xH ?_ | refine xM ?_) | ((with_reducible refine gA ?_); refine xA ?_) | ((with_reducible refine gD ?_); refine xD ?_) | ((with_reducible refine gG ?_); refine xG ?_)); simp only [hqk, hyd, go_sem]) | (with_reducible refine aGs (fun hg0 => ?_) (fun hg0 => ?_) <;> first | (with_reducible first | exact aF1 hg0 | exact aF2 hg0) | (simp only [hg0, hqk, hyd, go_sem])) | (with_reducible refine aNk ?_; intro bnil hnil; try simp only []) | exact aZ | fail))
   all_goals first | omega | (simp only [List.length_append, List.length_cons, List.length_nil]; omega) | skip
   have hrow : [[D.str (32 :: (iy ++ [42] ++ y.name))]] = strsD [Y] := by rw [hys]; simp [strsD]
   rw [hrow, strs_append, ← hstep]
   exact hL _ (k + 1) (by omega) (by (simp only [SubF, go_sem]; (try simp only [go_sem]); repeat' (first | exact True.intro | with_reducible refine And.intro ?_ ?_ | rfl | omega))) (by omega)
  have hkl : k = x.terms.length := by omega
  subst hkl
  rw [List.take_length] at *
  (simp only [go_sem] at hL ⊢)
  (repeat' (first | (with_reducible first | exact True.intro | refine And.intro ?_ ?_ | refine aBl ?_ | (refine aS 8 [13, 12, 14, 40, 39, 41] ?_; intro K hK)) | ((with_reducible first | refine aGo ?_ | refine rP Ty_ok mixed 6 [0, 1, 5] [.mid [pe 2, pe 3, pe 4, pe 6, ⟨7, 0, true, false, false, [], []⟩, ⟨8, 1, false, false, false, [], []⟩, ⟨9, 1, false, false, false, [], []⟩] 1, .one 10, .one 11] ?_ | refine rP Ty_ok mixed 8 [0, 4] [.mid [pe 1, pe 2, pe 3, ⟨5, 0, true, false, false, [], []⟩, ⟨6, 1, false, false, false, [], []⟩, ⟨7, 1, false, false, false, [], []⟩, ⟨8, 1, false, false, false, [], []⟩] 1] ?_ | refine rP Ty_ok mixed 12 [0, 1, 6] [.mid [pe 2, ⟨3, 0, true, false, false, [], []⟩, ⟨4, 1, false, false, false, [], []⟩, ⟨5, 1, false, false, false, [], []⟩, ⟨7, 1, false, false, false, [0], []⟩, ⟨8, 1, false, false, false, [], []⟩, ⟨9, 1, false, false, false, [], []⟩] 1, .one 10, .one 11] ?_ | refine rP Ty_ok mixed 14 [0, 4, 8] [.mid [pe 1, pe 2, pe 3, ⟨5, 0, true, false, false, [], []⟩, ⟨6, 1, false, false, false, [], []⟩, ⟨7, 1, false, false, false, [], []⟩, ⟨9, 1, false, false, false, [0], []⟩, ⟨10, 1, true, false, false, [], []⟩, ⟨11, 2, false, false, false, [], []⟩, ⟨12, 2, false, false, false, [], []⟩, ⟨13, 2, false, false, false, [], []⟩] 2] ?_); simp only [go_sem]) | ((with_reducible refine aCd ?_ ?_ (fun hb => ?_) (fun hb => ?_)); (iterate 2 simp only [go_sem]); all_goals (simp only [go_sem] at hb; try simp only [bls] at hb)) | ((iterate 6 try ((fail_if_success with_reducible refine hK _ ?_ ?_ ?_); clear hK K)); with_reducible refine hK _ ?_ ?_ ?_; rotate_left; (focus (simp only [go_sem]; exact rfl)); clear hK K) | ((first | (with_reducible first | refine xA ?_ | refine xD ?_ | refine xO ?_ | refine xR ?_ | refine xG ?_ | refine xH ?_ | refine xM ?_) | ((with_reducible refine gA ?_); refine xA ?_) | ((with_reducible refine gD ?_); refine xD ?_) | ((with_reducible refine gG ?_); refine xG ?_)); simp only [go_sem]) | (with_reducible refine aGs (fun hg0 => ?_) (fun hg0 => ?_) <;> first | (with_reducible first | exact aF1 hg0 | exact aF2 hg0) | (simp only [hg0, go_sem])) | (with_reducible refine aNk ?_; intro bnil hnil; try simp only []) | exact aZ | fail))
  all_goals first | omega | (simp only [List.length_append, List.length_cons, List.length_nil]; omega) | skip
  rw [hR]; simp
end Go.Proofs.YtkjnjkdcpbgabaaGreatDoor
