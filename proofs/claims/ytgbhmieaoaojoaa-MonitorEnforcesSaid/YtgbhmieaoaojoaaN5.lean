/-
 Contracts: effects of transitions.
-/
import Derived.Test.YtgbhmieaoaojoaaN4
set_option linter.unusedSimpArgs false
set_option linter.unusedVariables false
namespace Go.Proofs.Ytgbhmieaoaojoaa
open Go.Eng Go.RowKit
theorem ints_at {l : List Int} {k : Nat} (h : k < l.length) : (ints l).getD k [] = [.int .i64 (l.getD k 0)] := by
 simp [ints, List.getD, List.getElem?_eq_getElem h]
theorem ints_set (l : List Int) (k : Nat) (z : Int) : (ints l).set k [.int .i64 z] = ints (l.set k z) := by
 simp [ints, List.map_set]
theorem ints_zeros (n : Nat) : List.replicate n [D.int .i64 0] = ints (List.replicate n 0) := by simp [ints]
theorem set_getD {α : Type} (l : List α) (k : Nat) (x d : α) (h : k < l.length) : (l.set k x).getD k d = x := by simp [List.getD, h]
theorem set_same {α : Type} (l : List α) (k : Nat) (d : α) (h : k < l.length) : l.set k (l.getD k d) = l := by
 simp [List.getD, List.getElem?_eq_getElem h]
attribute [go_sem] ints_set
theorem arcs_at {l : List Arc} {k : Nat} (h : k < l.length) : (arcsD l).getD k [] = [.int .i64 (l.getD k Arc.no).place, .int .i64 (l.getD k Arc.no).weight] := by
 simp [arcsD, List.getD, List.getElem?_eq_getElem h, Arc.d]
def effUp (n : Net) (c : Con) (k : Nat) : List Int := (n.trs.take k).map (effT c.fac) ++ List.replicate (n.trs.length - k) 0
theorem effUp_length (n : Net) (c : Con) (k : Nat) (hk : k ≤ n.trs.length) : (effUp n c k).length = n.trs.length := by simp [effUp]; omega
theorem effUp_at (n : Net) (c : Con) (k : Nat) (hk : k < n.trs.length) : (effUp n c k).getD k 0 = 0 := by
 have h1 : ((n.trs.take k).map (effT c.fac)).length = k := by simp; omega
 rw [effUp, List.getD, List.getElem?_append_right (by omega), h1, Nat.sub_self, List.getElem?_replicate]
 split <;> rfl
theorem effUp_set (n : Net) (c : Con) (k : Nat) (hk : k < n.trs.length) : (effUp n c k).set k (effT c.fac (n.trs.getD k Tr.no)) = effUp n c (k + 1) := by
 have h1 : ((n.trs.take k).map (effT c.fac)).length = k := by simp; omega
 rw [effUp, effUp, take_succ_getD n.trs k Tr.no hk, List.map_append, List.set_append_right _ _ (by omega), h1, Nat.sub_self]
 have h2 : n.trs.length - k = (n.trs.length - (k + 1)) + 1 := by omega
 rw [h2, List.replicate_succ, List.set_cons_zero]
 simp
theorem effUp_all (n : Net) (c : Con) : effUp n c n.trs.length = effL n c := by simp [effUp, effL]
theorem dotA_bound (fac : List Int) (hf : Sm 16 fac) : ∀ (l : List Arc), (∀ a ∈ l, 1 ≤ a.weight ∧ a.weight ≤ 8) → -(l.length * 128 : Int) ≤ dotA fac l ∧ dotA fac l ≤ l.length * 128
 | [], _ => by simp [dotA]
 | a :: l, h => by
  have ih := dotA_bound fac hf l fun b hb => h b (by simp [hb])
  have h1 := mul_bound (A := 16) (B := 8) (hf.get (by omega) a.place.toNat) (show -8 ≤ a.weight ∧ a.weight ≤ 8 by have := h a (by simp); omega) (by omega) (by omega)
  simp only [dotA, List.length_cons, Int.natCast_add]
  omega
theorem arc_get {places : Nat} {l : List Arc} (h : ArcsIn places l) {k : Nat} (hk : k < l.length) : 0 ≤ (l.getD k Arc.no).place ∧ (l.getD k Arc.no).place < places ∧ 1 ≤ (l.getD k Arc.no).weight ∧ (l.getD k Arc.no).weight ≤ 8 :=
 ⟨(h.place _ (getD_mem l k Arc.no hk)).1, (h.place _ (getD_mem l k Arc.no hk)).2, (h.weight _ (getD_mem l k Arc.no hk)).1, (h.weight _ (getD_mem l k Arc.no hk)).2⟩
set_option maxHeartbeats 16000000 in
theorem effects_c (n : Net) (c : Con) (hn : NetOk n) (hl : c.fac.length = n.init.length) (hf : Sm 16 c.fac) : ACalls Try.prog 28 [.agg n.d, .agg c.d] (.one (.own 0)) [.row 3 1 (ints (effL n c))] := by
 have ht := hn.trs
 have hi10 := hn.init
 (refine ACalls.of_body_own Ty_ok mixed Try.func28 rfl (by kernel_rfl) Try.ntmps28 (by simp) (congrArg Array.toList Try.results28) ?_)
 simp only [slotsOf, Net.d, Con.d]
 (repeat' (first | (with_reducible first | exact True.intro | refine And.intro ?_ ?_ | refine aBl ?_ | (refine aS 12 [18, 17, 26, 25, 27, 49, 48, 50, 19] ?_; intro K hK)) | ((with_reducible first | refine aGo ?_ | refine rP Ty_ok mixed 8 [0, 1, 4, 6, 10] [.mid [pe 2, pe 3, pe 5, pe 7, pe 8, pe 9, pe 11, pe 12, pe 13, pe 14] 0, .one 15] ?_ | refine rP Ty_ok mixed 13 [0, 1, 4, 6, 10] [.mid [pe 2, pe 3, pe 5, pe 7, pe 8, pe 9, pe 11, pe 12, pe 13, pe 14] 0, .one 15] ?_); simp only [go_sem]) | ((with_reducible refine aCd ?_ ?_ (fun hb => ?_) (fun hb => ?_)); (iterate 2 simp only [go_sem]); all_goals (simp only [go_sem] at hb; try simp only [bls] at hb)) | ((iterate 6 try ((fail_if_success with_reducible refine hK _ ?_ ?_ ?_); clear hK K)); with_reducible refine hK _ ?_ ?_ ?_; rotate_left; (focus (simp only [go_sem]; exact rfl)); clear hK K) | (with_reducible refine aGs (fun hg0 => ?_) (fun hg0 => ?_) <;> first | (with_reducible first | exact aF1 hg0 | exact aF2 hg0) | (simp only [hg0, go_sem])) | (with_reducible refine aNk ?_; intro bnil hnil; try simp only []) | exact aZ | fail))
 refine awp_loop _ (by simp only [go_sem]; rfl) Nat (fun k => k ≤ n.trs.length) (fun k => [(5, .one (.own 3)), (19, .one (.int .i64 k))]) (fun k H => [.var 31 [.list (ints n.init), .list (trsD n.trs)], .var 35 [.list (ints c.fac), .int .i64 c.bound], .row 3 1 [], .row 3 1 (ints (effUp n c k))]) (fun k => n.trs.length - k) 0 (by omega) ?_ ?_
 ·(simp only [SubF, ints_zeros, go_sem]; (try simp only [ints_zeros, go_sem]); repeat' (first | exact True.intro | with_reducible refine And.intro ?_ ?_ | rfl | omega))
 ·rintro k hk L hL
  have hp : ((k : Nat) : Int).toNat = k := by omega
  by_cases hlt : k < n.trs.length
  ·have hg := trs_get hlt [.int .i64 0, .nil, .nil]
   have hmem := getD_mem n.trs k Tr.no hlt
   have hi1 := hn.inn _ hmem
   have hi2 := hn.out _ hmem
   have hset := effUp_set n c k hlt
   have hEl := effUp_length n c k hk
   have hEk := effUp_at n c k hlt
   generalize effUp n c k = E at hset hEl hEk
   generalize n.trs.getD k Tr.no = t at hg hi1 hi2 hset
   have hf1 := arcs_few _ _ hi1
   have hf2 := arcs_few _ _ hi2
   (simp only [go_sem] at hL ⊢)
   (repeat' (first | (with_reducible first | exact True.intro | refine And.intro ?_ ?_ | refine aBl ?_ | (refine aS 12 [18, 17, 26, 25, 27, 49, 48, 50, 19] ?_; intro K hK)) | ((with_reducible first | refine aGo ?_ | refine rP Ty_ok mixed 8 [0, 1, 4, 6, 10] [.mid [pe 2, pe 3, pe 5, pe 7, pe 8, pe 9, pe 11, pe 12, pe 13, pe 14] 0, .one 15] ?_ | refine rP Ty_ok mixed 13 [0, 1, 4, 6, 10] [.mid [pe 2, pe 3, pe 5, pe 7, pe 8, pe 9, pe 11, pe 12, pe 13, pe 14] 0, .one 15] ?_); simp only [hg, go_sem]) | ((with_reducible refine aCd ?_ ?_ (fun hb => ?_) (fun hb => ?_)); (iterate 2 simp only [hg, go_sem]); all_goals (simp only [hg, go_sem] at hb; try simp only [bls] at hb)) | ((iterate 6 try ((fail_if_success with_reducible refine hK _ ?_ ?_ ?_); clear hK K)); with_reducible refine hK _ ?_ ?_ ?_; rotate_left; (focus (simp only [hg, go_sem]; exact rfl)); clear hK K) | (with_reducible refine aGs (fun hg0 => ?_) (fun hg0 => ?_) <;> first | (with_reducible first | exact aF1 hg0 | exact aF2 hg0) | (simp only [hg0, hg, go_sem])) | (with_reducible refine aNk ?_; intro bnil hnil; try simp only []) | exact aZ | fail))
   refine awp_loop _ (by simp only [go_sem]; rfl) Nat (fun j => j ≤ t.inn.length) (fun j => [(5, .one (.own 3)), (27, .one (.int .i64 j))]) (fun j H => [.var 31 [.list (ints n.init), .list (trsD n.trs)], .var 35 [.list (ints c.fac), .int .i64 c.bound], .row 3 1 [], .row 3 1 (ints (E.set k (-(dotA c.fac (t.inn.take j))))), .var 58 [.int .i64 t.event, .list (arcsD t.inn), .list (arcsD t.out)]]) (fun j => t.inn.length - j) 0 (by omega) ?_ ?_
   ·have e0 : E.set k (-(dotA c.fac (t.inn.take 0))) = E := by
     have := set_same E k 0 (by omega)
     rw [hEk] at this
     simpa [dotA] using this
    rw [e0]
    (simp only [SubF, go_sem]; (try simp only [go_sem]); repeat' (first | exact True.intro | with_reducible refine And.intro ?_ ?_ | rfl | omega))
   ·rintro j hj L2 hL2
    have hq : ((j : Nat) : Int).toNat = j := by omega
    by_cases hlj : j < t.inn.length
    ·have ha := arc_get hi1 hlj
     have haD := arcs_at hlj
     have b0 := mul_bound (hf.get (by omega) (t.inn.getD j Arc.no).place.toNat) (show -8 ≤ (t.inn.getD j Arc.no).weight ∧ (t.inn.getD j Arc.no).weight ≤ 8 by omega) (by omega) (by omega)
     have b1 := dotA_bound c.fac hf (t.inn.take j) fun a ha => hi1.weight a (List.mem_of_mem_take ha)
     have b2 : (t.inn.take j).length ≤ 10 := by simp; omega
     have e1 := dotA_take c.fac t.inn j hlj
     generalize dotA c.fac (t.inn.take j) = X at *
     have hlen2 : (E.set k (-X)).length = n.trs.length := by simp; omega
     have hrow := ints_at (l := E.set k (-X)) (k := k) (by omega)
     rw [set_getD E k _ 0 (by omega)] at hrow
     simp only [go_sem] at hL2 ⊢
     (repeat' (first | (with_reducible first | exact True.intro | refine And.intro ?_ ?_ | refine aBl ?_ | (refine aS 12 [18, 17, 26, 25, 27, 49, 48, 50, 19] ?_; intro K hK)) | ((with_reducible first | refine aGo ?_ | refine rP Ty_ok mixed 8 [0, 1, 4, 6, 10] [.mid [pe 2, pe 3, pe 5, pe 7, pe 8, pe 9, pe 11, pe 12, pe 13, pe 14] 0, .one 15] ?_ | refine rP Ty_ok mixed 13 [0, 1, 4, 6, 10] [.mid [pe 2, pe 3, pe 5, pe 7, pe 8, pe 9, pe 11, pe 12, pe 13, pe 14] 0, .one 15] ?_); simp only [hrow, haD, hq, hp, hlen2, go_sem]) | ((with_reducible refine aCd ?_ ?_ (fun hb => ?_) (fun hb => ?_)); (iterate 2 simp only [hrow, haD, hq, hp, hlen2, go_sem]); all_goals (simp only [hrow, haD, hq, hp, hlen2, go_sem] at hb; try simp only [bls] at hb)) | ((iterate 6 try ((fail_if_success with_reducible refine hK _ ?_ ?_ ?_); clear hK K)); with_reducible refine hK _ ?_ ?_ ?_; rotate_left; (focus (simp only [hrow, haD, hq, hp, hlen2, go_sem]; exact rfl)); clear hK K) | (with_reducible refine aGs (fun hg0 => ?_) (fun hg0 => ?_) <;> first | (with_reducible first | exact aF1 hg0 | exact aF2 hg0) | (simp only [hg0, hrow, haD, hq, hp, hlen2, go_sem])) | (with_reducible refine aNk ?_; intro bnil hnil; try simp only []) | exact aZ | fail))
     all_goals first | omega | skip
     rw [List.set_set]
     refine hL2 _ (j + 1) (by omega) ?_ (by omega)
     rw [e1, show -X - c.fac.getD (t.inn.getD j Arc.no).place.toNat 0 * (t.inn.getD j Arc.no).weight = -(X + c.fac.getD (t.inn.getD j Arc.no).place.toNat 0 * (t.inn.getD j Arc.no).weight) by omega]
     (simp only [SubF, go_sem]; (try simp only [go_sem]); repeat' (first | exact True.intro | with_reducible refine And.intro ?_ ?_ | rfl | omega))
    ·simp only [go_sem] at hL2 ⊢
     (repeat' (first | (with_reducible first | exact True.intro | refine And.intro ?_ ?_ | refine aBl ?_ | (refine aS 12 [18, 17, 26, 25, 27, 49, 48, 50, 19] ?_; intro K hK)) | ((with_reducible first | refine aGo ?_ | refine rP Ty_ok mixed 8 [0, 1, 4, 6, 10] [.mid [pe 2, pe 3, pe 5, pe 7, pe 8, pe 9, pe 11, pe 12, pe 13, pe 14] 0, .one 15] ?_ | refine rP Ty_ok mixed 13 [0, 1, 4, 6, 10] [.mid [pe 2, pe 3, pe 5, pe 7, pe 8, pe 9, pe 11, pe 12, pe 13, pe 14] 0, .one 15] ?_); simp only [go_sem]) | ((with_reducible refine aCd ?_ ?_ (fun hb => ?_) (fun hb => ?_)); (iterate 2 simp only [go_sem]); all_goals (simp only [go_sem] at hb; try simp only [bls] at hb)) | ((iterate 6 try ((fail_if_success with_reducible refine hK _ ?_ ?_ ?_); clear hK K)); with_reducible refine hK _ ?_ ?_ ?_; rotate_left; (focus (simp only [go_sem]; exact rfl)); clear hK K) | (with_reducible refine aGs (fun hg0 => ?_) (fun hg0 => ?_) <;> first | (with_reducible first | exact aF1 hg0 | exact aF2 hg0) | (simp only [hg0, go_sem])) | (with_reducible refine aNk ?_; intro bnil hnil; try simp only []) | exact aZ | fail))
     all_goals first | omega | skip
     rw [List.take_of_length_le (by omega)]
     have b1 := dotA_bound c.fac hf t.inn hi1.weight
     refine awp_loop _ (by simp only [go_sem]; rfl) Nat (fun j => j ≤ t.out.length) (fun j => [(5, .one (.own 3)), (50, .one (.int .i64 j))]) (fun j H => [.var 31 [.list (ints n.init), .list (trsD n.trs)], .var 35 [.list (ints c.fac), .int .i64 c.bound], .row 3 1 [], .row 3 1 (ints (E.set k (dotA c.fac (t.out.take j) - dotA c.fac t.inn))), .var 58 [.int .i64 t.event, .list (arcsD t.inn), .list (arcsD t.out)]]) (fun j => t.out.length - j) 0 (by omega) ?_ ?_
     ·rw [show dotA c.fac (t.out.take 0) - dotA c.fac t.inn = -dotA c.fac t.inn by simp [dotA]]
      (simp only [SubF, go_sem]; (try simp only [go_sem]); repeat' (first | exact True.intro | with_reducible refine And.intro ?_ ?_ | rfl | omega))
     ·rintro i hi L3 hL3
      have hq : ((i : Nat) : Int).toNat = i := by omega
      by_cases hli : i < t.out.length
      ·have ha := arc_get hi2 hli
       have haD := arcs_at hli
       have b0 := mul_bound (hf.get (by omega) (t.out.getD i Arc.no).place.toNat) (show -8 ≤ (t.out.getD i Arc.no).weight ∧ (t.out.getD i Arc.no).weight ≤ 8 by omega) (by omega) (by omega)
       have b3 := dotA_bound c.fac hf (t.out.take i) fun a ha => hi2.weight a (List.mem_of_mem_take ha)
       have b2 : (t.out.take i).length ≤ 10 := by simp; omega
       have e1 := dotA_take c.fac t.out i hli
       generalize dotA c.fac (t.out.take i) = X at *
       generalize dotA c.fac t.inn = Y at *
       have hlen2 : (E.set k (X - Y)).length = n.trs.length := by simp; omega
       have hrow := ints_at (l := E.set k (X - Y)) (k := k) (by omega)
       rw [set_getD E k _ 0 (by omega)] at hrow
       simp only [go_sem] at hL3 ⊢
       (repeat' (first | (with_reducible first | exact True.intro | refine And.intro ?_ ?_ | refine aBl ?_ | (refine aS 12 [18, 17, 26, 25, 27, 49, 48, 50, 19] ?_; intro K hK)) | ((with_reducible first | refine aGo ?_ | refine rP Ty_ok mixed 8 [0, 1, 4, 6, 10] [.mid [pe 2, pe 3, pe 5, pe 7, pe 8, pe 9, pe 11, pe 12, pe 13, pe 14] 0, .one 15] ?_ | refine rP Ty_ok mixed 13 [0, 1, 4, 6, 10] [.mid [pe 2, pe 3, pe 5, pe 7, pe 8, pe 9, pe 11, pe 12, pe 13, pe 14] 0, .one 15] ?_); simp only [hrow, haD, hq, hp, hlen2, go_sem]) | ((with_reducible refine aCd ?_ ?_ (fun hb => ?_) (fun hb => ?_)); (iterate 2 simp only [hrow, haD, hq, hp, hlen2, go_sem]); all_goals (simp only [hrow, haD, hq, hp, hlen2, go_sem] at hb; try simp only [bls] at hb)) | ((iterate 6 try ((fail_if_success with_reducible refine hK _ ?_ ?_ ?_); clear hK K)); with_reducible refine hK _ ?_ ?_ ?_; rotate_left; (focus (simp only [hrow, haD, hq, hp, hlen2, go_sem]; exact rfl)); clear hK K) | (with_reducible refine aGs (fun hg0 => ?_) (fun hg0 => ?_) <;> first | (with_reducible first | exact aF1 hg0 | exact aF2 hg0) | (simp only [hg0, hrow, haD, hq, hp, hlen2, go_sem])) | (with_reducible refine aNk ?_; intro bnil hnil; try simp only []) | exact aZ | fail))
       all_goals first | omega | skip
       rw [List.set_set]
       refine hL3 _ (i + 1) (by omega) ?_ (by omega)
       rw [e1, show X - Y + c.fac.getD (t.out.getD i Arc.no).place.toNat 0 * (t.out.getD i Arc.no).weight = X + c.fac.getD (t.out.getD i Arc.no).place.toNat 0 * (t.out.getD i Arc.no).weight - Y by omega]
       (simp only [SubF, go_sem]; (try simp only [go_sem]); repeat' (first | exact True.intro | with_reducible refine And.intro ?_ ?_ | rfl | omega))
      ·simp only [go_sem] at hL3 ⊢
       (repeat' (first | (with_reducible first | exact True.intro | refine And.intro ?_ ?_ | refine aBl ?_ | (refine aS 12 [18, 17, 26, 25, 27, 49, 48, 50, 19] ?_; intro K hK)) | ((with_reducible first | refine aGo ?_ | refine rP Ty_ok mixed 8 [0, 1, 4, 6, 10] [.mid [pe 2, pe 3, pe 5, pe 7, pe 8, pe 9, pe 11, pe 12, pe 13, pe 14] 0, .one 15] ?_ | refine rP Ty_ok mixed 13 [0, 1, 4, 6, 10] [.mid [pe 2, pe 3, pe 5, pe 7, pe 8, pe 9, pe 11, pe 12, pe 13, pe 14] 0, .one 15] ?_); simp only [go_sem]) | ((with_reducible refine aCd ?_ ?_ (fun hb => ?_) (fun hb => ?_)); (iterate 2 simp only [go_sem]); all_goals (simp only [go_sem] at hb; try simp only [bls] at hb)) | ((iterate 6 try ((fail_if_success with_reducible refine hK _ ?_ ?_ ?_); clear hK K)); with_reducible refine hK _ ?_ ?_ ?_; rotate_left; (focus (simp only [go_sem]; exact rfl)); clear hK K) | (with_reducible refine aGs (fun hg0 => ?_) (fun hg0 => ?_) <;> first | (with_reducible first | exact aF1 hg0 | exact aF2 hg0) | (simp only [hg0, go_sem])) | (with_reducible refine aNk ?_; intro bnil hnil; try simp only []) | exact aZ | fail))
       all_goals first | omega | skip
       rw [List.take_of_length_le (by omega)]
       refine hL _ (k + 1) (by omega) ?_ (by omega)
       rw [← hset, effT]
       (simp only [SubF, go_sem]; (try simp only [go_sem]); repeat' (first | exact True.intro | with_reducible refine And.intro ?_ ?_ | rfl | omega))
  ·(simp only [go_sem] at hL ⊢)
   (repeat' (first | (with_reducible first | exact True.intro | refine And.intro ?_ ?_ | refine aBl ?_ | (refine aS 12 [18, 17, 26, 25, 27, 49, 48, 50, 19] ?_; intro K hK)) | ((with_reducible first | refine aGo ?_ | refine rP Ty_ok mixed 8 [0, 1, 4, 6, 10] [.mid [pe 2, pe 3, pe 5, pe 7, pe 8, pe 9, pe 11, pe 12, pe 13, pe 14] 0, .one 15] ?_ | refine rP Ty_ok mixed 13 [0, 1, 4, 6, 10] [.mid [pe 2, pe 3, pe 5, pe 7, pe 8, pe 9, pe 11, pe 12, pe 13, pe 14] 0, .one 15] ?_); simp only [go_sem]) | ((with_reducible refine aCd ?_ ?_ (fun hb => ?_) (fun hb => ?_)); (iterate 2 simp only [go_sem]); all_goals (simp only [go_sem] at hb; try simp only [bls] at hb)) | ((iterate 6 try ((fail_if_success with_reducible refine hK _ ?_ ?_ ?_); clear hK K)); with_reducible refine hK _ ?_ ?_ ?_; rotate_left; (focus (simp only [go_sem]; exact rfl)); clear hK K) | (with_reducible refine aGs (fun hg0 => ?_) (fun hg0 => ?_) <;> first | (with_reducible first | exact aF1 hg0 | exact aF2 hg0) | (simp only [hg0, go_sem])) | (with_reducible refine aNk ?_; intro bnil hnil; try simp only []) | exact aZ | fail))
   all_goals first | omega | skip
   rw [show k = n.trs.length by omega, effUp_all]
end Go.Proofs.Ytgbhmieaoaojoaa
