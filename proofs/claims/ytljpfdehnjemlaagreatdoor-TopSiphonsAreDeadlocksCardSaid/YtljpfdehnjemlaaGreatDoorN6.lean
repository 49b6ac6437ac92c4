/-
 Contracts: nets with a control place.
-/
import Derived.Test.YtljpfdehnjemlaaGreatDoorN4
set_option linter.unusedSimpArgs false
set_option linter.unusedVariables false
namespace Go.Proofs.YtljpfdehnjemlaaGreatDoor
open Go.Eng Go.RowKit
theorem ints_at {l : List Int} {k : Nat} (h : k < l.length) : (ints l).getD k [] = [.int .i64 (l.getD k 0)] := by
 simp [ints, List.getD, List.getElem?_eq_getElem h]
theorem ints_set (l : List Int) (k : Nat) (z : Int) : (ints l).set k [.int .i64 z] = ints (l.set k z) := by
 simp [ints, List.map_set]
theorem ints_zeros (n : Nat) : List.replicate n [D.int .i64 0] = ints (List.replicate n 0) := by simp [ints]
theorem set_getD {α : Type} (l : List α) (k : Nat) (x d : α) (h : k < l.length) : (l.set k x).getD k d = x := by simp [List.getD, h]
theorem set_same {α : Type} (l : List α) (k : Nat) (d : α) (h : k < l.length) : l.set k (l.getD k d) = l := by
 simp [List.getD, List.getElem?_eq_getElem h]
attribute [go_sem] ints_set
theorem arcs_at {l : List Arc} {k : Nat} (h : k < l.length) : (arcsD l).getD k [] = [.int .i64 (l.getD k Arc.no).place, .int .i64 (l.getD k Arc.no).weight] := by
 simp [arcsD, List.getD, List.getElem?_eq_getElem h, Arc.d]
def effUp (n : Net) (c : Con) (k : Nat) : List Int := (n.trs.take k).map (effT c.fac) ++ List.replicate (n.trs.length - k) 0
theorem effUp_length (n : Net) (c : Con) (k : Nat) (hk : k ≤ n.trs.length) : (effUp n c k).length = n.trs.length := by simp [effUp]; omega
theorem effUp_at (n : Net) (c : Con) (k : Nat) (hk : k < n.trs.length) : (effUp n c k).getD k 0 = 0 := by
 have h1 : ((n.trs.take k).map (effT c.fac)).length = k := by simp; omega
 rw [effUp, List.getD, List.getElem?_append_right (by omega), h1, Nat.sub_self, List.getElem?_replicate]
 split <;> rfl
theorem effUp_set (n : Net) (c : Con) (k : Nat) (hk : k < n.trs.length) : (effUp n c k).set k (effT c.fac (n.trs.getD k Tr.no)) = effUp n c (k + 1) := by
 have h1 : ((n.trs.take k).map (effT c.fac)).length = k := by simp; omega
 rw [effUp, effUp, take_succ_getD n.trs k Tr.no hk, List.map_append, List.set_append_right _ _ (by omega), h1, Nat.sub_self]
 have h2 : n.trs.length - k = (n.trs.length - (k + 1)) + 1 := by omega
 rw [h2, List.replicate_succ, List.set_cons_zero]
 simp
theorem effUp_all (n : Net) (c : Con) : effUp n c n.trs.length = effL n c := by simp [effUp, effL]
theorem dotA_bound (fac : List Int) (hf : Sm 16 fac) : ∀ (l : List Arc), (∀ a ∈ l, 1 ≤ a.weight ∧ a.weight ≤ 8) → -(l.length * 128 : Int) ≤ dotA fac l ∧ dotA fac l ≤ l.length * 128
 | [], _ => by simp [dotA]
 | a :: l, h => by
  have ih := dotA_bound fac hf l fun b hb => h b (by simp [hb])
  have h1 := mul_bound (A := 16) (B := 8) (hf.get (by omega) a.place.toNat) (show -8 ≤ a.weight ∧ a.weight ≤ 8 by have := h a (by simp); omega) (by omega) (by omega)
  simp only [dotA, List.length_cons, Int.natCast_add]
  omega
theorem arc_get {places : Nat} {l : List Arc} (h : ArcsIn places l) {k : Nat} (hk : k < l.length) : 0 ≤ (l.getD k Arc.no).place ∧ (l.getD k Arc.no).place < places ∧ 1 ≤ (l.getD k Arc.no).weight ∧ (l.getD k Arc.no).weight ≤ 8 :=
 ⟨(h.place _ (getD_mem l k Arc.no hk)).1, (h.place _ (getD_mem l k Arc.no hk)).2, (h.weight _ (getD_mem l k Arc.no hk)).1, (h.weight _ (getD_mem l k Arc.no hk)).2⟩
set_option maxHeartbeats 16000000 in
theorem effects_c (n : Net) (c : Con) (hn : NetOk n) (hl : c.fac.length = n.init.length) (hf : Sm 16 c.fac) : ACalls Tryz.prog 39 [.agg n.d, .agg c.d] (.one (.own 0)) [.row 3 1 (ints (effL n c))] := by
 have ht := hn.trs
 have hi10 := hn.init
 (refine ACalls.of_body_own Ty_ok mixed Tryz.func39 rfl (by kernel_rfl) Tryz.ntmps39 (by simp) (congrArg Array.toList Tryz.results39) ?_)
 simp only [slotsOf, Net.d, Con.d]
 (repeat' (first | (with_reducible first | refine And.intro ?_ ?_ | refine aBl ?_ | (refine aS 12 [18, 17, 26, 25, 27, 49, 48, 50, 19] ?_; intro K hK)) | ((with_reducible refine aGo ?_); simp only [go_sem]) | ((iterate 6 try ((fail_if_success with_reducible refine hK _ ?_ ?_ ?_); clear hK K)); with_reducible refine hK _ ?_ ?_ ?_; rotate_left; (focus (simp only [go_sem]; exact rfl)); clear hK K) | exact aZ | fail))
 refine awp_loop _ (by simp only [go_sem]; rfl) Nat (fun k => k ≤ n.trs.length) (fun k => [(5, .one (.own 3)), (19, .one (.int .i64 k))]) (fun k H => [.var 32 [.list (ints n.init), .list (trsD n.trs)], .var 36 [.list (ints c.fac), .int .i64 c.bound], .row 3 1 [], .row 3 1 (ints (effUp n c k))]) (fun k => n.trs.length - k) 0 (by omega) ?_ ?_
 ·(simp only [SubF, ints_zeros, go_sem]; (try simp only [ints_zeros, go_sem]); repeat' (first | exact True.intro | with_reducible refine And.intro ?_ ?_ | rfl | omega))
 ·rintro k hk L hL
  have hp : ((k : Nat) : Int).toNat = k := by omega
  by_cases hlt : k < n.trs.length
  ·have hg := trs_get hlt [.int .i64 0, .nil, .nil]
   have hmem := getD_mem n.trs k Tr.no hlt
   have hi1 := hn.inn _ hmem
   have hi2 := hn.out _ hmem
   have hset := effUp_set n c k hlt
   have hEl := effUp_length n c k hk
   have hEk := effUp_at n c k hlt
   generalize effUp n c k = E at hset hEl hEk
   generalize n.trs.getD k Tr.no = t at hg hi1 hi2 hset
   have hf1 := arcs_few _ _ hi1
   have hf2 := arcs_few _ _ hi2
   (simp only [go_sem] at hL ⊢)
   (repeat' (first | (with_reducible first | refine And.intro ?_ ?_ | refine aBl ?_ | (refine aS 12 [18, 17, 26, 25, 27, 49, 48, 50, 19] ?_; intro K hK)) | ((with_reducible refine aGo ?_); simp only [hg, go_sem]) | ((with_reducible refine aCd ?_ ?_ (fun hb => ?_) (fun hb => ?_)); (iterate 2 simp only [hg, go_sem]); all_goals (simp only [hg, go_sem] at hb; try simp only [bls] at hb)) | ((iterate 6 try ((fail_if_success with_reducible refine hK _ ?_ ?_ ?_); clear hK K)); with_reducible refine hK _ ?_ ?_ ?_; rotate_left; (focus (simp only [hg, go_sem]; exact rfl)); clear hK K) | exact aZ | fail))
   refine awp_loop _ (by simp only [go_sem]; rfl) Nat (fun j => j ≤ t.inn.length) (fun j => [(5, .one (.own 3)), (27, .one (.int .i64 j))]) (fun j H => [.var 32 [.list (ints n.init), .list (trsD n.trs)], .var 36 [.list (ints c.fac), .int .i64 c.bound], .row 3 1 [], .row 3 1 (ints (E.set k (-(dotA c.fac (t.inn.take j))))), .var 66 [.int .i64 t.event, .list (arcsD t.inn), .list (arcsD t.out)]]) (fun j => t.inn.length - j) 0 (by omega) ?_ ?_
   ·have e0 : E.set k (-(dotA c.fac (t.inn.take 0))) = E := by
     have := set_same E k 0 (by omega)
     rw [hEk] at this
     simpa [dotA] using this
    rw [e0]
    (simp only [SubF, go_sem]; (try simp only [go_sem]); repeat' (first | exact True.intro | with_reducible refine And.intro ?_ ?_ | rfl | omega))
   ·rintro j hj L2 hL2
    have hq : ((j : Nat) : Int).toNat = j := by omega
    by_cases hlj : j < t.inn.length
    ·have ha := arc_get hi1 hlj
     have haD := arcs_at hlj
     have b0 := mul_bound (hf.get (by omega) (t.inn.getD j Arc.no).place.toNat) (show -8 ≤ (t.inn.getD j Arc.no).weight ∧ (t.inn.getD j Arc.no).weight ≤ 8 by omega) (by omega) (by omega)
     have b1 := dotA_bound c.fac hf (t.inn.take j) fun a ha => hi1.weight a (List.mem_of_mem_take ha)
     have b2 : (t.inn.take j).length ≤ 10 := by simp; omega
     have e1 := dotA_take c.fac t.inn j hlj
     generalize dotA c.fac (t.inn.take j) = X at *
     have hlen2 : (E.set k (-X)).length = n.trs.length := by simp; omega
     have hrow := ints_at (l := E.set k (-X)) (k := k) (by omega)
     rw [set_getD E k _ 0 (by omega)] at hrow
     simp only [go_sem] at hL2 ⊢
     (repeat' (first | (with_reducible first | refine And.intro ?_ ?_ | refine aBl ?_ | (refine aS 12 [18, 17, 26, 25, 27, 49, 48, 50, 19] ?_; intro K hK)) | ((with_reducible first | refine aGo ?_ | refine rP Ty_ok mixed 8 [0, 1, 4, 6, 10] [.mid [pe 2, pe 3, pe 5, pe 7, pe 8, pe 9, pe 11, pe 12, pe 13, pe 14] 0, .one 15] ?_); simp only [hrow, haD, hq, hp, hlen2, go_sem]) | ((with_reducible refine aCd ?_ ?_ (fun hb => ?_) (fun hb => ?_)); (iterate 2 simp only [hrow, haD, hq, hp, hlen2, go_sem]); all_goals (simp only [hrow, haD, hq, hp, hlen2, go_sem] at hb; try simp only [bls] at hb)) | ((iterate 6 try ((fail_if_success with_reducible refine hK _ ?_ ?_ ?_); clear hK K)); with_reducible refine hK _ ?_ ?_ ?_; rotate_left; (focus (simp only [hrow, haD, hq, hp, hlen2, go_sem]; exact rfl)); clear hK K) | exact aZ | fail))
     all_goals first | omega | skip
     rw [List.set_set]
     refine hL2 _ (j + 1) (by omega) ?_ (by omega)
     rw [e1, show -X - c.fac.getD (t.inn.getD j Arc.no).place.toNat 0 * (t.inn.getD j Arc.no).weight = -(X + c.fac.getD (t.inn.getD j Arc.no).place.toNat 0 * (t.inn.getD j Arc.no).weight) by omega]
     (simp only [SubF, go_sem]; (try simp only [go_sem]); repeat' (first | exact True.intro | with_reducible refine And.intro ?_ ?_ | rfl | omega))
    ·simp only [go_sem] at hL2 ⊢
     (repeat' (first | (with_reducible first | refine And.intro ?_ ?_ | refine aBl ?_ | (refine aS 12 [18, 17, 26, 25, 27, 49, 48, 50, 19] ?_; intro K hK)) | ((with_reducible first | refine aGo ?_ | refine rP Ty_ok mixed 8 [0, 1, 4, 6, 10] [.mid [pe 2, pe 3, pe 5, pe 7, pe 8, pe 9, pe 11, pe 12, pe 13, pe 14] 0, .one 15] ?_); simp only [go_sem]) | ((with_reducible refine aCd ?_ ?_ (fun hb => ?_) (fun hb => ?_)); (iterate 2 simp only [go_sem]); all_goals (simp only [go_sem] at hb; try simp only [bls] at hb)) | ((iterate 6 try ((fail_if_success with_reducible refine hK _ ?_ ?_ ?_); clear hK K)); with_reducible refine hK _ ?_ ?_ ?_; rotate_left; (focus (simp only [go_sem]; exact rfl)); clear hK K) | exact aZ | fail))
     all_goals first | omega | skip
     rw [List.take_of_length_le (by omega)]
     have b1 := dotA_bound c.fac hf t.inn hi1.weight
     refine awp_loop _ (by simp only [go_sem]; rfl) Nat (fun j => j ≤ t.out.length) (fun j => [(5, .one (.own 3)), (50, .one (.int .i64 j))]) (fun j H => [.var 32 [.list (ints n.init), .list (trsD n.trs)], .var 36 [.list (ints c.fac), .int .i64 c.bound], .row 3 1 [], .row 3 1 (ints (E.set k (dotA c.fac (t.out.take j) - dotA c.fac t.inn))), .var 66 [.int .i64 t.event, .list (arcsD t.inn), .list (arcsD t.out)]]) (fun j => t.out.length - j) 0 (by omega) ?_ ?_
     ·rw [show dotA c.fac (t.out.take 0) - dotA c.fac t.inn = -dotA c.fac t.inn by simp [dotA]]
      (simp only [SubF, go_sem]; (try simp only [go_sem]); repeat' (first | exact True.intro | with_reducible refine And.intro ?_ ?_ | rfl | omega))
     ·rintro i hi L3 hL3
      have hq : ((i : Nat) : Int).toNat = i := by omega
      by_cases hli : i < t.out.length
      ·have ha := arc_get hi2 hli
       have haD := arcs_at hli
       have b0 := mul_bound (hf.get (by omega) (t.out.getD i Arc.no).place.toNat) (show -8 ≤ (t.out.getD i Arc.no).weight ∧ (t.out.getD i Arc.no).weight ≤ 8 by omega) (by omega) (by omega)
       have b3 := dotA_bound c.fac hf (t.out.take i) fun a ha => hi2.weight a (List.mem_of_mem_take ha)
       have b2 : (t.out.take i).length ≤ 10 := by simp; omega
       have e1 := dotA_take c.fac t.out i hli
       generalize dotA c.fac (t.out.take i) = X at *
       generalize dotA c.fac t.inn = Y at *
       have hlen2 : (E.set k (X - Y)).length = n.trs.length := by simp; omega
       have hrow := ints_at (l := E.set k (X - Y)) (k := k) (by omega)
       rw [set_getD E k _ 0 (by omega)] at hrow
       simp only [go_sem] at hL3 ⊢
       (repeat' (first | (with_reducible first | refine And.intro ?_ ?_ | refine aBl ?_ | (refine aS 12 [18, 17, 26, 25, 27, 49, 48, 50, 19] ?_; intro K hK)) | ((with_reducible first | refine aGo ?_ | refine rP Ty_ok mixed 13 [0, 1, 4, 6, 10] [.mid [pe 2, pe 3, pe 5, pe 7, pe 8, pe 9, pe 11, pe 12, pe 13, pe 14] 0, .one 15] ?_); simp only [hrow, haD, hq, hp, hlen2, go_sem]) | ((with_reducible refine aCd ?_ ?_ (fun hb => ?_) (fun hb => ?_)); (iterate 2 simp only [hrow, haD, hq, hp, hlen2, go_sem]); all_goals (simp only [hrow, haD, hq, hp, hlen2, go_sem] at hb; try simp only [bls] at hb)) | ((iterate 6 try ((fail_if_success with_reducible refine hK _ ?_ ?_ ?_); clear hK K)); with_reducible refine hK _ ?_ ?_ ?_; rotate_left; (focus (simp only [hrow, haD, hq, hp, hlen2, go_sem]; exact rfl)); clear hK K) | exact aZ | fail))
       all_goals first | omega | skip
       rw [List.set_set]
       refine hL3 _ (i + 1) (by omega) ?_ (by omega)
       rw [e1, show X - Y + c.fac.getD (t.out.getD i Arc.no).place.toNat 0 * (t.out.getD i Arc.no).weight = X + c.fac.getD (t.out.getD i Arc.no).place.toNat 0 * (t.out.getD i Arc.no).weight - Y by omega]
       (simp only [SubF, go_sem]; (try simp only [go_sem]); repeat' (first | exact True.intro | with_reducible refine And.intro ?_ ?_ | rfl | omega))
      ·simp only [go_sem] at hL3 ⊢
       (repeat' (first | (with_reducible first | refine And.intro ?_ ?_ | refine aBl ?_ | (refine aS 12 [18, 17, 26, 25, 27, 49, 48, 50, 19] ?_; intro K hK)) | ((with_reducible first | refine aGo ?_ | refine rP Ty_ok mixed 13 [0, 1, 4, 6, 10] [.mid [pe 2, pe 3, pe 5, pe 7, pe 8, pe 9, pe 11, pe 12, pe 13, pe 14] 0, .one 15] ?_); simp only [go_sem]) | ((with_reducible refine aCd ?_ ?_ (fun hb => ?_) (fun hb => ?_)); (iterate 2 simp only [go_sem]); all_goals (simp only [go_sem] at hb; try simp only [bls] at hb)) | ((iterate 6 try ((fail_if_success with_reducible refine hK _ ?_ ?_ ?_); clear hK K)); with_reducible refine hK _ ?_ ?_ ?_; rotate_left; (focus (simp only [go_sem]; exact rfl)); clear hK K) | exact aZ | fail))
       all_goals first | omega | skip
       rw [List.take_of_length_le (by omega)]
       refine hL _ (k + 1) (by omega) ?_ (by omega)
       rw [← hset, effT]
       (simp only [SubF, go_sem]; (try simp only [go_sem]); repeat' (first | exact True.intro | with_reducible refine And.intro ?_ ?_ | rfl | omega))
  ·(simp only [go_sem] at hL ⊢)
   (repeat' (first | (with_reducible first | refine And.intro ?_ ?_ | refine aBl ?_ | (refine aS 12 [18, 17, 26, 25, 27, 49, 48, 50, 19] ?_; intro K hK)) | ((with_reducible refine aGo ?_); simp only [go_sem]) | ((with_reducible refine aCd ?_ ?_ (fun hb => ?_) (fun hb => ?_)); (iterate 2 simp only [go_sem]); all_goals (simp only [go_sem] at hb; try simp only [bls] at hb)) | ((iterate 6 try ((fail_if_success with_reducible refine hK _ ?_ ?_ ?_); clear hK K)); with_reducible refine hK _ ?_ ?_ ?_; rotate_left; (focus (simp only [go_sem]; exact rfl)); clear hK K) | exact aZ | fail))
   all_goals first | omega | skip
   rw [show k = n.trs.length by omega, effUp_all]
end Go.Proofs.YtljpfdehnjemlaaGreatDoor
set_option linter.unusedSimpArgs false
set_option linter.unusedVariables false
namespace Go.Proofs.YtljpfdehnjemlaaGreatDoor
open Go.Eng Go.RowKit
theorem conOk_of {n : Net} {c : Con} (h : conE n c = 0) : netE n = 0 ∧ c.fac.length = n.init.length ∧ Sm 16 c.fac ∧ -65536 ≤ c.bound ∧ c.bound ≤ 65536 := by
 unfold conE at h
 split at h
 ·rename_i h1; exact absurd h h1
 rename_i h1
 split at h
 ·cases h
 rename_i h2
 split at h
 ·cases h
 rename_i h3
 simp only [Bool.or_eq_true, List.any_eq_true, not_or, not_exists, not_and] at h3
 refine ⟨by simpa using h1, by omega, ⟨fun x hx => ?_⟩, ?_⟩
 ·have := h3.1 x hx
  simp [largeB] at this
  omega
 ·have := h3.2
  simp [largeB] at this
  omega
def monT (place : Int) (e : Int) (t : Tr) : Tr := ⟨t.event, t.inn ++ (if 0 < e then [⟨place, e⟩] else []), t.out ++ (if e < 0 then [⟨place, -e⟩] else [])⟩
def monTrs (n : Net) (c : Con) (k : Nat) : List Tr := (n.trs.take k).map fun t => monT n.init.length (effT c.fac t) t
theorem monTrs_succ (n : Net) (c : Con) (k : Nat) (hk : k < n.trs.length) : monTrs n c (k + 1) = monTrs n c k ++ [monT n.init.length (effT c.fac (n.trs.getD k Tr.no)) (n.trs.getD k Tr.no)] := by
 rw [monTrs, take_succ_getD n.trs k Tr.no hk, List.map_append]; rfl
theorem monTrs_length (n : Net) (c : Con) (k : Nat) : (monTrs n c k).length ≤ k := by simp [monTrs]; omega
def monNet (n : Net) (c : Con) : Net := ⟨n.init ++ [c.bound - dot c.fac n.init], monTrs n c n.trs.length⟩
def Net.zero : Net := ⟨[], []⟩
def monE (n : Net) (c : Con) : Int := if conE n c ≠ 0 then conE n c else if c.bound - dot c.fac n.init < 0 then 19 else if n.init.length = 10 ∨ 65536 < c.bound - dot c.fac n.init ∨ (effL n c).any (largeB 8) = true then 3 else 0
def monL (n : Net) (c : Con) : Net := if monE n c = 0 then monNet n c else Net.zero
theorem effL_get (n : Net) (c : Con) (k : Nat) (hk : k < n.trs.length) : (effL n c).getD k 0 = effT c.fac (n.trs.getD k Tr.no) := by
 simp [effL, List.getD, List.getElem?_map, List.getElem?_eq_getElem hk]
theorem effL_length (n : Net) (c : Con) : (effL n c).length = n.trs.length := by simp [effL]
theorem trsD_one (e : Int) (i o : List Arc) : trsD [⟨e, i, o⟩] = [[D.int .i64 e, D.list (arcsD i), D.list (arcsD o)]] := rfl
set_option maxHeartbeats 16000000 in
theorem Monitor_c (n : Net) (c : Con) (hn : n.Fits) (hc : c.fac.length ≤ 1000000) : ACalls Tryz.prog 12 [.agg n.d, .agg c.d] (.tup [.agg (monL n c).d, .one (.int .i64 (monE n c))]) [] := by
 have h1 := conCheck_c n c hn hc
 by_cases h0 : conE n c = 0
 ·obtain ⟨q1, q2, q3, q4, q5⟩ := conOk_of h0
  have hno := netOk_of q1
  have hi10 := hno.init
  have ht10 := hno.trs
  have hsm : Sm 65536 n.init := ⟨fun x hx => by have := hno.tok x hx; omega⟩
  have h2 := value_c c n.init (by omega) q3 hsm (by omega) hn.init
  have h3 := effects_c n c hno q2 q3
  have hd := dot_fits q3 hsm (by omega)
  have hEl := effL_length n c
  rw [h0] at h1
  simp only [Net.d, Con.d] at h1 h2 h3
  have hEget := effL_get n c
  have hmE : monE n c = if c.bound - dot c.fac n.init < 0 then 19 else if n.init.length = 10 ∨ 65536 < c.bound - dot c.fac n.init ∨ (effL n c).any (largeB 8) = true then 3 else 0 := by
   rw [monE, if_neg (by omega)]
  have z19 : c.bound - dot c.fac n.init < 0 → monL n c = Net.zero ∧ monE n c = 19 := fun h => by
   have e : monE n c = 19 := by rw [hmE, if_pos h]
   exact ⟨by rw [monL, if_neg (by omega)], e⟩
  have z3 : 0 ≤ c.bound - dot c.fac n.init → ((n.init.length : Int) = 10 ∨ 65536 < c.bound - dot c.fac n.init) ∨ (effL n c).any (largeB 8) = true → monL n c = Net.zero ∧ monE n c = 3 := fun h h' => by
   have e : monE n c = 3 := by
    rw [hmE, if_neg (by omega), if_pos]
    rcases h' with (h' | h') | h'
    ·exact .inl (by omega)
    ·exact .inr (.inl h')
    ·exact .inr (.inr h')
   exact ⟨by rw [monL, if_neg (by omega)], e⟩
  (refine ACalls.of_body Ty_ok mixed Tryz.func12 rfl (by kernel_rfl) Tryz.ntmps12 (by simp) (congrArg Array.toList Tryz.results12) ?_)
  simp only [slotsOf, Net.d, Con.d]
  (repeat' (first | (with_reducible first | refine And.intro ?_ ?_ | refine aBl ?_ | (refine aS 14 [59, 58, 60] ?_; intro K hK)) | ((with_reducible first | refine aGo ?_ | refine rP Ty_ok mixed 4 [0, 3] [.mid [pe 1, pe 2, pe 4, ⟨5, 0, true, false, false, [], []⟩, ⟨6, 1, false, false, false, [], []⟩, ⟨7, 1, false, false, false, [], []⟩] 1] ?_); simp only [go_sem]) | ((with_reducible refine aCd ?_ ?_ (fun hb => ?_) (fun hb => ?_)); (iterate 2 simp only [go_sem]); all_goals (simp only [go_sem] at hb; try simp only [bls] at hb)) | ((iterate 6 try ((fail_if_success with_reducible refine hK _ ?_ ?_ ?_); clear hK K)); with_reducible refine hK _ ?_ ?_ ?_; rotate_left; (focus (simp only [go_sem]; exact rfl)); clear hK K) | ((first | (with_reducible first | refine xA ?_ | refine xO ?_ | refine cA (CloneInts_c n.init hn.init) ?_) | ((with_reducible refine gG ?_); refine cG (fun hg => (ContainsFuncInts_c (effL n c) 41 [] (largeB 8) (by rw [hEl]; omega) capsOk_nil (fun e _ => monitor1_c e))) ?_)); simp only [go_sem]) | exact aZ | fail))
  all_goals first
   | (rw [(z19 hb).1]; rfl)
   | exact (z19 hb).2.symm
   | (rw [(z3 (by omega) (by assumption)).1]; rfl)
   | exact (z3 (by omega) (by assumption)).2.symm
   | skip
  rename_i hb1 hb2
  have e : monE n c = 0 := by
   rw [hmE, if_neg (by omega), if_neg]
   rintro (h | h | h)
   ·omega
   ·omega
   ·rw [hb.2] at h; cases h
  have eL : monL n c = monNet n c := by rw [monL, if_pos e]
  have hany : ∀ x ∈ effL n c, -8 ≤ x ∧ x ≤ 8 := fun x hx => by
   have h7 := hb.2
   rw [List.any_eq_false] at h7
   have := h7 x hx
   simp [largeB] at this
   omega
  refine awp_loopT [.cell 7 1 66 3] _ (by simp only [go_sem]; rfl) Nat (fun k => k ≤ n.trs.length) (fun k => [(60, .one (.int .i64 k))]) (fun k => [.var 32 [.list (ints n.init), .list (trsD n.trs)], .var 36 [.list (ints c.fac), .int .i64 c.bound], .var 32 [.nil, .nil], .gone, .row 3 1 (ints (effL n c)), .row 3 1 (ints n.init ++ [[.int .i64 (c.bound - dot c.fac n.init)]]), .row 3 1 [[.int .i64 (c.bound - dot c.fac n.init)]], .var 32 [.own 5, .own 8], .row 66 3 (trsD (monTrs n c k))]) (fun k => n.trs.length - k) 0 (by omega) ?_ ?_
  ·(simp only [SubF, go_sem]; (try simp only [go_sem]); repeat' (first | exact True.intro | with_reducible refine And.intro ?_ ?_ | rfl | omega))
  ·rintro k hk L hL
   have hp : ((k : Nat) : Int).toNat = k := by omega
   have hml := monTrs_length n c k
   by_cases hlt : k < n.trs.length
   ·have hg := trs_get hlt [.int .i64 0, .nil, .nil]
    have hmem := getD_mem n.trs k Tr.no hlt
    have hi1 := hno.inn _ hmem
    have hi2 := hno.out _ hmem
    have hE := hEget k hlt
    have hEb := hany _ (getD_mem (effL n c) k 0 (by omega))
    have hEat := ints_at (l := effL n c) (k := k) (by omega)
    have hms := monTrs_succ n c k hlt
    rw [hE] at hEb hEat
    generalize effT c.fac (n.trs.getD k Tr.no) = E at *
    generalize n.trs.getD k Tr.no = t at *
    have hf1 := arcs_few _ _ hi1
    have hf2 := arcs_few _ _ hi2
    have hfl1 := arcs_flat t.inn
    have hfl2 := arcs_flat t.out
    (simp only [go_sem] at hL ⊢)
    (repeat' (first | (with_reducible first | refine And.intro ?_ ?_ | refine aBl ?_ | (refine aS 14 [59, 58, 60] ?_; intro K hK)) | ((with_reducible first | refine aGo ?_ | refine rP Ty_ok mixed 15 [0, 2, 5] [.mid [pe 1, pe 3, ⟨4, 0, true, false, false, [], []⟩, ⟨6, 1, false, false, false, [0], []⟩, ⟨7, 1, true, false, false, [], []⟩, ⟨8, 2, false, false, false, [], []⟩, ⟨9, 2, true, false, false, [1, 0], []⟩] 3, .one 10] ?_ | refine rP Ty_ok mixed 17 [0, 2, 3, 4] [.mid [pe 1, pe 5, pe 6, pe 7, pe 8] 0, .one 9, .one 10, .one 11] ?_ | refine rP Ty_ok mixed 19 [0, 2, 3, 4] [.mid [pe 1, pe 5, pe 6, pe 7, pe 8, pe 9] 0, .one 10, .one 11, .one 12] ?_); simp only [hg, hEat, hp, hE, go_sem]) | ((with_reducible refine aCd ?_ ?_ (fun hb => ?_) (fun hb => ?_)); (iterate 2 simp only [hg, hEat, hp, hE, go_sem]); all_goals (simp only [hg, hEat, hp, hE, go_sem] at hb; try simp only [bls] at hb)) | ((iterate 6 try ((fail_if_success with_reducible refine hK _ ?_ ?_ ?_); clear hK K)); with_reducible refine hK _ ?_ ?_ ?_; rotate_left; (focus (simp only [hg, hEat, hp, hE, go_sem]; exact rfl)); clear hK K) | ((with_reducible first | refine cR (CloneArcs_c t.inn (by omega)) ?_ | refine cR (CloneArcs_c t.out (by omega)) ?_); simp only [hg, hEat, hp, hE, go_sem]) | exact aZ | fail))
    all_goals first | omega | skip
    ·have e1 : trsD (monTrs n c (k + 1)) = trsD (monTrs n c k) ++ [[.int .i64 t.event, .list (arcsD t.inn ++ [[.int .i64 n.init.length, .int .i64 E]]), .list (arcsD t.out)]] := by
      rw [hms, ← trs_append, monT, if_pos ‹0 < E›, if_neg (by omega), List.append_nil, trsD_one, ← arcs_append]; rfl
     refine hL _ (k + 1) (by omega) ?_ (by omega)
     rw [e1]
     (simp only [SubF, go_sem]; (try simp only [go_sem]); repeat' (first | exact True.intro | with_reducible refine And.intro ?_ ?_ | rfl | omega))
    ·have e1 : trsD (monTrs n c (k + 1)) = trsD (monTrs n c k) ++ [[.int .i64 t.event, .list (arcsD t.inn), .list (arcsD t.out ++ [[.int .i64 n.init.length, .int .i64 (-E)]])]] := by
      rw [hms, ← trs_append, monT, if_neg (by omega), if_pos (by omega), List.append_nil, trsD_one, ← arcs_append]; rfl
     refine hL _ (k + 1) (by omega) ?_ (by omega)
     rw [e1]
     (simp only [SubF, go_sem]; (try simp only [go_sem]); repeat' (first | exact True.intro | with_reducible refine And.intro ?_ ?_ | rfl | omega))
    ·have e1 : trsD (monTrs n c (k + 1)) = trsD (monTrs n c k) ++ [[.int .i64 t.event, .list (arcsD t.inn), .list (arcsD t.out)]] := by
      rw [hms, ← trs_append, monT, if_neg (by omega), if_neg (by omega), List.append_nil, List.append_nil, trsD_one]
     refine hL _ (k + 1) (by omega) ?_ (by omega)
     rw [e1]
     (simp only [SubF, go_sem]; (try simp only [go_sem]); repeat' (first | exact True.intro | with_reducible refine And.intro ?_ ?_ | rfl | omega))
   ·(simp only [go_sem] at hL ⊢)
    (repeat' (first | (with_reducible first | refine And.intro ?_ ?_ | refine aBl ?_ | (refine aS 14 [59, 58, 60] ?_; intro K hK)) | ((with_reducible first | refine aGo ?_ | refine rP Ty_ok mixed 15 [0, 2, 5] [.mid [pe 1, pe 3, ⟨4, 0, true, false, false, [], []⟩, ⟨6, 1, false, false, false, [0], []⟩, ⟨7, 1, true, false, false, [], []⟩, ⟨8, 2, false, false, false, [], []⟩, ⟨9, 2, true, false, false, [1, 0], []⟩] 3, .one 10] ?_); simp only [e, go_sem]) | ((with_reducible refine aCd ?_ ?_ (fun hb => ?_) (fun hb => ?_)); (iterate 2 simp only [e, go_sem]); all_goals (simp only [e, go_sem] at hb; try simp only [bls] at hb)) | ((iterate 6 try ((fail_if_success with_reducible refine hK _ ?_ ?_ ?_); clear hK K)); with_reducible refine hK _ ?_ ?_ ?_; rotate_left; (focus (simp only [e, go_sem]; exact rfl)); clear hK K) | exact aZ | fail))
    all_goals first | omega | skip
    ·rw [eL, monNet, ← ints_append]; rfl
    ·rw [eL, monNet, show k = n.trs.length by omega]
 ·(refine ACalls.of_body Ty_ok mixed Tryz.func12 rfl (by kernel_rfl) Tryz.ntmps12 (by simp) (congrArg Array.toList Tryz.results12) ?_)
  have hz : monE n c = conE n c := by rw [monE, if_pos h0]
  have hz2 : monL n c = Net.zero := by rw [monL, if_neg (by omega)]
  simp only [Net.d, Con.d] at h1
  simp only [slotsOf, Net.d, Con.d, hz, hz2, Net.zero]
  (repeat' (first | (with_reducible first | refine And.intro ?_ ?_ | (refine aS 14 [59, 58, 60] ?_; intro K hK)) | ((with_reducible first | refine aGo ?_ | refine rP Ty_ok mixed 4 [0, 3] [.mid [pe 1, pe 2, pe 4, ⟨5, 0, true, false, false, [], []⟩, ⟨6, 1, false, false, false, [], []⟩, ⟨7, 1, false, false, false, [], []⟩] 1] ?_); simp only [go_sem]) | ((with_reducible refine aCd ?_ ?_ (fun hb => ?_) (fun hb => ?_)); (iterate 2 simp only [go_sem]); all_goals (simp only [go_sem] at hb; try simp only [bls] at hb)) | ((iterate 6 try ((fail_if_success with_reducible refine hK _ ?_ ?_ ?_); clear hK K)); with_reducible refine hK _ ?_ ?_ ?_; rotate_left; (focus (simp only [go_sem]; exact rfl)); clear hK K) | ((with_reducible refine xA ?_); simp only [go_sem]) | exact aZ | fail))
  all_goals first | omega | skip
  all_goals rfl
end Go.Proofs.YtljpfdehnjemlaaGreatDoor
