/-
 Contracts: transitions that are enabled; firing.
-/
import Derived.Test.YtljpfdehnjemlaaDoorN6
set_option linter.unusedSimpArgs false
set_option linter.unusedVariables false
namespace Go.Proofs.YtljpfdehnjemlaaDoor
open Go.Eng Go.RowKit
def lacksB (m : List Int) (a : Arc) : Bool := decide (m.getD a.place.toNat 0 < a.weight)
def enB (m : List Int) (t : Tr) : Bool := !t.inn.any (lacksB m)
theorem enabled1_c (m : List Int) (a : Arc) (h0 : 0 ≤ a.place) (h1 : a.place < m.length) (hm : m.length ≤ 1000000) : ACalls Tryd.prog 54 [.agg a.d, .one (.ref [.list (ints m)])] (.one (.bool (lacksB m a))) [] := by
 (refine ACalls.of_body Ty_ok mixed Tryd.func54 rfl (by kernel_rfl) Tryd.ntmps54 (by simp) (congrArg Array.toList Tryd.results54) ?_)
 simp only [slotsOf, Arc.d]
 (repeat' (first | (with_reducible first | exact True.intro | refine And.intro ?_ ?_ | refine aBl ?_ | (refine aS 4 [] ?_; intro K hK)) | ((with_reducible first | refine aGo ?_ | refine rD (id := 1) ?_); simp only [go_sem]) | ((with_reducible refine aCd ?_ ?_ (fun hb => ?_) (fun hb => ?_)); (iterate 2 simp only [go_sem]); all_goals (simp only [go_sem] at hb; try simp only [bls] at hb)) | ((iterate 6 try ((fail_if_success with_reducible refine hK _ ?_ ?_ ?_); clear hK K)); with_reducible refine hK _ ?_ ?_ ?_; rotate_left; (focus (simp only [go_sem]; exact rfl)); clear hK K) | (with_reducible refine aGs (fun hg0 => ?_) (fun hg0 => ?_) <;> first | (with_reducible first | exact aF1 hg0 | exact aF2 hg0) | (simp only [hg0, go_sem])) | (with_reducible refine aNk ?_; intro bnil hnil; try simp only []) | exact aZ | fail))
 rfl
theorem enabled_c (m : List Int) (t : Tr) (ht : ArcsIn m.length t.inn) (hm : m.length ≤ 1000000) : ACalls Tryd.prog 36 [.agg t.d, .one (.list (ints m))] (.one (.bool (enB m t))) [] := by
 have hf := arcs_few _ _ ht
 have h1 := ContainsFuncArcs_c t.inn 54 [.ref [.list (ints m)]] (lacksB m) (by omega) (capsOk_ref1 _) (fun a ha => enabled1_c m a (ht.place a ha).1 (ht.place a ha).2 hm)
 (refine ACalls.of_body Ty_ok mixed Tryd.func36 rfl (by kernel_rfl) Tryd.ntmps36 (by simp) (congrArg Array.toList Tryd.results36) ?_)
 simp only [slotsOf, Tr.d]
 (repeat' (first | (with_reducible first | exact True.intro | refine And.intro ?_ ?_ | refine aBl ?_ | (refine aS 5 [] ?_; intro K hK)) | ((with_reducible first | refine aGo ?_); simp only [go_sem]) | ((with_reducible refine aCd ?_ ?_ (fun hb => ?_) (fun hb => ?_)); (iterate 2 simp only [go_sem]); all_goals (simp only [go_sem] at hb; try simp only [bls] at hb)) | ((iterate 6 try ((fail_if_success with_reducible refine hK _ ?_ ?_ ?_); clear hK K)); with_reducible refine hK _ ?_ ?_ ?_; rotate_left; (focus (simp only [go_sem]; exact rfl)); clear hK K) | ((first | (with_reducible first | refine xA ?_ | refine xD ?_ | refine xO ?_ | refine xR ?_ | refine xG ?_ | refine xH ?_ | refine xM ?_) | ((with_reducible refine gA ?_); refine xA ?_) | ((with_reducible refine gD ?_); refine xD ?_) | ((with_reducible refine gG ?_); refine xG ?_)); simp only [go_sem]) | (with_reducible refine aGs (fun hg0 => ?_) (fun hg0 => ?_) <;> first | (with_reducible first | exact aF1 hg0 | exact aF2 hg0) | (simp only [hg0, go_sem])) | (with_reducible refine aNk ?_; intro bnil hnil; try simp only []) | exact aZ | fail))
 rw [enB, Bool.not_not]
def applyA (s : Int) : List Int → List Arc → List Int
 | m, [] => m
 | m, a :: l => applyA s (m.set a.place.toNat (m.getD a.place.toNat 0 + s * a.weight)) l
theorem applyA_append (s : Int) : ∀ (l l' : List Arc) (m : List Int), applyA s m (l ++ l') = applyA s (applyA s m l) l'
 | [], l', m => rfl
 | a :: l, l', m => by simp only [List.cons_append, applyA, applyA_append s l l']
theorem applyA_take (s : Int) (m : List Int) (l : List Arc) (k : Nat) (hk : k < l.length) : applyA s m (l.take (k + 1)) = (applyA s m (l.take k)).set (l.getD k Arc.no).place.toNat ((applyA s m (l.take k)).getD (l.getD k Arc.no).place.toNat 0 + s * (l.getD k Arc.no).weight) := by
 rw [take_succ_getD l k Arc.no hk, applyA_append]
 rfl
theorem applyA_length (s : Int) : ∀ (l : List Arc) (m : List Int), (applyA s m l).length = m.length
 | [], m => rfl
 | a :: l, m => by rw [applyA, applyA_length s l]; simp
theorem Sm.mono {A B : Int} {l : List Int} (h : Sm A l) (hab : A ≤ B) : Sm B l := ⟨fun x hx => by have := h.all x hx; omega⟩
theorem applyA_sm (s : Int) (hs : s = 1 ∨ s = -1) : ∀ (l : List Arc) (m : List Int) (A : Int), 0 ≤ A → Sm A m → (∀ a ∈ l, 1 ≤ a.weight ∧ a.weight ≤ 8) → Sm (A + 8 * l.length) (applyA s m l)
 | [], m, A, h0, h, _ => h.mono (by simp)
 | a :: l, m, A, h0, h, hw => by
  have h1 := h.get h0 a.place.toNat
  have h2 := hw a (by simp)
  have h3 := applyA_sm s hs l (m.set a.place.toNat (m.getD a.place.toNat 0 + s * a.weight)) (A + 8) (by omega) ((h.mono (by omega)).set _ _ (by rcases hs with rfl | rfl <;> omega)) fun b hb => hw b (by simp [hb])
  rw [applyA]
  refine h3.mono ?_
  simp only [List.length_cons, Int.natCast_add]
  omega
def firedL (t : Tr) (m : List Int) : List Int := applyA 1 (applyA (-1) m t.inn) t.out
theorem firedL_length (t : Tr) (m : List Int) : (firedL t m).length = m.length := by rw [firedL, applyA_length, applyA_length]
def firedE (t : Tr) (m : List Int) : Int := if (firedL t m).any tokB = true then 3 else 0
def firedR (t : Tr) (m : List Int) : List Int := if (firedL t m).any tokB = true then [] else firedL t m
set_option maxHeartbeats 16000000 in
theorem fired_c (m : List Int) (t : Tr) (h1 : ArcsIn m.length t.inn) (h2 : ArcsIn m.length t.out) (hm : m.length ≤ 1000) (hs : Sm 1000000 m) : ACalls Tryd.prog 50 [.agg t.d, .one (.list (ints m))] (.tup [.one (.list (ints (firedR t m))), .one (.int .i64 (firedE t m))]) [] := by
 have hf1 := arcs_few _ _ h1
 have hf2 := arcs_few _ _ h2
 have hT := tokens_c (firedL t m) (by rw [firedL_length]; omega)
 (refine ACalls.of_body Ty_ok mixed Tryd.func50 rfl (by kernel_rfl) Tryd.ntmps50 (by simp) (congrArg Array.toList Tryd.results50) ?_)
 simp only [slotsOf, Tr.d]
 (repeat' (first | (with_reducible first | exact True.intro | refine And.intro ?_ ?_ | refine aBl ?_ | (refine aS 11 [15, 14, 16, 32, 31, 33] ?_; intro K hK)) | ((with_reducible first | refine aGo ?_ | refine rP Ty_ok mixed 5 [0, 1, 5] [.mid [pe 2, pe 3, pe 4, pe 6, pe 7, pe 8] 0, .one 9] ?_ | refine rP Ty_ok mixed 10 [0, 1, 5] [.mid [pe 2, pe 3, pe 4, pe 6, pe 7, pe 8] 0, .one 9] ?_); simp only [go_sem]) | ((with_reducible refine aCd ?_ ?_ (fun hb => ?_) (fun hb => ?_)); (iterate 2 simp only [go_sem]); all_goals (simp only [go_sem] at hb; try simp only [bls] at hb)) | ((iterate 6 try ((fail_if_success with_reducible refine hK _ ?_ ?_ ?_); clear hK K)); with_reducible refine hK _ ?_ ?_ ?_; rotate_left; (focus (simp only [go_sem]; exact rfl)); clear hK K) | ((first | (with_reducible first | refine cA (CloneInts_c m (by omega)) ?_ | refine cD (CloneInts_c m (by omega)) ?_ | refine cO (CloneInts_c m (by omega)) ?_ | refine cR (CloneInts_c m (by omega)) ?_ | refine cG (fun hg => (CloneInts_c m (by omega))) ?_ | refine cH (fun hg => (CloneInts_c m (by omega))) ?_ | refine cM (fun hg => (CloneInts_c m (by omega))) ?_) | ((with_reducible refine gA ?_); refine cA (CloneInts_c m (by omega)) ?_) | ((with_reducible refine gD ?_); refine cD (CloneInts_c m (by omega)) ?_) | ((with_reducible refine gG ?_); refine cG (fun hg => (CloneInts_c m (by omega))) ?_)); simp only [go_sem]) | (with_reducible refine aGs (fun hg0 => ?_) (fun hg0 => ?_) <;> first | (with_reducible first | exact aF1 hg0 | exact aF2 hg0) | (simp only [hg0, go_sem])) | (with_reducible refine aNk ?_; intro bnil hnil; try simp only []) | exact aZ | fail))
 refine awp_loop _ (by simp only [go_sem]; rfl) Nat (fun j => j ≤ t.inn.length) (fun j => [(6, .one (.own 2)), (16, .one (.int .i64 j))]) (fun j H => [.var 34 [.int .i64 t.event, .list (arcsD t.inn), .list (arcsD t.out)], .row 3 1 [], .row 3 1 (ints (applyA (-1) m (t.inn.take j)))]) (fun j => t.inn.length - j) 0 (by omega) ?_ ?_
 ·(simp only [SubF, List.take_zero, applyA, go_sem]; (try simp only [List.take_zero, applyA, go_sem]); repeat' (first | exact True.intro | with_reducible refine And.intro ?_ ?_ | rfl | omega))
 ·rintro j hj L hL
  have hq : ((j : Nat) : Int).toNat = j := by omega
  by_cases hlj : j < t.inn.length
  ·have ha := arc_get h1 hlj
   have haD := arcs_at hlj
   have e1 := applyA_take (-1) m t.inn j hlj
   have hl1 := applyA_length (-1) (t.inn.take j) m
   have hsm := applyA_sm (-1) (.inr rfl) (t.inn.take j) m 1000000 (by omega) hs fun a ha => h1.weight a (List.mem_of_mem_take ha)
   have hlt : (t.inn.take j).length ≤ 1000 := by simp; omega
   have hb0 := (hsm.mono (B := 2000000) (by omega)).get (by omega) (t.inn.getD j Arc.no).place.toNat
   generalize applyA (-1) m (t.inn.take j) = X at *
   have hrow := ints_at (l := X) (k := (t.inn.getD j Arc.no).place.toNat) (by omega)
   (simp only [go_sem] at hL ⊢)
   (repeat' (first | (with_reducible first | exact True.intro | refine And.intro ?_ ?_ | refine aBl ?_ | (refine aS 11 [15, 14, 16, 32, 31, 33] ?_; intro K hK)) | ((with_reducible first | refine aGo ?_ | refine rP Ty_ok mixed 5 [0, 1, 5] [.mid [pe 2, pe 3, pe 4, pe 6, pe 7, pe 8] 0, .one 9] ?_ | refine rP Ty_ok mixed 10 [0, 1, 5] [.mid [pe 2, pe 3, pe 4, pe 6, pe 7, pe 8] 0, .one 9] ?_); simp only [haD, hq, hrow, hl1, go_sem]) | ((with_reducible refine aCd ?_ ?_ (fun hb => ?_) (fun hb => ?_)); (iterate 2 simp only [haD, hq, hrow, hl1, go_sem]); all_goals (simp only [haD, hq, hrow, hl1, go_sem] at hb; try simp only [bls] at hb)) | ((iterate 6 try ((fail_if_success with_reducible refine hK _ ?_ ?_ ?_); clear hK K)); with_reducible refine hK _ ?_ ?_ ?_; rotate_left; (focus (simp only [haD, hq, hrow, hl1, go_sem]; exact rfl)); clear hK K) | (with_reducible refine aGs (fun hg0 => ?_) (fun hg0 => ?_) <;> first | (with_reducible first | exact aF1 hg0 | exact aF2 hg0) | (simp only [hg0, haD, hq, hrow, hl1, go_sem])) | (with_reducible refine aNk ?_; intro bnil hnil; try simp only []) | exact aZ | fail))
   all_goals first | omega | skip
   refine hL _ (j + 1) (by omega) ?_ (by omega)
   rw [e1, show X.getD (t.inn.getD j Arc.no).place.toNat 0 + -1 * (t.inn.getD j Arc.no).weight = X.getD (t.inn.getD j Arc.no).place.toNat 0 - (t.inn.getD j Arc.no).weight by omega]
   (simp only [SubF, go_sem]; (try simp only [go_sem]); repeat' (first | exact True.intro | with_reducible refine And.intro ?_ ?_ | rfl | omega))
  ·(simp only [go_sem] at hL ⊢)
   (repeat' (first | (with_reducible first | exact True.intro | refine And.intro ?_ ?_ | refine aBl ?_ | (refine aS 11 [15, 14, 16, 32, 31, 33] ?_; intro K hK)) | ((with_reducible first | refine aGo ?_ | refine rP Ty_ok mixed 5 [0, 1, 5] [.mid [pe 2, pe 3, pe 4, pe 6, pe 7, pe 8] 0, .one 9] ?_ | refine rP Ty_ok mixed 10 [0, 1, 5] [.mid [pe 2, pe 3, pe 4, pe 6, pe 7, pe 8] 0, .one 9] ?_); simp only [go_sem]) | ((with_reducible refine aCd ?_ ?_ (fun hb => ?_) (fun hb => ?_)); (iterate 2 simp only [go_sem]); all_goals (simp only [go_sem] at hb; try simp only [bls] at hb)) | ((iterate 6 try ((fail_if_success with_reducible refine hK _ ?_ ?_ ?_); clear hK K)); with_reducible refine hK _ ?_ ?_ ?_; rotate_left; (focus (simp only [go_sem]; exact rfl)); clear hK K) | (with_reducible refine aGs (fun hg0 => ?_) (fun hg0 => ?_) <;> first | (with_reducible first | exact aF1 hg0 | exact aF2 hg0) | (simp only [hg0, go_sem])) | (with_reducible refine aNk ?_; intro bnil hnil; try simp only []) | exact aZ | fail))
   all_goals first | omega | skip
   rw [List.take_of_length_le (by omega)]
   have hsm1 := applyA_sm (-1) (.inr rfl) t.inn m 1000000 (by omega) hs h1.weight
   have hl1 := applyA_length (-1) t.inn m
   clear hL L
   refine awp_loop _ (by simp only [go_sem]; rfl) Nat (fun j => j ≤ t.out.length) (fun j => [(6, .one (.own 2)), (33, .one (.int .i64 j))]) (fun j H => [.var 34 [.int .i64 t.event, .list (arcsD t.inn), .list (arcsD t.out)], .row 3 1 [], .row 3 1 (ints (applyA 1 (applyA (-1) m t.inn) (t.out.take j)))]) (fun j => t.out.length - j) 0 (by omega) ?_ ?_
   ·(simp only [SubF, List.take_zero, applyA, go_sem]; (try simp only [List.take_zero, applyA, go_sem]); repeat' (first | exact True.intro | with_reducible refine And.intro ?_ ?_ | rfl | omega))
   ·rintro i hi L hL
    have hq : ((i : Nat) : Int).toNat = i := by omega
    by_cases hli : i < t.out.length
    ·have ha := arc_get h2 hli
     have haD := arcs_at hli
     have e1 := applyA_take 1 (applyA (-1) m t.inn) t.out i hli
     have hl2 := applyA_length 1 (t.out.take i) (applyA (-1) m t.inn)
     have hsm := applyA_sm 1 (.inl rfl) (t.out.take i) _ _ (by omega) hsm1 fun a ha => h2.weight a (List.mem_of_mem_take ha)
     have hlt : (t.out.take i).length ≤ 1000 := by simp; omega
     have hb0 := (hsm.mono (B := 2000000) (by omega)).get (by omega) (t.out.getD i Arc.no).place.toNat
     rw [hl1] at hl2
     generalize applyA 1 (applyA (-1) m t.inn) (t.out.take i) = X at *
     have hrow := ints_at (l := X) (k := (t.out.getD i Arc.no).place.toNat) (by omega)
     (simp only [go_sem] at hL ⊢)
     (repeat' (first | (with_reducible first | exact True.intro | refine And.intro ?_ ?_ | refine aBl ?_ | (refine aS 11 [15, 14, 16, 32, 31, 33] ?_; intro K hK)) | ((with_reducible first | refine aGo ?_ | refine rP Ty_ok mixed 5 [0, 1, 5] [.mid [pe 2, pe 3, pe 4, pe 6, pe 7, pe 8] 0, .one 9] ?_ | refine rP Ty_ok mixed 10 [0, 1, 5] [.mid [pe 2, pe 3, pe 4, pe 6, pe 7, pe 8] 0, .one 9] ?_); simp only [haD, hq, hrow, hl2, go_sem]) | ((with_reducible refine aCd ?_ ?_ (fun hb => ?_) (fun hb => ?_)); (iterate 2 simp only [haD, hq, hrow, hl2, go_sem]); all_goals (simp only [haD, hq, hrow, hl2, go_sem] at hb; try simp only [bls] at hb)) | ((iterate 6 try ((fail_if_success with_reducible refine hK _ ?_ ?_ ?_); clear hK K)); with_reducible refine hK _ ?_ ?_ ?_; rotate_left; (focus (simp only [haD, hq, hrow, hl2, go_sem]; exact rfl)); clear hK K) | (with_reducible refine aGs (fun hg0 => ?_) (fun hg0 => ?_) <;> first | (with_reducible first | exact aF1 hg0 | exact aF2 hg0) | (simp only [hg0, haD, hq, hrow, hl2, go_sem])) | (with_reducible refine aNk ?_; intro bnil hnil; try simp only []) | exact aZ | fail))
     all_goals first | omega | skip
     refine hL _ (i + 1) (by omega) ?_ (by omega)
     rw [e1, Int.one_mul]
     (simp only [SubF, go_sem]; (try simp only [go_sem]); repeat' (first | exact True.intro | with_reducible refine And.intro ?_ ?_ | rfl | omega))
    ·have e2 : applyA 1 (applyA (-1) m t.inn) (t.out.take i) = firedL t m := by rw [List.take_of_length_le (by omega)]; rfl
     rw [e2]
     (simp only [go_sem] at hL ⊢)
     (repeat' (first | (with_reducible first | exact True.intro | refine And.intro ?_ ?_ | refine aBl ?_ | (refine aS 11 [15, 14, 16, 32, 31, 33] ?_; intro K hK)) | ((with_reducible first | refine aGo ?_ | refine rP Ty_ok mixed 5 [0, 1, 5] [.mid [pe 2, pe 3, pe 4, pe 6, pe 7, pe 8] 0, .one 9] ?_ | refine rP Ty_ok mixed 10 [0, 1, 5] [.mid [pe 2, pe 3, pe 4, pe 6, pe 7, pe 8] 0, .one 9] ?_); simp only [go_sem]) | ((with_reducible refine aCd ?_ ?_ (fun hb => ?_) (fun hb => ?_)); (iterate 2 simp only [go_sem]); all_goals (simp only [go_sem] at hb; try simp only [bls] at hb)) | ((iterate 6 try ((fail_if_success with_reducible refine hK _ ?_ ?_ ?_); clear hK K)); with_reducible refine hK _ ?_ ?_ ?_; rotate_left; (focus (simp only [go_sem]; exact rfl)); clear hK K) | ((first | (with_reducible first | refine xA ?_ | refine xD ?_ | refine xO ?_ | refine xR ?_ | refine xG ?_ | refine xH ?_ | refine xM ?_) | ((with_reducible refine gA ?_); refine xA ?_) | ((with_reducible refine gD ?_); refine xD ?_) | ((with_reducible refine gG ?_); refine xG ?_)); simp only [go_sem]) | (with_reducible refine aGs (fun hg0 => ?_) (fun hg0 => ?_) <;> first | (with_reducible first | exact aF1 hg0 | exact aF2 hg0) | (simp only [hg0, go_sem])) | (with_reducible refine aNk ?_; intro bnil hnil; try simp only []) | exact aZ | fail))
     all_goals first | omega | skip
     all_goals (first | rw [firedR] | rw [firedE])
     all_goals first | (rw [if_pos (by simpa using hb)]; done) | (rw [if_neg (by simpa using hb)]; done) | skip
     all_goals first | (rw [if_pos (by simpa using hb)]; rfl) | (rw [if_neg (by simpa using hb)]; rfl)
def ableL (n : Net) (m : List Int) (k : Nat) : List Int := ((List.range k).filter fun i => enB m (n.trs.getD i Tr.no)).map fun (i : Nat) => (i : Int)
theorem ableL_succ (n : Net) (m : List Int) (k : Nat) : ableL n m (k + 1) = ableL n m k ++ if enB m (n.trs.getD k Tr.no) = true then [(k : Int)] else [] := by
 simp only [ableL, List.range_succ, List.filter_append, List.map_append]
 congr 1
 by_cases h : enB m (n.trs.getD k Tr.no) = true
 ·rw [List.filter_cons, if_pos h, if_pos h]; rfl
 ·rw [List.filter_cons, if_neg h, if_neg h]; rfl
theorem ableL_length (n : Net) (m : List Int) (k : Nat) : (ableL n m k).length ≤ k := by
 simp only [ableL, List.length_map]
 exact Nat.le_trans (List.length_filter_le _ _) (by simp)
theorem able_mem {n : Net} {m : List Int} {k : Nat} {t : Int} (h : t ∈ ableL n m k) : 0 ≤ t ∧ t < k ∧ enB m (n.trs.getD t.toNat Tr.no) = true := by
 simp only [ableL, List.mem_map, List.mem_filter, List.mem_range] at h
 obtain ⟨i, ⟨h1, h2⟩, rfl⟩ := h
 exact ⟨by omega, by omega, by rw [Int.toNat_natCast]; exact h2⟩
set_option maxHeartbeats 16000000 in
theorem able_c (n : Net) (m : List Int) (hn : NetOk n) (hl : m.length = n.init.length) : ACalls Tryd.prog 15 [.agg n.d, .one (.list (ints m))] (.one (.own 0)) [.row 3 1 (ints (ableL n m n.trs.length))] := by
 have ht := hn.trs
 have hi10 := hn.init
 (refine ACalls.of_body_own Ty_ok mixed Tryd.func15 rfl (by kernel_rfl) Tryd.ntmps15 (by simp) (congrArg Array.toList Tryd.results15) ?_)
 simp only [slotsOf, Net.d]
 (repeat' (first | (with_reducible first | exact True.intro | refine And.intro ?_ ?_ | refine aBl ?_ | (refine aS 8 [10, 9, 11] ?_; intro K hK)) | ((with_reducible first | refine aGo ?_); simp only [go_sem]) | ((with_reducible refine aCd ?_ ?_ (fun hb => ?_) (fun hb => ?_)); (iterate 2 simp only [go_sem]); all_goals (simp only [go_sem] at hb; try simp only [bls] at hb)) | ((iterate 6 try ((fail_if_success with_reducible refine hK _ ?_ ?_ ?_); clear hK K)); with_reducible refine hK _ ?_ ?_ ?_; rotate_left; (focus (simp only [go_sem]; exact rfl)); clear hK K) | (with_reducible refine aGs (fun hg0 => ?_) (fun hg0 => ?_) <;> first | (with_reducible first | exact aF1 hg0 | exact aF2 hg0) | (simp only [hg0, go_sem])) | (with_reducible refine aNk ?_; intro bnil hnil; try simp only []) | exact aZ | fail))
 refine awp_loop _ (by simp only [go_sem]; rfl) Nat (fun k => k ≤ n.trs.length) (fun k => [(5, .one (.own 2)), (11, .one (.int .i64 k))]) (fun k H => [.var 30 [.list (ints n.init), .list (trsD n.trs)], .row 3 1 [], .row 3 1 (ints (ableL n m k))]) (fun k => n.trs.length - k) 0 (by omega) ?_ ?_
 ·have e0 : ints (ableL n m 0) = [] := rfl
  rw [e0]
  (simp only [SubF, go_sem]; (try simp only [go_sem]); repeat' (first | exact True.intro | with_reducible refine And.intro ?_ ?_ | rfl | omega))
 ·rintro k hk L hL
  have hp : ((k : Nat) : Int).toNat = k := by omega
  have hal := ableL_length n m k
  by_cases hlt : k < n.trs.length
  ·have hg := trs_get hlt [.int .i64 0, .nil, .nil]
   have hg2 := trs_get hlt []
   have hi1 := hn.inn _ (getD_mem n.trs k Tr.no hlt)
   have hs := ableL_succ n m k
   generalize n.trs.getD k Tr.no = t at *
   have hE := enabled_c m t (by rw [hl]; exact hi1) (by omega)
   simp only [Tr.d] at hE
   (simp only [go_sem] at hL ⊢)
   (repeat' (first | (with_reducible first | exact True.intro | refine And.intro ?_ ?_ | refine aBl ?_ | (refine aS 8 [10, 9, 11] ?_; intro K hK)) | ((with_reducible first | refine aGo ?_); simp only [hg, hg2, hp, go_sem]) | ((with_reducible refine aCd ?_ ?_ (fun hb => ?_) (fun hb => ?_)); (iterate 2 simp only [hg, hg2, hp, go_sem]); all_goals (simp only [hg, hg2, hp, go_sem] at hb; try simp only [bls] at hb)) | ((iterate 6 try ((fail_if_success with_reducible refine hK _ ?_ ?_ ?_); clear hK K)); with_reducible refine hK _ ?_ ?_ ?_; rotate_left; (focus (simp only [hg, hg2, hp, go_sem]; exact rfl)); clear hK K) | ((first | (with_reducible first | refine xA ?_ | refine xD ?_ | refine xO ?_ | refine xR ?_ | refine xG ?_ | refine xH ?_ | refine xM ?_) | ((with_reducible refine gA ?_); refine xA ?_) | ((with_reducible refine gD ?_); refine xD ?_) | ((with_reducible refine gG ?_); refine xG ?_)); simp only [hg, hg2, hp, go_sem]) | (with_reducible refine aGs (fun hg0 => ?_) (fun hg0 => ?_) <;> first | (with_reducible first | exact aF1 hg0 | exact aF2 hg0) | (simp only [hg0, hg, hg2, hp, go_sem])) | (with_reducible refine aNk ?_; intro bnil hnil; try simp only []) | exact aZ | fail))
   all_goals first | omega | skip
   ·refine hL _ (k + 1) (by omega) ?_ (by omega)
    rw [hs, if_pos hb, ← ints_append]
    (simp only [SubF, ints_one, go_sem]; (try simp only [ints_one, go_sem]); repeat' (first | exact True.intro | with_reducible refine And.intro ?_ ?_ | rfl | omega))
   ·refine hL _ (k + 1) (by omega) ?_ (by omega)
    rw [hs, if_neg (by rw [hb]; decide), List.append_nil]
    (simp only [SubF, go_sem]; (try simp only [go_sem]); repeat' (first | exact True.intro | with_reducible refine And.intro ?_ ?_ | rfl | omega))
  ·(simp only [go_sem] at hL ⊢)
   (repeat' (first | (with_reducible first | exact True.intro | refine And.intro ?_ ?_ | refine aBl ?_ | (refine aS 8 [10, 9, 11] ?_; intro K hK)) | ((with_reducible first | refine aGo ?_); simp only [go_sem]) | ((with_reducible refine aCd ?_ ?_ (fun hb => ?_) (fun hb => ?_)); (iterate 2 simp only [go_sem]); all_goals (simp only [go_sem] at hb; try simp only [bls] at hb)) | ((iterate 6 try ((fail_if_success with_reducible refine hK _ ?_ ?_ ?_); clear hK K)); with_reducible refine hK _ ?_ ?_ ?_; rotate_left; (focus (simp only [go_sem]; exact rfl)); clear hK K) | (with_reducible refine aGs (fun hg0 => ?_) (fun hg0 => ?_) <;> first | (with_reducible first | exact aF1 hg0 | exact aF2 hg0) | (simp only [hg0, go_sem])) | (with_reducible refine aNk ?_; intro bnil hnil; try simp only []) | exact aZ | fail))
   all_goals first | omega | skip
   rw [show k = n.trs.length by omega]
def markE (n : Net) (m : List Int) : Int := if netE n ≠ 0 then netE n else if m.length ≠ n.init.length then 4 else if m.any tokB = true then 2 else 0
theorem CheckMarking_c (n : Net) (m : List Int) (hf : n.Fits) (hm : m.length ≤ 1000000) : ACalls Tryd.prog 16 [.agg n.d, .one (.list (ints m))] (.one (.int .i64 (markE n m))) [] := by
 have h1 := netCheck_c n hf
 have hi := hf.init
 simp only [Net.d] at h1
 (refine ACalls.of_body Ty_ok mixed Tryd.func16 rfl (by kernel_rfl) Tryd.ntmps16 (by simp) (congrArg Array.toList Tryd.results16) ?_)
 simp only [slotsOf, Net.d]
 (repeat' (first | (with_reducible first | exact True.intro | refine And.intro ?_ ?_ | refine aBl ?_ | (refine aS 6 [] ?_; intro K hK)) | ((with_reducible first | refine aGo ?_); simp only [go_sem]) | ((with_reducible refine aCd ?_ ?_ (fun hb => ?_) (fun hb => ?_)); (iterate 2 simp only [go_sem]); all_goals (simp only [go_sem] at hb; try simp only [bls] at hb)) | ((iterate 6 try ((fail_if_success with_reducible refine hK _ ?_ ?_ ?_); clear hK K)); with_reducible refine hK _ ?_ ?_ ?_; rotate_left; (focus (simp only [go_sem]; exact rfl)); clear hK K) | ((first | (with_reducible first | refine xA ?_ | refine xD ?_ | refine xO ?_ | refine xR ?_ | refine xG ?_ | refine xH ?_ | refine xM ?_ | refine cA (tokens_c m hm) ?_ | refine cD (tokens_c m hm) ?_ | refine cO (tokens_c m hm) ?_ | refine cR (tokens_c m hm) ?_ | refine cG (fun hg => (tokens_c m hm)) ?_ | refine cH (fun hg => (tokens_c m hm)) ?_ | refine cM (fun hg => (tokens_c m hm)) ?_) | ((with_reducible refine gA ?_); refine xA ?_) | ((with_reducible refine gD ?_); refine xD ?_) | ((with_reducible refine gG ?_); refine xG ?_) | ((with_reducible refine gA ?_); refine cA (tokens_c m hm) ?_) | ((with_reducible refine gD ?_); refine cD (tokens_c m hm) ?_) | ((with_reducible refine gG ?_); refine cG (fun hg => (tokens_c m hm)) ?_)); simp only [go_sem]) | (with_reducible refine aGs (fun hg0 => ?_) (fun hg0 => ?_) <;> first | (with_reducible first | exact aF1 hg0 | exact aF2 hg0) | (simp only [hg0, go_sem])) | (with_reducible refine aNk ?_; intro bnil hnil; try simp only []) | exact aZ | fail))
 ·rw [markE, if_pos hb]
 ·rw [markE, if_neg (by omega), if_pos (by omega)]
 ·rw [markE, if_neg (by omega), if_neg (by omega), if_pos (by simpa using hb)]
 ·rw [markE, if_neg (by omega), if_neg (by omega), if_neg (by simpa using hb)]
end Go.Proofs.YtljpfdehnjemlaaDoor
