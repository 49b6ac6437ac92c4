/-
 The law's own functions of a net: weight, enabled, fire, most.
-/
import Derived.Test.YtgbhmieaoaojoaaGreatDoorSG
set_option linter.unusedSimpArgs false
set_option linter.unusedVariables false
namespace Go.Proofs.YtgbhmieaoaojoaaGreatDoor
open Go.Eng Go.RowKit
def wF : List Arc → Int → Int
 | [], _ => 0
 | a :: l, p => if a.place = p then a.weight else wF l p
theorem weight_c (l : List Arc) (p : Int) (hl : l.length ≤ 1000000) : ACalls Tryz.prog 117 [.one (.list (arcsD l)), .one (.int .i64 p)] (.one (.int .i64 (wF l p))) [] := by
 (refine ACalls.of_body Ty_ok mixed Tryz.func117 rfl (by kernel_rfl) Tryz.ntmps117 (by simp) (congrArg Array.toList Tryz.results117) ?_)
 simp only [slotsOf]
 (repeat' (first | (with_reducible first | exact True.intro | refine And.intro ?_ ?_ | refine aBl ?_ | (refine aS 6 [] ?_; intro K hK)) | ((with_reducible first | refine aGo ?_); simp only [go_sem]) | ((with_reducible refine aCd ?_ ?_ (fun hb => ?_) (fun hb => ?_)); (iterate 2 simp only [go_sem]); all_goals (simp only [go_sem] at hb; try simp only [bls] at hb)) | ((iterate 6 try ((fail_if_success with_reducible refine hK _ ?_ ?_ ?_); clear hK K)); with_reducible refine hK _ ?_ ?_ ?_; rotate_left; (focus (simp only [go_sem]; exact rfl)); clear hK K) | (with_reducible refine aGs (fun hg0 => ?_) (fun hg0 => ?_) <;> first | (with_reducible first | exact aF1 hg0 | exact aF2 hg0) | (simp only [hg0, go_sem])) | (with_reducible refine aNk ?_; intro bnil hnil; try simp only []) | exact aZ | fail))
 generalize hW : wF l p = W
 refine awp_loop _ (by simp only [go_sem]; rfl) Nat (fun k => k ≤ l.length ∧ wF (l.drop k) p = W) (fun k => [(5, .one (.int .i64 k))]) (fun _ H => H) (fun k => l.length - k) 0 ⟨by omega, hW⟩ ?_ ?_
 ·(simp only [SubF, go_sem]; (try simp only [go_sem]); repeat' (first | exact True.intro | with_reducible refine And.intro ?_ ?_ | rfl | omega))
 ·rintro k ⟨hk, hWk⟩ L hL
  have hp : ((k : Nat) : Int).toNat = k := by omega
  by_cases hlt : k < l.length
  ·have hg := arcs_at hlt
   rw [drop_getD l k Arc.no hlt] at hWk
   simp only [wF] at hWk
   (simp only [go_sem] at hL ⊢)
   (repeat' (first | (with_reducible first | exact True.intro | refine And.intro ?_ ?_ | refine aBl ?_ | (refine aS 6 [] ?_; intro K hK)) | ((with_reducible first | refine aGo ?_); simp only [hg, hp, go_sem]) | ((with_reducible refine aCd ?_ ?_ (fun hb => ?_) (fun hb => ?_)); (iterate 2 simp only [hg, hp, go_sem]); all_goals (simp only [hg, hp, go_sem] at hb; try simp only [bls] at hb)) | ((iterate 6 try ((fail_if_success with_reducible refine hK _ ?_ ?_ ?_); clear hK K)); with_reducible refine hK _ ?_ ?_ ?_; rotate_left; (focus (simp only [hg, hp, go_sem]; exact rfl)); clear hK K) | (with_reducible refine aGs (fun hg0 => ?_) (fun hg0 => ?_) <;> first | (with_reducible first | exact aF1 hg0 | exact aF2 hg0) | (simp only [hg0, hg, hp, go_sem])) | (with_reducible refine aNk ?_; intro bnil hnil; try simp only []) | exact aZ | fail))
   all_goals first | omega | skip
   rw [if_neg hb] at hWk
   exact hL _ (k + 1) ⟨by omega, hWk⟩ (by (simp only [SubF, go_sem]; (try simp only [go_sem]); repeat' (first | exact True.intro | with_reducible refine And.intro ?_ ?_ | rfl | omega))) (by omega)
  ·rw [List.drop_of_length_le (by omega)] at hWk
   simp only [wF] at hWk
   (simp only [go_sem] at hL ⊢)
   (repeat' (first | (with_reducible first | exact True.intro | refine And.intro ?_ ?_ | refine aBl ?_ | (refine aS 6 [] ?_; intro K hK)) | ((with_reducible first | refine aGo ?_); simp only [go_sem]) | ((with_reducible refine aCd ?_ ?_ (fun hb => ?_) (fun hb => ?_)); (iterate 2 simp only [go_sem]); all_goals (simp only [go_sem] at hb; try simp only [bls] at hb)) | ((iterate 6 try ((fail_if_success with_reducible refine hK _ ?_ ?_ ?_); clear hK K)); with_reducible refine hK _ ?_ ?_ ?_; rotate_left; (focus (simp only [go_sem]; exact rfl)); clear hK K) | (with_reducible refine aGs (fun hg0 => ?_) (fun hg0 => ?_) <;> first | (with_reducible first | exact aF1 hg0 | exact aF2 hg0) | (simp only [hg0, go_sem])) | (with_reducible refine aNk ?_; intro bnil hnil; try simp only []) | exact aZ | fail))
   all_goals first | omega | skip
theorem wF_bound {l : List Arc} (h : ∀ a ∈ l, 1 ≤ a.weight ∧ a.weight ≤ 8) (p : Int) : 0 ≤ wF l p ∧ wF l p ≤ 8 := by
 induction l with
 | nil => simp [wF]
 | cons a l ih =>
  have h1 := h a (by simp)
  have h2 := ih fun b hb => h b (by simp [hb])
  rw [wF]
  split <;> omega
theorem wF_wsum : ∀ {l : List Arc} {places p : Nat}, ArcsIn places l → wF l p = wsum l p
 | [], _, _, _ => rfl
 | a :: l, places, p, h => by
  have ha := h.place a (by simp)
  have hl : ArcsIn places l := ⟨fun b hb => h.place b (by simp [hb]), fun b hb => h.weight b (by simp [hb]), (List.pairwise_cons.1 h.ord).2⟩
  rw [wF, wsum]
  by_cases e : a.place = p
  ·rw [if_pos e, if_pos (by omega), wsum_zero l p fun b hb => by
    have h1 := (List.pairwise_cons.1 h.ord).1 b hb
    have h2 := h.place a (by simp)
    omega]
   omega
  ·rw [if_neg e, if_neg (by omega), wF_wsum hl]; omega
def enW (m : List Int) (t : Tr) : Bool := decide (∀ p, p < m.length → wF t.inn p ≤ m.getD p 0)
theorem enW_enB {m : List Int} {t : Tr} (h : ArcsIn m.length t.inn) (hm : ∀ x ∈ m, 0 ≤ x) : enW m t = enB m t := by
 rw [Bool.eq_iff_iff, enW, decide_eq_true_eq]
 constructor
 ·intro hw
  rw [enB, Bool.not_eq_true', List.any_eq_false]
  intro a ha
  have hp := h.place a ha
  have h1 := hw a.place.toNat (by omega)
  have h2 := wsum_mem (fun b hb => (h.weight b hb).1) ha
  rw [wF_wsum h] at h1
  simp only [lacksB, decide_eq_true_eq]
  omega
 ·intro he p hp
  rw [wF_wsum h]
  exact enB_wsum h he p (hm _ (getD_mem m p 0 hp))
set_option maxHeartbeats 8000000 in
theorem lawEn_c (n : Net) (m : List Int) (t : Int) (hf : n.Fits) (hm : m.length ≤ 1000000) (ht : 0 ≤ t ∧ t < n.trs.length) : ACalls Tryz.prog 66 [.agg n.d, .one (.list (ints m)), .one (.int .i64 t)] (.one (.bool (enW m (n.trs.getD t.toNat Tr.no)))) [] := by
 have htl : t.toNat < n.trs.length := by omega
 have hg := trs_get htl [.int .i64 0, .nil, .nil]
 have hg2 := trs_get htl []
 have hfi := hf.inn _ (getD_mem n.trs t.toNat Tr.no htl)
 generalize hR : enW m (n.trs.getD t.toNat Tr.no) = R
 generalize n.trs.getD t.toNat Tr.no = x at *
 (refine ACalls.of_body Ty_ok mixed Tryz.func66 rfl (by kernel_rfl) Tryz.ntmps66 (by simp) (congrArg Array.toList Tryz.results66) ?_)
 simp only [slotsOf, Net.d]
 (repeat' (first | (with_reducible first | exact True.intro | refine And.intro ?_ ?_ | refine aBl ?_ | (refine aS 8 [] ?_; intro K hK)) | ((with_reducible first | refine aGo ?_ | refine rP Ty_ok mixed 4 [0, 1, 4, 6, 10] [.mid [pe 2, pe 3, pe 5, pe 7, pe 8, pe 9, ⟨11, 0, true, false, false, [], []⟩, ⟨12, 1, false, false, false, [], []⟩] 1] ?_); simp only [go_sem]) | ((with_reducible refine aCd ?_ ?_ (fun hb => ?_) (fun hb => ?_)); (iterate 2 simp only [go_sem]); all_goals (simp only [go_sem] at hb; try simp only [bls] at hb)) | ((iterate 6 try ((fail_if_success with_reducible refine hK _ ?_ ?_ ?_); clear hK K)); with_reducible refine hK _ ?_ ?_ ?_; rotate_left; (focus (simp only [go_sem]; exact rfl)); clear hK K) | (with_reducible refine aGs (fun hg0 => ?_) (fun hg0 => ?_) <;> first | (with_reducible first | exact aF1 hg0 | exact aF2 hg0) | (simp only [hg0, go_sem])) | (with_reducible refine aNk ?_; intro bnil hnil; try simp only []) | exact aZ | fail))
 refine awp_loop _ (by simp only [go_sem]; rfl) Nat (fun k => k ≤ m.length ∧ ∀ p, p < k → wF x.inn p ≤ m.getD p 0) (fun k => [(7, .one (.int .i64 k))]) (fun _ H => H) (fun k => m.length - k) 0 ⟨by omega, fun p hp => by omega⟩ ?_ ?_
 ·(simp only [SubF, go_sem]; (try simp only [go_sem]); repeat' (first | exact True.intro | with_reducible refine And.intro ?_ ?_ | rfl | omega))
 ·rintro k ⟨hk, hI⟩ L hL
  have hp : ((k : Nat) : Int).toNat = k := by omega
  by_cases hlt : k < m.length
  ·have ha := ints_at hlt
   have hW := weight_c x.inn k hfi
   (simp only [go_sem] at hL ⊢)
   (repeat' (first | (with_reducible first | exact True.intro | refine And.intro ?_ ?_ | refine aBl ?_ | (refine aS 8 [] ?_; intro K hK)) | ((with_reducible first | refine aGo ?_ | refine rP Ty_ok mixed 4 [0, 1, 4, 6, 10] [.mid [pe 2, pe 3, pe 5, pe 7, pe 8, pe 9, ⟨11, 0, true, false, false, [], []⟩, ⟨12, 1, false, false, false, [], []⟩] 1] ?_); simp only [hp, ha, hg, hg2, go_sem]) | ((with_reducible refine aCd ?_ ?_ (fun hb => ?_) (fun hb => ?_)); (iterate 2 simp only [hp, ha, hg, hg2, go_sem]); all_goals (simp only [hp, ha, hg, hg2, go_sem] at hb; try simp only [bls] at hb)) | ((iterate 6 try ((fail_if_success with_reducible refine hK _ ?_ ?_ ?_); clear hK K)); with_reducible refine hK _ ?_ ?_ ?_; rotate_left; (focus (simp only [hp, ha, hg, hg2, go_sem]; exact rfl)); clear hK K) | ((first | (with_reducible first | refine xA ?_ | refine xD ?_ | refine xO ?_ | refine xR ?_ | refine xG ?_ | refine xH ?_ | refine xM ?_) | ((with_reducible refine gA ?_); refine xA ?_) | ((with_reducible refine gD ?_); refine xD ?_) | ((with_reducible refine gG ?_); refine xG ?_)); simp only [hp, ha, hg, hg2, go_sem]) | (with_reducible refine aGs (fun hg0 => ?_) (fun hg0 => ?_) <;> first | (with_reducible first | exact aF1 hg0 | exact aF2 hg0) | (simp only [hg0, hp, ha, hg, hg2, go_sem])) | (with_reducible refine aNk ?_; intro bnil hnil; try simp only []) | exact aZ | fail))
   all_goals first | omega | skip
   ·rw [← hR, enW, eq_comm, decide_eq_false_iff_not]
    intro h
    have := h k hlt
    omega
   ·refine hL _ (k + 1) ⟨by omega, fun p hpk => ?_⟩ (by (simp only [SubF, go_sem]; (try simp only [go_sem]); repeat' (first | exact True.intro | with_reducible refine And.intro ?_ ?_ | rfl | omega))) (by omega)
    by_cases e : p = k
    ·subst e; omega
    ·exact hI p (by omega)
  ·have e : R = true := by
    rw [← hR, enW, decide_eq_true_eq]
    exact fun p hp => hI p (by omega)
   subst e
   (simp only [go_sem] at hL ⊢)
   (repeat' (first | (with_reducible first | exact True.intro | refine And.intro ?_ ?_ | refine aBl ?_ | (refine aS 8 [] ?_; intro K hK)) | ((with_reducible first | refine aGo ?_ | refine rP Ty_ok mixed 4 [0, 1, 4, 6, 10] [.mid [pe 2, pe 3, pe 5, pe 7, pe 8, pe 9, ⟨11, 0, true, false, false, [], []⟩, ⟨12, 1, false, false, false, [], []⟩] 1] ?_); simp only [go_sem]) | ((with_reducible refine aCd ?_ ?_ (fun hb => ?_) (fun hb => ?_)); (iterate 2 simp only [go_sem]); all_goals (simp only [go_sem] at hb; try simp only [bls] at hb)) | ((iterate 6 try ((fail_if_success with_reducible refine hK _ ?_ ?_ ?_); clear hK K)); with_reducible refine hK _ ?_ ?_ ?_; rotate_left; (focus (simp only [go_sem]; exact rfl)); clear hK K) | (with_reducible refine aGs (fun hg0 => ?_) (fun hg0 => ?_) <;> first | (with_reducible first | exact aF1 hg0 | exact aF2 hg0) | (simp only [hg0, go_sem])) | (with_reducible refine aNk ?_; intro bnil hnil; try simp only []) | exact aZ | fail))
   all_goals first | omega | skip
def fireW (m : List Int) (t : Tr) (k : Nat) : List Int := (List.range k).map fun (p : Nat) => m.getD p 0 - wF t.inn p + wF t.out p
theorem fireW_succ (m : List Int) (t : Tr) (k : Nat) : fireW m t (k + 1) = fireW m t k ++ [m.getD k 0 - wF t.inn k + wF t.out k] := by simp [fireW, List.range_succ]
theorem fireW_length (m : List Int) (t : Tr) (k : Nat) : (fireW m t k).length = k := by simp [fireW]
theorem fireW_fired {m : List Int} {t : Tr} (h1 : ArcsIn m.length t.inn) (h2 : ArcsIn m.length t.out) : fireW m t m.length = firedL t m := by
 refine ext_getD (by rw [fireW_length, firedL_length]) fun p hp => ?_
 rw [fireW_length] at hp
 rw [firedL_getD h1 h2, ← wF_wsum h1, ← wF_wsum h2]
 simp [fireW, List.getD, List.getElem?_range hp]
def fineB (l : List Int) : Bool := l.all fun x => decide (x ≤ 65536)
theorem fineB_snoc (l : List Int) (x : Int) : fineB (l ++ [x]) = (fineB l && decide (x ≤ 65536)) := by simp [fineB]
set_option maxHeartbeats 8000000 in
theorem lawFire_c (n : Net) (m : List Int) (t : Int) (hf : n.Fits) (hm : m.length ≤ 1000) (hs : Sm 1000000 m) (ht : 0 ≤ t ∧ t < n.trs.length)
  (h1 : ∀ a ∈ (n.trs.getD t.toNat Tr.no).inn, 1 ≤ a.weight ∧ a.weight ≤ 8) (h2 : ∀ a ∈ (n.trs.getD t.toNat Tr.no).out, 1 ≤ a.weight ∧ a.weight ≤ 8) :
  ACalls Tryz.prog 67 [.agg n.d, .one (.list (ints m)), .one (.int .i64 t)] (.tup [.one (.list (ints (fireW m (n.trs.getD t.toNat Tr.no) m.length))), .one (.bool (fineB (fireW m (n.trs.getD t.toNat Tr.no) m.length)))]) [] := by
 have htl : t.toNat < n.trs.length := by omega
 have hg := trs_get htl [.int .i64 0, .nil, .nil]
 have hg2 := trs_get htl []
 have hfi := hf.inn _ (getD_mem n.trs t.toNat Tr.no htl)
 have hfo := hf.out _ (getD_mem n.trs t.toNat Tr.no htl)
 generalize n.trs.getD t.toNat Tr.no = x at *
 (refine ACalls.of_body Ty_ok mixed Tryz.func67 rfl (by kernel_rfl) Tryz.ntmps67 (by simp) (congrArg Array.toList Tryz.results67) ?_)
 simp only [slotsOf, Net.d]
 (repeat' (first | (with_reducible first | exact True.intro | refine And.intro ?_ ?_ | refine aBl ?_ | (refine aS 12 [] ?_; intro K hK)) | ((with_reducible first | refine aGo ?_ | refine rP Ty_ok mixed 6 [0, 1, 4, 6, 10, 13, 15, 19] [.mid [pe 2, pe 3, pe 5, pe 7, pe 8, pe 9, ⟨11, 0, true, false, false, [], []⟩, ⟨12, 1, false, false, false, [], []⟩, ⟨14, 1, false, false, false, [0], []⟩, ⟨16, 1, false, false, false, [0], []⟩, ⟨17, 1, false, false, false, [0], []⟩, ⟨18, 1, false, false, false, [0], []⟩, ⟨20, 1, true, false, false, [], []⟩, ⟨21, 2, false, false, false, [], []⟩, ⟨22, 2, false, false, false, [], []⟩] 2] ?_); simp only [go_sem]) | ((with_reducible refine aCd ?_ ?_ (fun hb => ?_) (fun hb => ?_)); (iterate 2 simp only [go_sem]); all_goals (simp only [go_sem] at hb; try simp only [bls] at hb)) | ((iterate 6 try ((fail_if_success with_reducible refine hK _ ?_ ?_ ?_); clear hK K)); with_reducible refine hK _ ?_ ?_ ?_; rotate_left; (focus (simp only [go_sem]; exact rfl)); clear hK K) | (with_reducible refine aGs (fun hg0 => ?_) (fun hg0 => ?_) <;> first | (with_reducible first | exact aF1 hg0 | exact aF2 hg0) | (simp only [hg0, go_sem])) | (with_reducible refine aNk ?_; intro bnil hnil; try simp only []) | exact aZ | fail))
 refine awp_loop _ (by simp only [go_sem]; rfl) Nat (fun k => k ≤ m.length) (fun k => [(8, .one (.own 2)), (9, .one (.bool (fineB (fireW m x k)))), (10, .one (.int .i64 k))]) (fun k H => H.set 2 (.row 3 1 (ints (fireW m x k)))) (fun k => m.length - k) 0 (by omega) ?_ ?_
 ·have e0 : ints (fireW m x 0) = [] := rfl
  have e1 : fineB (fireW m x 0) = true := rfl
  rw [e0, e1]
  (simp only [SubF, List.set_cons_succ, List.set_cons_zero, go_sem]; (try simp only [List.set_cons_succ, List.set_cons_zero, go_sem]); repeat' (first | exact True.intro | with_reducible refine And.intro ?_ ?_ | rfl | omega))
 ·rintro k hk L hL
  have hp : ((k : Nat) : Int).toNat = k := by omega
  have hlk := fireW_length m x k
  by_cases hlt : k < m.length
  ·have ha := ints_at hlt
   have hW1 := weight_c x.inn k hfi
   have hW2 := weight_c x.out k hfo
   have b1 := wF_bound h1 k
   have b2 := wF_bound h2 k
   have b3 := hs.get (by omega) k
   have e1 := fireW_succ m x k
   have e2 := fineB_snoc (fireW m x k) (m.getD k 0 - wF x.inn k + wF x.out k)
   rw [← e1] at e2
   (simp only [List.set_cons_succ, List.set_cons_zero, go_sem] at hL ⊢)
   (repeat' (first | (with_reducible first | exact True.intro | refine And.intro ?_ ?_ | refine aBl ?_ | (refine aS 12 [] ?_; intro K hK)) | ((with_reducible first | refine aGo ?_ | refine rP Ty_ok mixed 6 [0, 1, 4, 6, 10, 13, 15, 19] [.mid [pe 2, pe 3, pe 5, pe 7, pe 8, pe 9, ⟨11, 0, true, false, false, [], []⟩, ⟨12, 1, false, false, false, [], []⟩, ⟨14, 1, false, false, false, [0], []⟩, ⟨16, 1, false, false, false, [0], []⟩, ⟨17, 1, false, false, false, [0], []⟩, ⟨18, 1, false, false, false, [0], []⟩, ⟨20, 1, true, false, false, [], []⟩, ⟨21, 2, false, false, false, [], []⟩, ⟨22, 2, false, false, false, [], []⟩] 2] ?_); simp only [hp, ha, hg, hg2, go_sem]) | ((with_reducible refine aCd ?_ ?_ (fun hb => ?_) (fun hb => ?_)); (iterate 2 simp only [hp, ha, hg, hg2, go_sem]); all_goals (simp only [hp, ha, hg, hg2, go_sem] at hb; try simp only [bls] at hb)) | ((iterate 6 try ((fail_if_success with_reducible refine hK _ ?_ ?_ ?_); clear hK K)); with_reducible refine hK _ ?_ ?_ ?_; rotate_left; (focus (simp only [hp, ha, hg, hg2, go_sem]; exact rfl)); clear hK K) | ((first | (with_reducible first | refine xA ?_ | refine xD ?_ | refine xO ?_ | refine xR ?_ | refine xG ?_ | refine xH ?_ | refine xM ?_) | ((with_reducible refine gA ?_); refine xA ?_) | ((with_reducible refine gD ?_); refine xD ?_) | ((with_reducible refine gG ?_); refine xG ?_)); simp only [hp, ha, hg, hg2, go_sem]) | (with_reducible refine aGs (fun hg0 => ?_) (fun hg0 => ?_) <;> first | (with_reducible first | exact aF1 hg0 | exact aF2 hg0) | (simp only [hg0, hp, ha, hg, hg2, go_sem])) | (with_reducible refine aNk ?_; intro bnil hnil; try simp only []) | exact aZ | fail))
   all_goals first | omega | skip
   all_goals
    refine hL _ (k + 1) (by omega) ?_ (by omega)
    rw [e2, e1, ← ints_append, ← ints_one]
    (simp only [SubF, List.set_cons_succ, List.set_cons_zero, go_sem]; (try simp only [List.set_cons_succ, List.set_cons_zero, go_sem]); repeat' (first | exact True.intro | with_reducible refine And.intro ?_ ?_ | rfl | omega))
  ·have hkm : k = m.length := by omega
   subst hkm
   (simp only [List.set_cons_succ, List.set_cons_zero, go_sem] at hL ⊢)
   (repeat' (first | (with_reducible first | exact True.intro | refine And.intro ?_ ?_ | refine aBl ?_ | (refine aS 12 [] ?_; intro K hK)) | ((with_reducible first | refine aGo ?_ | refine rP Ty_ok mixed 6 [0, 1, 4, 6, 10, 13, 15, 19] [.mid [pe 2, pe 3, pe 5, pe 7, pe 8, pe 9, ⟨11, 0, true, false, false, [], []⟩, ⟨12, 1, false, false, false, [], []⟩, ⟨14, 1, false, false, false, [0], []⟩, ⟨16, 1, false, false, false, [0], []⟩, ⟨17, 1, false, false, false, [0], []⟩, ⟨18, 1, false, false, false, [0], []⟩, ⟨20, 1, true, false, false, [], []⟩, ⟨21, 2, false, false, false, [], []⟩, ⟨22, 2, false, false, false, [], []⟩] 2] ?_); simp only [go_sem]) | ((with_reducible refine aCd ?_ ?_ (fun hb => ?_) (fun hb => ?_)); (iterate 2 simp only [go_sem]); all_goals (simp only [go_sem] at hb; try simp only [bls] at hb)) | ((iterate 6 try ((fail_if_success with_reducible refine hK _ ?_ ?_ ?_); clear hK K)); with_reducible refine hK _ ?_ ?_ ?_; rotate_left; (focus (simp only [go_sem]; exact rfl)); clear hK K) | (with_reducible refine aGs (fun hg0 => ?_) (fun hg0 => ?_) <;> first | (with_reducible first | exact aF1 hg0 | exact aF2 hg0) | (simp only [hg0, go_sem])) | (with_reducible refine aNk ?_; intro bnil hnil; try simp only []) | exact aZ | fail))
   all_goals first | omega | skip
def mostB (a b : List Int) : Bool := decide (∀ p, p < a.length → a.getD p 0 ≤ b.getD p 0)
theorem most_leq {a b : List Int} (h : a.length = b.length) : mostB a b = leqB a b := by
 rw [Bool.eq_iff_iff, mostB, decide_eq_true_eq, leq_iff h]
 constructor
 ·intro k p
  by_cases hp : p < a.length
  ·exact k p hp
  ·rw [List.getD, List.getD, List.getElem?_eq_none (by omega), List.getElem?_eq_none (by omega)]; exact Int.le_refl _
 ·exact fun k p _ => k p
set_option maxHeartbeats 8000000 in
theorem most_c (a b : List Int) (ha : a.length ≤ 1000000) (hl : a.length ≤ b.length) : ACalls Tryz.prog 68 [.one (.list (ints a)), .one (.list (ints b))] (.one (.bool (mostB a b))) [] := by
 generalize hR : mostB a b = R
 (refine ACalls.of_body Ty_ok mixed Tryz.func68 rfl (by kernel_rfl) Tryz.ntmps68 (by simp) (congrArg Array.toList Tryz.results68) ?_)
 simp only [slotsOf]
 (repeat' (first | (with_reducible first | exact True.intro | refine And.intro ?_ ?_ | refine aBl ?_ | (refine aS 6 [] ?_; intro K hK)) | ((with_reducible first | refine aGo ?_ | refine rD (id := 4) ?_); simp only [go_sem]) | ((with_reducible refine aCd ?_ ?_ (fun hb => ?_) (fun hb => ?_)); (iterate 2 simp only [go_sem]); all_goals (simp only [go_sem] at hb; try simp only [bls] at hb)) | ((iterate 6 try ((fail_if_success with_reducible refine hK _ ?_ ?_ ?_); clear hK K)); with_reducible refine hK _ ?_ ?_ ?_; rotate_left; (focus (simp only [go_sem]; exact rfl)); clear hK K) | (with_reducible refine aGs (fun hg0 => ?_) (fun hg0 => ?_) <;> first | (with_reducible first | exact aF1 hg0 | exact aF2 hg0) | (simp only [hg0, go_sem])) | (with_reducible refine aNk ?_; intro bnil hnil; try simp only []) | exact aZ | fail))
 refine awp_loop _ (by simp only [go_sem]; rfl) Nat (fun k => k ≤ a.length ∧ ∀ p, p < k → a.getD p 0 ≤ b.getD p 0) (fun k => [(5, .one (.int .i64 k))]) (fun _ H => H) (fun k => a.length - k) 0 ⟨by omega, fun p hp => by omega⟩ ?_ ?_
 ·(simp only [SubF, go_sem]; (try simp only [go_sem]); repeat' (first | exact True.intro | with_reducible refine And.intro ?_ ?_ | rfl | omega))
 ·rintro k ⟨hk, hI⟩ L hL
  have hp : ((k : Nat) : Int).toNat = k := by omega
  by_cases hlt : k < a.length
  ·have a1 := ints_at hlt
   have a2 := ints_at (l := b) (k := k) (by omega)
   (simp only [go_sem] at hL ⊢)
   (repeat' (first | (with_reducible first | exact True.intro | refine And.intro ?_ ?_ | refine aBl ?_ | (refine aS 6 [] ?_; intro K hK)) | ((with_reducible first | refine aGo ?_ | refine rD (id := 4) ?_); simp only [hp, a1, a2, go_sem]) | ((with_reducible refine aCd ?_ ?_ (fun hb => ?_) (fun hb => ?_)); (iterate 2 simp only [hp, a1, a2, go_sem]); all_goals (simp only [hp, a1, a2, go_sem] at hb; try simp only [bls] at hb)) | ((iterate 6 try ((fail_if_success with_reducible refine hK _ ?_ ?_ ?_); clear hK K)); with_reducible refine hK _ ?_ ?_ ?_; rotate_left; (focus (simp only [hp, a1, a2, go_sem]; exact rfl)); clear hK K) | (with_reducible refine aGs (fun hg0 => ?_) (fun hg0 => ?_) <;> first | (with_reducible first | exact aF1 hg0 | exact aF2 hg0) | (simp only [hg0, hp, a1, a2, go_sem])) | (with_reducible refine aNk ?_; intro bnil hnil; try simp only []) | exact aZ | fail))
   all_goals first | omega | skip
   ·rw [← hR, mostB, eq_comm, decide_eq_false_iff_not]
    intro h
    have := h k hlt
    omega
   ·refine hL _ (k + 1) ⟨by omega, fun p hpk => ?_⟩ (by (simp only [SubF, go_sem]; (try simp only [go_sem]); repeat' (first | exact True.intro | with_reducible refine And.intro ?_ ?_ | rfl | omega))) (by omega)
    by_cases e : p = k
    ·subst e; omega
    ·exact hI p (by omega)
  ·have e : R = true := by
    rw [← hR, mostB, decide_eq_true_eq]
    exact fun p hp => hI p (by omega)
   subst e
   (simp only [go_sem] at hL ⊢)
   (repeat' (first | (with_reducible first | exact True.intro | refine And.intro ?_ ?_ | refine aBl ?_ | (refine aS 6 [] ?_; intro K hK)) | ((with_reducible first | refine aGo ?_ | refine rD (id := 4) ?_); simp only [go_sem]) | ((with_reducible refine aCd ?_ ?_ (fun hb => ?_) (fun hb => ?_)); (iterate 2 simp only [go_sem]); all_goals (simp only [go_sem] at hb; try simp only [bls] at hb)) | ((iterate 6 try ((fail_if_success with_reducible refine hK _ ?_ ?_ ?_); clear hK K)); with_reducible refine hK _ ?_ ?_ ?_; rotate_left; (focus (simp only [go_sem]; exact rfl)); clear hK K) | (with_reducible refine aGs (fun hg0 => ?_) (fun hg0 => ?_) <;> first | (with_reducible first | exact aF1 hg0 | exact aF2 hg0) | (simp only [hg0, go_sem])) | (with_reducible refine aNk ?_; intro bnil hnil; try simp only []) | exact aZ | fail))
   all_goals first | omega | skip
end Go.Proofs.YtgbhmieaoaojoaaGreatDoor
