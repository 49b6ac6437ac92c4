/-
 Chapter 49: the law's statement SiphonRuns.
-/
import Derived.Test.YtlankmlgomhbhaaDoorWR
import Derived.Test.YtlankmlgomhbhaaDoorWK
set_option linter.unusedSimpArgs false
set_option linter.unusedVariables false
namespace Go.Proofs.YtlankmlgomhbhaaDoor
open Go.Eng Go.RowKit
/-! the law's own firing -/
def fireA (m : List Int) (t : Tr) : List Int := if enB m t = true then firedL t m else []
theorem lacks_take {m : List Int} {l : List Arc} {j : Nat} (h : ArcsIn m.length l) (hj : j < l.length) : (applyA (-1) m (l.take j)).getD (l.getD j Arc.no).place.toNat 0 = m.getD (l.getD j Arc.no).place.toNat 0 := by
 have ht : ArcsIn m.length (l.take j) := ⟨fun a ha => h.place a (List.mem_of_mem_take ha), fun a ha => h.weight a (List.mem_of_mem_take ha), h.ord.sublist (List.take_sublist _ _)⟩
 rw [applyA_getD _ _ _ _ ht, wsum_zero]
 ·omega
 intro a ha e
 obtain ⟨i, hi, rfl⟩ := List.mem_iff_getElem.1 ha
 have hil : i < l.length := by simp at hi; omega
 have hij : i < j := by simp at hi; omega
 have h1 := (List.pairwise_iff_getElem.1 h.ord) i j hil hj hij
 have h2 := h.place _ (List.getElem_mem hil)
 rw [List.getElem_take] at e
 have h3 : l.getD j Arc.no = l[j] := by simp [List.getD, List.getElem?_eq_getElem hj]
 rw [h3] at e
 have h4 := h.place _ (List.getElem_mem hj)
 omega
theorem backF_snoc {l : List SN} {pl : Nat} (hN : NodesOk pl l) (x : SN) : ∀ (f : Nat) (i : Int), 0 ≤ i → i < l.length → backF (l ++ [x]) f i = backF l f i
 | 0, _, _, _ => rfl
 | f + 1, i, h0, h1 => by
  have hb := hN.back i.toNat (by omega)
  simp only [backF]
  rw [getD_append_lt _ _ _ _ (show i.toNat < l.length by omega)]
  split
  ·rw [backF_snoc hN x f _ (by assumption) (by omega)]
  ·rfl
theorem pathF_old {l : List SN} {pl : Nat} (hN : NodesOk pl l) (x : SN) {i : Int} (h0 : 0 ≤ i) (h1 : i < l.length) : pathF (l ++ [x]) i = pathF l i := by
 rw [pathF, pathF, backF_snoc hN x _ _ h0 h1]
theorem pathF_new {l : List SN} {pl : Nat} (hN : NodesOk pl l) {m : List Int} {i : Nat} {t : Int} (hi : i < l.length) : pathF (l ++ [⟨m, i, t⟩]) l.length = pathF l i ++ [t] := by
 have e : ((l.length : Nat) : Int).toNat = l.length := by omega
 have e2 : ((i : Nat) : Int).toNat = i := by omega
 rw [pathF, e, backF, e, getD_append_last]
 simp only
 rw [if_pos (by omega), List.reverse_cons, backF_snoc hN _ _ _ (by omega) (by omega), backF_fuel hN (l.length) (i + 1) i (by omega) (by omega) (by omega) (by omega)]
 rw [pathF, e2]
def ablG (n : Net) (m : List Int) : Nat → Nat → List Int
 | 0, _ => []
 | r + 1, j => if enB m (n.trs.getD j Tr.no) = true then (j : Int) :: ablG n m r (j + 1) else ablG n m r (j + 1)
theorem ablG_able (n : Net) (m : List Int) : ∀ (r j : Nat), ableL n m j ++ ablG n m r j = ableL n m (j + r)
 | 0, j => by simp [ablG]
 | r + 1, j => by
  have h := ablG_able n m r (j + 1)
  rw [ableL_succ] at h
  rw [ablG, show j + (r + 1) = j + 1 + r by omega, ← h]
  split <;> simp
theorem ablG_all (n : Net) (m : List Int) (k : Nat) : ablG n m k 0 = ableL n m k := by
 have := ablG_able n m k 0
 simpa [ableL] using this
theorem lacks_any {m : List Int} {l : List Arc} {j : Nat} (hj : j < l.length) (h : (l.take j).any (lacksB m) = false) (h2 : ¬ m.getD (l.getD j Arc.no).place.toNat 0 < (l.getD j Arc.no).weight) : (l.take (j + 1)).any (lacksB m) = false := by
 rw [take_succ_getD l j Arc.no hj, List.any_append, h, Bool.false_or]
 simp only [List.any_cons, List.any_nil, Bool.or_false, lacksB]
 exact decide_eq_false h2
theorem lacks_hit {m : List Int} {l : List Arc} {j : Nat} (hj : j < l.length) (h2 : m.getD (l.getD j Arc.no).place.toNat 0 < (l.getD j Arc.no).weight) : l.any (lacksB m) = true :=
 List.any_eq_true.2 ⟨_, getD_mem l j Arc.no hj, by simp only [lacksB, decide_eq_true_eq]; exact h2⟩
set_option maxHeartbeats 16000000 in
theorem lawFire49_c (n : Net) (m : List Int) (k : Nat) (hf : n.Fits) (hk : k < n.trs.length) (h1 : ArcsIn m.length (n.trs.getD k Tr.no).inn) (h2 : ArcsIn m.length (n.trs.getD k Tr.no).out) (hm : m.length ≤ 1000) (hs : Sm 1000000 m) :
  ACalls Tryd.prog 12 [.agg n.d, .one (.list (ints m)), .one (.int .i64 k)] (.tup [.one (.list (ints (fireA m (n.trs.getD k Tr.no)))), .one (.bool (enB m (n.trs.getD k Tr.no)))]) [] := by
 have hg := trs_get hk [.int .i64 0, .nil, .nil]
 have hq : ((k : Nat) : Int).toNat = k := by omega
 have htl := hf.trs
 generalize n.trs.getD k Tr.no = t at *
 have hf1 := arcs_few _ _ h1
 have hf2 := arcs_few _ _ h2
 have hcl := CloneInts_c m (by omega)
 (refine ACalls.of_body Ty_ok mixed Tryd.func12 rfl (by kernel_rfl) Tryd.ntmps12 (by simp) (congrArg Array.toList Tryd.results12) ?_)
 simp only [slotsOf, Net.d]
 (repeat' (first | (with_reducible first | exact True.intro | refine And.intro ?_ ?_ | refine awp_block ?_ | ((first | refine awp_seq1 13 [21, 20, 22, 50, 49, 51] ?_ | refine awp_seq2 13 [21, 20, 22, 50, 49, 51] ?_ | refine awp_seq3 13 [21, 20, 22, 50, 49, 51] ?_ | refine awp_seq4 13 [21, 20, 22, 50, 49, 51] ?_ | refine awp_seq 13 [21, 20, 22, 50, 49, 51] ?_); intro K hK)) | ((with_reducible first | refine awp_reg ?_ | refine awp_exit ?_ | refine awp_skip ?_ | refine likeK_i ?_ | refine rD (id := 5) ?_ | refine rP Ty_ok mixed 7 [0, 1, 5] [.mid [pe 2, pe 3, pe 4, pe 6, pe 7, pe 8] 0, .one 9] ?_ | refine rP Ty_ok mixed 12 [0, 1, 5] [.mid [pe 2, pe 3, pe 4, pe 6, pe 7, pe 8] 0, .one 9] ?_); simp only [hg, hq, go_sem]) | (with_reducible refine awp_ret ?_; simp only [retF, retM, retL, resV, resW, retO, resAV, AV.bor, D.bor, D.bor1, D.bor0, AV.flatOwn, D.flatOwn, D.flat, AV.tagged, D.tagged, AObj.plain, hg, hq, go_sem]) | ((with_reducible refine awp_cond' ?_ ?_ (fun hb => ?_) (fun hb => ?_)); (simp only [hg, hq, go_sem]); (simp only [hg, hq, go_sem]); all_goals (simp only [hg, hq, go_sem] at hb; try simp only [bls] at hb)) | ((iterate 6 try ((fail_if_success with_reducible refine hK _ ?_ ?_ ?_); clear hK K)); with_reducible refine hK _ ?_ ?_ ?_; rotate_left; (focus (simp only [hg, hq, go_sem]; exact rfl)); clear hK K) | ((first | (with_reducible first | refine cA hcl ?_ | refine cD hcl ?_ | refine cO hcl ?_ | refine cR hcl ?_ | refine cG (fun hg => hcl) ?_ | refine cH (fun hg => hcl) ?_ | refine cM (fun hg => hcl) ?_) | (guard_target = CallAt _ _ _ _ _ _ _ _ _ _; refine cA hcl ?_) | (guard_target = DCallAt _ _ _ _ _ _ _ _; refine cD hcl ?_) | (guard_target = GCallAt _ _ _ _ _ _ _ _ _ _ _; refine cG (fun hg => hcl) ?_)); simp only [hg, hq, go_sem]) | (with_reducible refine gsplit_i (fun hg0 => ?_) (fun hg0 => ?_) <;> first | (with_reducible first | exact absurd hg0 Bool.false_ne_true | exact absurd hg0.symm Bool.false_ne_true) | (simp only [hg0, hg, hq, go_sem])) | (with_reducible refine nilK_i ?_; intro bnil hnil; try simp only []) | (omega; done) | (intro hv; (try simp only [bls] at hv); (try simp only [bls]); omega) | (intro hg; (simp only [hg, Bool.true_and, true_and, implies_true]; try (intro hg2; simp only [hg2, Bool.not_false, Bool.not_true])); done)))
 all_goals first | omega | skip
 refine awp_loop _ (by simp only [go_sem]; rfl) Nat (fun j => j ≤ t.inn.length ∧ (t.inn.take j).any (lacksB m) = false) (fun j => [(8, .one (.own 2)), (22, .one (.int .i64 j))]) (fun j _ => [.var 30 [.list (ints n.init), .list (trsD n.trs)], .row 3 1 [], .row 3 1 (ints (applyA (-1) m (t.inn.take j)))]) (fun j => t.inn.length - j) 0 ⟨by omega, rfl⟩ ?_ ?_
 ·(simp only [SubF, List.take_zero, applyA, go_sem]; (try simp only [List.take_zero, applyA, go_sem]); repeat' (first | exact True.intro | with_reducible refine And.intro ?_ ?_ | rfl | omega))
 rintro j ⟨hj, hno⟩ L hL
 have hqj : ((j : Nat) : Int).toNat = j := by omega
 by_cases hlj : j < t.inn.length
 ·have ha := arc_get h1 hlj
  have haD := arcs_at hlj
  have e1 := applyA_take (-1) m t.inn j hlj
  have hl1 := applyA_length (-1) (t.inn.take j) m
  have hsm := applyA_sm (-1) (.inr rfl) (t.inn.take j) m 1000000 (by omega) hs fun a ha => h1.weight a (List.mem_of_mem_take ha)
  have hlt : (t.inn.take j).length ≤ 1000 := by simp; omega
  have hb0 := (hsm.mono (B := 2000000) (by omega)).get (by omega) (t.inn.getD j Arc.no).place.toNat
  have hlk := lacks_take h1 hlj
  have hany := fun h => lacks_any (m := m) hlj hno h
  have hhit := fun h => lacks_hit (m := m) hlj h
  generalize applyA (-1) m (t.inn.take j) = X at *
  have hrow := ints_at (l := X) (k := (t.inn.getD j Arc.no).place.toNat) (by omega)
  (simp only [go_sem] at hL ⊢)
  (repeat' (first | (with_reducible first | exact True.intro | refine And.intro ?_ ?_ | refine awp_block ?_ | ((first | refine awp_seq1 13 [21, 20, 22, 50, 49, 51] ?_ | refine awp_seq2 13 [21, 20, 22, 50, 49, 51] ?_ | refine awp_seq3 13 [21, 20, 22, 50, 49, 51] ?_ | refine awp_seq4 13 [21, 20, 22, 50, 49, 51] ?_ | refine awp_seq 13 [21, 20, 22, 50, 49, 51] ?_); intro K hK)) | ((with_reducible first | refine awp_reg ?_ | refine awp_exit ?_ | refine awp_skip ?_ | refine likeK_i ?_ | refine rD (id := 5) ?_ | refine rP Ty_ok mixed 7 [0, 1, 5] [.mid [pe 2, pe 3, pe 4, pe 6, pe 7, pe 8] 0, .one 9] ?_ | refine rP Ty_ok mixed 12 [0, 1, 5] [.mid [pe 2, pe 3, pe 4, pe 6, pe 7, pe 8] 0, .one 9] ?_); simp only [haD, hqj, hq, hg, hrow, hl1, go_sem]) | (with_reducible refine awp_ret ?_; simp only [retF, retM, retL, resV, resW, retO, resAV, AV.bor, D.bor, D.bor1, D.bor0, AV.flatOwn, D.flatOwn, D.flat, AV.tagged, D.tagged, AObj.plain, haD, hqj, hq, hg, hrow, hl1, go_sem]) | ((with_reducible refine awp_cond' ?_ ?_ (fun hb => ?_) (fun hb => ?_)); (simp only [haD, hqj, hq, hg, hrow, hl1, go_sem]); (simp only [haD, hqj, hq, hg, hrow, hl1, go_sem]); all_goals (simp only [haD, hqj, hq, hg, hrow, hl1, go_sem] at hb; try simp only [bls] at hb)) | ((iterate 6 try ((fail_if_success with_reducible refine hK _ ?_ ?_ ?_); clear hK K)); with_reducible refine hK _ ?_ ?_ ?_; rotate_left; (focus (simp only [haD, hqj, hq, hg, hrow, hl1, go_sem]; exact rfl)); clear hK K) | (with_reducible refine gsplit_i (fun hg0 => ?_) (fun hg0 => ?_) <;> first | (with_reducible first | exact absurd hg0 Bool.false_ne_true | exact absurd hg0.symm Bool.false_ne_true) | (simp only [hg0, haD, hqj, hq, hg, hrow, hl1, go_sem])) | (with_reducible refine nilK_i ?_; intro bnil hnil; try simp only []) | (omega; done) | (intro hv; (try simp only [bls] at hv); (try simp only [bls]); omega) | (intro hg; (simp only [hg, Bool.true_and, true_and, implies_true]; try (intro hg2; simp only [hg2, Bool.not_false, Bool.not_true])); done)))
  all_goals first | omega | skip
  ·have hEn : enB m t = false := by rw [enB, hhit (by omega)]; rfl
   rw [fireA, hEn]; rfl
  ·have hEn : enB m t = false := by rw [enB, hhit (by omega)]; rfl
   rw [hEn]
  ·refine hL _ (j + 1) ⟨by omega, hany (by omega)⟩ ?_ (by omega)
   rw [e1, show X.getD (t.inn.getD j Arc.no).place.toNat 0 + -1 * (t.inn.getD j Arc.no).weight = X.getD (t.inn.getD j Arc.no).place.toNat 0 - (t.inn.getD j Arc.no).weight by omega]
   (simp only [SubF, go_sem]; (try simp only [go_sem]); repeat' (first | exact True.intro | with_reducible refine And.intro ?_ ?_ | rfl | omega))
 ·rw [List.take_of_length_le (by omega)] at hno
  have hEn : enB m t = true := by rw [enB, hno]; rfl
  rw [List.take_of_length_le (by omega : t.inn.length ≤ j)]
  have hl0 := applyA_length (-1) t.inn m
  have hsm0 := applyA_sm (-1) (.inr rfl) t.inn m 1000000 (by omega) hs h1.weight
  have hFA : fireA m t = applyA 1 (applyA (-1) m t.inn) t.out := by rw [fireA, hEn]; rfl
  rw [← hl0] at h2
  generalize applyA (-1) m t.inn = Y at *
  (simp only [go_sem] at hL ⊢)
  (repeat' (first | (with_reducible first | exact True.intro | refine And.intro ?_ ?_ | refine awp_block ?_ | ((first | refine awp_seq1 13 [21, 20, 22, 50, 49, 51] ?_ | refine awp_seq2 13 [21, 20, 22, 50, 49, 51] ?_ | refine awp_seq3 13 [21, 20, 22, 50, 49, 51] ?_ | refine awp_seq4 13 [21, 20, 22, 50, 49, 51] ?_ | refine awp_seq 13 [21, 20, 22, 50, 49, 51] ?_); intro K hK)) | ((with_reducible first | refine awp_reg ?_ | refine awp_exit ?_ | refine awp_skip ?_ | refine likeK_i ?_ | refine rD (id := 5) ?_ | refine rP Ty_ok mixed 7 [0, 1, 5] [.mid [pe 2, pe 3, pe 4, pe 6, pe 7, pe 8] 0, .one 9] ?_ | refine rP Ty_ok mixed 12 [0, 1, 5] [.mid [pe 2, pe 3, pe 4, pe 6, pe 7, pe 8] 0, .one 9] ?_); simp only [hq, hg, go_sem]) | (with_reducible refine awp_ret ?_; simp only [retF, retM, retL, resV, resW, retO, resAV, AV.bor, D.bor, D.bor1, D.bor0, AV.flatOwn, D.flatOwn, D.flat, AV.tagged, D.tagged, AObj.plain, hq, hg, go_sem]) | ((with_reducible refine awp_cond' ?_ ?_ (fun hb => ?_) (fun hb => ?_)); (simp only [hq, hg, go_sem]); (simp only [hq, hg, go_sem]); all_goals (simp only [hq, hg, go_sem] at hb; try simp only [bls] at hb)) | ((iterate 6 try ((fail_if_success with_reducible refine hK _ ?_ ?_ ?_); clear hK K)); with_reducible refine hK _ ?_ ?_ ?_; rotate_left; (focus (simp only [hq, hg, go_sem]; exact rfl)); clear hK K) | (with_reducible refine gsplit_i (fun hg0 => ?_) (fun hg0 => ?_) <;> first | (with_reducible first | exact absurd hg0 Bool.false_ne_true | exact absurd hg0.symm Bool.false_ne_true) | (simp only [hg0, hq, hg, go_sem])) | (with_reducible refine nilK_i ?_; intro bnil hnil; try simp only []) | (omega; done) | (intro hv; (try simp only [bls] at hv); (try simp only [bls]); omega) | (intro hg; (simp only [hg, Bool.true_and, true_and, implies_true]; try (intro hg2; simp only [hg2, Bool.not_false, Bool.not_true])); done)))
  all_goals first | omega | skip
  clear hL
  refine awp_loop _ (by simp only [go_sem]; rfl) Nat (fun i => i ≤ t.out.length) (fun i => [(8, .one (.own 2)), (51, .one (.int .i64 i))]) (fun i _ => [.var 30 [.list (ints n.init), .list (trsD n.trs)], .row 3 1 [], .row 3 1 (ints (applyA 1 Y (t.out.take i)))]) (fun i => t.out.length - i) 0 (by omega) ?_ ?_
  ·(simp only [SubF, List.take_zero, applyA, go_sem]; (try simp only [List.take_zero, applyA, go_sem]); repeat' (first | exact True.intro | with_reducible refine And.intro ?_ ?_ | rfl | omega))
  rintro i hi L hL
  have hqi : ((i : Nat) : Int).toNat = i := by omega
  by_cases hli : i < t.out.length
  ·have ha := arc_get h2 hli
   have haD := arcs_at hli
   have e1 := applyA_take 1 Y t.out i hli
   have hl1 := applyA_length 1 (t.out.take i) Y
   have hsm := applyA_sm 1 (.inl rfl) (t.out.take i) Y 2000000 (by omega) (hsm0.mono (by omega)) fun a ha => h2.weight a (List.mem_of_mem_take ha)
   have hlt : (t.out.take i).length ≤ 1000 := by simp; omega
   have hb0 := (hsm.mono (B := 3000000) (by omega)).get (by omega) (t.out.getD i Arc.no).place.toNat
   generalize applyA 1 Y (t.out.take i) = X at *
   have hrow := ints_at (l := X) (k := (t.out.getD i Arc.no).place.toNat) (by omega)
   (simp only [go_sem] at hL ⊢)
   (repeat' (first | (with_reducible first | exact True.intro | refine And.intro ?_ ?_ | refine awp_block ?_ | ((first | refine awp_seq1 13 [21, 20, 22, 50, 49, 51] ?_ | refine awp_seq2 13 [21, 20, 22, 50, 49, 51] ?_ | refine awp_seq3 13 [21, 20, 22, 50, 49, 51] ?_ | refine awp_seq4 13 [21, 20, 22, 50, 49, 51] ?_ | refine awp_seq 13 [21, 20, 22, 50, 49, 51] ?_); intro K hK)) | ((with_reducible first | refine awp_reg ?_ | refine awp_exit ?_ | refine awp_skip ?_ | refine likeK_i ?_ | refine rD (id := 5) ?_ | refine rP Ty_ok mixed 7 [0, 1, 5] [.mid [pe 2, pe 3, pe 4, pe 6, pe 7, pe 8] 0, .one 9] ?_ | refine rP Ty_ok mixed 12 [0, 1, 5] [.mid [pe 2, pe 3, pe 4, pe 6, pe 7, pe 8] 0, .one 9] ?_); simp only [haD, hqi, hq, hg, hrow, hl1, go_sem]) | (with_reducible refine awp_ret ?_; simp only [retF, retM, retL, resV, resW, retO, resAV, AV.bor, D.bor, D.bor1, D.bor0, AV.flatOwn, D.flatOwn, D.flat, AV.tagged, D.tagged, AObj.plain, haD, hqi, hq, hg, hrow, hl1, go_sem]) | ((with_reducible refine awp_cond' ?_ ?_ (fun hb => ?_) (fun hb => ?_)); (simp only [haD, hqi, hq, hg, hrow, hl1, go_sem]); (simp only [haD, hqi, hq, hg, hrow, hl1, go_sem]); all_goals (simp only [haD, hqi, hq, hg, hrow, hl1, go_sem] at hb; try simp only [bls] at hb)) | ((iterate 6 try ((fail_if_success with_reducible refine hK _ ?_ ?_ ?_); clear hK K)); with_reducible refine hK _ ?_ ?_ ?_; rotate_left; (focus (simp only [haD, hqi, hq, hg, hrow, hl1, go_sem]; exact rfl)); clear hK K) | (with_reducible refine gsplit_i (fun hg0 => ?_) (fun hg0 => ?_) <;> first | (with_reducible first | exact absurd hg0 Bool.false_ne_true | exact absurd hg0.symm Bool.false_ne_true) | (simp only [hg0, haD, hqi, hq, hg, hrow, hl1, go_sem])) | (with_reducible refine nilK_i ?_; intro bnil hnil; try simp only []) | (omega; done) | (intro hv; (try simp only [bls] at hv); (try simp only [bls]); omega) | (intro hg; (simp only [hg, Bool.true_and, true_and, implies_true]; try (intro hg2; simp only [hg2, Bool.not_false, Bool.not_true])); done)))
   all_goals first | omega | skip
   refine hL _ (i + 1) (by omega) ?_ (by omega)
   rw [e1, show X.getD (t.out.getD i Arc.no).place.toNat 0 + 1 * (t.out.getD i Arc.no).weight = X.getD (t.out.getD i Arc.no).place.toNat 0 + (t.out.getD i Arc.no).weight by omega]
   (simp only [SubF, go_sem]; (try simp only [go_sem]); repeat' (first | exact True.intro | with_reducible refine And.intro ?_ ?_ | rfl | omega))
  ·rw [List.take_of_length_le (by omega : t.out.length ≤ i)]
   (simp only [go_sem] at hL ⊢)
   (repeat' (first | (with_reducible first | exact True.intro | refine And.intro ?_ ?_ | refine awp_block ?_ | ((first | refine awp_seq1 13 [21, 20, 22, 50, 49, 51] ?_ | refine awp_seq2 13 [21, 20, 22, 50, 49, 51] ?_ | refine awp_seq3 13 [21, 20, 22, 50, 49, 51] ?_ | refine awp_seq4 13 [21, 20, 22, 50, 49, 51] ?_ | refine awp_seq 13 [21, 20, 22, 50, 49, 51] ?_); intro K hK)) | ((with_reducible first | refine awp_reg ?_ | refine awp_exit ?_ | refine awp_skip ?_ | refine likeK_i ?_ | refine rD (id := 5) ?_ | refine rP Ty_ok mixed 7 [0, 1, 5] [.mid [pe 2, pe 3, pe 4, pe 6, pe 7, pe 8] 0, .one 9] ?_ | refine rP Ty_ok mixed 12 [0, 1, 5] [.mid [pe 2, pe 3, pe 4, pe 6, pe 7, pe 8] 0, .one 9] ?_); simp only [hq, hg, go_sem]) | (with_reducible refine awp_ret ?_; simp only [retF, retM, retL, resV, resW, retO, resAV, AV.bor, D.bor, D.bor1, D.bor0, AV.flatOwn, D.flatOwn, D.flat, AV.tagged, D.tagged, AObj.plain, hq, hg, go_sem]) | ((with_reducible refine awp_cond' ?_ ?_ (fun hb => ?_) (fun hb => ?_)); (simp only [hq, hg, go_sem]); (simp only [hq, hg, go_sem]); all_goals (simp only [hq, hg, go_sem] at hb; try simp only [bls] at hb)) | ((iterate 6 try ((fail_if_success with_reducible refine hK _ ?_ ?_ ?_); clear hK K)); with_reducible refine hK _ ?_ ?_ ?_; rotate_left; (focus (simp only [hq, hg, go_sem]; exact rfl)); clear hK K) | (with_reducible refine gsplit_i (fun hg0 => ?_) (fun hg0 => ?_) <;> first | (with_reducible first | exact absurd hg0 Bool.false_ne_true | exact absurd hg0.symm Bool.false_ne_true) | (simp only [hg0, hq, hg, go_sem])) | (with_reducible refine nilK_i ?_; intro bnil hnil; try simp only []) | (omega; done) | (intro hv; (try simp only [bls] at hv); (try simp only [bls]); omega) | (intro hg; (simp only [hg, Bool.true_and, true_and, implies_true]; try (intro hg2; simp only [hg2, Bool.not_false, Bool.not_true])); done)))
   all_goals first | omega | skip
   ·rw [hFA]
   ·rw [hEn]
/-! the law's list: markings, each with the run that leads to it -/
def runD : List Int → D
 | [] => .nil
 | x :: r => .list (ints (x :: r))
def plD (x : List Int × List Int) : List D := [.list (ints x.1), runD x.2]
def plsD (l : List (List Int × List Int)) : List (List D) := l.map plD
theorem pls_length (l : List (List Int × List Int)) : (plsD l).length = l.length := by simp [plsD]
theorem pls_at {l : List (List Int × List Int)} {k : Nat} (hk : k < l.length) (z : List D) : (plsD l).getD k z = [.list (ints (l.getD k ([], [])).1), runD (l.getD k ([], [])).2] := by
 simp only [plsD, List.getD, List.getElem?_map, List.getElem?_eq_getElem hk]; rfl
theorem pls_sz (l : List (List Int × List Int)) : (∀ r : List D, r ∈ plsD l → r.length = 2) ↔ True := ⟨fun _ => trivial, fun _ r hr => by obtain ⟨e, _, rfl⟩ := List.mem_map.1 hr; rfl⟩
theorem pls_append (xs ys : List (List Int × List Int)) : plsD xs ++ plsD ys = plsD (xs ++ ys) := by simp [plsD]
attribute [go_sem] pls_length pls_sz
theorem runs1_c (m u : List Int) (r : List (List D)) (hn : u.length ≤ 1000000) : ACalls Tryd.prog 14 [.agg [.list (ints u), .list r], .one (.ref [.list (ints m)])] (.one (.bool (decide (u = m)))) [] := by
 have h1 := EqualInts_c u m hn
 (refine ACalls.of_body Ty_ok mixed Tryd.func14 rfl (by kernel_rfl) Tryd.ntmps14 (by simp) (congrArg Array.toList Tryd.results14) ?_)
 simp only [slotsOf]
 (repeat' (first | (with_reducible first | exact True.intro | refine And.intro ?_ ?_ | refine awp_block ?_ | ((first | refine awp_seq1 4 [] ?_ | refine awp_seq2 4 [] ?_ | refine awp_seq3 4 [] ?_ | refine awp_seq4 4 [] ?_ | refine awp_seq 4 [] ?_); intro K hK)) | ((with_reducible first | refine awp_reg ?_ | refine awp_exit ?_ | refine awp_skip ?_ | refine likeK_i ?_); simp only [go_sem]) | (with_reducible refine awp_ret ?_; simp only [retF, retM, retL, resV, resW, retO, resAV, AV.bor, D.bor, D.bor1, D.bor0, AV.flatOwn, D.flatOwn, D.flat, AV.tagged, D.tagged, AObj.plain, go_sem]) | ((with_reducible refine awp_cond' ?_ ?_ (fun hb => ?_) (fun hb => ?_)); (simp only [go_sem]); (simp only [go_sem]); all_goals (simp only [go_sem] at hb; try simp only [bls] at hb)) | ((iterate 6 try ((fail_if_success with_reducible refine hK _ ?_ ?_ ?_); clear hK K)); with_reducible refine hK _ ?_ ?_ ?_; rotate_left; (focus (simp only [go_sem]; exact rfl)); clear hK K) | ((first | (with_reducible first | refine cA h1 ?_ | refine cD h1 ?_ | refine cO h1 ?_ | refine cR h1 ?_ | refine cG (fun hg => h1) ?_ | refine cH (fun hg => h1) ?_ | refine cM (fun hg => h1) ?_) | (guard_target = CallAt _ _ _ _ _ _ _ _ _ _; refine cA h1 ?_) | (guard_target = DCallAt _ _ _ _ _ _ _ _; refine cD h1 ?_) | (guard_target = GCallAt _ _ _ _ _ _ _ _ _ _ _; refine cG (fun hg => h1) ?_)); simp only [go_sem]) | (with_reducible refine gsplit_i (fun hg0 => ?_) (fun hg0 => ?_) <;> first | (with_reducible first | exact absurd hg0 Bool.false_ne_true | exact absurd hg0.symm Bool.false_ne_true) | (simp only [hg0, go_sem])) | (with_reducible refine nilK_i ?_; intro bnil hnil; try simp only []) | (omega; done) | (intro hv; (try simp only [bls] at hv); (try simp only [bls]); omega) | (intro hg; (simp only [hg, Bool.true_and, true_and, implies_true]; try (intro hg2; simp only [hg2, Bool.not_false, Bool.not_true])); done)))
set_option maxHeartbeats 4000000 in
theorem IndexFuncPl_c (l : List (List Int × List Int)) (m : List Int) (hn : l.length ≤ 1000000) (hx : ∀ x ∈ l, x.1.length ≤ 1000000) :
  ACalls Tryd.prog 30 [.one (.list (plsD l)), .one (.clo 14 [.ref [.list (ints m)]])] (.one (.int .i64 (ixFrom (fun x : List Int × List Int => decide (x.1 = m)) 0 l))) [] := by
 (refine ACalls.of_body Ty_ok mixed Tryd.func30 rfl (by kernel_rfl) Tryd.ntmps30 (by simp) (congrArg Array.toList Tryd.results30) ?_)
 simp only [slotsOf]
 (repeat' (first | (with_reducible first | exact True.intro | refine And.intro ?_ ?_ | refine awp_block ?_ | ((first | refine awp_seq1 6 [7, 8] ?_ | refine awp_seq2 6 [7, 8] ?_ | refine awp_seq3 6 [7, 8] ?_ | refine awp_seq4 6 [7, 8] ?_ | refine awp_seq 6 [7, 8] ?_); intro K hK)) | ((with_reducible first | refine awp_reg ?_ | refine awp_exit ?_ | refine awp_skip ?_ | refine likeK_i ?_); simp only [go_sem]) | (with_reducible refine awp_ret ?_; simp only [retF, retM, retL, resV, resW, retO, resAV, AV.bor, D.bor, D.bor1, D.bor0, AV.flatOwn, D.flatOwn, D.flat, AV.tagged, D.tagged, AObj.plain, go_sem]) | ((with_reducible refine awp_cond' ?_ ?_ (fun hb => ?_) (fun hb => ?_)); (simp only [go_sem]); (simp only [go_sem]); all_goals (simp only [go_sem] at hb; try simp only [bls] at hb)) | ((iterate 6 try ((fail_if_success with_reducible refine hK _ ?_ ?_ ?_); clear hK K)); with_reducible refine hK _ ?_ ?_ ?_; rotate_left; (focus (simp only [go_sem]; exact rfl)); clear hK K) | (with_reducible refine gsplit_i (fun hg0 => ?_) (fun hg0 => ?_) <;> first | (with_reducible first | exact absurd hg0 Bool.false_ne_true | exact absurd hg0.symm Bool.false_ne_true) | (simp only [hg0, go_sem])) | (with_reducible refine nilK_i ?_; intro bnil hnil; try simp only []) | (omega; done) | (intro hv; (try simp only [bls] at hv); (try simp only [bls]); omega) | (intro hg; (simp only [hg, Bool.true_and, true_and, implies_true]; try (intro hg2; simp only [hg2, Bool.not_false, Bool.not_true])); done)))
 refine awp_loop _ (by simp only [go_sem]; rfl) Nat (fun k => k ≤ l.length ∧ ixFrom (fun x : List Int × List Int => decide (x.1 = m)) 0 l = ixFrom (fun x : List Int × List Int => decide (x.1 = m)) k (l.drop k)) (fun k => [(8, .one (.int .i64 k))]) (fun _ H => H) (fun k => l.length - k) 0 ⟨by omega, by simp⟩ ?_ ?_
 ·(simp only [SubF, go_sem]; (try simp only [go_sem]); repeat' (first | exact True.intro | with_reducible refine And.intro ?_ ?_ | rfl | omega))
 ·rintro k ⟨hk, hres⟩ L hL
  have hq : ((k : Nat) : Int).toNat = k := by omega
  by_cases hlt : k < l.length
  ·have hg := pls_at (l := l) hlt [.nil, .nil]
   have hst := ix_step (d := ([], [])) hlt hres
   have hxl := hx _ (getD_mem l k ([], []) hlt)
   generalize l.getD k ([], []) = x at hg hst hxl
   obtain ⟨u, r⟩ := x
   simp only at hg hst hxl
   cases r with
   | nil =>
    have hc := runs1_c m u [] hxl
    simp only [runD] at hg
    (simp only [go_sem] at hL ⊢)
    (repeat' (first | (with_reducible first | exact True.intro | refine And.intro ?_ ?_ | refine awp_block ?_ | ((first | refine awp_seq1 6 [7, 8] ?_ | refine awp_seq2 6 [7, 8] ?_ | refine awp_seq3 6 [7, 8] ?_ | refine awp_seq4 6 [7, 8] ?_ | refine awp_seq 6 [7, 8] ?_); intro K hK)) | ((with_reducible first | refine awp_reg ?_ | refine awp_exit ?_ | refine awp_skip ?_ | refine likeK_i ?_); simp only [hq, hg, go_sem]) | (with_reducible refine awp_ret ?_; simp only [retF, retM, retL, resV, resW, retO, resAV, AV.bor, D.bor, D.bor1, D.bor0, AV.flatOwn, D.flatOwn, D.flat, AV.tagged, D.tagged, AObj.plain, hq, hg, go_sem]) | ((with_reducible refine awp_cond' ?_ ?_ (fun hb => ?_) (fun hb => ?_)); (simp only [hq, hg, go_sem]); (simp only [hq, hg, go_sem]); all_goals (simp only [hq, hg, go_sem] at hb; try simp only [bls] at hb)) | ((iterate 6 try ((fail_if_success with_reducible refine hK _ ?_ ?_ ?_); clear hK K)); with_reducible refine hK _ ?_ ?_ ?_; rotate_left; (focus (simp only [hq, hg, go_sem]; exact rfl)); clear hK K) | ((first | (with_reducible first | refine cA hc ?_ | refine cD hc ?_ | refine cO hc ?_ | refine cR hc ?_ | refine cG (fun hg => hc) ?_ | refine cH (fun hg => hc) ?_ | refine cM (fun hg => hc) ?_) | (guard_target = CallAt _ _ _ _ _ _ _ _ _ _; refine cA hc ?_) | (guard_target = DCallAt _ _ _ _ _ _ _ _; refine cD hc ?_) | (guard_target = GCallAt _ _ _ _ _ _ _ _ _ _ _; refine cG (fun hg => hc) ?_)); simp only [hq, hg, go_sem]) | (with_reducible refine gsplit_i (fun hg0 => ?_) (fun hg0 => ?_) <;> first | (with_reducible first | exact absurd hg0 Bool.false_ne_true | exact absurd hg0.symm Bool.false_ne_true) | (simp only [hg0, hq, hg, go_sem])) | (with_reducible refine nilK_i ?_; intro bnil hnil; try simp only []) | (omega; done) | (intro hv; (try simp only [bls] at hv); (try simp only [bls]); omega) | (intro hg; (simp only [hg, Bool.true_and, true_and, implies_true]; try (intro hg2; simp only [hg2, Bool.not_false, Bool.not_true])); done)))
    all_goals first | omega | skip
    ·rw [hst, if_pos (by simpa using hb)]
    ·rw [if_neg (by simpa using hb)] at hst
     exact hL _ (k + 1) ⟨by omega, hst⟩ (by (simp only [SubF, go_sem]; (try simp only [go_sem]); repeat' (first | exact True.intro | with_reducible refine And.intro ?_ ?_ | rfl | omega))) (by omega)
   | cons y r =>
    have hc := runs1_c m u (ints (y :: r)) hxl
    simp only [runD] at hg
    (simp only [go_sem] at hL ⊢)
    (repeat' (first | (with_reducible first | exact True.intro | refine And.intro ?_ ?_ | refine awp_block ?_ | ((first | refine awp_seq1 6 [7, 8] ?_ | refine awp_seq2 6 [7, 8] ?_ | refine awp_seq3 6 [7, 8] ?_ | refine awp_seq4 6 [7, 8] ?_ | refine awp_seq 6 [7, 8] ?_); intro K hK)) | ((with_reducible first | refine awp_reg ?_ | refine awp_exit ?_ | refine awp_skip ?_ | refine likeK_i ?_); simp only [hq, hg, go_sem]) | (with_reducible refine awp_ret ?_; simp only [retF, retM, retL, resV, resW, retO, resAV, AV.bor, D.bor, D.bor1, D.bor0, AV.flatOwn, D.flatOwn, D.flat, AV.tagged, D.tagged, AObj.plain, hq, hg, go_sem]) | ((with_reducible refine awp_cond' ?_ ?_ (fun hb => ?_) (fun hb => ?_)); (simp only [hq, hg, go_sem]); (simp only [hq, hg, go_sem]); all_goals (simp only [hq, hg, go_sem] at hb; try simp only [bls] at hb)) | ((iterate 6 try ((fail_if_success with_reducible refine hK _ ?_ ?_ ?_); clear hK K)); with_reducible refine hK _ ?_ ?_ ?_; rotate_left; (focus (simp only [hq, hg, go_sem]; exact rfl)); clear hK K) | ((first | (with_reducible first | refine cA hc ?_ | refine cD hc ?_ | refine cO hc ?_ | refine cR hc ?_ | refine cG (fun hg => hc) ?_ | refine cH (fun hg => hc) ?_ | refine cM (fun hg => hc) ?_) | (guard_target = CallAt _ _ _ _ _ _ _ _ _ _; refine cA hc ?_) | (guard_target = DCallAt _ _ _ _ _ _ _ _; refine cD hc ?_) | (guard_target = GCallAt _ _ _ _ _ _ _ _ _ _ _; refine cG (fun hg => hc) ?_)); simp only [hq, hg, go_sem]) | (with_reducible refine gsplit_i (fun hg0 => ?_) (fun hg0 => ?_) <;> first | (with_reducible first | exact absurd hg0 Bool.false_ne_true | exact absurd hg0.symm Bool.false_ne_true) | (simp only [hg0, hq, hg, go_sem])) | (with_reducible refine nilK_i ?_; intro bnil hnil; try simp only []) | (omega; done) | (intro hv; (try simp only [bls] at hv); (try simp only [bls]); omega) | (intro hg; (simp only [hg, Bool.true_and, true_and, implies_true]; try (intro hg2; simp only [hg2, Bool.not_false, Bool.not_true])); done)))
    all_goals first | omega | skip
    ·rw [hst, if_pos (by simpa using hb)]
    ·rw [if_neg (by simpa using hb)] at hst
     exact hL _ (k + 1) ⟨by omega, hst⟩ (by (simp only [SubF, go_sem]; (try simp only [go_sem]); repeat' (first | exact True.intro | with_reducible refine And.intro ?_ ?_ | rfl | omega))) (by omega)
  ·(simp only [go_sem] at hL ⊢)
   (repeat' (first | (with_reducible first | exact True.intro | refine And.intro ?_ ?_ | refine awp_block ?_ | ((first | refine awp_seq1 6 [7, 8] ?_ | refine awp_seq2 6 [7, 8] ?_ | refine awp_seq3 6 [7, 8] ?_ | refine awp_seq4 6 [7, 8] ?_ | refine awp_seq 6 [7, 8] ?_); intro K hK)) | ((with_reducible first | refine awp_reg ?_ | refine awp_exit ?_ | refine awp_skip ?_ | refine likeK_i ?_); simp only [go_sem]) | (with_reducible refine awp_ret ?_; simp only [retF, retM, retL, resV, resW, retO, resAV, AV.bor, D.bor, D.bor1, D.bor0, AV.flatOwn, D.flatOwn, D.flat, AV.tagged, D.tagged, AObj.plain, go_sem]) | ((with_reducible refine awp_cond' ?_ ?_ (fun hb => ?_) (fun hb => ?_)); (simp only [go_sem]); (simp only [go_sem]); all_goals (simp only [go_sem] at hb; try simp only [bls] at hb)) | ((iterate 6 try ((fail_if_success with_reducible refine hK _ ?_ ?_ ?_); clear hK K)); with_reducible refine hK _ ?_ ?_ ?_; rotate_left; (focus (simp only [go_sem]; exact rfl)); clear hK K) | (with_reducible refine gsplit_i (fun hg0 => ?_) (fun hg0 => ?_) <;> first | (with_reducible first | exact absurd hg0 Bool.false_ne_true | exact absurd hg0.symm Bool.false_ne_true) | (simp only [hg0, go_sem])) | (with_reducible refine nilK_i ?_; intro bnil hnil; try simp only []) | (omega; done) | (intro hv; (try simp only [bls] at hv); (try simp only [bls]); omega) | (intro hg; (simp only [hg, Bool.true_and, true_and, implies_true]; try (intro hg2; simp only [hg2, Bool.not_false, Bool.not_true])); done)))
   all_goals first | omega | skip
   rw [hres, drop_end l k (by omega)]; rfl
theorem ContainsFuncPl_c (l : List (List Int × List Int)) (m : List Int) (hn : l.length ≤ 1000000) (hx : ∀ x ∈ l, x.1.length ≤ 1000000) :
  ACalls Tryd.prog 13 [.one (.list (plsD l)), .one (.clo 14 [.ref [.list (ints m)]])] (.one (.bool (l.any fun x => decide (x.1 = m)))) [] := by
 have h1 := IndexFuncPl_c l m hn hx
 (refine ACalls.of_body Ty_ok mixed Tryd.func13 rfl (by kernel_rfl) Tryd.ntmps13 (by simp) (congrArg Array.toList Tryd.results13) ?_)
 simp only [slotsOf]
 (repeat' (first | (with_reducible first | exact True.intro | refine And.intro ?_ ?_ | refine awp_block ?_ | ((first | refine awp_seq1 5 [] ?_ | refine awp_seq2 5 [] ?_ | refine awp_seq3 5 [] ?_ | refine awp_seq4 5 [] ?_ | refine awp_seq 5 [] ?_); intro K hK)) | ((with_reducible first | refine awp_reg ?_ | refine awp_exit ?_ | refine awp_skip ?_ | refine likeK_i ?_); simp only [go_sem]) | (with_reducible refine awp_ret ?_; simp only [retF, retM, retL, resV, resW, retO, resAV, AV.bor, D.bor, D.bor1, D.bor0, AV.flatOwn, D.flatOwn, D.flat, AV.tagged, D.tagged, AObj.plain, go_sem]) | ((with_reducible refine awp_cond' ?_ ?_ (fun hb => ?_) (fun hb => ?_)); (simp only [go_sem]); (simp only [go_sem]); all_goals (simp only [go_sem] at hb; try simp only [bls] at hb)) | ((iterate 6 try ((fail_if_success with_reducible refine hK _ ?_ ?_ ?_); clear hK K)); with_reducible refine hK _ ?_ ?_ ?_; rotate_left; (focus (simp only [go_sem]; exact rfl)); clear hK K) | ((first | (with_reducible first | refine cA h1 ?_ | refine cD h1 ?_ | refine cO h1 ?_ | refine cR h1 ?_ | refine cG (fun hg => h1) ?_ | refine cH (fun hg => h1) ?_ | refine cM (fun hg => h1) ?_) | (guard_target = CallAt _ _ _ _ _ _ _ _ _ _; refine cA h1 ?_) | (guard_target = DCallAt _ _ _ _ _ _ _ _; refine cD h1 ?_) | (guard_target = GCallAt _ _ _ _ _ _ _ _ _ _ _; refine cG (fun hg => h1) ?_)); simp only [go_sem]) | (with_reducible refine gsplit_i (fun hg0 => ?_) (fun hg0 => ?_) <;> first | (with_reducible first | exact absurd hg0 Bool.false_ne_true | exact absurd hg0.symm Bool.false_ne_true) | (simp only [hg0, go_sem])) | (with_reducible refine nilK_i ?_; intro bnil hnil; try simp only []) | (omega; done) | (intro hv; (try simp only [bls] at hv); (try simp only [bls]); omega) | (intro hg; (simp only [hg, Bool.true_and, true_and, implies_true]; try (intro hg2; simp only [hg2, Bool.not_false, Bool.not_true])); done)))
 rw [ix_any]
def plOf (nd : List SN) : List (List Int × List Int) := (List.range nd.length).map fun k => ((nd.getD k SN.no).m, pathF nd k)
theorem plOf_length (nd : List SN) : (plOf nd).length = nd.length := by simp [plOf]
theorem plOf_get {nd : List SN} {k : Nat} (hk : k < nd.length) : (plOf nd).getD k ([], []) = ((nd.getD k SN.no).m, pathF nd k) := by
 simp [plOf, List.getD, List.getElem?_map, List.getElem?_range hk]
theorem plOf_snoc {nd : List SN} {pl : Nat} (hN : NodesOk pl nd) {m : List Int} {i : Nat} {t : Int} (hi : i < nd.length) : plOf (nd ++ [⟨m, i, t⟩]) = plOf nd ++ [(m, pathF nd i ++ [t])] := by
 have hl : (nd ++ [(⟨m, i, t⟩ : SN)]).length = nd.length + 1 := by simp
 unfold plOf
 rw [hl, List.range_succ, List.map_append]
 congr 1
 ·apply List.map_congr_left
  intro k hk
  have hk' := List.mem_range.1 hk
  rw [getD_append_lt _ _ _ _ hk', pathF_old hN _ (by omega) (by omega)]
 ·simp only [List.map_cons, List.map_nil]
  rw [getD_append_last, pathF_new hN hi]
theorem plOf_any (nd : List SN) (m : List Int) : (plOf nd).any (fun x => decide (x.1 = m)) = (fndF m 0 nd).isSome := by
 have h : ∀ (l : List SN) (i : Nat), (fndF m i l).isSome = l.any fun x => decide (x.m = m) := by
  intro l
  induction l with
  | nil => intro i; rfl
  | cons x l ih =>
   intro i
   rw [fndF, List.any_cons]
   by_cases hx : x.m = m
   ·simp [hx]
   ·simp [hx, ih]
 rw [h, Bool.eq_iff_iff, List.any_eq_true, List.any_eq_true]
 constructor
 ·rintro ⟨x, hx, he⟩
  obtain ⟨k, hk, rfl⟩ := List.mem_map.1 hx
  exact ⟨_, getD_mem nd k SN.no (List.mem_range.1 hk), he⟩
 ·rintro ⟨x, hx, he⟩
  obtain ⟨k, hk, rfl⟩ := List.mem_iff_getElem.1 hx
  refine ⟨((nd.getD k SN.no).m, pathF nd k), List.mem_map.2 ⟨k, List.mem_range.2 hk, rfl⟩, ?_⟩
  simpa [List.getD, List.getElem?_eq_getElem hk] using he
theorem pathF_len' (l : List SN) (i : Nat) : (pathF l i).length ≤ i + 1 := by
 rw [pathF, List.length_reverse]
 have := backF_length l (((i : Nat) : Int).toNat + 1) i
 omega
theorem emT_at (s : List Int) (nd : List SN) (k : Nat) (hk : k < nd.length) (h : ∀ j, j < k → sumAt (nd.getD j SN.no).m s ≠ 0) (hz : sumAt (nd.getD k SN.no).m s = 0) : emT s nd = k := by
 unfold emT
 have e : nd.map SN.m = (nd.map SN.m).take k ++ (nd.map SN.m).drop k := (List.take_append_drop _ _).symm
 have key : ∀ (l : List (List Int)) (i : Nat), (∀ j, j < l.length → sumAt (l.getD j []) s ≠ 0) → ∀ r, ixFrom (fun m => decide (sumAt m s = 0)) i (l ++ r) = ixFrom (fun m => decide (sumAt m s = 0)) (i + l.length) r := by
  intro l
  induction l with
  | nil => intro i _ r; simp
  | cons x l ih =>
   intro i hl r
   have h0 := hl 0 (by simp)
   rw [List.cons_append, ixFrom, if_neg (by simpa using h0), ih (i + 1) (fun j hj => by simpa using hl (j + 1) (by simp; omega)) r]
   congr 1
   simp only [List.length_cons]; omega
 rw [e, key]
 ·rw [List.length_take, List.length_map, Nat.min_eq_left (by omega), Nat.zero_add, List.drop_eq_getElem_cons (by simpa using hk), ixFrom, if_pos]
  simpa [List.getD, List.getElem?_eq_getElem hk] using hz
 ·intro j hj
  simp at hj
  have := h j (by omega)
  rw [List.getD, List.getElem?_take_of_lt (by omega)]
  simpa [List.getD, List.getElem?_eq_getElem (show j < nd.length by omega)] using this
theorem emT_none (s : List Int) (nd : List SN) (h : ∀ j, j < nd.length → sumAt (nd.getD j SN.no).m s ≠ 0) : emT s nd = -1 := by
 have : ¬ 0 ≤ emT s nd := by
  intro h0
  have := ix_any (fun m => decide (sumAt m s = 0)) (nd.map SN.m) 0
  unfold emT at h0
  rw [decide_eq_true h0] at this
  obtain ⟨x, hx, hz⟩ := List.any_eq_true.1 this.symm
  obtain ⟨y, hy, rfl⟩ := List.mem_map.1 hx
  obtain ⟨k, hk, rfl⟩ := List.mem_iff_getElem.1 hy
  have := h k hk
  simp [List.getD, List.getElem?_eq_getElem hk] at this
  simp at hz
  exact this hz
 have := (ix_range (fun m => decide (sumAt m s = 0)) (nd.map SN.m) 0).1
 unfold emT at *
 omega
end Go.Proofs.YtlankmlgomhbhaaDoor
