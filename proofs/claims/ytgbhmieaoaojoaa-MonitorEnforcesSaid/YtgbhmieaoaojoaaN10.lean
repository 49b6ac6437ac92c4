/-
 Contracts: the law's own functions: weight, sum, effect, check.
-/
import Derived.Test.YtgbhmieaoaojoaaN9
set_option linter.unusedSimpArgs false
set_option linter.unusedVariables false
namespace Go.Proofs.Ytgbhmieaoaojoaa
open Go.Eng Go.RowKit
theorem drop_cons' {α : Type} (l : List α) (k : Nat) (d : α) (h : k < l.length) : l.drop k = l.getD k d :: l.drop (k + 1) := by
 rw [List.drop_eq_getElem_cons h]
 simp [List.getD, List.getElem?_eq_getElem h]
def wF : List Arc → Int → Int
 | [], _ => 0
 | a :: l, p => if a.place = p then a.weight else wF l p
theorem weight_c (l : List Arc) (p : Int) (hl : l.length ≤ 1000000) : ACalls Try.prog 40 [.one (.list (arcsD l)), .one (.int .i64 p)] (.one (.int .i64 (wF l p))) [] := by
 (refine ACalls.of_body Ty_ok mixed Try.func40 rfl (by kernel_rfl) Try.ntmps40 (by simp) (congrArg Array.toList Try.results40) ?_)
 simp only [slotsOf]
 (repeat' (first | (with_reducible first | exact True.intro | refine And.intro ?_ ?_ | refine aBl ?_ | (refine aS 6 [] ?_; intro K hK)) | ((with_reducible first | refine aGo ?_); simp only [go_sem]) | ((with_reducible refine aCd ?_ ?_ (fun hb => ?_) (fun hb => ?_)); (iterate 2 simp only [go_sem]); all_goals (simp only [go_sem] at hb; try simp only [bls] at hb)) | ((iterate 6 try ((fail_if_success with_reducible refine hK _ ?_ ?_ ?_); clear hK K)); with_reducible refine hK _ ?_ ?_ ?_; rotate_left; (focus (simp only [go_sem]; exact rfl)); clear hK K) | (with_reducible refine aGs (fun hg0 => ?_) (fun hg0 => ?_) <;> first | (with_reducible first | exact aF1 hg0 | exact aF2 hg0) | (simp only [hg0, go_sem])) | (with_reducible refine aNk ?_; intro bnil hnil; try simp only []) | exact aZ | fail))
 generalize hW : wF l p = W
 refine awp_loop _ (by simp only [go_sem]; rfl) Nat (fun k => k ≤ l.length ∧ wF (l.drop k) p = W) (fun k => [(5, .one (.int .i64 k))]) (fun _ H => H) (fun k => l.length - k) 0 ⟨by omega, hW⟩ ?_ ?_
 ·(simp only [SubF, go_sem]; (try simp only [go_sem]); repeat' (first | exact True.intro | with_reducible refine And.intro ?_ ?_ | rfl | omega))
 ·rintro k ⟨hk, hWk⟩ L hL
  have hp : ((k : Nat) : Int).toNat = k := by omega
  by_cases hlt : k < l.length
  ·have hg := arcs_at hlt
   rw [drop_cons' l k Arc.no hlt] at hWk
   simp only [wF] at hWk
   (simp only [go_sem] at hL ⊢)
   (repeat' (first | (with_reducible first | exact True.intro | refine And.intro ?_ ?_ | refine aBl ?_ | (refine aS 6 [] ?_; intro K hK)) | ((with_reducible first | refine aGo ?_); simp only [hg, hp, go_sem]) | ((with_reducible refine aCd ?_ ?_ (fun hb => ?_) (fun hb => ?_)); (iterate 2 simp only [hg, hp, go_sem]); all_goals (simp only [hg, hp, go_sem] at hb; try simp only [bls] at hb)) | ((iterate 6 try ((fail_if_success with_reducible refine hK _ ?_ ?_ ?_); clear hK K)); with_reducible refine hK _ ?_ ?_ ?_; rotate_left; (focus (simp only [hg, hp, go_sem]; exact rfl)); clear hK K) | (with_reducible refine aGs (fun hg0 => ?_) (fun hg0 => ?_) <;> first | (with_reducible first | exact aF1 hg0 | exact aF2 hg0) | (simp only [hg0, hg, hp, go_sem])) | (with_reducible refine aNk ?_; intro bnil hnil; try simp only []) | exact aZ | fail))
   all_goals first | omega | skip
   rw [if_neg hb] at hWk
   exact hL _ (k + 1) ⟨by omega, hWk⟩ (by (simp only [SubF, go_sem]; (try simp only [go_sem]); repeat' (first | exact True.intro | with_reducible refine And.intro ?_ ?_ | rfl | omega))) (by omega)
  ·rw [List.drop_of_length_le (by omega)] at hWk
   simp only [wF] at hWk
   (simp only [go_sem] at hL ⊢)
   (repeat' (first | (with_reducible first | exact True.intro | refine And.intro ?_ ?_ | refine aBl ?_ | (refine aS 6 [] ?_; intro K hK)) | ((with_reducible first | refine aGo ?_); simp only [go_sem]) | ((with_reducible refine aCd ?_ ?_ (fun hb => ?_) (fun hb => ?_)); (iterate 2 simp only [go_sem]); all_goals (simp only [go_sem] at hb; try simp only [bls] at hb)) | ((iterate 6 try ((fail_if_success with_reducible refine hK _ ?_ ?_ ?_); clear hK K)); with_reducible refine hK _ ?_ ?_ ?_; rotate_left; (focus (simp only [go_sem]; exact rfl)); clear hK K) | (with_reducible refine aGs (fun hg0 => ?_) (fun hg0 => ?_) <;> first | (with_reducible first | exact aF1 hg0 | exact aF2 hg0) | (simp only [hg0, go_sem])) | (with_reducible refine aNk ?_; intro bnil hnil; try simp only []) | exact aZ | fail))
   all_goals first | omega | skip
theorem sum_c (c : Con) (m : List Int) (hl : c.fac.length ≤ m.length) (hf : Sm 16 c.fac) (hm : Sm 65536 m) (hn : c.fac.length ≤ 1000) (hnm : m.length ≤ 1000000) : ACalls Try.prog 21 [.agg c.d, .one (.list (ints m))] (.one (.int .i64 (dot c.fac m))) [] := by
 (refine ACalls.of_body Ty_ok mixed Try.func21 rfl (by kernel_rfl) Try.ntmps21 (by simp) (congrArg Array.toList Try.results21) ?_)
 simp only [slotsOf, Con.d]
 (repeat' (first | (with_reducible first | exact True.intro | refine And.intro ?_ ?_ | refine aBl ?_ | (refine aS 7 [] ?_; intro K hK)) | ((with_reducible first | refine aGo ?_ | refine rD (id := 5) ?_); simp only [go_sem]) | ((with_reducible refine aCd ?_ ?_ (fun hb => ?_) (fun hb => ?_)); (iterate 2 simp only [go_sem]); all_goals (simp only [go_sem] at hb; try simp only [bls] at hb)) | ((iterate 6 try ((fail_if_success with_reducible refine hK _ ?_ ?_ ?_); clear hK K)); with_reducible refine hK _ ?_ ?_ ?_; rotate_left; (focus (simp only [go_sem]; exact rfl)); clear hK K) | (with_reducible refine aGs (fun hg0 => ?_) (fun hg0 => ?_) <;> first | (with_reducible first | exact aF1 hg0 | exact aF2 hg0) | (simp only [hg0, go_sem])) | (with_reducible refine aNk ?_; intro bnil hnil; try simp only []) | exact aZ | fail))
 refine awp_loop _ (by simp only [go_sem]; rfl) Nat (fun k => k ≤ c.fac.length) (fun k => [(5, .one (.int .i64 (dot (c.fac.take k) (m.take k)))), (6, .one (.int .i64 k))]) (fun _ H => H) (fun k => c.fac.length - k) 0 (by omega) ?_ ?_
 ·(simp only [SubF, go_sem]; (try simp only [go_sem]); repeat' (first | exact True.intro | with_reducible refine And.intro ?_ ?_ | rfl | omega))
 ·rintro k hk L hL
  have hp : ((k : Nat) : Int).toNat = k := by omega
  (simp only [go_sem] at hL ⊢)
  by_cases hlt : k < c.fac.length
  ·have e := dot_take c.fac m k hlt (by omega)
   have b0 := mul_bound (hf.get (by omega) k) (hm.get (by omega) k) (by omega) (by omega)
   have b1 := dot_fits (hf.take k) (hm.take k) (by simp; omega)
   (repeat' (first | (with_reducible first | exact True.intro | refine And.intro ?_ ?_ | refine aBl ?_ | (refine aS 7 [] ?_; intro K hK)) | ((with_reducible first | refine aGo ?_ | refine rD (id := 5) ?_); simp only [go_sem]) | ((with_reducible refine aCd ?_ ?_ (fun hb => ?_) (fun hb => ?_)); (iterate 2 simp only [go_sem]); all_goals (simp only [go_sem] at hb; try simp only [bls] at hb)) | ((iterate 6 try ((fail_if_success with_reducible refine hK _ ?_ ?_ ?_); clear hK K)); with_reducible refine hK _ ?_ ?_ ?_; rotate_left; (focus (simp only [go_sem]; exact rfl)); clear hK K) | (with_reducible refine aGs (fun hg0 => ?_) (fun hg0 => ?_) <;> first | (with_reducible first | exact aF1 hg0 | exact aF2 hg0) | (simp only [hg0, go_sem])) | (with_reducible refine aNk ?_; intro bnil hnil; try simp only []) | exact aZ | fail))
   ·rw [← e]
    exact hL _ (k + 1) (by omega) (by (simp only [SubF, go_sem]; (try simp only [go_sem]); repeat' (first | exact True.intro | with_reducible refine And.intro ?_ ?_ | rfl | omega))) (by omega)
  ·(repeat' (first | (with_reducible first | exact True.intro | refine And.intro ?_ ?_ | refine aBl ?_ | (refine aS 7 [] ?_; intro K hK)) | ((with_reducible first | refine aGo ?_ | refine rD (id := 5) ?_); simp only [go_sem]) | ((with_reducible refine aCd ?_ ?_ (fun hb => ?_) (fun hb => ?_)); (iterate 2 simp only [go_sem]); all_goals (simp only [go_sem] at hb; try simp only [bls] at hb)) | ((iterate 6 try ((fail_if_success with_reducible refine hK _ ?_ ?_ ?_); clear hK K)); with_reducible refine hK _ ?_ ?_ ?_; rotate_left; (focus (simp only [go_sem]; exact rfl)); clear hK K) | (with_reducible refine aGs (fun hg0 => ?_) (fun hg0 => ?_) <;> first | (with_reducible first | exact aF1 hg0 | exact aF2 hg0) | (simp only [hg0, go_sem])) | (with_reducible refine aNk ?_; intro bnil hnil; try simp only []) | exact aZ | fail))
   rw [List.take_of_length_le (by omega), show k = c.fac.length by omega, dot_prefix]
/-! the effect of a transition, place by place -/
theorem wF_bound {places : Nat} : ∀ {l : List Arc} (_ : ∀ a ∈ l, 1 ≤ a.weight ∧ a.weight ≤ 8) (p : Int), 0 ≤ wF l p ∧ wF l p ≤ 8
 | [], _, p => by simp [wF]
 | a :: l, h, p => by
  simp only [wF]
  have := h a (by simp)
  have ih := wF_bound (places := places) (fun b hb => h b (List.mem_cons_of_mem _ hb)) p
  split <;> omega
theorem wF_none : ∀ {l : List Arc} {p : Int}, (∀ a ∈ l, a.place ≠ p) → wF l p = 0
 | [], p, _ => rfl
 | a :: l, p, h => by
  simp only [wF]
  rw [if_neg (h a (by simp)), wF_none fun b hb => h b (List.mem_cons_of_mem _ hb)]
def effS (fac : List Int) (f : Nat → Int) : Nat → Int
 | 0 => 0
 | k + 1 => effS fac f k + fac.getD k 0 * f k
theorem effS_add (fac : List Int) (f g h : Nat → Int) (e : ∀ i, h i = f i + g i) : ∀ k, effS fac h k = effS fac f k + effS fac g k
 | 0 => rfl
 | k + 1 => by
  simp only [effS, effS_add fac f g h e k, e, Int.mul_add]
  omega
theorem effS_at (fac : List Int) (p : Nat) (w : Int) : ∀ k, effS fac (fun i => if p = i then w else 0) k = if p < k then fac.getD p 0 * w else 0
 | 0 => rfl
 | k + 1 => by
  simp only [effS, effS_at fac p w k]
  by_cases h : p = k
  ·subst h
   simp
  ·by_cases h2 : p < k
   ·simp only [if_pos h2, if_neg h, if_pos (show p < k + 1 by omega)]; simp
   ·simp only [if_neg h2, if_neg h, if_neg (show ¬ p < k + 1 by omega)]; simp
theorem effS_zero (fac : List Int) : ∀ k, effS fac (fun _ => 0) k = 0
 | 0 => rfl
 | k + 1 => by simp [effS, effS_zero fac k]
theorem effS_arcs (fac : List Int) : ∀ {l : List Arc}, ArcsIn fac.length l → effS fac (fun i => wF l i) fac.length = dotA fac l
 | [], _ => by simp only [wF, dotA]; exact effS_zero fac _
 | a :: l, h => by
  have ho := List.pairwise_cons.1 h.ord
  have ih := effS_arcs fac ⟨fun b hb => h.place b (List.mem_cons_of_mem _ hb), fun b hb => h.weight b (List.mem_cons_of_mem _ hb), ho.2⟩
  have hp := h.place a (by simp)
  have e : ∀ i : Nat, wF (a :: l) i = (if a.place.toNat = i then a.weight else 0) + wF l i := fun i => by
   simp only [wF]
   by_cases hi : a.place = (i : Int)
   ·have : wF l i = 0 := wF_none fun b hb => by have := ho.1 b hb; omega
    rw [if_pos hi, if_pos (by omega), this]; omega
   ·rw [if_neg hi, if_neg (by omega)]; omega
  rw [effS_add fac (fun i => if a.place.toNat = i then a.weight else 0) (fun i => wF l i) (fun i => wF (a :: l) i) e, effS_at, ih, if_pos (by omega)]
  rfl
theorem effS_effT (fac : List Int) (t : Tr) (hi : ArcsIn fac.length t.inn) (ho : ArcsIn fac.length t.out) : effS fac (fun i => wF t.out i - wF t.inn i) fac.length = effT fac t := by
 have h := effS_add fac (fun i => wF t.out i - wF t.inn i) (fun i => wF t.inn i) (fun i => wF t.out i) (fun i => by omega) fac.length
 have h1 := effS_arcs fac hi
 have h2 := effS_arcs fac ho
 unfold effT
 omega
theorem effS_bound {fac : List Int} (hf : Sm 16 fac) {f : Nat → Int} (h : ∀ i, -8 ≤ f i ∧ f i ≤ 8) : ∀ k : Nat, -(k * 128 : Int) ≤ effS fac f k ∧ effS fac f k ≤ k * 128
 | 0 => by simp [effS]
 | k + 1 => by
  have ih := effS_bound hf h k
  have b := mul_bound (hf.get (by omega) k) (h k) (by omega) (by omega)
  simp only [effS, Int.natCast_add]
  omega
set_option maxHeartbeats 4000000 in
theorem effect_c (n : Net) (c : Con) (t : Int) (hn : NetOk n) (hl : c.fac.length = n.init.length) (hf : Sm 16 c.fac) (ht : 0 ≤ t ∧ t < n.trs.length) : ACalls Try.prog 22 [.agg n.d, .agg c.d, .one (.int .i64 t)] (.one (.int .i64 (effT c.fac (n.trs.getD t.toNat Tr.no)))) [] := by
 have hi10 := hn.init
 have ht10 := hn.trs
 have hlt0 : t.toNat < n.trs.length := by omega
 have hg := trs_get hlt0 [.int .i64 0, .nil, .nil]
 have hmem := getD_mem n.trs t.toNat Tr.no hlt0
 have hi1 := hn.inn _ hmem
 have hi2 := hn.out _ hmem
 rw [← hl] at hi1 hi2
 generalize n.trs.getD t.toNat Tr.no = x at hg hi1 hi2
 have hf1 := arcs_few _ _ hi1
 have hf2 := arcs_few _ _ hi2
 rw [← effS_effT c.fac x hi1 hi2]
 have hb' : ∀ i : Nat, -8 ≤ wF x.out i - wF x.inn i ∧ wF x.out i - wF x.inn i ≤ 8 := fun i => by
  have := wF_bound (places := 0) hi1.weight i
  have := wF_bound (places := 0) hi2.weight i
  omega
 have h1 := fun p => weight_c x.inn p (by omega)
 have h2 := fun p => weight_c x.out p (by omega)
 (refine ACalls.of_body Ty_ok mixed Try.func22 rfl (by kernel_rfl) Try.ntmps22 (by simp) (congrArg Array.toList Try.results22) ?_)
 simp only [slotsOf, Net.d, Con.d]
 (repeat' (first | (with_reducible first | exact True.intro | refine And.intro ?_ ?_ | refine aBl ?_ | (refine aS 9 [] ?_; intro K hK)) | ((with_reducible first | refine aGo ?_ | refine rP Ty_ok mixed 5 [0, 1, 3, 6, 8, 12, 14, 16, 20] [.mid [pe 2, pe 4, pe 5, pe 7, pe 9, pe 10, pe 11, ⟨13, 0, true, false, false, [], []⟩, ⟨15, 1, false, false, false, [0], []⟩, ⟨17, 1, false, false, false, [0], []⟩, ⟨18, 1, false, false, false, [0], []⟩, ⟨19, 1, false, false, false, [0], []⟩, ⟨21, 1, true, false, false, [], []⟩, ⟨22, 2, false, false, false, [], []⟩, ⟨23, 2, false, false, false, [], []⟩, ⟨24, 2, false, false, false, [], []⟩, ⟨25, 2, false, false, false, [], []⟩] 2] ?_); simp only [go_sem]) | ((with_reducible refine aCd ?_ ?_ (fun hb => ?_) (fun hb => ?_)); (iterate 2 simp only [go_sem]); all_goals (simp only [go_sem] at hb; try simp only [bls] at hb)) | ((iterate 6 try ((fail_if_success with_reducible refine hK _ ?_ ?_ ?_); clear hK K)); with_reducible refine hK _ ?_ ?_ ?_; rotate_left; (focus (simp only [go_sem]; exact rfl)); clear hK K) | (with_reducible refine aGs (fun hg0 => ?_) (fun hg0 => ?_) <;> first | (with_reducible first | exact aF1 hg0 | exact aF2 hg0) | (simp only [hg0, go_sem])) | (with_reducible refine aNk ?_; intro bnil hnil; try simp only []) | exact aZ | fail))
 refine awp_loop _ (by simp only [go_sem]; rfl) Nat (fun k => k ≤ c.fac.length) (fun k => [(7, .one (.int .i64 (effS c.fac (fun i => wF x.out i - wF x.inn i) k))), (8, .one (.int .i64 k))]) (fun _ H => H) (fun k => c.fac.length - k) 0 (by omega) ?_ ?_
 ·(simp only [SubF, go_sem]; (try simp only [go_sem]); repeat' (first | exact True.intro | with_reducible refine And.intro ?_ ?_ | rfl | omega))
 ·rintro k hk L hL
  have hp : ((k : Nat) : Int).toNat = k := by omega
  (simp only [go_sem] at hL ⊢)
  by_cases hlt : k < c.fac.length
  ·have b0 := effS_bound hf hb' k
   have b1 := mul_bound (hf.get (by omega) k) (hb' k) (by omega) (by omega)
   have b2 := hb' k
   have b3 := wF_bound (places := 0) hi1.weight k
   have b4 := wF_bound (places := 0) hi2.weight k
   (repeat' (first | (with_reducible first | exact True.intro | refine And.intro ?_ ?_ | refine aBl ?_ | (refine aS 9 [] ?_; intro K hK)) | ((with_reducible first | refine aGo ?_ | refine rP Ty_ok mixed 5 [0, 1, 3, 6, 8, 12, 14, 16, 20] [.mid [pe 2, pe 4, pe 5, pe 7, pe 9, pe 10, pe 11, ⟨13, 0, true, false, false, [], []⟩, ⟨15, 1, false, false, false, [0], []⟩, ⟨17, 1, false, false, false, [0], []⟩, ⟨18, 1, false, false, false, [0], []⟩, ⟨19, 1, false, false, false, [0], []⟩, ⟨21, 1, true, false, false, [], []⟩, ⟨22, 2, false, false, false, [], []⟩, ⟨23, 2, false, false, false, [], []⟩, ⟨24, 2, false, false, false, [], []⟩, ⟨25, 2, false, false, false, [], []⟩] 2] ?_); simp only [hg, hp, go_sem]) | ((with_reducible refine aCd ?_ ?_ (fun hb => ?_) (fun hb => ?_)); (iterate 2 simp only [hg, hp, go_sem]); all_goals (simp only [hg, hp, go_sem] at hb; try simp only [bls] at hb)) | ((iterate 6 try ((fail_if_success with_reducible refine hK _ ?_ ?_ ?_); clear hK K)); with_reducible refine hK _ ?_ ?_ ?_; rotate_left; (focus (simp only [hg, hp, go_sem]; exact rfl)); clear hK K) | ((first | (with_reducible first | refine cA (h1 k) ?_ | refine cD (h1 k) ?_ | refine cO (h1 k) ?_ | refine cR (h1 k) ?_ | refine cG (fun hg => (h1 k)) ?_ | refine cH (fun hg => (h1 k)) ?_ | refine cM (fun hg => (h1 k)) ?_ | refine cA (h2 k) ?_ | refine cD (h2 k) ?_ | refine cO (h2 k) ?_ | refine cR (h2 k) ?_ | refine cG (fun hg => (h2 k)) ?_ | refine cH (fun hg => (h2 k)) ?_ | refine cM (fun hg => (h2 k)) ?_) | ((with_reducible refine gA ?_); refine cA (h1 k) ?_) | ((with_reducible refine gD ?_); refine cD (h1 k) ?_) | ((with_reducible refine gG ?_); refine cG (fun hg => (h1 k)) ?_) | ((with_reducible refine gA ?_); refine cA (h2 k) ?_) | ((with_reducible refine gD ?_); refine cD (h2 k) ?_) | ((with_reducible refine gG ?_); refine cG (fun hg => (h2 k)) ?_)); simp only [hg, hp, go_sem]) | (with_reducible refine aGs (fun hg0 => ?_) (fun hg0 => ?_) <;> first | (with_reducible first | exact aF1 hg0 | exact aF2 hg0) | (simp only [hg0, hg, hp, go_sem])) | (with_reducible refine aNk ?_; intro bnil hnil; try simp only []) | exact aZ | fail))
   all_goals first | omega | skip
   exact hL _ (k + 1) (by omega) (by (simp only [SubF, go_sem]; (try simp only [go_sem]); repeat' (first | exact True.intro | with_reducible refine And.intro ?_ ?_ | rfl | omega))) (by omega)
  ·(repeat' (first | (with_reducible first | exact True.intro | refine And.intro ?_ ?_ | refine aBl ?_ | (refine aS 9 [] ?_; intro K hK)) | ((with_reducible first | refine aGo ?_ | refine rP Ty_ok mixed 5 [0, 1, 3, 6, 8, 12, 14, 16, 20] [.mid [pe 2, pe 4, pe 5, pe 7, pe 9, pe 10, pe 11, ⟨13, 0, true, false, false, [], []⟩, ⟨15, 1, false, false, false, [0], []⟩, ⟨17, 1, false, false, false, [0], []⟩, ⟨18, 1, false, false, false, [0], []⟩, ⟨19, 1, false, false, false, [0], []⟩, ⟨21, 1, true, false, false, [], []⟩, ⟨22, 2, false, false, false, [], []⟩, ⟨23, 2, false, false, false, [], []⟩, ⟨24, 2, false, false, false, [], []⟩, ⟨25, 2, false, false, false, [], []⟩] 2] ?_); simp only [go_sem]) | ((with_reducible refine aCd ?_ ?_ (fun hb => ?_) (fun hb => ?_)); (iterate 2 simp only [go_sem]); all_goals (simp only [go_sem] at hb; try simp only [bls] at hb)) | ((iterate 6 try ((fail_if_success with_reducible refine hK _ ?_ ?_ ?_); clear hK K)); with_reducible refine hK _ ?_ ?_ ?_; rotate_left; (focus (simp only [go_sem]; exact rfl)); clear hK K) | (with_reducible refine aGs (fun hg0 => ?_) (fun hg0 => ?_) <;> first | (with_reducible first | exact aF1 hg0 | exact aF2 hg0) | (simp only [hg0, go_sem])) | (with_reducible refine aNk ?_; intro bnil hnil; try simp only []) | exact aZ | fail))
   all_goals first | omega | skip
   rw [show k = c.fac.length by omega]
end Go.Proofs.Ytgbhmieaoaojoaa
