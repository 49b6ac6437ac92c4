/-
 Contracts: Fire, Value; what firing does to sums and to bounds.
-/
import Derived.Test.YtljpfdehnjemlaaGreatDoorN17
set_option linter.unusedSimpArgs false
set_option linter.unusedVariables false
namespace Go.Proofs.YtljpfdehnjemlaaGreatDoor
open Go.Eng Go.RowKit
def valV (n : Net) (c : Con) (m : List Int) : Int := if conE n c ≠ 0 ∨ markE n m ≠ 0 then 0 else dot c.fac m
def valE (n : Net) (c : Con) (m : List Int) : Int := if conE n c ≠ 0 then conE n c else markE n m
theorem Value_c (n : Net) (c : Con) (m : List Int) (hf : n.Fits) (hc : c.fac.length ≤ 1000000) (hm : m.length ≤ 1000000) :
  ACalls Tryz.prog 167 [.agg n.d, .agg c.d, .one (.list (ints m))] (.tup [.one (.int .i64 (valV n c m)), .one (.int .i64 (valE n c m))]) [] := by
 have h1 := conCheck_c n c hf hc
 have h2 := CheckMarking_c n m hf hm
 by_cases h0 : conE n c = 0
 ·obtain ⟨q1, q2, q3, q4, q5⟩ := conOk_of h0
  have hi10 := (netOk_of q1).init
  by_cases h0' : markE n m = 0
  ·obtain ⟨p1, p2, p3⟩ := mark_ok h0'
   have hsm : Sm 65536 m := ⟨fun x hx => by have := p3 x hx; omega⟩
   have h3 := value_c c m (by omega) q3 hsm (by omega) hm
   have e1 : valV n c m = dot c.fac m := by rw [valV, if_neg (by omega)]
   have e2 : valE n c m = 0 := by rw [valE, if_neg (by omega), h0']
   rw [e1, e2]
   rw [h0] at h1
   rw [h0'] at h2
   simp only [Net.d, Con.d] at h1 h2 h3
   (refine ACalls.of_body Ty_ok mixed Tryz.func167 rfl (by kernel_rfl) Tryz.ntmps167 (by simp) (congrArg Array.toList Tryz.results167) ?_)
   simp only [slotsOf, Net.d, Con.d]
   (repeat' (first | (with_reducible (refine aS 10 [] ?_; intro K hK)) | ((with_reducible refine aGo ?_); simp only [go_sem]) | ((with_reducible refine aCd ?_ ?_ (fun hb => ?_) (fun hb => ?_)); (iterate 2 simp only [go_sem]); all_goals (simp only [go_sem] at hb; try simp only [bls] at hb)) | ((iterate 6 try ((fail_if_success with_reducible refine hK _ ?_ ?_ ?_); clear hK K)); with_reducible refine hK _ ?_ ?_ ?_; rotate_left; (focus (simp only [go_sem]; exact rfl)); clear hK K) | ((with_reducible refine xA ?_); simp only [go_sem]) | fail))
  ·have e1 : valV n c m = 0 := by rw [valV, if_pos (by omega)]
   have e2 : valE n c m = markE n m := by rw [valE, if_neg (by omega)]
   rw [e1, e2]
   rw [h0] at h1
   simp only [Net.d, Con.d] at h1 h2
   (refine ACalls.of_body Ty_ok mixed Tryz.func167 rfl (by kernel_rfl) Tryz.ntmps167 (by simp) (congrArg Array.toList Tryz.results167) ?_)
   simp only [slotsOf, Net.d, Con.d]
   (repeat' (first | (with_reducible (refine aS 10 [] ?_; intro K hK)) | ((with_reducible refine aGo ?_); simp only [go_sem]) | ((with_reducible refine aCd ?_ ?_ (fun hb => ?_) (fun hb => ?_)); (iterate 2 simp only [go_sem]); all_goals (simp only [go_sem] at hb; try simp only [bls] at hb)) | ((iterate 6 try ((fail_if_success with_reducible refine hK _ ?_ ?_ ?_); clear hK K)); with_reducible refine hK _ ?_ ?_ ?_; rotate_left; (focus (simp only [go_sem]; exact rfl)); clear hK K) | ((with_reducible refine xA ?_); simp only [go_sem]) | exact aZ | fail))
   all_goals first | omega | skip
 ·have e1 : valV n c m = 0 := by rw [valV, if_pos (by omega)]
  have e2 : valE n c m = conE n c := by rw [valE, if_pos h0]
  rw [e1, e2]
  simp only [Net.d, Con.d] at h1 h2
  (refine ACalls.of_body Ty_ok mixed Tryz.func167 rfl (by kernel_rfl) Tryz.ntmps167 (by simp) (congrArg Array.toList Tryz.results167) ?_)
  simp only [slotsOf, Net.d, Con.d]
  (repeat' (first | (with_reducible (refine aS 10 [] ?_; intro K hK)) | ((with_reducible refine aGo ?_); simp only [go_sem]) | ((with_reducible refine aCd ?_ ?_ (fun hb => ?_) (fun hb => ?_)); (iterate 2 simp only [go_sem]); all_goals (simp only [go_sem] at hb; try simp only [bls] at hb)) | ((iterate 6 try ((fail_if_success with_reducible refine hK _ ?_ ?_ ?_); clear hK K)); with_reducible refine hK _ ?_ ?_ ?_; rotate_left; (focus (simp only [go_sem]; exact rfl)); clear hK K) | ((with_reducible refine xA ?_); simp only [go_sem]) | exact aZ | fail))
  all_goals first | omega | skip
/-! what firing does -/
def wsum : List Arc → Nat → Int
 | [], _ => 0
 | a :: l, p => (if a.place.toNat = p then a.weight else 0) + wsum l p
theorem set_getD' (l : List Int) (k p : Nat) (x : Int) (hk : k < l.length) : (l.set k x).getD p 0 = if k = p then x else l.getD p 0 := by
 by_cases h : k = p
 ·subst h; rw [if_pos rfl, set_getD l k x 0 hk]
 ·rw [if_neg h]; simp [List.getD, List.getElem?_set_ne h]
theorem applyA_getD (s : Int) : ∀ (l : List Arc) (m : List Int) (p : Nat), ArcsIn m.length l → (applyA s m l).getD p 0 = m.getD p 0 + s * wsum l p
 | [], m, p, _ => by simp [applyA, wsum]
 | a :: l, m, p, h => by
  have ha := h.place a (by simp)
  have hl : ArcsIn (m.set a.place.toNat (m.getD a.place.toNat 0 + s * a.weight)).length l := by
   rw [List.length_set]
   exact ⟨fun b hb => h.place b (by simp [hb]), fun b hb => h.weight b (by simp [hb]), (List.pairwise_cons.1 h.ord).2⟩
  rw [applyA, applyA_getD s l _ p hl, set_getD' m _ p _ (by omega), wsum]
  by_cases e : a.place.toNat = p
  ·rw [if_pos e, if_pos e, e, Int.mul_add]; omega
  ·rw [if_neg e, if_neg e, Int.zero_add]
theorem wsum_zero : ∀ (l : List Arc) (p : Nat), (∀ a ∈ l, a.place.toNat ≠ p) → wsum l p = 0
 | [], _, _ => rfl
 | a :: l, p, h => by rw [wsum, if_neg (h a (by simp)), wsum_zero l p fun b hb => h b (by simp [hb])]; rfl
theorem wsum_arc : ∀ (l : List Arc) (places : Nat) (p : Nat), ArcsIn places l → wsum l p = 0 ∨ ∃ a ∈ l, a.place.toNat = p ∧ wsum l p = a.weight
 | [], _, _, _ => .inl rfl
 | a :: l, places, p, h => by
  have hl : ArcsIn places l := ⟨fun b hb => h.place b (by simp [hb]), fun b hb => h.weight b (by simp [hb]), (List.pairwise_cons.1 h.ord).2⟩
  by_cases e : a.place.toNat = p
  ·have hz := wsum_zero l p fun b hb => by
    have h1 := (List.pairwise_cons.1 h.ord).1 b hb
    have h2 := h.place a (by simp)
    omega
   exact .inr ⟨a, by simp, e, by rw [wsum, if_pos e, hz]; omega⟩
  ·rcases wsum_arc l places p hl with h1 | ⟨b, hb, h1, h2⟩
   ·exact .inl (by rw [wsum, if_neg e, h1]; rfl)
   ·exact .inr ⟨b, by simp [hb], h1, by rw [wsum, if_neg e, h2]; omega⟩
theorem wsum_bound {l : List Arc} {places p : Nat} (h : ArcsIn places l) : 0 ≤ wsum l p ∧ wsum l p ≤ 8 := by
 rcases wsum_arc l places p h with h1 | ⟨a, ha, _, h2⟩
 ·omega
 ·have := h.weight a ha; omega
theorem enB_wsum {m : List Int} {t : Tr} (h : ArcsIn m.length t.inn) (he : enB m t = true) (p : Nat) (hp : 0 ≤ m.getD p 0) : wsum t.inn p ≤ m.getD p 0 := by
 rcases wsum_arc t.inn _ p h with h1 | ⟨a, ha, h1, h2⟩
 ·omega
 ·rw [enB, Bool.not_eq_true', List.any_eq_false] at he
  have := he a ha
  simp only [lacksB, decide_eq_true_eq] at this
  rw [h1] at this
  omega
theorem firedL_getD {m : List Int} {t : Tr} (h1 : ArcsIn m.length t.inn) (h2 : ArcsIn m.length t.out) (p : Nat) : (firedL t m).getD p 0 = m.getD p 0 - wsum t.inn p + wsum t.out p := by
 rw [firedL, applyA_getD 1 t.out _ p (by rw [applyA_length]; exact h2), applyA_getD (-1) t.inn m p h1]
 omega
theorem mem_getD {l : List Int} {x : Int} (h : x ∈ l) : ∃ p, p < l.length ∧ l.getD p 0 = x := by
 obtain ⟨i, hi, rfl⟩ := List.mem_iff_getElem.1 h
 exact ⟨i, hi, by simp [List.getD, List.getElem?_eq_getElem hi]⟩
theorem firedL_bound {m : List Int} {t : Tr} {B : Int} (h1 : ArcsIn m.length t.inn) (h2 : ArcsIn m.length t.out) (he : enB m t = true) (hm : ∀ x ∈ m, 0 ≤ x ∧ x ≤ B) : ∀ x ∈ firedL t m, 0 ≤ x ∧ x ≤ B + 8 := by
 intro x hx
 obtain ⟨p, hp, rfl⟩ := mem_getD hx
 rw [firedL_length] at hp
 have hb := hm _ (getD_mem m p 0 hp)
 have e1 := enB_wsum h1 he p hb.1
 have e2 := wsum_bound (p := p) h1
 have e3 := wsum_bound (p := p) h2
 rw [firedL_getD h1 h2 p]
 omega
theorem dot_set : ∀ (f m : List Int) (k : Nat) (x : Int), k < m.length → f.length = m.length → dot f (m.set k x) = dot f m + f.getD k 0 * (x - m.getD k 0)
 | _, [], k, _, h, _ => by simp at h
 | [], _ :: _, _, _, _, h => by simp at h
 | a :: f, b :: m, 0, x, _, _ => by simp [dot, Int.mul_sub]; omega
 | a :: f, b :: m, k + 1, x, h, hl => by
  simp only [List.set_cons_succ, dot, List.getD_cons_succ]
  rw [dot_set f m k x (by simpa using h) (by simpa using hl)]
  omega
theorem dot_applyA (s : Int) (f : List Int) : ∀ (l : List Arc) (m : List Int), (∀ a ∈ l, 0 ≤ a.place ∧ a.place < m.length) → f.length = m.length → dot f (applyA s m l) = dot f m + s * dotA f l
 | [], m, _, _ => by simp [applyA, dotA]
 | a :: l, m, h, hl => by
  have ha := h a (by simp)
  rw [applyA, dot_applyA s f l _ (by intro b hb; rw [List.length_set]; exact h b (by simp [hb])) (by rw [List.length_set]; exact hl), dot_set f m _ _ (by omega) hl, dotA]
  rw [show m.getD a.place.toNat 0 + s * a.weight - m.getD a.place.toNat 0 = s * a.weight by omega, Int.mul_add, Int.mul_left_comm]
  omega
theorem dot_fired {f m : List Int} {t : Tr} (h1 : ArcsIn m.length t.inn) (h2 : ArcsIn m.length t.out) (hl : f.length = m.length) : dot f (firedL t m) = dot f m + effT f t := by
 rw [firedL, dot_applyA 1 f t.out _ (by intro b hb; rw [applyA_length]; exact h2.place b hb) (by rw [applyA_length]; exact hl), dot_applyA (-1) f t.inn m h1.place hl, effT]
 omega
end Go.Proofs.YtljpfdehnjemlaaGreatDoor
