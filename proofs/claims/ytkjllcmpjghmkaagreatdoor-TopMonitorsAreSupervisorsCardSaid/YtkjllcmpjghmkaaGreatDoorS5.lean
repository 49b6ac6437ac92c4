/-
 Contracts: paths of the search; Reverse of a list.
-/
import Derived.Test.YtkjllcmpjghmkaaGreatDoorN17
import Derived.Test.YtkjllcmpjghmkaaGreatDoorS4
set_option linter.unusedSimpArgs false
set_option linter.unusedVariables false
namespace Go.Proofs.YtkjllcmpjghmkaaGreatDoor
open Go.Eng Go.RowKit
def wsum : List Arc → Nat → Int
 | [], _ => 0
 | a :: l, p => (if a.place.toNat = p then a.weight else 0) + wsum l p
theorem z4i (l : List Int) (k p : Nat) (x : Int) (hk : k < l.length) : (l.set k x).getD p 0 = if k = p then x else l.getD p 0 := by
 by_cases h : k = p
 ·subst h; rw [if_pos rfl, z8A l k x 0 hk]
 ·rw [if_neg h]; simp [List.getD, List.getElem?_set_ne h]
theorem z48 (s : Int) : ∀ (l : List Arc) (m : List Int) (p : Nat), ArcsIn m.length l → (z09 s m l).getD p 0 = m.getD p 0 + s * wsum l p
 | [], m, p, _ => by simp [z09, wsum]
 | a :: l, m, p, h => by
  have ha := h.place a (by simp)
  have hl : ArcsIn (m.set a.place.toNat (m.getD a.place.toNat 0 + s * a.weight)).length l := by
   rw [List.length_set]
   exact ⟨fun b hb => h.place b (by simp [hb]), fun b hb => h.weight b (by simp [hb]), (List.pairwise_cons.1 h.ord).2⟩
  rw [z09, z48 s l _ p hl, z4i m _ p _ (by omega), wsum]
  by_cases e : a.place.toNat = p
  ·rw [if_pos e, if_pos e, e, Int.mul_add]; omega
  ·rw [if_neg e, if_neg e, Int.zero_add]
theorem z9n : ∀ (l : List Arc) (p : Nat), (∀ a ∈ l, a.place.toNat ≠ p) → wsum l p = 0
 | [], _, _ => rfl
 | a :: l, p, h => by rw [wsum, if_neg (h a (by simp)), z9n l p fun b hb => h b (by simp [hb])]; rfl
theorem z8m : ∀ (l : List Arc) (places : Nat) (p : Nat), ArcsIn places l → wsum l p = 0 ∨ ∃ a ∈ l, a.place.toNat = p ∧ wsum l p = a.weight
 | [], _, _, _ => .inl rfl
 | a :: l, places, p, h => by
  have hl : ArcsIn places l := ⟨fun b hb => h.place b (by simp [hb]), fun b hb => h.weight b (by simp [hb]), (List.pairwise_cons.1 h.ord).2⟩
  by_cases e : a.place.toNat = p
  ·have hz := z9n l p fun b hb => by
    have h1 := (List.pairwise_cons.1 h.ord).1 b hb
    have h2 := h.place a (by simp)
    omega
   exact .inr ⟨a, by simp, e, by rw [wsum, if_pos e, hz]; omega⟩
  ·rcases z8m l places p hl with h1 | ⟨b, hb, h1, h2⟩
   ·exact .inl (by rw [wsum, if_neg e, h1]; rfl)
   ·exact .inr ⟨b, by simp [hb], h1, by rw [wsum, if_neg e, h2]; omega⟩
theorem z7F {l : List Arc} {places p : Nat} (h : ArcsIn places l) : 0 ≤ wsum l p ∧ wsum l p ≤ 8 := by
 rcases z8m l places p h with h1 | ⟨a, ha, _, h2⟩
 ·omega
 ·have := h.weight a ha; omega
theorem zhv {m : List Int} {t : Tr} (h : ArcsIn m.length t.inn) (he : enB m t = true) (p : Nat) (hp : 0 ≤ m.getD p 0) : wsum t.inn p ≤ m.getD p 0 := by
 rcases z8m t.inn _ p h with h1 | ⟨a, ha, h1, h2⟩
 ·omega
 ·rw [enB, Bool.not_eq_true', List.any_eq_false] at he
  have := he a ha
  simp only [z34, decide_eq_true_eq] at this
  rw [h1] at this
  omega
theorem z3Z {m : List Int} {t : Tr} (h1 : ArcsIn m.length t.inn) (h2 : ArcsIn m.length t.out) (p : Nat) : (z05 t m).getD p 0 = m.getD p 0 - wsum t.inn p + wsum t.out p := by
 rw [z05, z48 1 t.out _ p (by rw [z0g]; exact h2), z48 (-1) t.inn m p h1]
 omega
theorem zh6 {l : List Int} {x : Int} (h : x ∈ l) : ∃ p, p < l.length ∧ l.getD p 0 = x := by
 obtain ⟨i, hi, rfl⟩ := List.mem_iff_getElem.1 h
 exact ⟨i, hi, by simp [List.getD, List.getElem?_eq_getElem hi]⟩
theorem zag {m : List Int} {t : Tr} {B : Int} (h1 : ArcsIn m.length t.inn) (h2 : ArcsIn m.length t.out) (he : enB m t = true) (hm : ∀ x ∈ m, 0 ≤ x ∧ x ≤ B) : ∀ x ∈ z05 t m, 0 ≤ x ∧ x ≤ B + 8 := by
 intro x hx
 obtain ⟨p, hp, rfl⟩ := zh6 hx
 rw [z0y] at hp
 have hb := hm _ (z01 m p 0 hp)
 have e1 := zhv h1 he p hb.1
 have e2 := z7F (p := p) h1
 have e3 := z7F (p := p) h2
 rw [z3Z h1 h2 p]
 omega
theorem zfJ : ∀ (f m : List Int) (k : Nat) (x : Int), k < m.length → f.length = m.length → dot f (m.set k x) = dot f m + f.getD k 0 * (x - m.getD k 0)
 | _, [], k, _, h, _ => by simp at h
 | [], _ :: _, _, _, _, h => by simp at h
 | a :: f, b :: m, 0, x, _, _ => by simp [dot, Int.mul_sub]; omega
 | a :: f, b :: m, k + 1, x, h, hl => by
  simp only [List.set_cons_succ, dot, List.getD_cons_succ]
  rw [zfJ f m k x (by simpa using h) (by simpa using hl)]
  omega
theorem z4V (s : Int) (f : List Int) : ∀ (l : List Arc) (m : List Int), (∀ a ∈ l, 0 ≤ a.place ∧ a.place < m.length) → f.length = m.length → dot f (z09 s m l) = dot f m + s * dotA f l
 | [], m, _, _ => by simp [z09, dotA]
 | a :: l, m, h, hl => by
  have ha := h a (by simp)
  rw [z09, z4V s f l _ (by intro b hb; rw [List.length_set]; exact h b (by simp [hb])) (by rw [List.length_set]; exact hl), zfJ f m _ _ (by omega) hl, dotA]
  rw [show m.getD a.place.toNat 0 + s * a.weight - m.getD a.place.toNat 0 = s * a.weight by omega, Int.mul_add, Int.mul_left_comm]
  omega
theorem z71 {f m : List Int} {t : Tr} (h1 : ArcsIn m.length t.inn) (h2 : ArcsIn m.length t.out) (hl : f.length = m.length) : dot f (z05 t m) = dot f m + effT f t := by
 rw [z05, z4V 1 f t.out _ (by intro b hb; rw [z0g]; exact h2.place b hb) (by rw [z0g]; exact hl), z4V (-1) f t.inn m h1.place hl, effT]
 omega
end Go.Proofs.YtkjllcmpjghmkaaGreatDoor
set_option linter.unusedSimpArgs false
set_option linter.unusedVariables false
namespace Go.Proofs.YtkjllcmpjghmkaaGreatDoor
open Go.Eng Go.RowKit
theorem z5U {a b : List Int} (hl : a.length = b.length) (h : ∀ p, p < a.length → a.getD p 0 = b.getD p 0) : a = b := by
 apply List.ext_getElem hl
 intro i h1 h2
 have := h i h1
 simpa [List.getD, List.getElem?_eq_getElem h1, List.getElem?_eq_getElem h2] using this
theorem z9F (l : List Int) (p : Nat) (h : p < l.length) : l.reverse.getD p 0 = l.getD (l.length - 1 - p) 0 := by
 simp [List.getD, List.getElem?_reverse h]
set_option maxHeartbeats 8000000 in
theorem zgh (l : List Int) (hl : l.length ≤ 1000000) : MCalls Tryz.prog 119 1 [.row 3 1 (ints l)] [.one (.own 0)] (.tup []) [.row 3 1 (ints l.reverse)] := by
 (refine MCalls.of_body Ty_ok mixed Tryz.func119 rfl (by kernel_rfl) Tryz.ntmps119 (by simp) (congrArg Array.toList Tryz.results119) (by simp) (by simp) ?_)
 simp only [z00]
 (repeat' (first | (with_reducible first | refine And.intro ?_ ?_ | refine aBl ?_ | (refine aS 4 [] ?_; intro K hK)) | ((with_reducible refine aGo ?_); simp only [go_sem]) | ((iterate 6 try ((fail_if_success with_reducible refine hK _ ?_ ?_ ?_); clear hK K)); with_reducible refine hK _ ?_ ?_ ?_; rotate_left; (focus (simp only [go_sem]; exact rfl)); clear hK K) | exact aZ | fail))
 refine z02 _ (by simp only [go_sem]; rfl) (Nat × List Int) (fun s => s.2.length = l.length ∧ 2 * s.1 ≤ l.length ∧ ∀ p, p < l.length → s.2.getD p 0 = if p < s.1 ∨ l.length ≤ p + s.1 then l.getD (l.length - 1 - p) 0 else l.getD p 0)
  (fun s => [(2, .one (.int .i64 s.1)), (3, .one (.int .i64 ((l.length : Int) - 1 - s.1)))]) (fun s _ => [.row 3 1 (ints s.2)]) (fun s => l.length - s.1) (0, l) ⟨rfl, by simp only; omega, fun p hp => by rw [if_neg (by simp only; omega)]⟩ ?_ ?_
 ·have e : (l.length : Int) - 1 - ((0 : Nat) : Int) = l.length - 1 := by omega
  simp only [e]
  (simp only [SubF, go_sem]; (try simp only [go_sem]); repeat' (first | exact True.intro | with_reducible refine And.intro ?_ ?_ | rfl | omega))
 rintro ⟨k, X⟩ ⟨hX, hk, hp⟩ L hL
 simp only at hX hk hp
 by_cases hlt : 2 * k + 1 < l.length
 ·have e1 : ((l.length : Int) - 1 - k).toNat = l.length - 1 - k := by omega
  have e2 : ((k : Nat) : Int).toNat = k := by omega
  have e3 : (l.length : Int) - 1 - k - 1 = l.length - 1 - ((k + 1 : Nat) : Int) := by omega
  have a1 := z0s (l := X) (k := k) (by omega)
  have a2 := z0s (l := X) (k := l.length - 1 - k) (by omega)
  have a3 := z0r X
  have a4 := z0s (l := X.set k (X.getD (l.length - 1 - k) 0)) (k := l.length - 1 - k) (by rw [List.length_set]; omega)
  (simp only [go_sem] at hL ⊢)
  (repeat' (first | (with_reducible first | refine And.intro ?_ ?_ | refine aBl ?_ | (refine aS 4 [] ?_; intro K hK)) | ((with_reducible first | refine aGo ?_ | refine rP Ty_ok mixed 3 [0, 1, 4, 5, 8, 9] [.mid [⟨2, 0, false, true, false, [], []⟩, ⟨3, 0, false, true, false, [], []⟩, pe 6, pe 7, pe 10, pe 11, pe 12] 0, .one 13, .one 14, .one 15] ?_); simp only [e1, e2, a1, a2, a3, a4, hX, List.length_set, List.set_cons_zero, go_sem]) | ((with_reducible refine aCd ?_ ?_ (fun hb => ?_) (fun hb => ?_)); (iterate 2 simp only [e1, e2, a1, a2, a3, a4, hX, List.length_set, List.set_cons_zero, go_sem]); all_goals (simp only [e1, e2, a1, a2, a3, a4, hX, List.length_set, List.set_cons_zero, go_sem] at hb; try simp only [bls] at hb)) | ((iterate 6 try ((fail_if_success with_reducible refine hK _ ?_ ?_ ?_); clear hK K)); with_reducible refine hK _ ?_ ?_ ?_; rotate_left; (focus (simp only [e1, e2, a1, a2, a3, a4, hX, List.length_set, List.set_cons_zero, go_sem]; exact rfl)); clear hK K) | exact aZ | fail))
  all_goals first | omega | skip
  refine hL _ (k + 1, (X.set k (X.getD (l.length - 1 - k) 0)).set (l.length - 1 - k) (X.getD k 0)) ⟨by simp [hX], by simp only; omega, fun p hpl => ?_⟩ ?_ (by simp only; omega)
  ·have h1 := hp k (by omega)
   have h2 := hp (l.length - 1 - k) (by omega)
   have h3 := hp p hpl
   rw [if_neg (by omega)] at h1 h2
   simp only
   rw [z4i _ _ _ _ (by rw [List.length_set]; omega), z4i _ _ _ _ (by omega), h1, h2]
   by_cases q1 : l.length - 1 - k = p
   ·rw [if_pos q1, if_pos (by omega), show l.length - 1 - p = k by omega]
   ·rw [if_neg q1]
    by_cases q2 : k = p
    ·rw [if_pos q2, if_pos (by omega), q2]
    ·rw [if_neg q2, h3]
     by_cases q3 : p < k ∨ l.length ≤ p + k
     ·rw [if_pos q3, if_pos (by omega)]
     ·rw [if_neg q3, if_neg (by omega)]
  ·simp only [← e3]
   (simp only [SubF, go_sem]; (try simp only [go_sem]); repeat' (first | exact True.intro | with_reducible refine And.intro ?_ ?_ | rfl | omega))
 ·have hfin : X = l.reverse := by
   refine z5U (by simp [hX]) fun p hpl => ?_
   rw [hX] at hpl
   rw [hp p hpl, z9F l p hpl]
   split
   ·rfl
   ·rw [show l.length - 1 - p = p by omega]
  (simp only [go_sem] at hL ⊢)
  (repeat' (first | (with_reducible first | refine And.intro ?_ ?_ | refine aBl ?_ | (refine aS 4 [] ?_; intro K hK)) | ((with_reducible first | refine aGo ?_ | refine rP Ty_ok mixed 3 [0, 1, 4, 5, 8, 9] [.mid [⟨2, 0, false, true, false, [], []⟩, ⟨3, 0, false, true, false, [], []⟩, pe 6, pe 7, pe 10, pe 11, pe 12] 0, .one 13, .one 14, .one 15] ?_); simp only [go_sem]) | ((with_reducible refine aCd ?_ ?_ (fun hb => ?_) (fun hb => ?_)); (iterate 2 simp only [go_sem]); all_goals (simp only [go_sem] at hb; try simp only [bls] at hb)) | ((iterate 6 try ((fail_if_success with_reducible refine hK _ ?_ ?_ ?_); clear hK K)); with_reducible refine hK _ ?_ ?_ ?_; rotate_left; (focus (simp only [go_sem]; exact rfl)); clear hK K) | exact aZ | fail))
  all_goals first | omega | skip
  rw [hfin]
  all_goals (try simp only [retF, retM, retL, resV, resW, retO, resAV, AV.bor, D.bor, D.bor1, D.bor0, AV.flatOwn, D.flatOwn, D.flat, AV.tagged, D.tagged, AObj.plain, go_sem])
  all_goals repeat' (first | exact True.intro | with_reducible refine And.intro ?_ ?_ | rfl)
def backF (l : List SN) : Nat → Int → List Int
 | 0, _ => []
 | f + 1, i => if 0 ≤ (l.getD i.toNat SN.no).before then (l.getD i.toNat SN.no).tr :: backF l f (l.getD i.toNat SN.no).before else []
def pathF (l : List SN) (i : Int) : List Int := (backF l (i.toNat + 1) i).reverse
theorem z54 {l : List SN} {pl : Nat} (hN : NodesOk pl l) : ∀ (f g : Nat) (i : Int), 0 ≤ i → i < l.length → i < f → i < g → backF l f i = backF l g i
 | 0, _, i, h0, _, h1, _ => by omega
 | _ + 1, 0, i, h0, _, _, h1 => by omega
 | f + 1, g + 1, i, h0, hl, h1, h2 => by
  have := hN.back i.toNat (by omega)
  simp only [backF]
  split
  ·rw [z54 hN f g _ (by assumption) (by omega) (by omega) (by omega)]
  ·rfl
set_option maxHeartbeats 8000000 in
theorem zeH (pl : Nat) (l : List SN) (es : List (List D)) (sh i : Int) (hl : l.length ≤ 10000) (hN : NodesOk pl l) (h0 : 0 ≤ i) (hi : i < l.length) :
  ACalls Tryz.prog 125 [.one (.ref [.list (snsD l), .list es, .unk, .int .i64 sh]), .one (.int .i64 i)] (.one (.own 0)) [.row 3 1 (ints (pathF l i))] := by
 have hB : pathF l i = ([] ++ backF l (i.toNat + 1) i).reverse := by rw [List.nil_append]; rfl
 generalize pathF l i = R at *
 (refine ACalls.of_body_own Ty_ok mixed Tryz.func125 rfl (by kernel_rfl) Tryz.ntmps125 (by simp) (congrArg Array.toList Tryz.results125) ?_)
 simp only [z00]
 (repeat' (first | (with_reducible first | refine aBl ?_ | (refine aS 6 [] ?_; intro K hK)) | ((with_reducible refine aGo ?_); simp only [go_sem]) | ((iterate 6 try ((fail_if_success with_reducible refine hK _ ?_ ?_ ?_); clear hK K)); with_reducible refine hK _ ?_ ?_ ?_; rotate_left; (focus (simp only [go_sem]; exact rfl)); clear hK K) | fail))
 refine z02 _ (by simp only [go_sem]; rfl) (Nat × Int × List Int) (fun s => 0 ≤ s.2.1 ∧ s.2.1 < l.length ∧ s.2.1 < s.1 ∧ R = (s.2.2 ++ backF l s.1 s.2.1).reverse ∧ s.2.2.length + s.2.1.toNat ≤ 10000)
  (fun s => [(5, .one (.own 1)), (1, .one (.int .i64 s.2.1))]) (fun s _ => [.row 3 1 [], .row 3 1 (ints s.2.2)]) (fun s => s.2.1.toNat) (i.toNat + 1, i, []) ⟨h0, hi, by simp only; omega, hB, by simp only [List.length_nil]; omega⟩ ?_ ?_
 ·simp only [← zhi]
  (simp only [SubF, go_sem]; (try simp only [go_sem]); repeat' (first | exact True.intro | with_reducible refine And.intro ?_ ?_ | rfl | omega))
 rintro ⟨f, i, out⟩ ⟨h0, hi, hf, hR, hol⟩ L hL
 simp only at h0 hi hf hR hol
 obtain ⟨f, rfl⟩ : ∃ g, f = g + 1 := ⟨f - 1, by omega⟩
 have hat := z1X (l := l) (k := i.toNat) (by omega) [.nil, .int .i64 0, .int .i64 0]
 have hat2 := z1X (l := l) (k := i.toNat) (by omega) []
 have hbk := hN.back i.toNat (by omega)
 rw [backF] at hR
 generalize l.getD i.toNat SN.no = x at *
 by_cases hb0 : 0 ≤ x.before
 ·rw [if_pos hb0] at hR
  (simp only [go_sem] at hL ⊢)
  (repeat' (first | (with_reducible first | refine And.intro ?_ ?_ | refine aBl ?_ | (refine aS 6 [] ?_; intro K hK)) | ((with_reducible refine aGo ?_); simp only [hat, hat2, go_sem]) | ((with_reducible refine aCd ?_ ?_ (fun hb => ?_) (fun hb => ?_)); (iterate 2 simp only [hat, hat2, go_sem]); all_goals (simp only [hat, hat2, go_sem] at hb; try simp only [bls] at hb)) | ((iterate 6 try ((fail_if_success with_reducible refine hK _ ?_ ?_ ?_); clear hK K)); with_reducible refine hK _ ?_ ?_ ?_; rotate_left; (focus (simp only [hat, hat2, go_sem]; exact rfl)); clear hK K) | exact aZ | fail))
  all_goals first | omega | skip
  refine hL _ (f, x.before, out ++ [x.tr]) ⟨hb0, by simp only; omega, by simp only; omega, by rw [hR]; simp, by simp only [List.length_append, List.length_singleton]; omega⟩ ?_ (by simp only; omega)
  simp only [← z0f]
  (simp only [SubF, z0e, go_sem]; (try simp only [z0e, go_sem]); repeat' (first | exact True.intro | with_reducible refine And.intro ?_ ?_ | rfl | omega))
 ·rw [if_neg hb0, List.append_nil] at hR
  have hRv := zgh out (by omega)
  (simp only [go_sem] at hL ⊢)
  (repeat' (first | (with_reducible first | refine And.intro ?_ ?_ | refine aBl ?_ | (refine aS 6 [] ?_; intro K hK)) | ((with_reducible refine aGo ?_); simp only [hat, hat2, go_sem]) | ((with_reducible refine aCd ?_ ?_ (fun hb => ?_) (fun hb => ?_)); (iterate 2 simp only [hat, hat2, go_sem]); all_goals (simp only [hat, hat2, go_sem] at hb; try simp only [bls] at hb)) | ((iterate 6 try ((fail_if_success with_reducible refine hK _ ?_ ?_ ?_); clear hK K)); with_reducible refine hK _ ?_ ?_ ?_; rotate_left; (focus (simp only [hat, hat2, go_sem]; exact rfl)); clear hK K) | exact aZ | fail))
  all_goals first | omega | skip
  (refine z0Z [] [1] (hRv) ?_ ?_; (focus (simp only [mside, z2a, go_sem]; (first | done | exact (by decide) | exact ⟨by decide, fun t ht => ht.elim⟩ | (refine ⟨by decide, ?_⟩; simp; done)))); simp only [go_sem])
  (repeat' (first | (with_reducible (refine aS 6 [] ?_; intro K hK)) | ((with_reducible refine aGo ?_); simp only [go_sem]) | ((iterate 6 try ((fail_if_success with_reducible refine hK _ ?_ ?_ ?_); clear hK K)); with_reducible refine hK _ ?_ ?_ ?_; rotate_left; (focus (simp only [go_sem]; exact rfl)); clear hK K) | fail))
  all_goals first | omega | skip
  rw [hR]
end Go.Proofs.YtkjllcmpjghmkaaGreatDoor
