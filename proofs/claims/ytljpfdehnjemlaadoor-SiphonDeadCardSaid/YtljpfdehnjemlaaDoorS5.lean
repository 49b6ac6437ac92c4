/-
 Contracts: paths of the search; Reverse of a list.
-/
import Derived.Test.YtljpfdehnjemlaaDoorS4
import Derived.Test.YtljpfdehnjemlaaDoorN18
set_option linter.unusedSimpArgs false
set_option linter.unusedVariables false
namespace Go.Proofs.YtljpfdehnjemlaaDoor
open Go.Eng Go.RowKit
theorem ext_getD {a b : List Int} (hl : a.length = b.length) (h : ∀ p, p < a.length → a.getD p 0 = b.getD p 0) : a = b := by
 apply List.ext_getElem hl
 intro i h1 h2
 have := h i h1
 simpa [List.getD, List.getElem?_eq_getElem h1, List.getElem?_eq_getElem h2] using this
theorem reverse_getD (l : List Int) (p : Nat) (h : p < l.length) : l.reverse.getD p 0 = l.getD (l.length - 1 - p) 0 := by
 simp [List.getD, List.getElem?_reverse h]
set_option maxHeartbeats 8000000 in
theorem Reverse_c (l : List Int) (hl : l.length ≤ 1000000) : MCalls Tryd.prog 32 1 [.row 3 1 (ints l)] [.one (.own 0)] (.tup []) [.row 3 1 (ints l.reverse)] := by
 (refine MCalls.of_body Ty_ok mixed Tryd.func32 rfl (by kernel_rfl) Tryd.ntmps32 (by simp) (congrArg Array.toList Tryd.results32) (by simp) (by simp) ?_)
 simp only [slotsOf]
 (repeat' (first | (with_reducible first | exact True.intro | refine And.intro ?_ ?_ | refine aBl ?_ | (refine aS 4 [] ?_; intro K hK)) | ((with_reducible first | refine aGo ?_ | refine rP Ty_ok mixed 3 [0, 1, 4, 5, 8, 9] [.mid [⟨2, 0, false, true, false, [], []⟩, ⟨3, 0, false, true, false, [], []⟩, pe 6, pe 7, pe 10, pe 11, pe 12] 0, .one 13, .one 14, .one 15] ?_); simp only [go_sem]) | ((with_reducible refine aCd ?_ ?_ (fun hb => ?_) (fun hb => ?_)); (iterate 2 simp only [go_sem]); all_goals (simp only [go_sem] at hb; try simp only [bls] at hb)) | ((iterate 6 try ((fail_if_success with_reducible refine hK _ ?_ ?_ ?_); clear hK K)); with_reducible refine hK _ ?_ ?_ ?_; rotate_left; (focus (simp only [go_sem]; exact rfl)); clear hK K) | (with_reducible refine aGs (fun hg0 => ?_) (fun hg0 => ?_) <;> first | (with_reducible first | exact aF1 hg0 | exact aF2 hg0) | (simp only [hg0, go_sem])) | (with_reducible refine aNk ?_; intro bnil hnil; try simp only []) | exact aZ | fail))
 refine awp_loop _ (by simp only [go_sem]; rfl) (Nat × List Int) (fun s => s.2.length = l.length ∧ 2 * s.1 ≤ l.length ∧ ∀ p, p < l.length → s.2.getD p 0 = if p < s.1 ∨ l.length ≤ p + s.1 then l.getD (l.length - 1 - p) 0 else l.getD p 0)
  (fun s => [(2, .one (.int .i64 s.1)), (3, .one (.int .i64 ((l.length : Int) - 1 - s.1)))]) (fun s _ => [.row 3 1 (ints s.2)]) (fun s => l.length - s.1) (0, l) ⟨rfl, by simp only; omega, fun p hp => by rw [if_neg (by simp only; omega)]⟩ ?_ ?_
 ·have e : (l.length : Int) - 1 - ((0 : Nat) : Int) = l.length - 1 := by omega
  simp only [e]
  (simp only [SubF, go_sem]; (try simp only [go_sem]); repeat' (first | exact True.intro | with_reducible refine And.intro ?_ ?_ | rfl | omega))
 rintro ⟨k, X⟩ ⟨hX, hk, hp⟩ L hL
 simp only at hX hk hp
 by_cases hlt : 2 * k + 1 < l.length
 ·have e1 : ((l.length : Int) - 1 - k).toNat = l.length - 1 - k := by omega
  have e2 : ((k : Nat) : Int).toNat = k := by omega
  have e3 : (l.length : Int) - 1 - k - 1 = l.length - 1 - ((k + 1 : Nat) : Int) := by omega
  have a1 := ints_at (l := X) (k := k) (by omega)
  have a2 := ints_at (l := X) (k := l.length - 1 - k) (by omega)
  have a3 := ints_length X
  have a4 := ints_at (l := X.set k (X.getD (l.length - 1 - k) 0)) (k := l.length - 1 - k) (by rw [List.length_set]; omega)
  (simp only [go_sem] at hL ⊢)
  (repeat' (first | (with_reducible first | exact True.intro | refine And.intro ?_ ?_ | refine aBl ?_ | (refine aS 4 [] ?_; intro K hK)) | ((with_reducible first | refine aGo ?_ | refine rP Ty_ok mixed 3 [0, 1, 4, 5, 8, 9] [.mid [⟨2, 0, false, true, false, [], []⟩, ⟨3, 0, false, true, false, [], []⟩, pe 6, pe 7, pe 10, pe 11, pe 12] 0, .one 13, .one 14, .one 15] ?_); simp only [e1, e2, a1, a2, a3, a4, hX, List.length_set, List.set_cons_zero, go_sem]) | ((with_reducible refine aCd ?_ ?_ (fun hb => ?_) (fun hb => ?_)); (iterate 2 simp only [e1, e2, a1, a2, a3, a4, hX, List.length_set, List.set_cons_zero, go_sem]); all_goals (simp only [e1, e2, a1, a2, a3, a4, hX, List.length_set, List.set_cons_zero, go_sem] at hb; try simp only [bls] at hb)) | ((iterate 6 try ((fail_if_success with_reducible refine hK _ ?_ ?_ ?_); clear hK K)); with_reducible refine hK _ ?_ ?_ ?_; rotate_left; (focus (simp only [e1, e2, a1, a2, a3, a4, hX, List.length_set, List.set_cons_zero, go_sem]; exact rfl)); clear hK K) | (with_reducible refine aGs (fun hg0 => ?_) (fun hg0 => ?_) <;> first | (with_reducible first | exact aF1 hg0 | exact aF2 hg0) | (simp only [hg0, e1, e2, a1, a2, a3, a4, hX, List.length_set, List.set_cons_zero, go_sem])) | (with_reducible refine aNk ?_; intro bnil hnil; try simp only []) | exact aZ | fail))
  all_goals first | omega | skip
  refine hL _ (k + 1, (X.set k (X.getD (l.length - 1 - k) 0)).set (l.length - 1 - k) (X.getD k 0)) ⟨by simp [hX], by simp only; omega, fun p hpl => ?_⟩ ?_ (by simp only; omega)
  ·have h1 := hp k (by omega)
   have h2 := hp (l.length - 1 - k) (by omega)
   have h3 := hp p hpl
   rw [if_neg (by omega)] at h1 h2
   simp only
   rw [set_getD' _ _ _ _ (by rw [List.length_set]; omega), set_getD' _ _ _ _ (by omega), h1, h2]
   by_cases q1 : l.length - 1 - k = p
   ·rw [if_pos q1, if_pos (by omega), show l.length - 1 - p = k by omega]
   ·rw [if_neg q1]
    by_cases q2 : k = p
    ·rw [if_pos q2, if_pos (by omega), q2]
    ·rw [if_neg q2, h3]
     by_cases q3 : p < k ∨ l.length ≤ p + k
     ·rw [if_pos q3, if_pos (by omega)]
     ·rw [if_neg q3, if_neg (by omega)]
  ·simp only [← e3]
   (simp only [SubF, go_sem]; (try simp only [go_sem]); repeat' (first | exact True.intro | with_reducible refine And.intro ?_ ?_ | rfl | omega))
 ·have hfin : X = l.reverse := by
   refine ext_getD (by simp [hX]) fun p hpl => ?_
   rw [hX] at hpl
   rw [hp p hpl, reverse_getD l p hpl]
   split
   ·rfl
   ·rw [show l.length - 1 - p = p by omega]
  (simp only [go_sem] at hL ⊢)
  (repeat' (first | (with_reducible first | exact True.intro | refine And.intro ?_ ?_ | refine aBl ?_ | (refine aS 4 [] ?_; intro K hK)) | ((with_reducible first | refine aGo ?_ | refine rP Ty_ok mixed 3 [0, 1, 4, 5, 8, 9] [.mid [⟨2, 0, false, true, false, [], []⟩, ⟨3, 0, false, true, false, [], []⟩, pe 6, pe 7, pe 10, pe 11, pe 12] 0, .one 13, .one 14, .one 15] ?_); simp only [go_sem]) | ((with_reducible refine aCd ?_ ?_ (fun hb => ?_) (fun hb => ?_)); (iterate 2 simp only [go_sem]); all_goals (simp only [go_sem] at hb; try simp only [bls] at hb)) | ((iterate 6 try ((fail_if_success with_reducible refine hK _ ?_ ?_ ?_); clear hK K)); with_reducible refine hK _ ?_ ?_ ?_; rotate_left; (focus (simp only [go_sem]; exact rfl)); clear hK K) | (with_reducible refine aGs (fun hg0 => ?_) (fun hg0 => ?_) <;> first | (with_reducible first | exact aF1 hg0 | exact aF2 hg0) | (simp only [hg0, go_sem])) | (with_reducible refine aNk ?_; intro bnil hnil; try simp only []) | exact aZ | fail))
  all_goals first | omega | skip
  rw [hfin]
  all_goals (try simp only [retF, retM, retL, resV, resW, retO, resAV, AV.bor, D.bor, D.bor1, D.bor0, AV.flatOwn, D.flatOwn, D.flat, AV.tagged, D.tagged, AObj.plain, go_sem])
  all_goals repeat' (first | exact True.intro | with_reducible refine And.intro ?_ ?_ | rfl)
def backF (l : List SN) : Nat → Int → List Int
 | 0, _ => []
 | f + 1, i => if 0 ≤ (l.getD i.toNat SN.no).before then (l.getD i.toNat SN.no).tr :: backF l f (l.getD i.toNat SN.no).before else []
def pathF (l : List SN) (i : Int) : List Int := (backF l (i.toNat + 1) i).reverse
end Go.Proofs.YtljpfdehnjemlaaDoor
