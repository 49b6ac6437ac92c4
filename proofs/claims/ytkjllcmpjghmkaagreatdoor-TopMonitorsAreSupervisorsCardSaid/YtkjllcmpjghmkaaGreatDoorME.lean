/-
 Contracts: automaton.Check, Equal, the edges of a state.
-/
import Derived.Test.YtkjllcmpjghmkaaGreatDoorWA
import Derived.Test.YtkjllcmpjghmkaaGreatDoorMB
set_option linter.unusedSimpArgs false
set_option linter.unusedVariables false
namespace Go.Proofs.YtkjllcmpjghmkaaGreatDoor
open Go.Eng Go.RowKit
attribute [local go_sem] List.take_length
end Go.Proofs.YtkjllcmpjghmkaaGreatDoor
set_option linter.unusedSimpArgs false
set_option linter.unusedVariables false
namespace Go.Proofs.YtkjllcmpjghmkaaGreatDoor
open Go.Eng Go.RowKit
def below (xs : List Int) (x : Int) : Nat := (xs.filter fun z => decide (z < x)).length
theorem zhE (xs : List Int) (x : Int) : below xs x ≤ xs.length := List.length_filter_le _ _
theorem zjD (i j : Nat) (hj : i + j ≤ 4611686018427387904) : IntKind.i64.wrap ((IntKind.u64.wrap ((i : Int) + (j : Int))).fdiv (2 ^ min 1 64)) = (((i + j) / 2 : Nat) : Int) := by
 rw [zgp _ (by omega) (by omega), show min 1 64 = 1 from rfl, show ((i : Int) + (j : Int)) = ((i + j : Nat) : Int) by omega, zhr]
 exact z12 ((z3r _).2 ⟨by omega, by omega⟩)
theorem zhF (xs : List Int) (x : Int) (k : Nat) (hk : k ≤ xs.length) (h1 : ∀ t, t < k → xs.getD t 0 < x) (h2 : ∀ t, k ≤ t → t < xs.length → x ≤ xs.getD t 0) : below xs x = k := by
 have e : xs = xs.take k ++ xs.drop k := (List.take_append_drop k xs).symm
 have e1 : (xs.take k).filter (fun z => decide (z < x)) = xs.take k := by
  rw [List.filter_eq_self]
  intro z hz
  obtain ⟨t, ht, rfl⟩ := List.mem_iff_getElem.1 hz
  have htk : t < k := by simp at ht; omega
  have htl : t < xs.length := by simp at ht; omega
  have := h1 t htk
  simpa [List.getD, List.getElem?_eq_getElem htl] using this
 have e2 : (xs.drop k).filter (fun z => decide (z < x)) = [] := by
  rw [List.filter_eq_nil_iff]
  intro z hz
  obtain ⟨t, ht, rfl⟩ := List.mem_iff_getElem.1 hz
  have htl : k + t < xs.length := by simp at ht; omega
  have := h2 (k + t) (by omega) htl
  rw [List.getElem_drop]
  simp [List.getD, List.getElem?_eq_getElem htl] at this ⊢
  omega
 rw [below, e, List.filter_append, e1, e2]
 simp
 omega
theorem zhn (xs : List Int) (x : Int) (k : Nat) (hk : k ≤ xs.length) (h1 : ∀ t, t < k → xs.getD t 0 < x) (h2 : ∀ t, k ≤ t → t < xs.length → x ≤ xs.getD t 0) (hs : ∀ a b, a ≤ b → b < xs.length → xs.getD a 0 ≤ xs.getD b 0) :
  decide (x ∈ xs) = (decide (k < xs.length) && decide (xs.getD k 0 = x)) := by
 rw [Bool.eq_iff_iff]
 simp only [decide_eq_true_eq, Bool.and_eq_true]
 constructor
 ·intro hx
  obtain ⟨t, ht, rfl⟩ := List.mem_iff_getElem.1 hx
  have hg : xs.getD t 0 = xs[t] := by simp [List.getD, List.getElem?_eq_getElem ht]
  have hkt : k ≤ t := Nat.le_of_not_lt fun h => by have := h1 t h; omega
  have := hs k t hkt ht
  have := h2 k (Nat.le_refl _) (by omega)
  exact ⟨by omega, by omega⟩
 ·rintro ⟨hk, rfl⟩
  exact z01 xs k 0 hk
theorem zb0 {xs : List Int} (h : xs.Pairwise (· ≤ ·)) : ∀ a b, a ≤ b → b < xs.length → xs.getD a 0 ≤ xs.getD b 0 := by
 intro a b hab hb
 by_cases e : a = b
 ·subst e; exact Int.le_refl _
 ·have := (List.pairwise_iff_getElem.1 h) a b (by omega) hb (by omega)
  simpa [List.getD, List.getElem?_eq_getElem hb, List.getElem?_eq_getElem (show a < xs.length by omega)] using this
end Go.Proofs.YtkjllcmpjghmkaaGreatDoor
set_option linter.unusedSimpArgs false
set_option linter.unusedVariables false
namespace Go.Proofs.YtkjllcmpjghmkaaGreatDoor
open Go.Eng Go.RowKit
theorem zjh (l : List Int) (x : Int) (hn : l.length ≤ 1000000) : ACalls Tryz.prog 156 [.one (.list (ints l)), .one (.int .i64 x)] (.one (.int .i64 (z0E (fun z => decide (x = z)) 0 l))) [] := by
 (refine ACalls.of_body Ty_ok mixed Tryz.func156 rfl (by kernel_rfl) Tryz.ntmps156 (by simp) (congrArg Array.toList Tryz.results156) ?_)
 simp only [z00]
 (repeat' (first | (with_reducible first | refine aBl ?_ | (refine aS 6 [7, 8] ?_; intro K hK)) | ((with_reducible refine aGo ?_); simp only [go_sem]) | ((iterate 6 try ((fail_if_success with_reducible refine hK _ ?_ ?_ ?_); clear hK K)); with_reducible refine hK _ ?_ ?_ ?_; rotate_left; (focus (simp only [go_sem]; exact rfl)); clear hK K) | fail))
 refine z02 _ (by simp only [go_sem]; rfl) Nat (fun k => k ≤ l.length ∧ z0E (fun z => decide (x = z)) 0 l = z0E (fun z => decide (x = z)) k (l.drop k)) (fun k => [(8, .one (.int .i64 k))]) (fun _ H => H) (fun k => l.length - k) 0 ⟨by omega, by simp⟩ ?_ ?_
 ·(simp only [SubF, go_sem]; (try simp only [go_sem]); repeat' (first | exact True.intro | with_reducible refine And.intro ?_ ?_ | rfl | omega))
 ·rintro k ⟨hk, hres⟩ L hL
  (simp only [go_sem] at hL ⊢)
  (repeat' (first | (with_reducible first | refine And.intro ?_ ?_ | refine aBl ?_ | (refine aS 6 [7, 8] ?_; intro K hK)) | ((with_reducible refine aGo ?_); simp only [go_sem]) | ((with_reducible refine aCd ?_ ?_ (fun hb => ?_) (fun hb => ?_)); (iterate 2 simp only [go_sem]); all_goals (simp only [go_sem] at hb; try simp only [bls] at hb)) | ((iterate 6 try ((fail_if_success with_reducible refine hK _ ?_ ?_ ?_); clear hK K)); with_reducible refine hK _ ?_ ?_ ?_; rotate_left; (focus (simp only [go_sem]; exact rfl)); clear hK K) | exact aZ | fail))
  ·rw [z36 (d := 0) (by omega) hres, if_pos (by simpa using hb)]
  ·have h1 := z36 (d := 0) (by omega) hres
   rw [if_neg (by simpa using hb)] at h1
   exact hL _ (k + 1) ⟨by omega, h1⟩ (by (simp only [SubF, go_sem]; (try simp only [go_sem]); repeat' (first | exact True.intro | with_reducible refine And.intro ?_ ?_ | rfl | omega))) (by omega)
  ·rw [hres, z0z l k (by omega)]; rfl
theorem z2D (l : List Int) (x : Int) (hn : l.length ≤ 1000000) : ACalls Tryz.prog 117 [.one (.list (ints l)), .one (.int .i64 x)] (.one (.bool (decide (x ∈ l)))) [] := by
 have e : decide (x ∈ l) = decide (0 ≤ z0E (fun z => decide (x = z)) 0 l) := by
  rw [za5, Bool.eq_iff_iff]
  simp
 rw [e]
 (refine ACalls.of_body Ty_ok mixed Tryz.func117 rfl (by kernel_rfl) Tryz.ntmps117 (by simp) (congrArg Array.toList Tryz.results117) ?_)
 simp only [z00]
 (repeat' (first | (with_reducible (refine aS 5 [] ?_; intro K hK)) | ((with_reducible refine aGo ?_); simp only [go_sem]) | ((iterate 6 try ((fail_if_success with_reducible refine hK _ ?_ ?_ ?_); clear hK K)); with_reducible refine hK _ ?_ ?_ ?_; rotate_left; (focus (simp only [go_sem]; exact rfl)); clear hK K) | ((with_reducible refine cA (zjh l x hn) ?_); simp only [go_sem]) | fail))
set_option maxHeartbeats 1000000 in
theorem zg6 (xs : List Int) (m : Int) (hn : xs.length ≤ 1000000) : ACalls Tryz.prog 112 [.one (.list (ints xs)), .one (.int .i64 m)] (.one (.int .i64 (z0i xs m))) [] := by
 (refine ACalls.of_body Ty_ok mixed Tryz.func112 rfl (by kernel_rfl) Tryz.ntmps112 (by simp) (congrArg Array.toList Tryz.results112) ?_)
 simp only [z00]
 (repeat' (first | (with_reducible first | refine aBl ?_ | (refine aS 10 [] ?_; intro K hK)) | ((with_reducible refine aGo ?_); simp only [go_sem]) | ((iterate 6 try ((fail_if_success with_reducible refine hK _ ?_ ?_ ?_); clear hK K)); with_reducible refine hK _ ?_ ?_ ?_; rotate_left; (focus (simp only [go_sem]; exact rfl)); clear hK K) | fail))
 refine z02 _ (by simp only [go_sem]; rfl) Nat (fun k => k ≤ xs.length ∧ z0i xs m = z3g m (xs.drop k) (z6x xs k)) (fun k => [(9, .one (.int .i64 k))]) (fun _ H => H) (fun k => xs.length - k) 0 ⟨by omega, by simp [z0i, z6x]⟩ ?_ ?_
 ·(simp only [SubF, go_sem]; (try simp only [go_sem]); repeat' (first | exact True.intro | with_reducible refine And.intro ?_ ?_ | rfl | omega))
 ·rintro k ⟨hk, hres⟩ L hL
  (simp only [go_sem] at hL ⊢)
  (repeat' (first | (with_reducible first | refine And.intro ?_ ?_ | refine aBl ?_ | (refine aS 10 [] ?_; intro K hK)) | ((with_reducible refine aGo ?_); simp only [go_sem]) | ((with_reducible refine aCd ?_ ?_ (fun hb => ?_) (fun hb => ?_)); (iterate 2 simp only [go_sem]); all_goals (simp only [go_sem] at hb; try simp only [bls] at hb)) | ((iterate 6 try ((fail_if_success with_reducible refine hK _ ?_ ?_ ?_); clear hK K)); with_reducible refine hK _ ?_ ?_ ?_; rotate_left; (focus (simp only [go_sem]; exact rfl)); clear hK K) | exact aZ | fail))
  ·rw [z4W (by omega) hres, if_pos (by assumption)]
  ·rw [z2o] at hb
   rw [z4W (by omega) hres, if_neg (by omega), if_pos (by omega)]
  ·rw [z2o] at hb
   have h1 := z4W (by omega) hres
   rw [if_neg (by omega), if_neg (by omega)] at h1
   exact hL _ (k + 1) ⟨by omega, h1⟩ (by (simp only [SubF, go_sem]; (try simp only [go_sem]); repeat' (first | exact True.intro | with_reducible refine And.intro ?_ ?_ | rfl | omega))) (by omega)
  ·rw [hres, z0z xs k (by omega)]; rfl
theorem z1l {xs : List Int} {m : Int} (h1 : ∀ x ∈ xs, 0 ≤ x ∧ x < m) (h2 : xs.Pairwise (· < ·)) : z0i xs m = 0 := by
 have key : ∀ (l : List Int) (p : Option Int), (∀ x ∈ l, 0 ≤ x ∧ x < m) → l.Pairwise (· < ·) → (∀ q, p = some q → ∀ x ∈ l, q < x) → z3g m l p = 0 := by
  intro l
  induction l with
  | nil => intros; rfl
  | cons x l ih =>
   intro p a1 a2 a3
   have hx := a1 x (by simp)
   have a2' := List.pairwise_cons.1 a2
   rw [z3g, if_neg (by omega), if_neg ?_]
   ·exact ih _ (fun y hy => a1 y (by simp [hy])) a2'.2 fun q hq y hy => by cases hq; exact a2'.1 y hy
   ·cases p with
    | none => simp
    | some q => have := a3 q rfl x (by simp); simp; omega
 exact key xs none h1 h2 fun q hq => by cases hq
def dLt (x y : Edg) : Prop := x.src < y.src ∨ x.src = y.src ∧ x.ev < y.ev
def prevE (es : List Edg) (k : Nat) : Option Edg := if k = 0 then none else some (es.getD (k - 1) Edg.no)
def z2V (n : Int) (al : List Int) : Option Edg → List Edg → Int
 | _, [] => 0
 | p, x :: l => if x.src < 0 ∨ n ≤ x.src ∨ x.dst < 0 ∨ n ≤ x.dst then 2 else if x.ev ∉ al then 9 else if (p.any fun q => decide (x.src < q.src ∨ x.src = q.src ∧ x.ev ≤ q.ev)) = true then 5 else z2V n al (some x) l
theorem ziZ {es : List Edg} {n : Int} {al : List Int} {b : Int} {k : Nat} (hk : k < es.length) (h : b = z2V n al (prevE es k) (es.drop k)) :
  b = if (es.getD k Edg.no).src < 0 ∨ n ≤ (es.getD k Edg.no).src ∨ (es.getD k Edg.no).dst < 0 ∨ n ≤ (es.getD k Edg.no).dst then 2 else if (es.getD k Edg.no).ev ∉ al then 9 else if 0 < k ∧ ((es.getD k Edg.no).src < (es.getD (k - 1) Edg.no).src ∨ (es.getD k Edg.no).src = (es.getD (k - 1) Edg.no).src ∧ (es.getD k Edg.no).ev ≤ (es.getD (k - 1) Edg.no).ev) then 5 else z2V n al (prevE es (k + 1)) (es.drop (k + 1)) := by
 rw [z0H es k Edg.no hk] at h
 rw [h, z2V]
 unfold prevE
 by_cases h0 : k = 0
 ·subst h0; simp
 ·have hp : 0 < k := by omega
  simp [h0, hp]
theorem z74 {n : Int} {al : List Int} : ∀ {l : List Edg} {p : Option Edg}, (∀ x ∈ l, ((0 ≤ x.src ∧ x.src < n) ∧ 0 ≤ x.dst ∧ x.dst < n) ∧ x.ev ∈ al) → (∀ q, p = some q → ∀ x ∈ l, dLt q x) → l.Pairwise dLt → z2V n al p l = 0
 | [], p, _, _, _ => rfl
 | x :: l, p, h1, h2, h3 => by
  have h3' := List.pairwise_cons.1 h3
  have hx := h1 x (by simp)
  rw [z2V, if_neg (by omega), if_neg (fun h => h hx.2), if_neg ?_]
  ·exact z74 (fun y hy => h1 y (by simp [hy])) (fun q hq y hy => by cases hq; exact h3'.1 y hy) h3'.2
  ·cases p with
   | none => simp
   | some q =>
    have := h2 q rfl x (by simp)
    unfold dLt at this
    simp only [Option.any_some, decide_eq_true_eq]
    omega
def chkA (a : Aut) : Int := if z0i a.alph 32 ≠ 0 then z0i a.alph 32 else if a.states < 0 then 2 else if 4096 < a.states then 3 else if z0i a.marked a.states ≠ 0 then z0i a.marked a.states else z2V a.states a.alph none a.edges
structure Aut.Fits (a : Aut) : Prop where
 alph : a.alph.length ≤ 1000000
 marked : a.marked.length ≤ 1000000
 edges : a.edges.length ≤ 1000000
structure Aut.Ok (a : Aut) : Prop where
 alph : (∀ x ∈ a.alph, 0 ≤ x ∧ x < 32) ∧ a.alph.Pairwise (· < ·)
 states : 0 ≤ a.states ∧ a.states ≤ 4096
 marked : (∀ x ∈ a.marked, 0 ≤ x ∧ x < a.states) ∧ a.marked.Pairwise (· < ·)
 edges : (∀ x ∈ a.edges, ((0 ≤ x.src ∧ x.src < a.states) ∧ 0 ≤ x.dst ∧ x.dst < a.states) ∧ x.ev ∈ a.alph) ∧ a.edges.Pairwise dLt
theorem Aut.Ok.chk {a : Aut} (h : a.Ok) : chkA a = 0 := by
 have e1 := z1l h.alph.1 h.alph.2
 have e2 := z1l h.marked.1 h.marked.2
 have := h.states
 rw [chkA, if_neg (by omega), if_neg (by omega), if_neg (by omega), if_neg (by omega)]
 exact z74 h.edges.1 (fun q hq => by cases hq) h.edges.2
set_option maxHeartbeats 8000000 in
theorem zg7 (a : Aut) (hf : a.Fits) : ACalls Tryz.prog 113 [.agg a.d] (.one (.int .i64 (z2V a.states a.alph none a.edges))) [] := by
 obtain ⟨f1, f2, f3⟩ := hf
 (refine ACalls.of_body Ty_ok mixed Tryz.func113 rfl (by kernel_rfl) Tryz.ntmps113 (by simp) (congrArg Array.toList Tryz.results113) ?_)
 simp only [z00, Aut.d]
 (repeat' (first | (with_reducible first | refine aBl ?_ | (refine aS 6 [8, 7, 9] ?_; intro K hK)) | ((with_reducible refine aGo ?_); simp only [go_sem]) | ((iterate 6 try ((fail_if_success with_reducible refine hK _ ?_ ?_ ?_); clear hK K)); with_reducible refine hK _ ?_ ?_ ?_; rotate_left; (focus (simp only [go_sem]; exact rfl)); clear hK K) | fail))
 all_goals first | omega | skip
 refine z02 _ (by simp only [go_sem]; rfl) Nat (fun k => k ≤ a.edges.length ∧ z2V a.states a.alph none a.edges = z2V a.states a.alph (prevE a.edges k) (a.edges.drop k)) (fun k => [(9, .one (.int .i64 k))]) (fun _ H => H) (fun k => a.edges.length - k) 0 ⟨by omega, by simp [prevE]⟩ ?_ ?_
 ·(simp only [SubF, go_sem]; (try simp only [go_sem]); repeat' (first | exact True.intro | with_reducible refine And.intro ?_ ?_ | rfl | omega))
 rintro k ⟨hk, hres⟩ L hL
 by_cases hlt : k < a.edges.length
 ·have hs := ziZ hlt hres
  have hq : ((k : Nat) : Int).toNat = k := by omega
  have e1 := z2o k
  have a1 := z0p (l := a.edges) hlt [.int .i64 0, .int .i64 0, .int .i64 0]
  have a2 := z0p (l := a.edges) hlt []
  have b1 := z0p (l := a.edges) (k := k - 1) (by omega) [.int .i64 0, .int .i64 0, .int .i64 0]
  have b2 := z0p (l := a.edges) (k := k - 1) (by omega) []
  have c4 := z2D a.alph (a.edges.getD k Edg.no).ev (by omega)
  (simp only [go_sem] at hL ⊢)
  (repeat' (first | (with_reducible first | refine And.intro ?_ ?_ | refine aBl ?_ | (refine aS 6 [8, 7, 9] ?_; intro K hK)) | ((with_reducible refine aGo ?_); simp only [hq, e1, a1, a2, b1, b2, go_sem]) | ((with_reducible refine aCd ?_ ?_ (fun hb => ?_) (fun hb => ?_)); (iterate 2 simp only [hq, e1, a1, a2, b1, b2, go_sem]); all_goals (simp only [hq, e1, a1, a2, b1, b2, go_sem] at hb; try simp only [bls] at hb)) | ((iterate 6 try ((fail_if_success with_reducible refine hK _ ?_ ?_ ?_); clear hK K)); with_reducible refine hK _ ?_ ?_ ?_; rotate_left; (focus (simp only [hq, e1, a1, a2, b1, b2, go_sem]; exact rfl)); clear hK K) | ((with_reducible refine xA ?_); simp only [hq, e1, a1, a2, b1, b2, go_sem]) | exact aZ | fail))
  all_goals first | omega | skip
  ·rw [hs, if_neg (by omega), if_pos hb]
  ·rename_i q1 q2
   rw [if_neg (by omega), if_neg (fun h => h q2), if_neg (fun h => by omega)] at hs
   exact hL _ (k + 1) ⟨by omega, hs⟩ (by (simp only [SubF, go_sem]; (try simp only [go_sem]); repeat' (first | exact True.intro | with_reducible refine And.intro ?_ ?_ | rfl | omega))) (by omega)
  ·rename_i q1 q2 q3
   rw [hs, if_neg (by omega), if_neg (fun h => h q2), if_pos ⟨by omega, hb⟩]
  ·rename_i q1 q2 q3
   rw [if_neg (by omega), if_neg (fun h => h q2), if_neg (fun h => by omega)] at hs
   exact hL _ (k + 1) ⟨by omega, hs⟩ (by (simp only [SubF, go_sem]; (try simp only [go_sem]); repeat' (first | exact True.intro | with_reducible refine And.intro ?_ ?_ | rfl | omega))) (by omega)
 ·(simp only [go_sem] at hL ⊢)
  (repeat' (first | (with_reducible first | refine And.intro ?_ ?_ | refine aBl ?_ | (refine aS 6 [8, 7, 9] ?_; intro K hK)) | ((with_reducible refine aGo ?_); simp only [go_sem]) | ((with_reducible refine aCd ?_ ?_ (fun hb => ?_) (fun hb => ?_)); (iterate 2 simp only [go_sem]); all_goals (simp only [go_sem] at hb; try simp only [bls] at hb)) | ((iterate 6 try ((fail_if_success with_reducible refine hK _ ?_ ?_ ?_); clear hK K)); with_reducible refine hK _ ?_ ?_ ?_; rotate_left; (focus (simp only [go_sem]; exact rfl)); clear hK K) | exact aZ | fail))
  all_goals first | omega | skip
  rw [hres, z0z a.edges k (by omega)]; rfl
set_option maxHeartbeats 8000000 in
theorem z4z (a : Aut) (hf : a.Fits) : ACalls Tryz.prog 68 [.agg a.d] (.one (.int .i64 (chkA a))) [] := by
 have c3 := zg7 a hf
 obtain ⟨f1, f2, f3⟩ := hf
 have c1 := zg6 a.alph 32 (by omega)
 have c2 := zg6 a.marked a.states (by omega)
 have hE : chkA a = if z0i a.alph 32 ≠ 0 then z0i a.alph 32 else if a.states < 0 then 2 else if 4096 < a.states then 3 else if z0i a.marked a.states ≠ 0 then z0i a.marked a.states else z2V a.states a.alph none a.edges := rfl
 generalize chkA a = R at *
 generalize z0i a.alph 32 = e1 at *
 generalize z0i a.marked a.states = e2 at *
 generalize z2V a.states a.alph none a.edges = e3 at *
 simp only [Aut.d] at c3
 (refine ACalls.of_body Ty_ok mixed Tryz.func68 rfl (by kernel_rfl) Tryz.ntmps68 (by simp) (congrArg Array.toList Tryz.results68) ?_)
 simp only [z00, Aut.d]
 (repeat' (first | (with_reducible first | refine aBl ?_ | (refine aS 5 [] ?_; intro K hK)) | ((with_reducible refine aGo ?_); simp only [go_sem]) | ((with_reducible refine aCd ?_ ?_ (fun hb => ?_) (fun hb => ?_)); (iterate 2 simp only [go_sem]); all_goals (simp only [go_sem] at hb; try simp only [bls] at hb)) | ((iterate 6 try ((fail_if_success with_reducible refine hK _ ?_ ?_ ?_); clear hK K)); with_reducible refine hK _ ?_ ?_ ?_; rotate_left; (focus (simp only [go_sem]; exact rfl)); clear hK K) | ((with_reducible refine xA ?_); simp only [go_sem]) | exact aZ | fail))
 all_goals first | omega | skip
end Go.Proofs.YtkjllcmpjghmkaaGreatDoor
