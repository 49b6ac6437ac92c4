/-
 Chapter 05, plain: what the deterministic automaton is: its sets are closed, its edges are the steps.
-/
import Derived.Test.YtgagpbbnbonnlaaDoorYD
set_option linter.unusedSimpArgs false
set_option linter.unusedVariables false
namespace Go.Proofs.YtgagpbbnbonnlaaDoor
structure DetInv (st : List Int → Int → List Int) (mt : List Int → Bool) (al : List Int) (i : Nat) (sets : List (List Int)) (mk : List Int) (es : List Ed) : Prop where
 le : i ≤ sets.length
 fwd : ∀ j, j < i → ∀ x ∈ al, st (sets.getD j []) x ≠ [] → ∃ k : Nat, k < sets.length ∧ sets.getD k [] = st (sets.getD j []) x ∧ (⟨j, x, k⟩ : Ed) ∈ es
 bwd : ∀ e ∈ es, ∃ j k : Nat, j < i ∧ k < sets.length ∧ e = ⟨j, e.ev, k⟩ ∧ e.ev ∈ al ∧ st (sets.getD j []) e.ev ≠ [] ∧ sets.getD k [] = st (sets.getD j []) e.ev
 mrk : mk = ((List.range i).filter fun j => mt (sets.getD j [])).map fun j : Nat => (j : Int)
structure RowInv (st : List Int → Int → List Int) (s : List Int) (i : Nat) (dn : List Int) (sets : List (List Int)) (es new : List Ed) : Prop where
 fwd : ∀ x ∈ dn, st s x ≠ [] → ∃ k : Nat, k < sets.length ∧ sets.getD k [] = st s x ∧ (⟨i, x, k⟩ : Ed) ∈ new
 bwd : ∀ e ∈ new, ∃ k : Nat, k < sets.length ∧ e = ⟨i, e.ev, k⟩ ∧ e.ev ∈ dn ∧ st s e.ev ≠ [] ∧ sets.getD k [] = st s e.ev
theorem getD_app {α : Type} (l r : List α) (d : α) {k : Nat} (h : k < l.length) : (l ++ r).getD k d = l.getD k d := by
 simp [List.getD, List.getElem?_append_left h]
theorem getD_end {α : Type} (l : List α) (x d : α) : (l ++ [x]).getD l.length d = x := by simp [List.getD]
theorem detIn_row (st : List Int → Int → List Int) (i : Nat) (s : List Int) : ∀ (al dn : List Int) (sets : List (List Int)) (es new : List Ed), RowInv st s i dn sets es new → ∃ new2, (detIn st i s al sets (es ++ new)).2 = es ++ new2 ∧ RowInv st s i (dn ++ al) (detIn st i s al sets (es ++ new)).1 es new2
 | [], dn, sets, es, new, h => ⟨new, rfl, by rw [List.append_nil]; exact h⟩
 | x :: al, dn, sets, es, new, h => by
  rw [detIn]
  have key : ∀ (sets2 : List (List Int)) (new2 : List Ed), RowInv st s i (dn ++ [x]) sets2 es new2 → ∃ new3, (detIn st i s al sets2 (es ++ new2)).2 = es ++ new3 ∧ RowInv st s i (dn ++ x :: al) (detIn st i s al sets2 (es ++ new2)).1 es new3 := fun sets2 new2 h2 => by
   have := detIn_row st i s al (dn ++ [x]) sets2 es new2 h2
   rwa [List.append_assoc, List.singleton_append] at this
  by_cases hx : st s x = []
  ·rw [if_pos hx]
   refine key sets new ⟨fun y hy hne => ?_, fun e he => ?_⟩
   ·rcases List.mem_append.1 hy with hy | hy
    ·exact h.fwd y hy hne
    ·rw [List.mem_singleton] at hy; subst hy; exact absurd hx hne
   ·obtain ⟨k, h1, h2, h3, h4⟩ := h.bwd e he
    exact ⟨k, h1, h2, by simp [h3], h4⟩
  ·rw [if_neg hx]
   cases hf : fndS (st s x) 0 sets with
   | some k =>
    obtain ⟨_, h1, h2⟩ := fndS_some hf
    simp only [List.append_assoc]
    refine key sets (new ++ [⟨i, x, k⟩]) ⟨fun y hy hne => ?_, fun e he => ?_⟩
    ·rcases List.mem_append.1 hy with hy | hy
     ·obtain ⟨k2, h3, h4, h5⟩ := h.fwd y hy hne
      exact ⟨k2, h3, h4, by simp [h5]⟩
     ·rw [List.mem_singleton] at hy; subst hy
      exact ⟨k, h1, h2, by simp⟩
    ·rcases List.mem_append.1 he with he | he
     ·obtain ⟨k2, h3, h4, h5, h6⟩ := h.bwd e he
      exact ⟨k2, h3, h4, by simp [h5], h6⟩
     ·rw [List.mem_singleton] at he; subst he
      exact ⟨k, h1, rfl, by simp, hx, h2⟩
   | none =>
    simp only [List.append_assoc]
    refine key (sets ++ [st s x]) (new ++ [⟨i, x, sets.length⟩]) ⟨fun y hy hne => ?_, fun e he => ?_⟩
    ·rcases List.mem_append.1 hy with hy | hy
     ·obtain ⟨k2, h3, h4, h5⟩ := h.fwd y hy hne
      exact ⟨k2, by rw [List.length_append]; omega, by rw [getD_app _ _ _ h3]; exact h4, by simp [h5]⟩
     ·rw [List.mem_singleton] at hy; subst hy
      exact ⟨sets.length, by simp, getD_end _ _ _, by simp⟩
    ·rcases List.mem_append.1 he with he | he
     ·obtain ⟨k2, h3, h4, h5, h6, h7⟩ := h.bwd e he
      exact ⟨k2, by rw [List.length_append]; omega, h4, by simp [h5], h6, by rw [getD_app _ _ _ h3]; exact h7⟩
     ·rw [List.mem_singleton] at he; subst he
      exact ⟨sets.length, by simp, rfl, by simp, hx, getD_end _ _ _⟩
section
variable {st : List Int → Int → List Int} {mt : List Int → Bool} {al : List Int}
theorem DetInv.row {i : Nat} {sets : List (List Int)} {mk : List Int} {es : List Ed} (h : DetInv st mt al i sets mk es) (hi : i < sets.length) : DetInv st mt al (i + 1) (detIn st i (sets.getD i []) al sets es).1 (if mt (sets.getD i []) = true then mk ++ [(i : Int)] else mk) (detIn st i (sets.getD i []) al sets es).2 := by
 obtain ⟨new, h1, h2⟩ := detIn_row st i (sets.getD i []) al [] sets es [] ⟨fun x hx => (List.not_mem_nil hx).elim, fun e he => (List.not_mem_nil he).elim⟩
 rw [List.append_nil] at h1 h2
 rw [List.nil_append] at h2
 obtain ⟨⟨r, hr⟩, _⟩ := detIn_prefix st i (sets.getD i []) al sets es
 rw [h1]
 rw [hr] at h2 ⊢
 have old : ∀ j, j < sets.length → (sets ++ r).getD j [] = sets.getD j [] := fun j hj => getD_app _ _ _ hj
 refine ⟨by rw [List.length_append]; omega, fun j hj x hx hne => ?_, fun e he => ?_, ?_⟩
 ·by_cases hji : j < i
  ·rw [old j (by omega)] at hne ⊢
   obtain ⟨k, h3, h4, h5⟩ := h.fwd j hji x hx hne
   exact ⟨k, by rw [List.length_append]; omega, by rw [old k h3]; exact h4, by simp [h5]⟩
  ·have e : j = i := by omega
   subst e
   rw [old j hi] at hne ⊢
   obtain ⟨k, h3, h4, h5⟩ := h2.fwd x hx hne
   exact ⟨k, h3, h4, by simp [h5]⟩
 ·rcases List.mem_append.1 he with he | he
  ·obtain ⟨j, k, h3, h4, h5, h6, h7, h8⟩ := h.bwd e he
   exact ⟨j, k, by omega, by rw [List.length_append]; omega, h5, h6, by rw [old j (by omega)]; exact h7, by rw [old k h4, old j (by omega)]; exact h8⟩
  ·obtain ⟨k, h3, h4, h5, h6, h7⟩ := h2.bwd e he
   exact ⟨i, k, by omega, h3, h4, h5, by rw [old i hi]; exact h6, by rw [old i hi]; exact h7⟩
 ·rw [List.range_succ, List.filter_append, List.map_append]
  have e : ((List.range i).filter fun j => mt ((sets ++ r).getD j [])) = (List.range i).filter fun j => mt (sets.getD j []) := by
   apply List.filter_congr
   intro j hj
   have := List.mem_range.1 hj
   rw [old j (by omega)]
  rw [e, ← h.mrk]
  by_cases hm : mt (sets.getD i []) = true
  ·have hm2 : mt ((sets ++ r).getD i []) = true := by rw [old i hi]; exact hm
   rw [if_pos hm]
   simp only [List.filter_cons, List.filter_nil, hm2, if_true, List.map_cons, List.map_nil]
  ·have hm2 : ¬ mt ((sets ++ r).getD i []) = true := by rw [old i hi]; exact hm
   rw [if_neg hm]
   simp only [List.filter_cons, List.filter_nil, if_neg hm2, List.map_nil, List.append_nil]
end
end Go.Proofs.YtgagpbbnbonnlaaDoor
