/-
 Chapter 23: plain facts: the items of the cell of right items.
-/
import Derived.Test.YtkjnjkdcpbgabaaGreatDoorVH
set_option linter.unusedSimpArgs false
set_option linter.unusedVariables false
namespace Go.Proofs.YtkjnjkdcpbgabaaGreatDoor
open Go.Eng Go.RowKit
theorem wL_of {N : List (List UInt8)} : ∀ {xs : List It}, wL N xs = 0 → ∀ x ∈ xs, wU N [] (usedOf x) = 0
 | [], _, x, hx => by simp at hx
 | y :: xs, h, x, hx => by
  rw [wL] at h
  by_cases h1 : wU N [] (usedOf y) = 0
  ·rw [if_neg (by simp [h1])] at h
   rcases List.mem_cons.1 hx with rfl | hx
   ·exact h1
   ·exact wL_of h x hx
  ·rw [if_pos h1] at h; exact absurd h h1
def cellOf (l : List It) : CE := addC l l CE.zero
theorem cellR_eq {l : List It} (g : Good l) : cellR l = if wL (nameN l) l ≠ 0 then (CE.zero, wL (nameN l) l) else (cellOf l, 0) := by
 have hg := (good_iff l).2 g
 rw [cellR, if_neg (by simp [hg]), cellGo_eq l _ g.it]
 rfl
theorem cellOf_comps (l : List It) : (cellOf l).comps = (l.filter (isK 1)).map niOf := by simp [cellOf, addC, CE.zero]
theorem cellOf_reqs (l : List It) : (cellOf l).reqs = (l.filter (isK 2)).map niOf := by simp [cellOf, addC, CE.zero]
theorem cellOf_excl (l : List It) : (cellOf l).excl = (l.filter (isK 3)).map (exOf l) := by simp [cellOf, addC, CE.zero]
theorem cellOf_cons (l : List It) : (cellOf l).cons = (l.filter (isK 4)).map (cnOf l) := by simp [cellOf, addC, CE.zero]
theorem used3 {x : It} (q : Kind3 x) : usedOf x = x.locs.map Lt.name := by rw [usedOf, q.terms]; simp
theorem used4 {x : It} (q : Kind4 x) : usedOf x = x.terms.map Lt.name := by rw [usedOf, q.locs]; simp
theorem upB_sorted : ∀ {p : List Pr}, p.Pairwise (fun a b => ¬ b.comp < a.comp) → DistP p → upB p = true
 | [], _, _ => rfl
 | [_], _, _ => rfl
 | x :: y :: r, h, hd => by
  rw [List.pairwise_cons] at h
  unfold DistP at hd
  rw [List.map_cons, List.nodup_cons] at hd
  rw [upB, Bool.and_eq_true, decide_eq_true_eq]
  refine ⟨?_, upB_sorted h.2 hd.2⟩
  have h1 := h.1 y (List.mem_cons_self ..)
  have h2 : x.comp ≠ y.comp := fun e => hd.1 (by rw [e]; simp)
  omega
theorem idx_dist {l : List It} {ys : List Lt} (h : wU (nameN l) [] (ys.map Lt.name) = 0) : DistP (sortP (ys.map (idxP l))) := by
 obtain ⟨q1, q2, _⟩ := wU_in h
 unfold DistP
 rw [((sortP_perm _).map Pr.comp).nodup_iff, List.map_map]
 have key : ∀ ys : List Lt, (∀ u ∈ ys.map Lt.name, u ∈ nameN l) → (ys.map Lt.name).Nodup → (ys.map (Pr.comp ∘ idxP l)).Nodup := by
  intro ys
  induction ys with
  | nil => intro _ _; simp
  | cons y ys ih =>
   intro hN hd
   rw [List.map_cons, List.nodup_cons] at hd
   rw [List.map_cons, List.nodup_cons]
   refine ⟨fun hm => ?_, ih (fun u hu => hN u (by rw [List.map_cons]; exact List.mem_cons_of_mem _ hu)) hd.2⟩
   obtain ⟨z, hz, e⟩ := List.mem_map.1 hm
   have hy := nameN_find.1 (hN y.name (by simp))
   have := find_inj (l := l) (s := y.name) (t := z.name) hy e.symm
   exact hd.1 (by rw [this]; exact List.mem_map_of_mem hz)
 exact key ys q1 q2
theorem cell_rising {l : List It} (g : Good l) (h : wL (nameN l) l = 0) : risingB (cellOf l) = true := by
 have hw := wL_of h
 rw [risingB, Bool.and_eq_true, List.all_eq_true, List.all_eq_true, cellOf_excl, cellOf_cons]
 constructor
 ·intro e he
  obtain ⟨x, hx, rfl⟩ := List.mem_map.1 he
  obtain ⟨h1, h2⟩ := List.mem_filter.1 hx
  have hu := hw x h1
  rw [used3 (ok3 (g.it x h1) (of_decide_eq_true h2))] at hu
  exact upB_sorted (sortP_pw _) (idx_dist hu)
 ·intro e he
  obtain ⟨x, hx, rfl⟩ := List.mem_map.1 he
  obtain ⟨h1, h2⟩ := List.mem_filter.1 hx
  have hu := hw x h1
  rw [used4 (ok4 (g.it x h1) (of_decide_eq_true h2))] at hu
  exact upB_sorted (sortP_pw _) (idx_dist hu)
theorem cell_fits {l : List It} (g : Good l) (hf : LFits l) : (cellOf l).Fits := by
 have hl := g.len
 have hm : ∀ {k : Int} {x : It}, x ∈ l.filter (isK k) → x ∈ l := fun hx => (List.mem_filter.1 hx).1
 have hlen : ∀ k : Int, (l.filter (isK k)).length ≤ 200 := fun k => by
  have := List.length_filter_le (isK k) l
  omega
 refine ⟨⟨by rw [cellOf_comps, List.length_map]; exact hlen 1, fun e he => ?_⟩, ⟨by rw [cellOf_reqs, List.length_map]; exact hlen 2, fun e he => ?_⟩, ⟨by rw [cellOf_excl, List.length_map]; exact hlen 3, fun e he => ?_⟩, ⟨by rw [cellOf_cons, List.length_map]; exact hlen 4, fun e he => ?_⟩⟩
 ·rw [cellOf_comps] at he
  obtain ⟨x, hx, rfl⟩ := List.mem_map.1 he
  exact ⟨(hf.it x (hm hx)).name, (hf.it x (hm hx)).aut⟩
 ·rw [cellOf_reqs] at he
  obtain ⟨x, hx, rfl⟩ := List.mem_map.1 he
  exact ⟨(hf.it x (hm hx)).name, (hf.it x (hm hx)).aut⟩
 ·rw [cellOf_excl] at he
  obtain ⟨x, hx, rfl⟩ := List.mem_map.1 he
  exact ⟨(hf.it x (hm hx)).name, by rw [exOf, sortP_length, List.length_map]; exact (hf.it x (hm hx)).locs⟩
 ·rw [cellOf_cons] at he
  obtain ⟨x, hx, rfl⟩ := List.mem_map.1 he
  exact ⟨(hf.it x (hm hx)).name, by rw [cnOf, sortP_length, List.length_map]; exact (hf.it x (hm hx)).terms⟩
end Go.Proofs.YtkjnjkdcpbgabaaGreatDoor
