/-
 Chapter 23: plain facts: the items of the cell of right items.
-/
import Derived.Test.YtkjnjkdcpbgabaaGreatDoorVH
set_option linter.unusedSimpArgs false
set_option linter.unusedVariables false
namespace Go.Proofs.YtkjnjkdcpbgabaaGreatDoor
open Go.Eng Go.RowKit
def backI (l : List It) (x : It) : It :=
 if x.kind = 3 then ⟨3, x.name, AU.no, backL l x.locs, [], 0⟩ else if x.kind = 4 then ⟨4, x.name, AU.no, [], backL l x.terms, x.bound⟩ else x
theorem wL_of {N : List (List UInt8)} : ∀ {xs : List It}, wL N xs = 0 → ∀ x ∈ xs, wU N [] (usedOf x) = 0
 | [], _, x, hx => by simp at hx
 | y :: xs, h, x, hx => by
  rw [wL] at h
  by_cases h1 : wU N [] (usedOf y) = 0
  ·rw [if_neg (by simp [h1])] at h
   rcases List.mem_cons.1 hx with rfl | hx
   ·exact h1
   ·exact wL_of h x hx
  ·rw [if_pos h1] at h; exact absurd h h1
def cellOf (l : List It) : CE := addC l l CE.zero
theorem cellR_eq {l : List It} (g : Good l) : cellR l = if wL (nameN l) l ≠ 0 then (CE.zero, wL (nameN l) l) else (cellOf l, 0) := by
 have hg := (good_iff l).2 g
 rw [cellR, if_neg (by simp [hg]), cellGo_eq l _ g.it]
 rfl
theorem cellOf_comps (l : List It) : (cellOf l).comps = (l.filter (isK 1)).map niOf := by simp [cellOf, addC, CE.zero]
theorem cellOf_reqs (l : List It) : (cellOf l).reqs = (l.filter (isK 2)).map niOf := by simp [cellOf, addC, CE.zero]
theorem cellOf_excl (l : List It) : (cellOf l).excl = (l.filter (isK 3)).map (exOf l) := by simp [cellOf, addC, CE.zero]
theorem cellOf_cons (l : List It) : (cellOf l).cons = (l.filter (isK 4)).map (cnOf l) := by simp [cellOf, addC, CE.zero]
theorem it_eta (x : It) : x = ⟨x.kind, x.name, x.aut, x.locs, x.terms, x.bound⟩ := rfl
theorem used3 {x : It} (q : Kind3 x) : usedOf x = x.locs.map Lt.name := by rw [usedOf, q.terms]; simp
theorem used4 {x : It} (q : Kind4 x) : usedOf x = x.terms.map Lt.name := by rw [usedOf, q.locs]; simp
theorem rawI_back {l : List It} (g : Good l) (h : wL (nameN l) l = 0) : rawI (cellOf l) = some (l.map (backI l)) := by
 have hw := wL_of h
 have part : ∀ (k : Int) (x : It), x ∈ l.filter (isK k) → x ∈ l ∧ x.kind = k := fun k x hx => by
  obtain ⟨h1, h2⟩ := List.mem_filter.1 hx
  exact ⟨h1, of_decide_eq_true h2⟩
 have e1 : ((l.filter (isK 1)).map niOf).map (compI 1) = (l.filter (isK 1)).map (backI l) := by
  rw [List.map_map]
  refine List.map_congr_left fun x hx => ?_
  obtain ⟨h1, h2⟩ := part 1 x hx
  have q := ok12 (g.it x h1) (.inl h2)
  rw [backI, if_neg (by omega), if_neg (by omega)]
  show (⟨1, x.name, x.aut, [], [], 0⟩ : It) = x
  rw [it_eta x]
  simp only [h2, q.locs, q.terms, q.bound]
 have e2 : ((l.filter (isK 2)).map niOf).map (compI 2) = (l.filter (isK 2)).map (backI l) := by
  rw [List.map_map]
  refine List.map_congr_left fun x hx => ?_
  obtain ⟨h1, h2⟩ := part 2 x hx
  have q := ok12 (g.it x h1) (.inr h2)
  rw [backI, if_neg (by omega), if_neg (by omega)]
  show (⟨2, x.name, x.aut, [], [], 0⟩ : It) = x
  rw [it_eta x]
  simp only [h2, q.locs, q.terms, q.bound]
 have e3 : allO (exI (cellOf l).comps) (cellOf l).excl = some ((l.filter (isK 3)).map (backI l)) := by
  rw [cellOf_excl]
  have key : ∀ xs : List It, (∀ x ∈ xs, x ∈ l ∧ x.kind = 3) → allO (exI (cellOf l).comps) (xs.map (exOf l)) = some (xs.map (backI l)) := by
   intro xs
   induction xs with
   | nil => intro _; rfl
   | cons x xs ih =>
    intro hx
    obtain ⟨h1, h2⟩ := hx x (List.mem_cons_self ..)
    have q := ok3 (g.it x h1) h2
    have hu := hw x h1
    rw [used3 q] at hu
    have hn := (back_of g hu).1
    rw [List.map_cons, allO, ih fun y hy => hx y (List.mem_cons_of_mem _ hy), exI, cellOf_comps]
    rw [show (exOf l x).locs = sortP (x.locs.map (idxP l)) from rfl, hn]
    show some _ = some _
    rw [List.map_cons, backI, if_pos h2]
    rfl
  exact key _ fun x hx => part 3 x hx
 have e4 : allO (cnI (cellOf l).comps) (cellOf l).cons = some ((l.filter (isK 4)).map (backI l)) := by
  rw [cellOf_cons]
  have key : ∀ xs : List It, (∀ x ∈ xs, x ∈ l ∧ x.kind = 4) → allO (cnI (cellOf l).comps) (xs.map (cnOf l)) = some (xs.map (backI l)) := by
   intro xs
   induction xs with
   | nil => intro _; rfl
   | cons x xs ih =>
    intro hx
    obtain ⟨h1, h2⟩ := hx x (List.mem_cons_self ..)
    have q := ok4 (g.it x h1) h2
    have hu := hw x h1
    rw [used4 q] at hu
    have hn := (back_of g hu).1
    rw [List.map_cons, allO, ih fun y hy => hx y (List.mem_cons_of_mem _ hy), cnI, cellOf_comps]
    rw [show (cnOf l x).terms = sortP (x.terms.map (idxP l)) from rfl, hn]
    show some _ = some _
    rw [List.map_cons, backI, if_neg (by omega), if_pos h2]
    rfl
  exact key _ fun x hx => part 4 x hx
 rw [rawI, e3]
 dsimp only
 rw [e4]
 show some ((cellOf l).comps.map (compI 1) ++ (cellOf l).reqs.map (compI 2) ++ _ ++ _) = _
 rw [cellOf_comps, cellOf_reqs, e1, e2, ← List.map_append, ← List.map_append, ← List.map_append, ← four_parts g.up fun x hx => (g.it x hx).1]
theorem back_shuf {l : List It} (g : Good l) (h : wL (nameN l) l = 0) {x : It} (hx : x ∈ l) : Shuf (backI l x) x := by
 have hu := wL_of h x hx
 have ho := g.it x hx
 rw [backI]
 by_cases h3 : x.kind = 3
 ·have q := ok3 ho h3
  rw [used3 q] at hu
  have hp := (back_of g hu).2
  rw [if_pos h3]
  refine ⟨hp.length_eq, by rw [q.terms], fun y hy => hp.mem_iff.1 hy, fun y hy => by simp at hy, ?_⟩
  simp only [It.bare, h3, q.aut, q.bound]
 rw [if_neg h3]
 by_cases h4 : x.kind = 4
 ·have q := ok4 ho h4
  rw [used4 q] at hu
  have hp := (back_of g hu).2
  rw [if_pos h4]
  refine ⟨by rw [q.locs], hp.length_eq, fun y hy => by simp at hy, fun y hy => hp.mem_iff.1 hy, ?_⟩
  simp only [It.bare, h4, q.aut]
 rw [if_neg h4]
 exact ⟨rfl, rfl, fun y hy => hy, fun y hy => hy, rfl⟩
theorem back_good {l : List It} (g : Good l) : Good (l.map (backI l)) := by
 have hk : ∀ x, keyOf (backI l x) = keyOf x := fun x => by
  rw [backI]
  by_cases h3 : x.kind = 3
  ·rw [if_pos h3, keyOf, keyOf, h3]
  ·rw [if_neg h3]
   by_cases h4 : x.kind = 4
   ·rw [if_pos h4, keyOf, keyOf, h4]
   ·rw [if_neg h4]
 have hkm : (l.map (backI l)).map keyOf = l.map keyOf := by
  rw [List.map_map]
  exact List.map_congr_left fun x _ => hk x
 refine ⟨by rw [List.length_map]; exact g.len, fun y hy => ?_, by rw [hkm]; exact g.keys, by rw [kinds_of_keys hkm]; exact g.up⟩
 obtain ⟨x, hx, rfl⟩ := List.mem_map.1 hy
 have ho := g.it x hx
 have hn : isNameB x.name = true := ho.2.1
 rw [backI]
 by_cases h3 : x.kind = 3
 ·rw [if_pos h3]
  exact ⟨⟨show (1 : Int) ≤ 3 by decide, show (3 : Int) ≤ 4 by decide⟩, hn, by rfl⟩
 rw [if_neg h3]
 by_cases h4 : x.kind = 4
 ·rw [if_pos h4]
  exact ⟨⟨show (1 : Int) ≤ 4 by decide, show (4 : Int) ≤ 4 by decide⟩, hn, by rfl⟩
 ·rw [if_neg h4]; exact ho
theorem upB_sorted : ∀ {p : List Pr}, p.Pairwise (fun a b => ¬ b.comp < a.comp) → DistP p → upB p = true
 | [], _, _ => rfl
 | [_], _, _ => rfl
 | x :: y :: r, h, hd => by
  rw [List.pairwise_cons] at h
  unfold DistP at hd
  rw [List.map_cons, List.nodup_cons] at hd
  rw [upB, Bool.and_eq_true, decide_eq_true_eq]
  refine ⟨?_, upB_sorted h.2 hd.2⟩
  have h1 := h.1 y (List.mem_cons_self ..)
  have h2 : x.comp ≠ y.comp := fun e => hd.1 (by rw [e]; simp)
  omega
theorem idx_dist {l : List It} {ys : List Lt} (h : wU (nameN l) [] (ys.map Lt.name) = 0) : DistP (sortP (ys.map (idxP l))) := by
 obtain ⟨q1, q2, _⟩ := wU_in h
 unfold DistP
 rw [((sortP_perm _).map Pr.comp).nodup_iff, List.map_map]
 have key : ∀ ys : List Lt, (∀ u ∈ ys.map Lt.name, u ∈ nameN l) → (ys.map Lt.name).Nodup → (ys.map (Pr.comp ∘ idxP l)).Nodup := by
  intro ys
  induction ys with
  | nil => intro _ _; simp
  | cons y ys ih =>
   intro hN hd
   rw [List.map_cons, List.nodup_cons] at hd
   rw [List.map_cons, List.nodup_cons]
   refine ⟨fun hm => ?_, ih (fun u hu => hN u (by rw [List.map_cons]; exact List.mem_cons_of_mem _ hu)) hd.2⟩
   obtain ⟨z, hz, e⟩ := List.mem_map.1 hm
   have hy := nameN_find.1 (hN y.name (by simp))
   have := find_inj (l := l) (s := y.name) (t := z.name) hy e.symm
   exact hd.1 (by rw [this]; exact List.mem_map_of_mem hz)
 exact key ys q1 q2
theorem cell_rising {l : List It} (g : Good l) (h : wL (nameN l) l = 0) : risingB (cellOf l) = true := by
 have hw := wL_of h
 rw [risingB, Bool.and_eq_true, List.all_eq_true, List.all_eq_true, cellOf_excl, cellOf_cons]
 constructor
 ·intro e he
  obtain ⟨x, hx, rfl⟩ := List.mem_map.1 he
  obtain ⟨h1, h2⟩ := List.mem_filter.1 hx
  have hu := hw x h1
  rw [used3 (ok3 (g.it x h1) (of_decide_eq_true h2))] at hu
  exact upB_sorted (sortP_pw _) (idx_dist hu)
 ·intro e he
  obtain ⟨x, hx, rfl⟩ := List.mem_map.1 he
  obtain ⟨h1, h2⟩ := List.mem_filter.1 hx
  have hu := hw x h1
  rw [used4 (ok4 (g.it x h1) (of_decide_eq_true h2))] at hu
  exact upB_sorted (sortP_pw _) (idx_dist hu)
theorem cell_fits {l : List It} (g : Good l) (hf : LFits l) : (cellOf l).Fits := by
 have hl := g.len
 have hm : ∀ {k : Int} {x : It}, x ∈ l.filter (isK k) → x ∈ l := fun hx => (List.mem_filter.1 hx).1
 have hlen : ∀ k : Int, (l.filter (isK k)).length ≤ 200 := fun k => by
  have := List.length_filter_le (isK k) l
  omega
 refine ⟨⟨by rw [cellOf_comps, List.length_map]; exact hlen 1, fun e he => ?_⟩, ⟨by rw [cellOf_reqs, List.length_map]; exact hlen 2, fun e he => ?_⟩, ⟨by rw [cellOf_excl, List.length_map]; exact hlen 3, fun e he => ?_⟩, ⟨by rw [cellOf_cons, List.length_map]; exact hlen 4, fun e he => ?_⟩⟩
 ·rw [cellOf_comps] at he
  obtain ⟨x, hx, rfl⟩ := List.mem_map.1 he
  exact ⟨(hf.it x (hm hx)).name, (hf.it x (hm hx)).aut⟩
 ·rw [cellOf_reqs] at he
  obtain ⟨x, hx, rfl⟩ := List.mem_map.1 he
  exact ⟨(hf.it x (hm hx)).name, (hf.it x (hm hx)).aut⟩
 ·rw [cellOf_excl] at he
  obtain ⟨x, hx, rfl⟩ := List.mem_map.1 he
  exact ⟨(hf.it x (hm hx)).name, by rw [exOf, sortP_length, List.length_map]; exact (hf.it x (hm hx)).locs⟩
 ·rw [cellOf_cons] at he
  obtain ⟨x, hx, rfl⟩ := List.mem_map.1 he
  exact ⟨(hf.it x (hm hx)).name, by rw [cnOf, sortP_length, List.length_map]; exact (hf.it x (hm hx)).terms⟩
theorem lawItems_back {l : List It} (g : Good l) (h : wL (nameN l) l = 0) : lawItems (cellOf l) = (l.map (backI l), 0) := by
 rw [lawItems, rawI_back g h]
 exact congrArg (fun z => (l.map (backI l), z)) ((good_iff _).2 (back_good g))
end Go.Proofs.YtkjnjkdcpbgabaaGreatDoor
