/-
 Chapter 23: plain facts: the cell of right items, and its items.
-/
import Derived.Test.YtkjnjkdcpbgabaaGreatDoorVF
import Derived.Test.YtkjnjkdcpbgabaaGreatDoorVG
import Derived.Test.YtkjnjkdcpbgabaaGreatDoorUQ
set_option linter.unusedSimpArgs false
set_option linter.unusedVariables false
namespace Go.Proofs.YtkjnjkdcpbgabaaGreatDoor
open Go.Eng Go.RowKit
def isK (k : Int) (x : It) : Bool := decide (x.kind = k)
def nameN (l : List It) : List (List UInt8) := (l.filter (isK 1)).map It.name
def usedOf (x : It) : List (List UInt8) := x.locs.map Lt.name ++ x.terms.map Lt.name
def wU (N : List (List UInt8)) : List (List UInt8) → List (List UInt8) → Int
 | _, [] => 0
 | pre, u :: us => if u ∉ N then 9 else if u ∈ pre then 8 else wU N (pre ++ [u]) us
def wL (N : List (List UInt8)) : List It → Int
 | [] => 0
 | x :: l => if wU N [] (usedOf x) ≠ 0 then wU N [] (usedOf x) else wL N l
def idxP (l : List It) (y : Lt) : Pr := ⟨findI l 1 y.name, y.val⟩
theorem mem_nameN {l : List It} {s : List UInt8} : s ∈ nameN l ↔ (1, s) ∈ l.map keyOf := by
 rw [nameN, List.mem_map, List.mem_map]
 constructor
 ·rintro ⟨x, hx, rfl⟩
  obtain ⟨h1, h2⟩ := List.mem_filter.1 hx
  exact ⟨x, h1, by rw [keyOf, of_decide_eq_true h2]⟩
 ·rintro ⟨x, hx, he⟩
  simp only [keyOf, Prod.mk.injEq] at he
  exact ⟨x, List.mem_filter.2 ⟨hx, decide_eq_true he.1⟩, he.2⟩
theorem nameN_find {l : List It} {s : List UInt8} : s ∈ nameN l ↔ 0 ≤ findI l 1 s := by
 rw [mem_nameN]
 constructor
 ·intro h
  by_cases hn : findI l 1 s < 0
  ·exact absurd h (find_none.1 hn)
  ·omega
 ·intro h
  exact Classical.byContradiction fun hn => by
   have := find_none.2 hn
   omega
theorem find_inj {l : List It} {s t : List UInt8} (h : 0 ≤ findI l 1 s) (e : findI l 1 s = findI l 1 t) : s = t := by
 have h1 := (find_some h).2
 have h2 := (find_some (e ▸ h)).2
 rw [e, h2] at h1
 exact (congrArg Prod.snd h1).symm
theorem compE_eq {l : List It} {s : List UInt8} {pre : List (List UInt8)} : compE l s (pre.map (findI l 1)) = if s ∉ nameN l then 9 else if s ∈ pre then 8 else 0 := by
 rw [compE]
 by_cases h : s ∈ nameN l
 ·have h0 := nameN_find.1 h
  have e1 : (if s ∉ nameN l then (9 : Int) else if s ∈ pre then 8 else 0) = if s ∈ pre then 8 else 0 := if_neg (fun hn => hn h)
  rw [e1, if_neg (show ¬ findI l 1 s < 0 by omega)]
  by_cases hp : s ∈ pre
  ·rw [if_pos hp, if_pos (List.mem_map_of_mem hp)]
  ·rw [if_neg hp, if_neg]
   intro hm
   obtain ⟨t, ht, e⟩ := List.mem_map.1 hm
   exact hp (by rw [find_inj h0 e.symm]; exact ht)
 ·have h0 : findI l 1 s < 0 := by
   by_cases hn : findI l 1 s < 0
   ·exact hn
   ·exact absurd (nameN_find.2 (by omega)) h
  rw [if_pos h0, if_pos h]
theorem locGo_eq {l : List It} : ∀ (ys : List Lt) (pre : List Lt), locGo l ys (pre.map (idxP l)) = if wU (nameN l) (pre.map Lt.name) (ys.map Lt.name) ≠ 0 then ([], wU (nameN l) (pre.map Lt.name) (ys.map Lt.name)) else ((pre ++ ys).map (idxP l), 0) := by
 intro ys
 induction ys with
 | nil => intro pre; rw [locGo, List.map_nil, wU, if_neg (by decide), List.append_nil]
 | cons y ys ih =>
  intro pre
  have e : (pre.map (idxP l)).map Pr.comp = (pre.map Lt.name).map (findI l 1) := by rw [List.map_map, List.map_map]; rfl
  rw [locGo, e, List.map_cons, wU]
  by_cases h1 : y.name ∈ nameN l
  ·have n1 : ¬ y.name ∉ nameN l := fun hn => hn h1
   by_cases h2 : y.name ∈ pre.map Lt.name
   ·have hc : compE l y.name ((pre.map Lt.name).map (findI l 1)) = 8 := by rw [compE_eq, if_neg n1, if_pos h2]
    rw [hc, if_neg n1, if_pos h2, if_pos (by decide), if_pos (by decide)]
   ·have hc : compE l y.name ((pre.map Lt.name).map (findI l 1)) = 0 := by rw [compE_eq, if_neg n1, if_neg h2]
    rw [hc, if_neg n1, if_neg h2, if_neg (by decide)]
    have := ih (pre ++ [y])
    rw [List.map_append, List.map_append, List.append_assoc] at this
    exact this
  ·have hc : compE l y.name ((pre.map Lt.name).map (findI l 1)) = 9 := by rw [compE_eq, if_pos h1]
   rw [hc, if_pos h1, if_pos (by decide), if_pos (by decide)]
theorem locR_eq (l : List It) (ys : List Lt) : locR l ys = if wU (nameN l) [] (ys.map Lt.name) ≠ 0 then ([], wU (nameN l) [] (ys.map Lt.name)) else (sortP (ys.map (idxP l)), 0) := by
 have := locGo_eq (l := l) ys []
 rw [List.map_nil, List.map_nil, List.nil_append] at this
 rw [locR, this]
 by_cases h : wU (nameN l) [] (ys.map Lt.name) = 0
 ·simp [h]
 ·simp [h]
/-! proper items -/
structure Kind12 (x : It) : Prop where
 locs : x.locs = []
 terms : x.terms = []
 bound : x.bound = 0
structure Kind3 (x : It) : Prop where
 aut : x.aut = AU.no
 terms : x.terms = []
 bound : x.bound = 0
structure Kind4 (x : It) : Prop where
 aut : x.aut = AU.no
 locs : x.locs = []
theorem ok12 {x : It} (h : okI x) (hk : x.kind = 1 ∨ x.kind = 2) : Kind12 x := by
 have hp := h.2.2
 rw [properB, if_neg (by omega), if_neg (by omega), Bool.and_eq_true, decide_eq_true_eq, decide_eq_true_eq] at hp
 exact ⟨len_zero (by omega), len_zero (by omega), hp.2⟩
theorem ok3 {x : It} (h : okI x) (hk : x.kind = 3) : Kind3 x := by
 have hp := h.2.2
 rw [properB, if_pos hk, Bool.and_eq_true, Bool.and_eq_true, decide_eq_true_eq, decide_eq_true_eq] at hp
 exact ⟨(bareB_iff _).1 hp.1.1, len_zero hp.1.2, hp.2⟩
theorem ok4 {x : It} (h : okI x) (hk : x.kind = 4) : Kind4 x := by
 have hp := h.2.2
 rw [properB, if_neg (by omega), if_pos hk, Bool.and_eq_true, decide_eq_true_eq] at hp
 exact ⟨(bareB_iff _).1 hp.1, len_zero hp.2⟩
def niOf (x : It) : NI := ⟨x.name, x.aut⟩
def exOf (l : List It) (x : It) : Ex := ⟨x.name, sortP (x.locs.map (idxP l))⟩
def cnOf (l : List It) (x : It) : Cn := ⟨x.name, sortP (x.terms.map (idxP l)), x.bound⟩
def addC (l xs : List It) (c : CE) : CE := ⟨c.comps ++ (xs.filter (isK 1)).map niOf, c.reqs ++ (xs.filter (isK 2)).map niOf, c.excl ++ (xs.filter (isK 3)).map (exOf l), c.cons ++ (xs.filter (isK 4)).map (cnOf l)⟩
theorem filter_isK (k : Int) (x : It) (xs : List It) : (x :: xs).filter (isK k) = if x.kind = k then x :: xs.filter (isK k) else xs.filter (isK k) := by
 rw [List.filter_cons]
 by_cases h : x.kind = k
 ·rw [if_pos h, if_pos (show isK k x = true from decide_eq_true h)]
 ·rw [if_neg h, if_neg (by rw [isK, decide_eq_true_eq]; exact h)]
theorem cellGo_eq {l : List It} : ∀ (xs : List It) (c : CE), (∀ x ∈ xs, okI x) → cellGo l xs c = if wL (nameN l) xs ≠ 0 then (CE.zero, wL (nameN l) xs) else (addC l xs c, 0) := by
 intro xs
 induction xs with
 | nil =>
  intro c _
  rw [cellGo, wL, if_neg (by decide), addC]
  simp
 | cons x xs ih =>
  intro c h
  have hx := h x (List.mem_cons_self ..)
  have hr : ∀ x ∈ xs, okI x := fun y hy => h y (List.mem_cons_of_mem _ hy)
  rw [cellGo, addC, filter_isK, filter_isK, filter_isK, filter_isK]
  have hk := hx.1
  have w0 : wU (nameN l) [] (usedOf x) = 0 → wL (nameN l) (x :: xs) = wL (nameN l) xs := fun e => by rw [wL, if_neg (by simp [e])]
  have w1 : wU (nameN l) [] (usedOf x) ≠ 0 → wL (nameN l) (x :: xs) = wU (nameN l) [] (usedOf x) := fun e => by rw [wL, if_pos e]
  by_cases h1 : x.kind = 1
  ·have q := ok12 hx (.inl h1)
   have hu : wU (nameN l) [] (usedOf x) = 0 := by rw [usedOf, q.locs, q.terms]; rfl
   rw [if_pos h1, if_pos h1, if_neg (show ¬ x.kind = 2 by omega), if_neg (show ¬ x.kind = 3 by omega), if_neg (show ¬ x.kind = 4 by omega), w0 hu, ih _ hr, addC]
   simp [niOf]
  rw [if_neg h1, if_neg h1]
  by_cases h2 : x.kind = 2
  ·have q := ok12 hx (.inr h2)
   have hu : wU (nameN l) [] (usedOf x) = 0 := by rw [usedOf, q.locs, q.terms]; rfl
   rw [if_pos h2, if_pos h2, if_neg (show ¬ x.kind = 3 by omega), if_neg (show ¬ x.kind = 4 by omega), w0 hu, ih _ hr, addC]
   simp [niOf]
  rw [if_neg h2, if_neg h2]
  by_cases h3 : x.kind = 3
  ·have q := ok3 hx h3
   have hu : usedOf x = x.locs.map Lt.name := by rw [usedOf, q.terms]; simp
   rw [if_pos h3, if_pos h3, if_neg (show ¬ x.kind = 4 by omega)]
   rw [hu] at w0 w1
   by_cases hw : wU (nameN l) [] (x.locs.map Lt.name) = 0
   ·have hl : locR l x.locs = (sortP (x.locs.map (idxP l)), 0) := by rw [locR_eq, if_neg (by simp [hw])]
    rw [hl, if_neg (by simp), w0 hw, ih _ hr, addC]
    simp [exOf]
   ·have hl : locR l x.locs = ([], wU (nameN l) [] (x.locs.map Lt.name)) := by rw [locR_eq, if_pos hw]
    rw [hl, if_pos hw, w1 hw, if_pos hw]
  ·have h4 : x.kind = 4 := by omega
   have q := ok4 hx h4
   have hu : usedOf x = x.terms.map Lt.name := by rw [usedOf, q.locs]; simp
   rw [if_neg h3, if_neg h3, if_pos h4, if_pos h4]
   rw [hu] at w0 w1
   by_cases hw : wU (nameN l) [] (x.terms.map Lt.name) = 0
   ·have hl : locR l x.terms = (sortP (x.terms.map (idxP l)), 0) := by rw [locR_eq, if_neg (by simp [hw])]
    rw [hl, if_neg (by simp), w0 hw, ih _ hr, addC]
    simp [cnOf]
   ·have hl : locR l x.terms = ([], wU (nameN l) [] (x.terms.map Lt.name)) := by rw [locR_eq, if_pos hw]
    rw [hl, if_pos hw, w1 hw, if_pos hw]
/-! sorted kinds: the list in four parts -/
theorem four_parts : ∀ {l : List It}, (l.map It.kind).Pairwise (· ≤ ·) → (∀ x ∈ l, 1 ≤ x.kind ∧ x.kind ≤ 4) → l = l.filter (isK 1) ++ l.filter (isK 2) ++ l.filter (isK 3) ++ l.filter (isK 4) := by
 intro l
 induction l with
 | nil => intro _ _; rfl
 | cons x l ih =>
  intro hp hk
  rw [List.map_cons, List.pairwise_cons] at hp
  have hl := ih hp.2 fun y hy => hk y (List.mem_cons_of_mem _ hy)
  have hx := hk x (List.mem_cons_self ..)
  have none : ∀ k : Int, k < x.kind → l.filter (isK k) = [] := fun k hlt => List.filter_eq_nil_iff.2 fun y hy he => by
   have := hp.1 y.kind (List.mem_map_of_mem hy)
   have := of_decide_eq_true he
   omega
  rw [filter_isK, filter_isK, filter_isK, filter_isK]
  by_cases h1 : x.kind = 1
  ·rw [if_pos h1, if_neg (by omega), if_neg (by omega), if_neg (by omega)]
   rw [List.cons_append, List.cons_append, List.cons_append, ← hl]
  by_cases h2 : x.kind = 2
  ·rw [none 1 (by omega)] at hl ⊢
   rw [if_neg h1, if_pos h2, if_neg (by omega), if_neg (by omega)]
   rw [List.nil_append] at hl ⊢
   rw [List.cons_append, List.cons_append, ← hl]
  by_cases h3 : x.kind = 3
  ·rw [none 1 (by omega), none 2 (by omega)] at hl ⊢
   rw [if_neg h1, if_neg h2, if_pos h3, if_neg (by omega)]
   rw [List.nil_append, List.nil_append] at hl ⊢
   rw [List.cons_append, ← hl]
  ·rw [none 1 (by omega), none 2 (by omega), none 3 (by omega)] at hl ⊢
   rw [if_neg h1, if_neg h2, if_neg h3, if_pos (by omega)]
   rw [List.nil_append, List.nil_append, List.nil_append] at hl ⊢
   rw [← hl]
/-! names by index -/
theorem comp_at {l : List It} (g : Good l) {s : List UInt8} (h : s ∈ nameN l) : 0 ≤ findI l 1 s ∧ findI l 1 s < ((l.filter (isK 1)).map niOf).length ∧ (((l.filter (isK 1)).map niOf).getD (findI l 1 s).toNat NI.no).name = s := by
 have h0 := nameN_find.1 h
 obtain ⟨h1, h2⟩ := find_some h0
 have hp := four_parts g.up fun x hx => (g.it x hx).1
 simp only [keyOf, Prod.mk.injEq] at h2
 generalize hj : (findI l 1 s).toNat = j at *
 have hlt : j < (l.filter (isK 1)).length := by
  refine Classical.byContradiction fun hn => ?_
  have hx : l.getD j It.no ∈ l.filter (isK 2) ++ l.filter (isK 3) ++ l.filter (isK 4) := by
   have he : l.getD j It.no = (l.filter (isK 2) ++ l.filter (isK 3) ++ l.filter (isK 4)).getD (j - (l.filter (isK 1)).length) It.no := by
    conv => lhs; rw [hp]
    simp only [List.getD]
    rw [List.append_assoc, List.append_assoc, List.getElem?_append_right (by omega), List.append_assoc]
   rw [he]
   refine getD_mem _ _ _ ?_
   have := congrArg List.length hp
   simp only [List.length_append] at this ⊢
   omega
  rcases List.mem_append.1 hx with hx | hx
  ·rcases List.mem_append.1 hx with hx | hx
   ·have := of_decide_eq_true (List.mem_filter.1 hx).2
    omega
   ·have := of_decide_eq_true (List.mem_filter.1 hx).2
    omega
  ·have := of_decide_eq_true (List.mem_filter.1 hx).2
   omega
 have he : l.getD j It.no = (l.filter (isK 1)).getD j It.no := by
  conv => lhs; rw [hp]
  simp only [List.getD]
  rw [List.append_assoc, List.append_assoc, List.getElem?_append_left hlt]
 refine ⟨h0, by rw [List.length_map]; omega, ?_⟩
 simp only [List.getD, List.getElem?_map, List.getElem?_eq_getElem hlt]
 rw [he] at h2
 simpa [List.getD, List.getElem?_eq_getElem hlt, niOf] using h2.2
def backL (l : List It) (ys : List Lt) : List Lt := (sortP (ys.map (idxP l))).map fun e => ⟨(((l.filter (isK 1)).map niOf).getD e.comp.toNat NI.no).name, e.val⟩
theorem namedL_ok {cs : List NI} : ∀ {p : List Pr}, (∀ e ∈ p, 0 ≤ e.comp ∧ e.comp < cs.length) → namedL cs p = some (p.map fun e => ⟨(cs.getD e.comp.toNat NI.no).name, e.val⟩)
 | [], _ => rfl
 | e :: p, h => by
  have := h e (List.mem_cons_self ..)
  rw [namedL, if_neg (by omega), namedL_ok fun y hy => h y (List.mem_cons_of_mem _ hy)]
  rfl
theorem wU_in {N : List (List UInt8)} : ∀ {us pre : List (List UInt8)}, wU N pre us = 0 → (∀ u ∈ us, u ∈ N) ∧ us.Nodup ∧ ∀ u ∈ us, u ∉ pre
 | [], _, _ => ⟨fun u hu => by simp at hu, by simp, fun u hu => by simp at hu⟩
 | u :: us, pre, h => by
  rw [wU] at h
  by_cases h1 : u ∈ N
  ·rw [if_neg (fun hn => hn h1)] at h
   by_cases h2 : u ∈ pre
   ·rw [if_pos h2] at h; exact absurd h (by decide)
   ·rw [if_neg h2] at h
    obtain ⟨q1, q2, q3⟩ := wU_in h
    refine ⟨fun v hv => ?_, List.nodup_cons.2 ⟨fun hm => q3 u hm (by simp), q2⟩, fun v hv => ?_⟩
    ·rcases List.mem_cons.1 hv with rfl | hv
     ·exact h1
     ·exact q1 v hv
    ·rcases List.mem_cons.1 hv with rfl | hv
     ·exact h2
     ·exact fun hp => q3 v hv (List.mem_append_left _ hp)
  ·rw [if_pos h1] at h; exact absurd h (by decide)
theorem back_of {l : List It} (g : Good l) {ys : List Lt} (h : wU (nameN l) [] (ys.map Lt.name) = 0) : namedL ((l.filter (isK 1)).map niOf) (sortP (ys.map (idxP l))) = some (backL l ys) ∧ (backL l ys).Perm ys := by
 obtain ⟨q1, q2, _⟩ := wU_in h
 constructor
 ·refine namedL_ok fun e he => ?_
  have := (sortP_perm _).mem_iff.1 he
  obtain ⟨y, hy, rfl⟩ := List.mem_map.1 this
  have := comp_at g (q1 y.name (List.mem_map_of_mem hy))
  exact ⟨this.1, this.2.1⟩
 ·have h1 := (sortP_perm (ys.map (idxP l))).map fun e : Pr => (⟨(((l.filter (isK 1)).map niOf).getD e.comp.toNat NI.no).name, e.val⟩ : Lt)
  rw [List.map_map] at h1
  have h2 : ys.map ((fun e : Pr => (⟨(((l.filter (isK 1)).map niOf).getD e.comp.toNat NI.no).name, e.val⟩ : Lt)) ∘ idxP l) = ys := by
   conv => rhs; rw [← List.map_id ys]
   refine List.map_congr_left fun y hy => ?_
   have := (comp_at g (q1 y.name (List.mem_map_of_mem hy))).2.2
   show (⟨_, y.val⟩ : Lt) = y
   rw [show (idxP l y).comp = findI l 1 y.name from rfl, this]
  rw [h2] at h1
  exact h1
end Go.Proofs.YtkjnjkdcpbgabaaGreatDoor
