/-
 Chapter 23: plain facts: the cell of the items of a cell.
-/
import Derived.Test.YtkjnjkdcpbgabaaGreatDoorVI
set_option linter.unusedSimpArgs false
set_option linter.unusedVariables false
namespace Go.Proofs.YtkjnjkdcpbgabaaGreatDoor
open Go.Eng Go.RowKit
theorem wU_08 {N : List (List UInt8)} : ∀ {us pre : List (List UInt8)}, (∀ u ∈ us, u ∈ N) → wU N pre us = 0 ∨ wU N pre us = 8
 | [], _, _ => .inl rfl
 | u :: us, pre, h => by
  rw [wU, if_neg (fun hn => hn (h u (List.mem_cons_self ..)))]
  split
  ·exact .inr rfl
  ·exact wU_08 fun v hv => h v (List.mem_cons_of_mem _ hv)
theorem wU_zero {N : List (List UInt8)} : ∀ {us pre : List (List UInt8)}, (∀ u ∈ us, u ∈ N) → us.Nodup → (∀ u ∈ us, u ∉ pre) → wU N pre us = 0
 | [], _, _, _, _ => rfl
 | u :: us, pre, h, hd, hp => by
  rw [List.nodup_cons] at hd
  rw [wU, if_neg (fun hn => hn (h u (List.mem_cons_self ..))), if_neg (hp u (List.mem_cons_self ..))]
  refine wU_zero (fun v hv => h v (List.mem_cons_of_mem _ hv)) hd.2 fun v hv hm => ?_
  rcases List.mem_append.1 hm with hm | hm
  ·exact hp v (List.mem_cons_of_mem _ hv) hm
  ·rw [List.mem_singleton.1 hm] at hv
   exact hd.1 hv
theorem wL_08 {N : List (List UInt8)} : ∀ {xs : List It}, (∀ x ∈ xs, ∀ u ∈ usedOf x, u ∈ N) → wL N xs = 0 ∨ wL N xs = 8
 | [], _ => .inl rfl
 | x :: xs, h => by
  rw [wL]
  rcases wU_08 (pre := []) (h x (List.mem_cons_self ..)) with e | e
  ·rw [if_neg (by simp [e])]
   exact wL_08 fun y hy => h y (List.mem_cons_of_mem _ hy)
  ·rw [if_pos (by rw [e]; decide)]
   exact .inr e
theorem wL_zero {N : List (List UInt8)} : ∀ {xs : List It}, (∀ x ∈ xs, wU N [] (usedOf x) = 0) → wL N xs = 0
 | [], _ => rfl
 | x :: xs, h => by
  rw [wL, if_neg (by simp [h x (List.mem_cons_self ..)])]
  exact wL_zero fun y hy => h y (List.mem_cons_of_mem _ hy)
theorem upB_pw : ∀ {p : List Pr}, upB p = true → p.Pairwise (fun a b => a.comp < b.comp)
 | [], _ => .nil
 | [_], _ => by simp
 | x :: y :: r, h => by
  rw [upB, Bool.and_eq_true, decide_eq_true_eq] at h
  have ih := upB_pw h.2
  have ih' := List.pairwise_cons.1 ih
  refine List.pairwise_cons.2 ⟨fun z hz => ?_, ih⟩
  rcases List.mem_cons.1 hz with rfl | hz
  ·exact h.1
  ·have := ih'.1 z hz
   omega
theorem dist_of_pw {p : List Pr} (h : p.Pairwise (fun a b => a.comp < b.comp)) : DistP p := by
 unfold DistP
 rw [List.Nodup, List.pairwise_map]
 exact h.imp fun hab => by omega
theorem sortP_self {p : List Pr} (h : upB p = true) : sortP p = p := by
 have hp := upB_pw h
 exact sorted_twoP (sortP_perm p) (dist_of_pw hp) (hp.imp fun hab => by omega) (sortP_pw p)
theorem namedL_some {cs : List NI} : ∀ {p : List Pr} {r : List Lt}, namedL cs p = some r → (∀ e ∈ p, 0 ≤ e.comp ∧ e.comp < cs.length) ∧ r = p.map fun e => ⟨(cs.getD e.comp.toNat NI.no).name, e.val⟩
 | [], r, h => by
  simp only [namedL, Option.some.injEq] at h
  subst h
  exact ⟨fun e he => by simp at he, rfl⟩
 | y :: p, r, h => by
  rw [namedL] at h
  by_cases hc : y.comp < 0 ∨ (cs.length : Int) ≤ y.comp
  ·rw [if_pos hc] at h; cases h
  ·rw [if_neg hc, Option.map_eq_some_iff] at h
   obtain ⟨r', h1, rfl⟩ := h
   obtain ⟨h2, rfl⟩ := namedL_some h1
   refine ⟨fun e he => ?_, rfl⟩
   rcases List.mem_cons.1 he with rfl | he
   ·omega
   ·exact h2 e he
theorem filter_all {k : Int} {l : List It} (h : ∀ x ∈ l, x.kind = k) : l.filter (isK k) = l := List.filter_eq_self.2 fun x hx => decide_eq_true (h x hx)
theorem filter_none {k : Int} {l : List It} (h : ∀ x ∈ l, x.kind ≠ k) : l.filter (isK k) = [] := List.filter_eq_nil_iff.2 fun x hx he => h x hx (of_decide_eq_true he)
structure Parts (c : CE) (l : List It) (a b : List It) : Prop where
 all : l = c.comps.map (compI 1) ++ c.reqs.map (compI 2) ++ a ++ b
 ex : allO (exI c.comps) c.excl = some a
 cn : allO (cnI c.comps) c.cons = some b
theorem parts_of {c : CE} {l : List It} (h : rawI c = some l) : ∃ a b, Parts c l a b := by
 rw [rawI] at h
 cases h1 : allO (exI c.comps) c.excl with
 | none => rw [h1] at h; cases h
 | some a =>
  rw [h1] at h
  dsimp only at h
  rw [Option.map_eq_some_iff] at h
  obtain ⟨b, h2, h3⟩ := h
  exact ⟨a, b, h3.symm, h1, h2⟩
theorem exI_kind {cs : List NI} {e : Ex} {x : It} (h : exI cs e = some x) : ∃ nm, namedL cs e.locs = some nm ∧ x = ⟨3, e.name, AU.no, nm, [], 0⟩ := by
 rw [exI, Option.map_eq_some_iff] at h
 obtain ⟨nm, h1, h2⟩ := h
 exact ⟨nm, h1, h2.symm⟩
theorem cnI_kind {cs : List NI} {e : Cn} {x : It} (h : cnI cs e = some x) : ∃ nm, namedL cs e.terms = some nm ∧ x = ⟨4, e.name, AU.no, [], nm, e.bound⟩ := by
 rw [cnI, Option.map_eq_some_iff] at h
 obtain ⟨nm, h1, h2⟩ := h
 exact ⟨nm, h1, h2.symm⟩
structure PartK (c : CE) (l a b : List It) : Prop where
 k1 : l.filter (isK 1) = c.comps.map (compI 1)
 k2 : l.filter (isK 2) = c.reqs.map (compI 2)
 k3 : l.filter (isK 3) = a
 k4 : l.filter (isK 4) = b
theorem part_kinds {c : CE} {l a b : List It} (h : Parts c l a b) : PartK c l a b := by
 have ha : ∀ x ∈ a, x.kind = 3 := fun x hx => by
  obtain ⟨e, _, he⟩ := (allO_len h.ex).2 x hx
  obtain ⟨nm, _, rfl⟩ := exI_kind he
  rfl
 have hb : ∀ x ∈ b, x.kind = 4 := fun x hx => by
  obtain ⟨e, _, he⟩ := (allO_len h.cn).2 x hx
  obtain ⟨nm, _, rfl⟩ := cnI_kind he
  rfl
 have h1 : ∀ x ∈ c.comps.map (compI 1), x.kind = 1 := fun x hx => by obtain ⟨e, _, rfl⟩ := List.mem_map.1 hx; rfl
 have h2 : ∀ x ∈ c.reqs.map (compI 2), x.kind = 2 := fun x hx => by obtain ⟨e, _, rfl⟩ := List.mem_map.1 hx; rfl
 have key : ∀ (k : Int), l.filter (isK k) = (c.comps.map (compI 1)).filter (isK k) ++ (c.reqs.map (compI 2)).filter (isK k) ++ a.filter (isK k) ++ b.filter (isK k) := fun k => by
  rw [h.all, List.filter_append, List.filter_append, List.filter_append]
 refine ⟨?_, ?_, ?_, ?_⟩
 ·rw [key, filter_all h1, filter_none (k := 1) (fun x hx => by rw [h2 x hx]; decide), filter_none (k := 1) (fun x hx => by rw [ha x hx]; decide), filter_none (k := 1) (fun x hx => by rw [hb x hx]; decide)]
  simp
 ·rw [key, filter_all h2, filter_none (k := 2) (fun x hx => by rw [h1 x hx]; decide), filter_none (k := 2) (fun x hx => by rw [ha x hx]; decide), filter_none (k := 2) (fun x hx => by rw [hb x hx]; decide)]
  simp
 ·rw [key, filter_all ha, filter_none (k := 3) (fun x hx => by rw [h1 x hx]; decide), filter_none (k := 3) (fun x hx => by rw [h2 x hx]; decide), filter_none (k := 3) (fun x hx => by rw [hb x hx]; decide)]
  simp
 ·rw [key, filter_all hb, filter_none (k := 4) (fun x hx => by rw [h1 x hx]; decide), filter_none (k := 4) (fun x hx => by rw [h2 x hx]; decide), filter_none (k := 4) (fun x hx => by rw [ha x hx]; decide)]
  simp
theorem name_at {c : CE} {l a b : List It} (h : Parts c l a b) (g : Good l) {i : Nat} (hi : i < c.comps.length) : findI l 1 (c.comps.getD i NI.no).name = i := by
 have hlt : i < l.length := by
  rw [h.all]
  simp only [List.length_append, List.length_map]
  omega
 refine find_at g.keys hlt ?_
 have e : l.getD i It.no = compI 1 (c.comps.getD i NI.no) := by
  rw [h.all]
  simp only [List.getD]
  rw [List.append_assoc, List.append_assoc, List.getElem?_append_left (by rw [List.length_map]; exact hi), List.getElem?_map, List.getElem?_eq_getElem hi]
  rfl
 rw [e]
 rfl
theorem idx_back {c : CE} {l a b : List It} (h : Parts c l a b) (g : Good l) {p : List Pr} {nm : List Lt} (hn : namedL c.comps p = some nm) : nm.map (idxP l) = p ∧ (∀ u ∈ nm.map Lt.name, u ∈ nameN l) ∧ (upB p = true → (nm.map Lt.name).Nodup) := by
 obtain ⟨h1, rfl⟩ := namedL_some hn
 have hc : ∀ e ∈ p, findI l 1 (c.comps.getD e.comp.toNat NI.no).name = e.comp := fun e he => by
  have := h1 e he
  rw [name_at h g (by omega)]
  omega
 refine ⟨?_, fun u hu => ?_, fun hu => ?_⟩
 ·rw [List.map_map]
  conv => rhs; rw [← List.map_id p]
  refine List.map_congr_left fun e he => ?_
  show (⟨findI l 1 _, e.val⟩ : Pr) = e
  rw [hc e he]
 ·rw [List.map_map] at hu
  obtain ⟨e, he, rfl⟩ := List.mem_map.1 hu
  refine nameN_find.2 ?_
  have := (h1 e he).1
  rw [← hc e he] at this
  exact this
 ·have hp := upB_pw hu
  rw [List.map_map, List.Nodup, List.pairwise_map]
  refine List.Pairwise.imp_of_mem (R := fun a b => a.comp < b.comp) (fun {x y} hx hy hxy e => ?_) hp
  have e1 := hc x hx
  have e2 := hc y hy
  have e' : (c.comps.getD x.comp.toNat NI.no).name = (c.comps.getD y.comp.toNat NI.no).name := e
  rw [e', e2] at e1
  omega
theorem used_in {c : CE} {l a b : List It} (h : Parts c l a b) (g : Good l) : ∀ x ∈ l, (∀ u ∈ usedOf x, u ∈ nameN l) ∧ (risingB c = true → (usedOf x).Nodup) := by
 intro x hx
 have empty : ∀ y : It, y.locs = [] → y.terms = [] → (∀ u ∈ usedOf y, u ∈ nameN l) ∧ (risingB c = true → (usedOf y).Nodup) := fun y h1 h2 => by
  have : usedOf y = [] := by rw [usedOf, h1, h2]; rfl
  rw [this]
  exact ⟨fun u hu => by simp at hu, fun _ => by simp⟩
 rw [h.all] at hx
 rcases List.mem_append.1 hx with hx | hx
 ·rcases List.mem_append.1 hx with hx | hx
  ·rcases List.mem_append.1 hx with hx | hx
   ·obtain ⟨e, _, rfl⟩ := List.mem_map.1 hx
    exact empty _ rfl rfl
   ·obtain ⟨e, _, rfl⟩ := List.mem_map.1 hx
    exact empty _ rfl rfl
  ·obtain ⟨e, he, h2⟩ := (allO_len h.ex).2 x hx
   obtain ⟨nm, h3, rfl⟩ := exI_kind h2
   obtain ⟨q1, q2, q3⟩ := idx_back h g h3
   have hu : usedOf ⟨3, e.name, AU.no, nm, [], 0⟩ = nm.map Lt.name := by rw [usedOf]; simp
   rw [hu]
   refine ⟨q2, fun hr => q3 ?_⟩
   rw [risingB, Bool.and_eq_true, List.all_eq_true] at hr
   exact hr.1 e he
 ·obtain ⟨e, he, h2⟩ := (allO_len h.cn).2 x hx
  obtain ⟨nm, h3, rfl⟩ := cnI_kind h2
  obtain ⟨q1, q2, q3⟩ := idx_back h g h3
  have hu : usedOf ⟨4, e.name, AU.no, [], nm, e.bound⟩ = nm.map Lt.name := by rw [usedOf]; simp
  rw [hu]
  refine ⟨q2, fun hr => q3 ?_⟩
  rw [risingB, Bool.and_eq_true, List.all_eq_true, List.all_eq_true] at hr
  exact hr.2 e he
theorem wL_items {c : CE} {l : List It} (h : rawI c = some l) (g : Good l) : (wL (nameN l) l = 0 ∨ wL (nameN l) l = 8) ∧ (risingB c = true → wL (nameN l) l = 0) := by
 obtain ⟨a, b, hp⟩ := parts_of h
 have hu := used_in hp g
 exact ⟨wL_08 fun x hx => (hu x hx).1, fun hr => wL_zero fun x hx => wU_zero (hu x hx).1 ((hu x hx).2 hr) fun u _ => by simp⟩
theorem cell_back {c : CE} {l : List It} (h : rawI c = some l) (g : Good l) (hr : risingB c = true) : cellOf l = c := by
 obtain ⟨a, b, hp⟩ := parts_of h
 obtain ⟨k1, k2, k3, k4⟩ := part_kinds hp
 rw [risingB, Bool.and_eq_true, List.all_eq_true, List.all_eq_true] at hr
 have e1 : (cellOf l).comps = c.comps := by
  rw [cellOf_comps, k1, List.map_map]
  conv => rhs; rw [← List.map_id c.comps]
  rfl
 have e2 : (cellOf l).reqs = c.reqs := by
  rw [cellOf_reqs, k2, List.map_map]
  conv => rhs; rw [← List.map_id c.reqs]
  rfl
 have e3 : (cellOf l).excl = c.excl := by
  rw [cellOf_excl, k3]
  have key : ∀ (es : List Ex) (xs : List It), allO (exI c.comps) es = some xs → (∀ e ∈ es, upB e.locs = true) → xs.map (exOf l) = es := by
   intro es
   induction es with
   | nil => intro xs hx _; simp only [allO, Option.some.injEq] at hx; subst hx; rfl
   | cons e es ih =>
    intro xs hx hu
    rw [allO] at hx
    cases h1 : exI c.comps e with
    | none => rw [h1] at hx; cases hx
    | some x =>
     rw [h1] at hx
     dsimp only at hx
     rw [Option.map_eq_some_iff] at hx
     obtain ⟨r, h2, rfl⟩ := hx
     obtain ⟨nm, h3, rfl⟩ := exI_kind h1
     rw [List.map_cons, ih r h2 fun y hy => hu y (List.mem_cons_of_mem _ hy)]
     congr 1
     show (⟨e.name, sortP (nm.map (idxP l))⟩ : Ex) = e
     rw [(idx_back hp g h3).1, sortP_self (hu e (List.mem_cons_self ..))]
  exact key _ _ hp.ex hr.1
 have e4 : (cellOf l).cons = c.cons := by
  rw [cellOf_cons, k4]
  have key : ∀ (es : List Cn) (xs : List It), allO (cnI c.comps) es = some xs → (∀ e ∈ es, upB e.terms = true) → xs.map (cnOf l) = es := by
   intro es
   induction es with
   | nil => intro xs hx _; simp only [allO, Option.some.injEq] at hx; subst hx; rfl
   | cons e es ih =>
    intro xs hx hu
    rw [allO] at hx
    cases h1 : cnI c.comps e with
    | none => rw [h1] at hx; cases hx
    | some x =>
     rw [h1] at hx
     dsimp only at hx
     rw [Option.map_eq_some_iff] at hx
     obtain ⟨r, h2, rfl⟩ := hx
     obtain ⟨nm, h3, rfl⟩ := cnI_kind h1
     rw [List.map_cons, ih r h2 fun y hy => hu y (List.mem_cons_of_mem _ hy)]
     congr 1
     show (⟨e.name, sortP (nm.map (idxP l)), e.bound⟩ : Cn) = e
     rw [(idx_back hp g h3).1, sortP_self (hu e (List.mem_cons_self ..))]
  exact key _ _ hp.cn hr.2
 have eta : ∀ x y : CE, x.comps = y.comps → x.reqs = y.reqs → x.excl = y.excl → x.cons = y.cons → x = y := by
  rintro ⟨⟩ ⟨⟩ h1 h2 h3 h4
  simp only at h1 h2 h3 h4
  rw [h1, h2, h3, h4]
 exact eta _ _ e1 e2 e3 e4
end Go.Proofs.YtkjnjkdcpbgabaaGreatDoor
