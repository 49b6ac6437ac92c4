/-
 Chapter 23: plain facts: what is put is found; a difference, applied.
-/
import Derived.Test.YtkjnjkdcpbgabaaGreatDoorUP
set_option linter.unusedSimpArgs false
set_option linter.unusedVariables false
namespace Go.Proofs.YtkjnjkdcpbgabaaGreatDoor
open Go.Eng Go.RowKit
structure PutFind (l : List It) (x : It) (j : Nat) : Prop where
 lt : j < (putL l x).length
 at_ : findI (putL l x) x.kind x.name = j
 get : (putL l x).getD j It.no = x
 was : 0 ≤ findI l x.kind x.name → (putL l x).length = l.length
 new : findI l x.kind x.name < 0 → dropL (putL l x) x.kind x.name = l
/-! differences -/
theorem same_key {l : List It} (hn : (l.map keyOf).Nodup) {x y : It} (hx : x ∈ l) (hy : y ∈ l) (h : keyOf x = keyOf y) : x = y := by
 induction l with
 | nil => simp at hx
 | cons a l ih =>
  rw [List.map_cons, List.nodup_cons] at hn
  rcases List.mem_cons.1 hx with e1 | hx
  ·rcases List.mem_cons.1 hy with e2 | hy
   ·rw [e1, e2]
   ·exact absurd (by rw [← e1, h]; exact List.mem_map_of_mem hy) hn.1
  ·rcases List.mem_cons.1 hy with e2 | hy
   ·exact absurd (by rw [← e2, ← h]; exact List.mem_map_of_mem hx) hn.1
   ·exact ih hn.2 hx hy
theorem hasB_iff (l : List It) (x : It) : hasB l x = true ↔ x ∈ l := by
 rw [hasB, List.any_eq_true]
 exact ⟨fun ⟨y, h1, h2⟩ => by rw [of_decide_eq_true h2]; exact h1, fun h => ⟨x, h, decide_eq_true rfl⟩⟩
theorem newB_eq {a : List It} (g : Good a) (x : It) : newB a x = !hasB a x := by
 rw [newB]
 congr 1
 rw [Bool.eq_iff_iff, hasB_iff, Bool.and_eq_true, decide_eq_true_eq, decide_eq_true_eq]
 constructor
 ·rintro ⟨h1, h2⟩
  rw [← h2]
  exact getD_mem a _ It.no (find_some h1).1
 ·intro h
  obtain ⟨j, hj, e⟩ := List.mem_iff_getElem.1 h
  have hget : a.getD j It.no = x := by simp [List.getD, List.getElem?_eq_getElem hj, e]
  have := find_at (k := x.kind) (s := x.name) g.keys hj (by rw [hget]; rfl)
  rw [this]
  exact ⟨by omega, by rw [Int.toNat_natCast]; exact hget⟩
theorem diff_law {a b : List It} (g : Good a) : diffB a b = (b.filter fun x => !hasB a x).map fun x => ⟨false, x⟩ := by
 rw [diffB]
 congr 2
 funext x
 exact newB_eq g x
theorem dropL_filter {l : List It} (hn : (l.map keyOf).Nodup) {k : Int} {s : List UInt8} (h : 0 ≤ findI l k s) : dropL l k s = l.filter fun y => decide (keyOf y ≠ (k, s)) := by
 obtain ⟨h1, h2⟩ := find_some h
 rw [dropL]
 generalize (findI l k s).toNat = j at *
 have key : ∀ (l : List It) (j : Nat), (l.map keyOf).Nodup → j < l.length → keyOf (l.getD j It.no) = (k, s) → l.take j ++ l.drop (j + 1) = l.filter fun y => decide (keyOf y ≠ (k, s)) := by
  intro l
  induction l with
  | nil => intro j _ h; simp at h
  | cons y l ih =>
   intro j hn hj he
   rw [List.map_cons, List.nodup_cons] at hn
   cases j with
   | zero =>
    have he' : keyOf y = (k, s) := by simpa using he
    rw [List.take_zero, List.nil_append, List.drop_succ_cons, List.drop_zero, List.filter_cons, if_neg (by simp [he'])]
    refine (List.filter_eq_self.2 fun z hz => ?_).symm
    rw [decide_eq_true_eq]
    intro e
    exact hn.1 (by rw [he', ← e]; exact List.mem_map_of_mem hz)
   | succ j =>
    have hj' : j < l.length := by simpa using hj
    have he' : keyOf (l.getD j It.no) = (k, s) := by simpa [List.getD] using he
    have hy : keyOf y ≠ (k, s) := fun e => hn.1 (by
     rw [e, ← he']
     exact List.mem_map_of_mem (getD_mem l j It.no hj'))
    rw [List.take_succ_cons, List.drop_succ_cons, List.cons_append, ih j hn.2 hj' he', List.filter_cons, if_pos (by simpa using hy)]
 exact key l j hn h1 h2
theorem drops_law : ∀ (ds : List It) (l : List It) (r : List Edt), Good l → (ds.map keyOf).Nodup → (∀ x ∈ ds, keyOf x ∈ l.map keyOf) →
  lawGo l (ds.map (fun x => ⟨true, ⟨x.kind, x.name, AU.no, [], [], 0⟩⟩) ++ r) = lawGo (l.filter fun y => decide (keyOf y ∉ ds.map keyOf)) r ∧ Good (l.filter fun y => decide (keyOf y ∉ ds.map keyOf)) := by
 intro ds
 induction ds with
 | nil =>
  intro l r g _ _
  have : (l.filter fun y => decide (keyOf y ∉ ([] : List It).map keyOf)) = l := List.filter_eq_self.2 fun y _ => by simp
  rw [this]
  exact ⟨rfl, g⟩
 | cons x ds ih =>
  intro l r g hn hs
  rw [List.map_cons, List.nodup_cons] at hn
  have hf : 0 ≤ findI l x.kind x.name := by
   by_cases h : findI l x.kind x.name < 0
   ·exact absurd (hs x (List.mem_cons_self ..)) (find_none.1 h)
   ·omega
  have gd := good_drop g x.kind x.name
  have hdf := dropL_filter g.keys hf
  have e : (l.filter fun y => decide (keyOf y ∉ (x :: ds).map keyOf)) = (dropL l x.kind x.name).filter fun y => decide (keyOf y ∉ ds.map keyOf) := by
   rw [hdf, List.filter_filter]
   congr 1
   funext y
   rw [List.map_cons, Bool.eq_iff_iff, Bool.and_eq_true, decide_eq_true_eq, decide_eq_true_eq, decide_eq_true_eq, List.mem_cons, not_or]
   exact ⟨fun h => ⟨h.2, h.1⟩, fun h => ⟨h.2, h.1⟩⟩
  rw [e, List.map_cons, List.cons_append, lawGo, if_pos rfl, if_neg (by dsimp only; omega)]
  refine ih _ r gd hn.2 fun y hy => ?_
  rw [hdf]
  obtain ⟨z, hz, he⟩ := List.mem_map.1 (hs y (List.mem_cons_of_mem _ hy))
  rw [← he]
  refine List.mem_map_of_mem (List.mem_filter.2 ⟨hz, ?_⟩)
  rw [decide_eq_true_eq, he]
  intro e
  refine hn.1 (List.mem_map.2 ⟨y, hy, e⟩)
theorem mem_putL {l : List It} (g : Good l) {x y : It} : y ∈ putL l x ↔ y = x ∨ (y ∈ l ∧ keyOf y ≠ keyOf x) := by
 rw [putL]
 by_cases hf : 0 ≤ findI l x.kind x.name
 ·rw [if_pos hf]
  obtain ⟨h1, h2⟩ := find_some hf
  generalize (findI l x.kind x.name).toNat = j at *
  have hm := getD_mem l j It.no h1
  constructor
  ·intro h
   obtain ⟨i, hi, he⟩ := List.mem_iff_getElem.1 h
   rw [List.length_set] at hi
   rw [List.getElem_set] at he
   by_cases hij : j = i
   ·rw [if_pos hij] at he
    exact .inl he.symm
   ·rw [if_neg hij] at he
    refine .inr ⟨he ▸ List.getElem_mem hi, fun e => hij ?_⟩
    have a1 := find_at (k := x.kind) (s := x.name) g.keys h1 h2
    have a2 := find_at (k := x.kind) (s := x.name) g.keys hi (by rw [show l.getD i It.no = y by simp [List.getD, List.getElem?_eq_getElem hi, he]]; exact e)
    omega
  ·rintro (rfl | ⟨h, hk⟩)
   ·exact List.mem_iff_getElem.2 ⟨j, by simpa using h1, by simp⟩
   ·obtain ⟨i, hi, he⟩ := List.mem_iff_getElem.1 h
    have hij : j ≠ i := by
     rintro rfl
     apply hk
     rw [← he, ← show l.getD j It.no = l[j] by simp [List.getD, List.getElem?_eq_getElem hi]]
     exact h2
    exact List.mem_iff_getElem.2 ⟨i, by simpa using hi, by rw [List.getElem_set, if_neg hij]; exact he⟩
 ·rw [if_neg hf, (insL_perm _ _ _).mem_iff, List.mem_cons]
  have hn := find_none.1 (show findI l x.kind x.name < 0 by omega)
  refine or_congr_right ⟨fun h => ⟨h, fun e => hn ?_⟩, fun h => h.1⟩
  rw [show (x.kind, x.name) = keyOf x from rfl, ← e]
  exact List.mem_map_of_mem h
theorem puts_law {b : List It} (gb : Good b) : ∀ (xs : List It) (l : List It), Good l → (∀ y ∈ l, keyOf y ∈ b.map keyOf) → (∀ x ∈ xs, x ∈ b) →
  ∃ m, lawGo l (xs.map fun x => ⟨false, x⟩) = (m, 0) ∧ Good m ∧ ((xs.map keyOf).Nodup → ∀ y, y ∈ m ↔ y ∈ xs ∨ (y ∈ l ∧ keyOf y ∉ xs.map keyOf)) := by
 intro xs
 induction xs with
 | nil => intro l g _ _; exact ⟨l, rfl, g, fun _ y => by simp⟩
 | cons x xs ih =>
  intro l g hk hx
  have hxb := hx x (List.mem_cons_self ..)
  have hox := gb.it x hxb
  have he : putE l x = 0 := (putE_zero g x).2 ⟨hox, fun hn => by
   have h1 := find_none.1 hn
   have : ((x.kind, x.name) :: l.map keyOf).length ≤ (b.map keyOf).length := by
    refine List.Nodup.length_le_of_subset (List.nodup_cons.2 ⟨h1, g.keys⟩) fun k hkm => ?_
    rcases List.mem_cons.1 hkm with rfl | hkm
    ·exact List.mem_map_of_mem (f := keyOf) hxb
    ·obtain ⟨y, hy, rfl⟩ := List.mem_map.1 hkm
     exact hk y hy
   have hb := gb.len
   simp only [List.length_cons, List.length_map] at this
   omega⟩
  have gp := good_put g he
  have hpl := gp.len
  rw [List.map_cons, lawGo, if_neg (show ¬ (false = true) by decide)]
  dsimp only
  rw [if_neg (by rw [(chk_one x).2 hox]; decide), lawPut_eq g, if_neg (by omega)]
  obtain ⟨m, e, gm, hm⟩ := ih (putL l x) gp (fun y hy => by
   rcases (mem_putL g).1 hy with rfl | ⟨hy, _⟩
   ·exact List.mem_map_of_mem hxb
   ·exact hk y hy) fun y hy => hx y (List.mem_cons_of_mem _ hy)
  refine ⟨m, e, gm, fun hn y => ?_⟩
  rw [List.map_cons, List.nodup_cons] at hn
  rw [hm hn.2, mem_putL g, List.mem_cons, List.map_cons, List.mem_cons, not_or]
  constructor
  ·rintro (h | ⟨rfl | ⟨h1, h2⟩, h3⟩)
   ·exact .inl (.inr h)
   ·exact .inl (.inl rfl)
   ·exact .inr ⟨h1, h2, h3⟩
  ·rintro ((rfl | h) | ⟨h1, h2, h3⟩)
   ·exact .inr ⟨.inl rfl, hn.1⟩
   ·exact .inl h
   ·exact .inr ⟨.inr ⟨h1, h2⟩, h3⟩
theorem filter_keys {l : List It} (hn : (l.map keyOf).Nodup) (p : It → Bool) : ((l.filter p).map keyOf).Nodup := hn.sublist ((List.filter_sublist).map _)
theorem nodup_of_keys {l : List It} (hn : (l.map keyOf).Nodup) : l.Nodup := by
 induction l with
 | nil => simp
 | cons x l ih =>
  rw [List.map_cons, List.nodup_cons] at hn
  exact List.nodup_cons.2 ⟨fun h => hn.1 (List.mem_map_of_mem h), ih hn.2⟩
theorem alike_of {a b : List It} (ha : a.Nodup) (hb : b.Nodup) (h : ∀ y, y ∈ a ↔ y ∈ b) : alikeB a b = true := by
 have h1 := List.Nodup.length_le_of_subset ha fun y hy => (h y).1 hy
 have h2 := List.Nodup.length_le_of_subset hb fun y hy => (h y).2 hy
 rw [alikeB, Bool.and_eq_true, Bool.and_eq_true, decide_eq_true_eq, List.all_eq_true, List.all_eq_true]
 exact ⟨by omega, fun x hx => (hasB_iff b x).2 ((h x).1 hx), fun x hx => (hasB_iff a x).2 ((h x).2 hx)⟩
theorem diff_apply {a b : List It} (ga : Good a) (gb : Good b) : ∃ m, lawGo a (diffA b a ++ diffB a b) = (m, 0) ∧ Good m ∧ alikeB m b = true := by
 rw [diffA, diff_law ga]
 generalize hds : a.filter (fun x => decide (findI b x.kind x.name < 0)) = ds
 have hdk : (ds.map keyOf).Nodup := by rw [← hds]; exact filter_keys ga.keys _
 obtain ⟨e1, g1⟩ := drops_law ds a ((b.filter fun x => !hasB a x).map fun x => ⟨false, x⟩) ga hdk (fun x hx => by
  rw [← hds] at hx
  exact List.mem_map_of_mem (List.mem_filter.1 hx).1)
 rw [e1]
 have hin : ∀ y, (y ∈ a.filter fun y => decide (keyOf y ∉ ds.map keyOf)) ↔ y ∈ a ∧ keyOf y ∈ b.map keyOf := by
  intro y
  rw [List.mem_filter, decide_eq_true_eq]
  refine and_congr_right fun hy => ?_
  rw [← hds]
  constructor
  ·intro h
   by_cases hb : findI b y.kind y.name < 0
   ·exact absurd (List.mem_map_of_mem (List.mem_filter.2 ⟨hy, decide_eq_true hb⟩)) h
   ·exact Classical.byContradiction fun hk => hb (find_none.2 hk)
  ·intro h hm
   obtain ⟨z, hz, hk⟩ := List.mem_map.1 hm
   have := (List.mem_filter.1 hz).2
   rw [decide_eq_true_eq] at this
   exact find_none.1 this (by rw [show (z.kind, z.name) = keyOf z from rfl, hk]; exact h)
 obtain ⟨m, e2, gm, hm⟩ := puts_law gb (b.filter fun x => !hasB a x) _ g1 (fun y hy => ((hin y).1 hy).2) fun x hx => (List.mem_filter.1 hx).1
 refine ⟨m, e2, gm, alike_of (nodup_of_keys gm.keys) (nodup_of_keys gb.keys) fun y => ?_⟩
 have hxs : ∀ y, (y ∈ b.filter fun x => !hasB a x) ↔ y ∈ b ∧ y ∉ a := fun y => by
  rw [List.mem_filter, Bool.not_eq_true', Bool.eq_false_iff, ne_eq, hasB_iff]
 rw [hm (filter_keys gb.keys _), hin, hxs]
 constructor
 ·rintro (h | ⟨⟨h1, h2⟩, h3⟩)
  ·exact h.1
  ·obtain ⟨z, hz, hk⟩ := List.mem_map.1 h2
   by_cases hza : z ∈ a
   ·rw [← same_key ga.keys hza h1 hk]; exact hz
   ·exact absurd (by rw [← hk]; exact List.mem_map_of_mem ((hxs z).2 ⟨hz, hza⟩)) h3
 ·intro hy
  by_cases hya : y ∈ a
  ·refine .inr ⟨⟨hya, List.mem_map_of_mem hy⟩, fun h => ?_⟩
   obtain ⟨z, hz, hk⟩ := List.mem_map.1 h
   have hz' := (hxs z).1 hz
   exact hz'.2 (by rw [same_key gb.keys hz'.1 hy hk]; exact hya)
  ·exact .inl ⟨hy, hya⟩
theorem diff_self {a : List It} (ga : Good a) : diffR a a = ([], 0) := by
 have hg := (good_iff a).2 ga
 rw [diffR, if_neg (by rw [hg]; decide), if_neg (by rw [hg]; decide), diffA, diff_law ga]
 have e1 : a.filter (fun x => decide (findI a x.kind x.name < 0)) = [] := List.filter_eq_nil_iff.2 fun x hx h => by
  rw [decide_eq_true_eq] at h
  exact find_none.1 h (List.mem_map_of_mem (f := keyOf) hx)
 have e2 : (a.filter fun x => !hasB a x) = [] := List.filter_eq_nil_iff.2 fun x hx h => by
  rw [(hasB_iff a x).2 hx] at h
  cases h
 rw [e1, e2]
 rfl
end Go.Proofs.YtkjnjkdcpbgabaaGreatDoor
