/-
 Chapter 23: plain facts on right lists of items.
-/
import Derived.Test.YtkjnjkdcpbgabaaGreatDoorUI
set_option linter.unusedSimpArgs false
set_option linter.unusedVariables false
namespace Go.Proofs.YtkjnjkdcpbgabaaGreatDoor
open Go.Eng Go.RowKit
def okI (x : It) : Prop := (1 ≤ x.kind ∧ x.kind ≤ 4) ∧ isNameB x.name = true ∧ properB x = true
def keyOf (x : It) : Int × List UInt8 := (x.kind, x.name)
structure Good (l : List It) : Prop where
 len : l.length ≤ 76
 it : ∀ x ∈ l, okI x
 keys : (l.map keyOf).Nodup
 up : (l.map It.kind).Pairwise (· ≤ ·)
theorem keyB_iff (k : Int) (s : List UInt8) (x : It) : keyB k s x = true ↔ keyOf x = (k, s) := by
 simp only [keyB, Bool.and_eq_true, decide_eq_true_eq, keyOf, Prod.mk.injEq]
theorem last_le : ∀ {l : List Int} {y : Int}, l.Pairwise (· ≤ ·) → y ∈ l → ∃ w, l.getLast? = some w ∧ y ≤ w := by
 intro l
 induction l with
 | nil => intro y _ h; simp at h
 | cons a l ih =>
  intro y hp hy
  rw [List.pairwise_cons] at hp
  rcases List.mem_cons.1 hy with rfl | hy
  ·cases l with
   | nil => exact ⟨y, rfl, Int.le_refl _⟩
   | cons b l =>
    obtain ⟨w, h1, h2⟩ := ih hp.2 (List.mem_cons_self ..)
    refine ⟨w, ?_, Int.le_trans (hp.1 b (List.mem_cons_self ..)) h2⟩
    rw [List.getLast?_cons_cons]
    exact h1
  ·obtain ⟨w, h1, h2⟩ := ih hp.2 hy
   refine ⟨w, ?_, h2⟩
   cases l with
   | nil => simp at hy
   | cons b l =>
    rw [List.getLast?_cons_cons]
    exact h1
theorem chkFrom_zero : ∀ (l pre : List It), (pre.map It.kind).Pairwise (· ≤ ·) → (pre.map keyOf).Nodup → (chkFrom pre l = 0 ↔ (∀ x ∈ l, okI x) ∧ ((pre ++ l).map keyOf).Nodup ∧ ((pre ++ l).map It.kind).Pairwise (· ≤ ·)) := by
 intro l
 induction l with
 | nil =>
  intro pre hp hn
  rw [List.append_nil]
  exact ⟨fun _ => ⟨fun x hx => by simp at hx, hn, hp⟩, fun _ => rfl⟩
 | cons x r ih =>
  intro pre hp hn
  rw [chkFrom]
  have hassoc : pre ++ x :: r = pre ++ [x] ++ r := by simp
  by_cases h1 : x.kind < 1 ∨ 4 < x.kind
  ·rw [if_pos h1]
   refine ⟨fun h => absurd h (by decide), fun h => ?_⟩
   have := (h.1 x (List.mem_cons_self ..)).1
   omega
  rw [if_neg h1]
  by_cases h2 : isNameB x.name = false
  ·rw [if_pos h2]
   refine ⟨fun h => absurd h (by decide), fun h => ?_⟩
   have := (h.1 x (List.mem_cons_self ..)).2.1
   rw [h2] at this
   cases this
  rw [if_neg h2]
  by_cases h3 : pre.any (keyB x.kind x.name) = true
  ·rw [if_pos h3]
   refine ⟨fun h => absurd h (by decide), fun h => ?_⟩
   obtain ⟨y, hy, hk⟩ := List.any_eq_true.1 h3
   have hnd := h.2.1
   rw [List.map_append, List.map_cons, List.nodup_append] at hnd
   exact absurd ((keyB_iff _ _ _).1 hk) (hnd.2.2 (keyOf y) (List.mem_map_of_mem hy) (keyOf x) (List.mem_cons_self ..))
  rw [if_neg h3]
  have hn' : ((pre ++ [x]).map keyOf).Nodup := by
   rw [List.map_append, List.nodup_append]
   refine ⟨hn, by simp, fun a ha b hb e => h3 ?_⟩
   obtain ⟨y, hy, rfl⟩ := List.mem_map.1 ha
   simp only [List.map_cons, List.map_nil, List.mem_singleton] at hb
   exact List.any_eq_true.2 ⟨y, hy, (keyB_iff _ _ _).2 (e.trans hb)⟩
  by_cases h4 : (pre.getLast?.any fun y => decide (x.kind < y.kind)) = true
  ·rw [if_pos h4]
   refine ⟨fun h => absurd h (by decide), fun h => ?_⟩
   cases hg : pre.getLast? with
   | none => rw [hg] at h4; simp at h4
   | some y =>
    rw [hg] at h4
    have hy : y ∈ pre := List.mem_of_getLast? hg
    have hup := h.2.2
    rw [List.map_append, List.map_cons, List.pairwise_append] at hup
    have := hup.2.2 y.kind (List.mem_map_of_mem hy) x.kind (List.mem_cons_self ..)
    simp only [Option.any_some, decide_eq_true_eq] at h4
    omega
  rw [if_neg h4]
  have hp' : ((pre ++ [x]).map It.kind).Pairwise (· ≤ ·) := by
   rw [List.map_append, List.pairwise_append]
   refine ⟨hp, by simp, fun a ha b hb => ?_⟩
   simp only [List.map_cons, List.map_nil, List.mem_singleton] at hb
   subst hb
   obtain ⟨w, e1, e2⟩ := last_le hp ha
   rw [List.getLast?_map] at e1
   cases hg : pre.getLast? with
   | none => rw [hg] at e1; simp at e1
   | some y =>
    rw [hg] at e1 h4
    simp only [Option.map_some, Option.some.injEq] at e1
    simp only [Option.any_some, decide_eq_true_eq] at h4
    omega
  by_cases h5 : properB x = false
  ·rw [if_pos h5]
   refine ⟨fun h => absurd h (by decide), fun h => ?_⟩
   have := (h.1 x (List.mem_cons_self ..)).2.2
   rw [h5] at this
   cases this
  rw [if_neg h5, ih (pre ++ [x]) hp' hn', hassoc]
  refine and_congr_left fun _ => ⟨fun h y hy => ?_, fun h y hy => h y (List.mem_cons_of_mem _ hy)⟩
  rcases List.mem_cons.1 hy with rfl | hy
  ·exact ⟨by omega, by simpa using h2, by simpa using h5⟩
  ·exact h y hy
theorem good_iff (l : List It) : chkL l = 0 ↔ Good l := by
 rw [chkL]
 by_cases h : 76 < l.length
 ·rw [if_pos h]
  exact ⟨fun e => absurd e (by decide), fun g => by have := g.len; omega⟩
 ·rw [if_neg h, chkFrom_zero l [] (by simp) (by simp), List.nil_append]
  exact ⟨fun e => ⟨by omega, e.1, e.2.1, e.2.2⟩, fun g => ⟨g.it, g.keys, g.up⟩⟩
theorem chk_one (x : It) : chkL [x] = 0 ↔ okI x := by
 rw [good_iff]
 exact ⟨fun h => h.it x (by simp), fun h => ⟨by simp, fun y hy => by rw [List.mem_singleton.1 hy]; exact h, by simp, by simp⟩⟩
/-! finding -/
theorem find_none {l : List It} {k : Int} {s : List UInt8} : findI l k s < 0 ↔ (k, s) ∉ l.map keyOf := by
 rcases ixFrom_range (keyB k s) l 0 with ⟨h, hn⟩ | ⟨j, h1, h2⟩
 ·rw [findI, h]
  refine ⟨fun _ hm => ?_, fun _ => by decide⟩
  obtain ⟨x, hx, he⟩ := List.mem_map.1 hm
  have := hn x hx
  rw [(keyB_iff k s x).2 he] at this
  cases this
 ·rw [findI, h2]
  refine ⟨fun h => by omega, fun hm => absurd ?_ hm⟩
  have key : ∀ (l : List It) (i j : Nat), j < l.length → ixFrom (keyB k s) i l = ((i + j : Nat) : Int) → keyB k s (l.getD j It.no) = true := by
   intro l
   induction l with
   | nil => intro i j h; simp at h
   | cons y l ih =>
    intro i j hj he
    rw [ixFrom] at he
    by_cases hy : keyB k s y = true
    ·rw [if_pos hy] at he
     obtain rfl : j = 0 := by omega
     simpa using hy
    ·rw [if_neg hy] at he
     cases j with
     | zero =>
      exfalso
      rcases ixFrom_range (keyB k s) l (i + 1) with ⟨h, _⟩ | ⟨m, _, h⟩ <;> rw [h] at he <;> omega
     | succ j =>
      have := ih (i + 1) j (by simpa using hj) (by rw [he]; omega)
      simpa [List.getD] using this
  have := key l 0 j h1 h2
  rw [← (keyB_iff k s _).1 this]
  exact List.mem_map_of_mem (getD_mem l j It.no h1)
theorem find_at {l : List It} (hn : (l.map keyOf).Nodup) {j : Nat} (hj : j < l.length) {k : Int} {s : List UInt8} (he : keyOf (l.getD j It.no) = (k, s)) : findI l k s = j := by
 have key : ∀ (l : List It) (i j : Nat), (l.map keyOf).Nodup → j < l.length → keyOf (l.getD j It.no) = (k, s) → ixFrom (keyB k s) i l = ((i + j : Nat) : Int) := by
  intro l
  induction l with
  | nil => intro i j _ h; simp at h
  | cons y l ih =>
   intro i j hn hj he
   rw [List.map_cons, List.nodup_cons] at hn
   rw [ixFrom]
   cases j with
   | zero =>
    rw [if_pos ((keyB_iff k s y).2 (by simpa using he))]
    rfl
   | succ j =>
    have hj' : j < l.length := by simpa using hj
    have he' : keyOf (l.getD j It.no) = (k, s) := by simpa [List.getD] using he
    have hy : ¬ keyB k s y = true := fun h => hn.1 (by
     rw [(keyB_iff k s y).1 h, ← he']
     exact List.mem_map_of_mem (getD_mem l j It.no hj'))
    rw [if_neg hy, ih (i + 1) j hn.2 hj' he']
    omega
 have := key l 0 j hn hj he
 rwa [Nat.zero_add] at this
theorem find_some {l : List It} {k : Int} {s : List UInt8} (h : 0 ≤ findI l k s) : (findI l k s).toNat < l.length ∧ keyOf (l.getD (findI l k s).toNat It.no) = (k, s) := by
 have key : ∀ (l : List It) (i j : Nat), j < l.length → ixFrom (keyB k s) i l = ((i + j : Nat) : Int) → keyB k s (l.getD j It.no) = true := by
  intro l
  induction l with
  | nil => intro i j h; simp at h
  | cons y l ih =>
   intro i j hj he
   rw [ixFrom] at he
   by_cases hy : keyB k s y = true
   ·rw [if_pos hy] at he
    obtain rfl : j = 0 := by omega
    simpa using hy
   ·rw [if_neg hy] at he
    cases j with
    | zero =>
     exfalso
     rcases ixFrom_range (keyB k s) l (i + 1) with ⟨h, _⟩ | ⟨m, _, h⟩ <;> rw [h] at he <;> omega
    | succ j =>
     have := ih (i + 1) j (by simpa using hj) (by rw [he]; omega)
     simpa [List.getD] using this
 rcases ixFrom_range (keyB k s) l 0 with ⟨e, _⟩ | ⟨j, h1, h2⟩
 ·rw [findI, e] at h; omega
 ·have e : findI l k s = ((0 + j : Nat) : Int) := h2
  rw [e]
  have : ((0 + j : Nat) : Int).toNat = j := by omega
  rw [this]
  exact ⟨h1, (keyB_iff k s _).1 (key l 0 j h1 h2)⟩
/-! putting and dropping keep what is right -/
theorem set_keys {l : List It} {x : It} {j : Nat} (hj : j < l.length) (he : keyOf (l.getD j It.no) = keyOf x) : (l.set j x).map keyOf = l.map keyOf := by
 rw [List.map_set, ← he]
 refine List.ext_getElem (by simp) fun i h1 h2 => ?_
 rw [List.getElem_set]
 by_cases hij : j = i
 ·subst hij
  rw [if_pos rfl]
  simp [List.getD, List.getElem?_eq_getElem hj]
 ·rw [if_neg hij]
theorem kinds_of_keys {l m : List It} (h : l.map keyOf = m.map keyOf) : l.map It.kind = m.map It.kind := by
 have e : ∀ l : List It, l.map It.kind = (l.map keyOf).map Prod.fst := fun l => by rw [List.map_map]; rfl
 rw [e, e, h]
theorem good_set {l : List It} (g : Good l) {x : It} (hx : okI x) (h : 0 ≤ findI l x.kind x.name) : Good (l.set (findI l x.kind x.name).toNat x) := by
 obtain ⟨h1, h2⟩ := find_some h
 have hk := set_keys (x := x) h1 h2
 refine ⟨by rw [List.length_set]; exact g.len, fun y hy => ?_, by rw [hk]; exact g.keys, by rw [kinds_of_keys hk]; exact g.up⟩
 rcases List.mem_or_eq_of_mem_set hy with hy | rfl
 ·exact g.it y hy
 ·exact hx
theorem good_drop {l : List It} (g : Good l) (k : Int) (s : List UInt8) : Good (dropL l k s) := by
 rw [dropL, ← List.eraseIdx_eq_take_drop_succ]
 have hs := List.eraseIdx_sublist l (findI l k s).toNat
 exact ⟨Nat.le_trans hs.length_le g.len, fun y hy => g.it y (hs.mem hy), g.keys.sublist (hs.map _), g.up.sublist (hs.map _)⟩
structure SplitAt (l : List It) (k : Int) (n : Nat) : Prop where
 le : n ≤ l.length
 lo : ∀ y ∈ l.take n, y.kind ≤ k
 hi : ∀ y ∈ l.drop n, k < y.kind
theorem split_unique {l : List It} {k : Int} {n m : Nat} (h : SplitAt l k n) (h' : SplitAt l k m) : n = m := by
 have key : ∀ {n m : Nat}, SplitAt l k n → SplitAt l k m → n < m → False := fun {n m} h h' hlt => by
  have hm := h'.le
  have hn : n < l.length := by omega
  have e1 := h'.lo (l.getD n It.no) (by
   rw [List.mem_take_iff_getElem]
   exact ⟨n, by omega, by simp [List.getD, List.getElem?_eq_getElem hn]⟩)
  have e2 := h.hi (l.getD n It.no) (by
   rw [drop_getD l n It.no hn]
   exact List.mem_cons_self ..)
  omega
 rcases Nat.lt_trichotomy n m with h1 | h1 | h1
 ·exact (key h h' h1).elim
 ·exact h1
 ·exact (key h' h h1).elim
theorem atL_cons (y : It) (l : List It) (k : Int) : atL (y :: l) k = if k < y.kind then 0 else atL l k + 1 := by
 have sh : ∀ (l : List It) (i : Nat), ixFrom (fun y : It => decide (k < y.kind)) (i + 1) l = if ixFrom (fun y : It => decide (k < y.kind)) i l < 0 then -1 else ixFrom (fun y : It => decide (k < y.kind)) i l + 1 := by
  intro l
  induction l with
  | nil => intro i; rw [ixFrom, ixFrom]; rfl
  | cons z l ih =>
   intro i
   rw [ixFrom, ixFrom]
   by_cases hz : decide (k < z.kind) = true
   ·rw [if_pos hz, if_pos hz, if_neg (by omega)]
    omega
   ·rw [if_neg hz, if_neg hz, ih (i + 1)]
 rw [atL, ixFrom]
 by_cases h : k < y.kind
 ·rw [if_pos (show decide (k < y.kind) = true by simpa using h), if_pos h, if_neg (by decide)]
  rfl
 ·rw [if_neg (show ¬ decide (k < y.kind) = true by simpa using h), if_neg h, sh l 0, atL]
  by_cases hn : ixFrom (fun y : It => decide (k < y.kind)) 0 l < 0
  ·rw [if_pos hn, if_pos (by decide), if_pos hn, List.length_cons]
  ·rw [if_neg hn, if_neg (by omega), if_neg hn]
   omega
theorem atL_split : ∀ {l : List It} (k : Int), (l.map It.kind).Pairwise (· ≤ ·) → SplitAt l k (atL l k) := by
 intro l
 induction l with
 | nil => intro k _; exact ⟨Nat.le_refl _, fun y hy => by simp at hy, fun y hy => by simp at hy⟩
 | cons y l ih =>
  intro k hp
  rw [List.map_cons, List.pairwise_cons] at hp
  obtain ⟨i1, i2, i3⟩ := ih k hp.2
  rw [atL_cons]
  by_cases h : k < y.kind
  ·rw [if_pos h]
   refine ⟨Nat.zero_le _, fun z hz => by simp at hz, fun z hz => ?_⟩
   rw [List.drop_zero] at hz
   rcases List.mem_cons.1 hz with rfl | hz
   ·exact h
   ·have := hp.1 z.kind (List.mem_map_of_mem hz)
    omega
  ·rw [if_neg h]
   refine ⟨by simpa using i1, fun z hz => ?_, fun z hz => i3 z (by simpa using hz)⟩
   rw [List.take_succ_cons] at hz
   rcases List.mem_cons.1 hz with rfl | hz
   ·omega
   ·exact i2 z hz
theorem atB_split : ∀ {l : List It} (k : Int), (l.map It.kind).Pairwise (· ≤ ·) → SplitAt l k (atB k l.reverse) := by
 have key : ∀ (r : List It) (k : Int), (r.map It.kind).Pairwise (fun a b => b ≤ a) → SplitAt r.reverse k (atB k r) := by
  intro r
  induction r with
  | nil => intro k _; exact ⟨Nat.le_refl _, fun y hy => by simp at hy, fun y hy => by simp at hy⟩
  | cons y r ih =>
   intro k hp
   rw [List.map_cons, List.pairwise_cons] at hp
   obtain ⟨i1, i2, i3⟩ := ih k hp.2
   rw [atB, List.reverse_cons]
   by_cases h : k < y.kind
   ·rw [if_pos h]
    refine ⟨by rw [List.length_append]; omega, fun z hz => ?_, fun z hz => ?_⟩
    ·rw [List.take_append_of_le_length i1] at hz
     exact i2 z hz
    ·rw [List.drop_append_of_le_length i1] at hz
     rcases List.mem_append.1 hz with hz | hz
     ·exact i3 z hz
     ·rw [List.mem_singleton.1 hz]; exact h
   ·rw [if_neg h]
    refine ⟨by simp, fun z hz => ?_, fun z hz => ?_⟩
    ·have hz' := List.mem_of_mem_take hz
     rcases List.mem_append.1 hz' with hz' | hz'
     ·have := hp.1 z.kind (List.mem_map_of_mem (List.mem_reverse.1 hz'))
      omega
     ·rw [List.mem_singleton.1 hz']; omega
    ·rw [List.drop_of_length_le (by simp)] at hz
     simp at hz
 intro l k hp
 have := key l.reverse k (by rw [List.map_reverse, List.pairwise_reverse]; exact hp)
 rwa [List.reverse_reverse] at this
theorem lawPut_eq {l : List It} (g : Good l) (x : It) : lawPut l x = putL l x := by
 rw [lawPut, putL, split_unique (atB_split x.kind g.up) (atL_split x.kind g.up)]
theorem insL_perm (l : List It) (n : Nat) (x : It) : (insL l n x).Perm (x :: l) := by
 rw [insL]
 have := @List.perm_middle _ x (l.take n) (l.drop n)
 rwa [List.take_append_drop] at this
theorem good_ins {l : List It} (g : Good l) {x : It} (hx : okI x) (h : findI l x.kind x.name < 0) (hl : l.length < 76) : Good (insL l (atL l x.kind) x) := by
 have hp := insL_perm l (atL l x.kind) x
 obtain ⟨s1, s2, s3⟩ := atL_split x.kind g.up
 refine ⟨by rw [hp.length_eq, List.length_cons]; omega, fun y hy => ?_, ?_, ?_⟩
 ·rcases List.mem_cons.1 (hp.mem_iff.1 hy) with rfl | hy
  ·exact hx
  ·exact g.it y hy
 ·rw [(hp.map keyOf).nodup_iff, List.map_cons, List.nodup_cons]
  exact ⟨find_none.1 h, g.keys⟩
 ·have hup := g.up
  rw [← List.take_append_drop (atL l x.kind) l, List.map_append, List.pairwise_append] at hup
  rw [insL, List.map_append, List.map_cons, List.pairwise_append, List.pairwise_cons]
  refine ⟨hup.1, ⟨fun b hb => ?_, hup.2.1⟩, fun a ha b hb => ?_⟩
  ·obtain ⟨y, hy, rfl⟩ := List.mem_map.1 hb
   have := s3 y hy
   omega
  ·rcases List.mem_cons.1 hb with rfl | hb
   ·obtain ⟨y, hy, rfl⟩ := List.mem_map.1 ha
    exact s2 y hy
   ·exact hup.2.2 a ha b hb
theorem putE_zero {l : List It} (g : Good l) (x : It) : putE l x = 0 ↔ okI x ∧ (findI l x.kind x.name < 0 → l.length < 76) := by
 have hg := (good_iff l).2 g
 have hl := g.len
 rw [putE, if_neg (by rw [hg]; decide)]
 by_cases h1 : chkL [x] = 0
 ·rw [if_neg (by rw [h1]; decide)]
  have ho := (chk_one x).1 h1
  by_cases h2 : 0 ≤ findI l x.kind x.name
  ·rw [if_pos h2]
   exact ⟨fun _ => ⟨ho, fun h => by omega⟩, fun _ => rfl⟩
  ·rw [if_neg h2]
   by_cases h3 : l.length = 76
   ·rw [if_pos h3]
    exact ⟨fun h => absurd h (by decide), fun h => by have := h.2 (by omega); omega⟩
   ·rw [if_neg h3]
    exact ⟨fun _ => ⟨ho, fun _ => by omega⟩, fun _ => rfl⟩
 ·rw [if_pos h1]
  exact ⟨fun h => absurd h h1, fun h => absurd ((chk_one x).2 h.1) h1⟩
theorem good_put {l : List It} (g : Good l) {x : It} (h : putE l x = 0) : Good (putL l x) := by
 obtain ⟨h1, h2⟩ := (putE_zero g x).1 h
 rw [putL]
 by_cases hf : 0 ≤ findI l x.kind x.name
 ·rw [if_pos hf]; exact good_set g h1 hf
 ·rw [if_neg hf]; exact good_ins g h1 (by omega) (h2 (by omega))
theorem drop_law {l : List It} (g : Good l) (k : Int) (s : List UInt8) : dropR l k s = if findI l k s < 0 then ([], 10) else (dropL l k s, 0) := by
 have hg := (good_iff l).2 g
 have e : dropE l k s = if findI l k s < 0 then 10 else 0 := by rw [dropE, if_neg (by rw [hg]; simp)]
 rw [dropR, e]
 by_cases h : findI l k s < 0
 ·rw [if_pos h, if_pos h]; rfl
 ·rw [if_neg h, if_neg h]; rfl
theorem put_law {l : List It} (g : Good l) (x : It) : putR l x = if chkL [x] ≠ 0 then ([], chkL [x]) else if 76 < (lawPut l x).length then ([], 3) else (lawPut l x, 0) := by
 have hg := (good_iff l).2 g
 have hl := g.len
 rw [lawPut_eq g]
 by_cases h1 : chkL [x] = 0
 ·rw [if_neg (show ¬ chkL [x] ≠ 0 by rw [h1]; decide)]
  have hlen : (putL l x).length = if 0 ≤ findI l x.kind x.name then l.length else l.length + 1 := by
   rw [putL]
   by_cases hf : 0 ≤ findI l x.kind x.name
   ·rw [if_pos hf, if_pos hf, List.length_set]
   ·rw [if_neg hf, if_neg hf, (insL_perm _ _ _).length_eq, List.length_cons]
  by_cases h2 : 0 ≤ findI l x.kind x.name
  ·rw [if_pos h2] at hlen
   have e : putE l x = 0 := (putE_zero g x).2 ⟨(chk_one x).1 h1, fun h => by omega⟩
   rw [putR, if_pos e, e, if_neg (by omega)]
  ·rw [if_neg h2] at hlen
   by_cases h3 : l.length = 76
   ·have e : putE l x = 3 := by rw [putE, if_neg (by rw [hg]; simp), if_neg (by rw [h1]; simp), if_neg h2, if_pos h3]
    rw [putR, if_neg (by rw [e]; decide), e, if_pos (by omega)]
   ·have e : putE l x = 0 := (putE_zero g x).2 ⟨(chk_one x).1 h1, fun h => by omega⟩
    rw [putR, if_pos e, e, if_neg (by omega)]
 ·have e : putE l x = chkL [x] := by rw [putE, if_neg (by rw [hg]; simp), if_pos h1]
  rw [putR, if_neg (by rw [e]; exact h1), e, if_pos h1]
theorem apply_law : ∀ (es : List Edt) (l : List It), Good l → applyGo l es = lawGo l es := by
 intro es
 induction es with
 | nil => intro l _; rfl
 | cons x r ih =>
  intro l g
  rw [applyGo, lawGo]
  by_cases hd : x.drop = true
  ·rw [if_pos hd, if_pos hd, drop_law g]
   by_cases h : findI l x.it.kind x.it.name < 0
   ·rw [if_pos h, if_pos h, if_pos (by decide)]
   ·rw [if_neg h, if_neg h, if_neg (by simp)]
    exact ih _ (good_drop g _ _)
  ·rw [if_neg hd, if_neg hd]
   by_cases h1 : chkL [x.it] = 0
   ·have hp : putR l x.it = if 76 < (lawPut l x.it).length then ([], 3) else (lawPut l x.it, 0) := by rw [put_law g, if_neg (by simp [h1])]
    rw [hp, if_neg (show ¬ chkL [x.it] ≠ 0 by simp [h1])]
    by_cases h2 : 76 < (lawPut l x.it).length
    ·rw [if_pos h2, if_pos h2, if_pos (by decide)]
    ·rw [if_neg h2, if_neg h2, if_neg (by simp)]
     refine ih _ ?_
     have e : putE l x.it = 0 := by
      have := congrArg Prod.snd hp
      rwa [if_neg h2] at this
     rw [lawPut_eq g]
     exact good_put g e
   ·have hp : putR l x.it = ([], chkL [x.it]) := by rw [put_law g, if_pos h1]
    rw [hp, if_pos h1, if_pos h1]
end Go.Proofs.YtkjnjkdcpbgabaaGreatDoor
