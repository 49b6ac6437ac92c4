/-
 Chapter 23: plain facts on right lists of items.
-/
import Derived.Test.YtkjnjkdcpbgabaaGreatDoorUF
set_option linter.unusedSimpArgs false
set_option linter.unusedVariables false
namespace Go.Proofs.YtkjnjkdcpbgabaaGreatDoor
open Go.Eng Go.RowKit
def okI (x : It) : Prop := (1 ≤ x.kind ∧ x.kind ≤ 4) ∧ isNameB x.name = true ∧ properB x = true
def keyOf (x : It) : Int × List UInt8 := (x.kind, x.name)
structure Good (l : List It) : Prop where
 len : l.length ≤ 76
 it : ∀ x ∈ l, okI x
 keys : (l.map keyOf).Nodup
 up : (l.map It.kind).Pairwise (· ≤ ·)
theorem keyB_iff (k : Int) (s : List UInt8) (x : It) : keyB k s x = true ↔ keyOf x = (k, s) := by
 simp only [keyB, Bool.and_eq_true, decide_eq_true_eq, keyOf, Prod.mk.injEq]
theorem last_le : ∀ {l : List Int} {y : Int}, l.Pairwise (· ≤ ·) → y ∈ l → ∃ w, l.getLast? = some w ∧ y ≤ w := by
 intro l
 induction l with
 | nil => intro y _ h; simp at h
 | cons a l ih =>
  intro y hp hy
  rw [List.pairwise_cons] at hp
  rcases List.mem_cons.1 hy with rfl | hy
  ·cases l with
   | nil => exact ⟨y, rfl, Int.le_refl _⟩
   | cons b l =>
    obtain ⟨w, h1, h2⟩ := ih hp.2 (List.mem_cons_self ..)
    refine ⟨w, ?_, Int.le_trans (hp.1 b (List.mem_cons_self ..)) h2⟩
    rw [List.getLast?_cons_cons]
    exact h1
  ·obtain ⟨w, h1, h2⟩ := ih hp.2 hy
   refine ⟨w, ?_, h2⟩
   cases l with
   | nil => simp at hy
   | cons b l =>
    rw [List.getLast?_cons_cons]
    exact h1
theorem chkFrom_zero : ∀ (l pre : List It), (pre.map It.kind).Pairwise (· ≤ ·) → (pre.map keyOf).Nodup → (chkFrom pre l = 0 ↔ (∀ x ∈ l, okI x) ∧ ((pre ++ l).map keyOf).Nodup ∧ ((pre ++ l).map It.kind).Pairwise (· ≤ ·)) := by
 intro l
 induction l with
 | nil =>
  intro pre hp hn
  rw [List.append_nil]
  exact ⟨fun _ => ⟨fun x hx => by simp at hx, hn, hp⟩, fun _ => rfl⟩
 | cons x r ih =>
  intro pre hp hn
  rw [chkFrom]
  have hassoc : pre ++ x :: r = pre ++ [x] ++ r := by simp
  by_cases h1 : x.kind < 1 ∨ 4 < x.kind
  ·rw [if_pos h1]
   refine ⟨fun h => absurd h (by decide), fun h => ?_⟩
   have := (h.1 x (List.mem_cons_self ..)).1
   omega
  rw [if_neg h1]
  by_cases h2 : isNameB x.name = false
  ·rw [if_pos h2]
   refine ⟨fun h => absurd h (by decide), fun h => ?_⟩
   have := (h.1 x (List.mem_cons_self ..)).2.1
   rw [h2] at this
   cases this
  rw [if_neg h2]
  by_cases h3 : pre.any (keyB x.kind x.name) = true
  ·rw [if_pos h3]
   refine ⟨fun h => absurd h (by decide), fun h => ?_⟩
   obtain ⟨y, hy, hk⟩ := List.any_eq_true.1 h3
   have hnd := h.2.1
   rw [List.map_append, List.map_cons, List.nodup_append] at hnd
   exact absurd ((keyB_iff _ _ _).1 hk) (hnd.2.2 (keyOf y) (List.mem_map_of_mem hy) (keyOf x) (List.mem_cons_self ..))
  rw [if_neg h3]
  have hn' : ((pre ++ [x]).map keyOf).Nodup := by
   rw [List.map_append, List.nodup_append]
   refine ⟨hn, by simp, fun a ha b hb e => h3 ?_⟩
   obtain ⟨y, hy, rfl⟩ := List.mem_map.1 ha
   simp only [List.map_cons, List.map_nil, List.mem_singleton] at hb
   exact List.any_eq_true.2 ⟨y, hy, (keyB_iff _ _ _).2 (e.trans hb)⟩
  by_cases h4 : (pre.getLast?.any fun y => decide (x.kind < y.kind)) = true
  ·rw [if_pos h4]
   refine ⟨fun h => absurd h (by decide), fun h => ?_⟩
   cases hg : pre.getLast? with
   | none => rw [hg] at h4; simp at h4
   | some y =>
    rw [hg] at h4
    have hy : y ∈ pre := List.mem_of_getLast? hg
    have hup := h.2.2
    rw [List.map_append, List.map_cons, List.pairwise_append] at hup
    have := hup.2.2 y.kind (List.mem_map_of_mem hy) x.kind (List.mem_cons_self ..)
    simp only [Option.any_some, decide_eq_true_eq] at h4
    omega
  rw [if_neg h4]
  have hp' : ((pre ++ [x]).map It.kind).Pairwise (· ≤ ·) := by
   rw [List.map_append, List.pairwise_append]
   refine ⟨hp, by simp, fun a ha b hb => ?_⟩
   simp only [List.map_cons, List.map_nil, List.mem_singleton] at hb
   subst hb
   obtain ⟨w, e1, e2⟩ := last_le hp ha
   rw [List.getLast?_map] at e1
   cases hg : pre.getLast? with
   | none => rw [hg] at e1; simp at e1
   | some y =>
    rw [hg] at e1 h4
    simp only [Option.map_some, Option.some.injEq] at e1
    simp only [Option.any_some, decide_eq_true_eq] at h4
    omega
  by_cases h5 : properB x = false
  ·rw [if_pos h5]
   refine ⟨fun h => absurd h (by decide), fun h => ?_⟩
   have := (h.1 x (List.mem_cons_self ..)).2.2
   rw [h5] at this
   cases this
  rw [if_neg h5, ih (pre ++ [x]) hp' hn', hassoc]
  refine and_congr_left fun _ => ⟨fun h y hy => ?_, fun h y hy => h y (List.mem_cons_of_mem _ hy)⟩
  rcases List.mem_cons.1 hy with rfl | hy
  ·exact ⟨by omega, by simpa using h2, by simpa using h5⟩
  ·exact h y hy
theorem good_iff (l : List It) : chkL l = 0 ↔ Good l := by
 rw [chkL]
 by_cases h : 76 < l.length
 ·rw [if_pos h]
  exact ⟨fun e => absurd e (by decide), fun g => by have := g.len; omega⟩
 ·rw [if_neg h, chkFrom_zero l [] (by simp) (by simp), List.nil_append]
  exact ⟨fun e => ⟨by omega, e.1, e.2.1, e.2.2⟩, fun g => ⟨g.it, g.keys, g.up⟩⟩
theorem chk_one (x : It) : chkL [x] = 0 ↔ okI x := by
 rw [good_iff]
 exact ⟨fun h => h.it x (by simp), fun h => ⟨by simp, fun y hy => by rw [List.mem_singleton.1 hy]; exact h, by simp, by simp⟩⟩
/-! finding -/
theorem find_none {l : List It} {k : Int} {s : List UInt8} : findI l k s < 0 ↔ (k, s) ∉ l.map keyOf := by
 rcases ixFrom_range (keyB k s) l 0 with ⟨h, hn⟩ | ⟨j, h1, h2⟩
 ·rw [findI, h]
  refine ⟨fun _ hm => ?_, fun _ => by decide⟩
  obtain ⟨x, hx, he⟩ := List.mem_map.1 hm
  have := hn x hx
  rw [(keyB_iff k s x).2 he] at this
  cases this
 ·rw [findI, h2]
  refine ⟨fun h => by omega, fun hm => absurd ?_ hm⟩
  have key : ∀ (l : List It) (i j : Nat), j < l.length → ixFrom (keyB k s) i l = ((i + j : Nat) : Int) → keyB k s (l.getD j It.no) = true := by
   intro l
   induction l with
   | nil => intro i j h; simp at h
   | cons y l ih =>
    intro i j hj he
    rw [ixFrom] at he
    by_cases hy : keyB k s y = true
    ·rw [if_pos hy] at he
     obtain rfl : j = 0 := by omega
     simpa using hy
    ·rw [if_neg hy] at he
     cases j with
     | zero =>
      exfalso
      rcases ixFrom_range (keyB k s) l (i + 1) with ⟨h, _⟩ | ⟨m, _, h⟩ <;> rw [h] at he <;> omega
     | succ j =>
      have := ih (i + 1) j (by simpa using hj) (by rw [he]; omega)
      simpa [List.getD] using this
  have := key l 0 j h1 h2
  rw [← (keyB_iff k s _).1 this]
  exact List.mem_map_of_mem (getD_mem l j It.no h1)
theorem find_some {l : List It} {k : Int} {s : List UInt8} (h : 0 ≤ findI l k s) : (findI l k s).toNat < l.length ∧ keyOf (l.getD (findI l k s).toNat It.no) = (k, s) := by
 have key : ∀ (l : List It) (i j : Nat), j < l.length → ixFrom (keyB k s) i l = ((i + j : Nat) : Int) → keyB k s (l.getD j It.no) = true := by
  intro l
  induction l with
  | nil => intro i j h; simp at h
  | cons y l ih =>
   intro i j hj he
   rw [ixFrom] at he
   by_cases hy : keyB k s y = true
   ·rw [if_pos hy] at he
    obtain rfl : j = 0 := by omega
    simpa using hy
   ·rw [if_neg hy] at he
    cases j with
    | zero =>
     exfalso
     rcases ixFrom_range (keyB k s) l (i + 1) with ⟨h, _⟩ | ⟨m, _, h⟩ <;> rw [h] at he <;> omega
    | succ j =>
     have := ih (i + 1) j (by simpa using hj) (by rw [he]; omega)
     simpa [List.getD] using this
 rcases ixFrom_range (keyB k s) l 0 with ⟨e, _⟩ | ⟨j, h1, h2⟩
 ·rw [findI, e] at h; omega
 ·have e : findI l k s = ((0 + j : Nat) : Int) := h2
  rw [e]
  have : ((0 + j : Nat) : Int).toNat = j := by omega
  rw [this]
  exact ⟨h1, (keyB_iff k s _).1 (key l 0 j h1 h2)⟩
/-! putting and dropping keep what is right -/
theorem kinds_of_keys {l m : List It} (h : l.map keyOf = m.map keyOf) : l.map It.kind = m.map It.kind := by
 have e : ∀ l : List It, l.map It.kind = (l.map keyOf).map Prod.fst := fun l => by rw [List.map_map]; rfl
 rw [e, e, h]
structure SplitAt (l : List It) (k : Int) (n : Nat) : Prop where
 le : n ≤ l.length
 lo : ∀ y ∈ l.take n, y.kind ≤ k
 hi : ∀ y ∈ l.drop n, k < y.kind
end Go.Proofs.YtkjnjkdcpbgabaaGreatDoor
