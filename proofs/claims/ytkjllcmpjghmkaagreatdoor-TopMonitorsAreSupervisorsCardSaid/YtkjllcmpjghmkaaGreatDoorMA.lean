/-
 Numbering the states of a graph in the order in which they are found, in plain Lean.
-/
import Derived.Test.YtkjllcmpjghmkaaGreatDoorS1
set_option linter.unusedSimpArgs false
set_option linter.unusedVariables false
namespace Go.Proofs.YtkjllcmpjghmkaaGreatDoor
open Go.Eng Go.RowKit
def ixF (x : Int) : Nat → List Int → Option Nat
 | _, [] => none
 | i, y :: r => if y = x then some i else ixF x (i + 1) r
theorem ixF_none {x : Int} : ∀ {l : List Int} {i : Nat}, ixF x i l = none ↔ x ∉ l
 | [], i => by simp [ixF]
 | y :: l, i => by
  simp only [ixF]
  by_cases h : y = x
  ·rw [if_pos h]; simp [h]
  ·rw [if_neg h, ixF_none]; simp [Ne.symm h]
theorem z5R {x : Int} : ∀ {l : List Int} {i k : Nat}, ixF x i l = some k → i ≤ k ∧ k < i + l.length ∧ l.getD (k - i) 0 = x
 | [], _, _, h => by cases h
 | y :: l, i, k, h => by
  simp only [ixF] at h
  split at h
  ·rename_i e
   cases h
   exact ⟨Nat.le_refl _, by simp, by simpa using e⟩
  ·obtain ⟨h1, h2, h3⟩ := z5R h
   refine ⟨by omega, by simp only [List.length_cons]; omega, ?_⟩
   rw [show k - i = (k - (i + 1)) + 1 by omega]; simpa using h3
theorem zdF {x : Int} {l : List Int} {i k : Nat} (h : ixF x i l = some k) (r : List Int) : ixF x i (l ++ r) = some k := by
 induction l generalizing i with
 | nil => cases h
 | cons y l ih =>
  simp only [List.cons_append, ixF] at h ⊢
  split
  ·rename_i e; rw [if_pos e] at h; exact h
  ·rename_i e; rw [if_neg e] at h; exact ih h
theorem z8Z {x : Int} {l : List Int} (h : x ∉ l) (i : Nat) : ixF x i (l ++ [x]) = some (i + l.length) := by
 induction l generalizing i with
 | nil => simp [ixF]
 | cons y l ih =>
  have h1 : y ≠ x := fun e => h (by simp [e])
  simp only [List.cons_append, ixF, if_neg h1]
  rw [ih (fun hm => h (by simp [hm]))]
  simp only [List.length_cons]; congr 1; omega
theorem zfj {l : List Int} (h : l.Nodup) {k : Nat} (hk : k < l.length) : ixF (l.getD k 0) 0 l = some k := by
 have hm : l.getD k 0 ∈ l := z01 l k 0 hk
 cases hx : ixF (l.getD k 0) 0 l with
 | none => exact absurd hm (ixF_none.1 hx)
 | some j =>
  obtain ⟨_, h2, h3⟩ := z5R hx
  simp only [Nat.sub_zero, Nat.zero_add] at h2 h3
  simp only [List.getD, List.getElem?_eq_getElem h2, List.getElem?_eq_getElem hk, Option.getD_some] at h3
  rw [(List.getElem_inj h).1 h3]
def bfsI (i : Int) : List (Int × Int) → List Int → List Edg → List Int × List Edg
 | [], o, es => (o, es)
 | (e, x) :: r, o, es => match ixF x 0 o with
  | some k => bfsI i r o (es ++ [⟨i, e, k⟩])
  | none => bfsI i r (o ++ [x]) (es ++ [⟨i, e, o.length⟩])
def bfs (succ : Int → List (Int × Int)) : Nat → Nat → List Int → List Edg → List Int × List Edg
 | 0, _, o, es => (o, es)
 | f + 1, i, o, es => if i < o.length then bfs succ f (i + 1) (bfsI i (succ (o.getD i 0)) o es).1 (bfsI i (succ (o.getD i 0)) o es).2 else (o, es)
theorem z2h (i : Int) : ∀ (l : List (Int × Int)) (o : List Int) (es : List Edg), o <+: (bfsI i l o es).1
 | [], o, es => List.prefix_refl _
 | (e, x) :: r, o, es => by
  simp only [bfsI]
  split
  ·exact z2h i r _ _
  ·exact (List.prefix_append _ _).trans (z2h i r _ _)
structure OrdOk (N : Nat) (o : List Int) : Prop where
 nodup : o.Nodup
 rng : ∀ x ∈ o, 0 ≤ x ∧ x < N
theorem OrdOk.le {N : Nat} {o : List Int} (h : OrdOk N o) : o.length ≤ N := by
 have h1 : (o.map Int.toNat).Nodup := by
  rw [List.Nodup, List.pairwise_map]
  refine h.nodup.imp_of_mem fun {x y} hx hy hne e => hne ?_
  have := h.rng x hx; have := h.rng y hy; omega
 have h2 : (o.map Int.toNat) ⊆ List.range N := fun z hz => by
  obtain ⟨x, hx, rfl⟩ := List.mem_map.1 hz
  have := h.rng x hx
  rw [List.mem_range]; omega
 have := List.Nodup.length_le_of_subset h1 h2
 simpa using this
theorem OrdOk.snoc {N : Nat} {o : List Int} (h : OrdOk N o) {x : Int} (hx : x ∉ o) (hr : 0 ≤ x ∧ x < N) : OrdOk N (o ++ [x]) := by
 refine ⟨List.nodup_append.2 ⟨h.nodup, List.pairwise_singleton _ _, fun a ha b hb => ?_⟩, fun y hy => ?_⟩
 ·rw [List.mem_singleton] at hb; subst hb
  exact fun e => hx (e ▸ ha)
 ·rcases List.mem_append.1 hy with hy | hy
  ·exact h.rng y hy
  ·rw [List.mem_singleton] at hy; subst hy; exact hr
theorem z7h {N : Nat} (i : Int) : ∀ (l : List (Int × Int)) (o : List Int) (es : List Edg), OrdOk N o → (∀ x ∈ l, 0 ≤ x.2 ∧ x.2 < N) → OrdOk N (bfsI i l o es).1
 | [], o, es, h, _ => h
 | (e, x) :: r, o, es, h, hl => by
  simp only [bfsI]
  split
  ·exact z7h i r _ _ h fun y hy => hl y (by simp [hy])
  ·rename_i hx
   exact z7h i r _ _ (h.snoc (ixF_none.1 hx) (hl (e, x) (by simp))) fun y hy => hl y (by simp [hy])
theorem zg1 {N : Nat} {succ : Int → List (Int × Int)} (hs : ∀ s : Int, 0 ≤ s → s < N → ∀ x ∈ succ s, 0 ≤ x.2 ∧ x.2 < N) : ∀ (f i : Nat) (o : List Int) (es : List Edg), OrdOk N o → OrdOk N (bfs succ f i o es).1
 | 0, _, _, _, h => h
 | f + 1, i, o, es, h => by
  simp only [bfs]
  split
  ·rename_i hi
   have hm := h.rng _ (z01 o i 0 hi)
   exact zg1 hs f (i + 1) _ _ (z7h _ _ _ _ h (hs _ hm.1 hm.2))
  ·exact h
theorem z9b {N : Nat} {succ : Int → List (Int × Int)} (hs : ∀ s : Int, 0 ≤ s → s < N → ∀ x ∈ succ s, 0 ≤ x.2 ∧ x.2 < N) : ∀ (f g i : Nat) (o : List Int) (es : List Edg), OrdOk N o → N < f + i → N < g + i → bfs succ f i o es = bfs succ g i o es
 | 0, 0, _, _, _, _, _, _ => rfl
 | 0, g + 1, i, o, es, h, h1, _ => by
  have := h.le
  rw [bfs, bfs, if_neg (by omega)]
 | f + 1, 0, i, o, es, h, _, h1 => by
  have := h.le
  rw [bfs, bfs, if_neg (by omega)]
 | f + 1, g + 1, i, o, es, h, h1, h2 => by
  simp only [bfs]
  split
  ·rename_i hi
   have hm := h.rng _ (z01 o i 0 hi)
   exact z9b hs f g (i + 1) _ _ (z7h _ _ _ _ h (hs _ hm.1 hm.2)) (by omega) (by omega)
  ·rfl
def Alike (R : Int → Int → Prop) : List (Int × Int) → List (Int × Int) → Prop
 | [], [] => True
 | (e, x) :: r, (e', y) :: r' => e = e' ∧ R x y ∧ Alike R r r'
 | _, _ => False
def Side (R : Int → Int → Prop) : List Int → List Int → Prop
 | [], [] => True
 | x :: r, y :: r' => R x y ∧ Side R r r'
 | _, _ => False
theorem Side.length {R : Int → Int → Prop} : ∀ {a b : List Int}, Side R a b → a.length = b.length
 | [], [], _ => rfl
 | _ :: a, _ :: b, h => by simp [Side.length h.2]
theorem Side.snoc {R : Int → Int → Prop} : ∀ {a b : List Int} {x y : Int}, Side R a b → R x y → Side R (a ++ [x]) (b ++ [y])
 | [], [], _, _, _, h => ⟨h, trivial⟩
 | _ :: _, _ :: _, _, _, h, hr => ⟨h.1, h.2.snoc hr⟩
theorem Side.at {R : Int → Int → Prop} : ∀ {a b : List Int} {k : Nat}, Side R a b → k < a.length → R (a.getD k 0) (b.getD k 0)
 | _ :: _, _ :: _, 0, h, _ => h.1
 | _ :: a, _ :: b, k + 1, h, hk => by simpa using h.2.at (by simpa using hk)
structure OneOne (R : Int → Int → Prop) : Prop where
 fwd : ∀ {x y z}, R x y → R x z → y = z
 bwd : ∀ {x y z}, R x z → R y z → x = y
theorem zcA {R : Int → Int → Prop} (hR : OneOne R) : ∀ {a b : List Int} {x y : Int} (i : Nat), Side R a b → R x y → ixF x i a = ixF y i b
 | [], [], _, _, _, _, _ => rfl
 | p :: a, q :: b, x, y, i, h, hxy => by
  simp only [ixF]
  by_cases e : p = x
  ·subst e
   rw [if_pos rfl, if_pos (hR.fwd h.1 hxy)]
  ·rw [if_neg e, if_neg (fun e' => by subst e'; exact e (hR.bwd h.1 hxy))]
   exact zcA hR (i + 1) h.2 hxy
theorem z7g {R : Int → Int → Prop} (hR : OneOne R) (i : Int) : ∀ (l l' : List (Int × Int)) (o o' : List Int) (es : List Edg), Alike R l l' → Side R o o' → Side R (bfsI i l o es).1 (bfsI i l' o' es).1 ∧ (bfsI i l o es).2 = (bfsI i l' o' es).2
 | [], [], _, _, _, _, h => ⟨h, rfl⟩
 | (e, x) :: r, (e', y) :: r', o, o', es, hl, h => by
  obtain ⟨rfl, hxy, hl⟩ := hl
  have hx := zcA hR 0 h hxy
  simp only [bfsI, ← hx, ← h.length]
  split
  ·exact z7g hR i r r' _ _ _ hl h
  ·exact z7g hR i r r' _ _ _ hl (h.snoc hxy)
theorem zcS {R : Int → Int → Prop} (hR : OneOne R) {succ succ' : Int → List (Int × Int)} (hs : ∀ x y, R x y → Alike R (succ x) (succ' y)) : ∀ (f i : Nat) (o o' : List Int) (es : List Edg), Side R o o' → Side R (bfs succ f i o es).1 (bfs succ' f i o' es).1 ∧ (bfs succ f i o es).2 = (bfs succ' f i o' es).2
 | 0, _, _, _, _, h => ⟨h, rfl⟩
 | f + 1, i, o, o', es, h => by
  simp only [bfs, ← h.length]
  split
  ·rename_i hi
   have h1 := z7g hR i _ _ o o' es (hs _ _ (h.at hi)) h
   rw [h1.2]
   exact zcS hR hs f (i + 1) _ _ _ h1.1
  ·exact ⟨h, rfl⟩
end Go.Proofs.YtkjllcmpjghmkaaGreatDoor
