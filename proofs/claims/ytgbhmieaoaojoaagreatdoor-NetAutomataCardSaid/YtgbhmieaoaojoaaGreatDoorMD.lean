/-
 Numbering the states of a graph, in plain Lean: what is found, which edges.
-/
import Derived.Test.YtgbhmieaoaojoaaGreatDoorMA
set_option linter.unusedSimpArgs false
set_option linter.unusedVariables false
namespace Go.Proofs.YtgbhmieaoaojoaaGreatDoor
open Go.Eng Go.RowKit
theorem ixF_pre {x : Int} {a b : List Int} (h : a <+: b) {k : Nat} (hk : ixF x 0 a = some k) : ixF x 0 b = some k := by
 obtain ⟨c, rfl⟩ := h; exact ixF_append hk c
theorem bfs_pre (succ : Int → List (Int × Int)) : ∀ (f i : Nat) (o : List Int) (es : List Edg), o <+: (bfs succ f i o es).1
 | 0, _, _, _ => List.prefix_refl _
 | f + 1, i, o, es => by
  simp only [bfs]
  split
  ·exact (bfsI_pre _ _ _ _).trans (bfs_pre succ f (i + 1) _ _)
  ·exact List.prefix_refl _
def edgB (O : List Int) (i : Nat) (p : Int × Int) : Edg := ⟨i, p.1, ((ixF p.2 0 O).getD 0 : Nat)⟩
theorem bfsI_edge {O : List Int} (i : Nat) : ∀ (l : List (Int × Int)) (o : List Int) (es : List Edg), (bfsI i l o es).1 <+: O → (bfsI i l o es).2 = es ++ l.map (edgB O i)
 | [], o, es, _ => by simp [bfsI]
 | (e, x) :: r, o, es, h => by
  simp only [bfsI] at h ⊢
  cases hx : ixF x 0 o with
  | some k =>
   rw [hx] at h
   simp only at h ⊢
   have h1 := ixF_pre ((bfsI_pre _ _ _ _).trans h) hx
   rw [bfsI_edge i r _ _ h, List.map_cons, edgB, h1]
   simp
  | none =>
   rw [hx] at h
   simp only at h ⊢
   have h1 := ixF_pre ((bfsI_pre _ _ _ _).trans h) (ixF_snoc (ixF_none.1 hx) 0)
   rw [bfsI_edge i r _ _ h, List.map_cons, edgB, h1]
   simp
theorem bfsI_mem (i : Int) : ∀ (l : List (Int × Int)) (o : List Int) (es : List Edg), ∀ p ∈ l, p.2 ∈ (bfsI i l o es).1
 | [], _, _, p, hp => by simp at hp
 | (e, x) :: r, o, es, p, hp => by
  simp only [bfsI]
  cases hx : ixF x 0 o with
  | some k =>
   rcases List.mem_cons.1 hp with rfl | hp
   ·have : x ∈ o := Classical.byContradiction fun h => by rw [ixF_none.2 h] at hx; cases hx
    exact (bfsI_pre _ _ _ _).subset this
   ·exact bfsI_mem i r _ _ p hp
  | none =>
   rcases List.mem_cons.1 hp with rfl | hp
   ·exact (bfsI_pre _ _ _ _).subset (by simp)
   ·exact bfsI_mem i r _ _ p hp
theorem getD_pre {a b : List Int} (h : a <+: b) {k : Nat} (hk : k < a.length) : b.getD k 0 = a.getD k 0 := by
 obtain ⟨c, rfl⟩ := h
 simp [List.getD, List.getElem?_append_left hk]
def bfsE (succ : Int → List (Int × Int)) (O : List Int) (i n : Nat) : List Edg := (List.range' i n).flatMap fun j => (succ (O.getD j 0)).map (edgB O j)
theorem bfs_edge {N : Nat} {succ : Int → List (Int × Int)} (hs : ∀ s : Int, 0 ≤ s → s < N → ∀ x ∈ succ s, 0 ≤ x.2 ∧ x.2 < N) : ∀ (f i : Nat) (o : List Int) (es : List Edg), OrdOk N o → N < f + i → i ≤ o.length →
  (bfs succ f i o es).2 = es ++ bfsE succ (bfs succ f i o es).1 i ((bfs succ f i o es).1.length - i) ∧ ∀ j, i ≤ j → j < (bfs succ f i o es).1.length → ∀ p ∈ succ ((bfs succ f i o es).1.getD j 0), p.2 ∈ (bfs succ f i o es).1
 | 0, i, o, es, h, h1, h2 => by have := h.le; omega
 | f + 1, i, o, es, h, h1, h2 => by
  simp only [bfs]
  split
  ·rename_i hi
   have hm := h.rng _ (getD_mem o i 0 hi)
   have ho2 := bfsI_ok (i : Int) (succ (o.getD i 0)) o es h (hs _ hm.1 hm.2)
   have hp1 := bfsI_pre (i : Int) (succ (o.getD i 0)) o es
   have hp2 := bfs_pre succ f (i + 1) (bfsI i (succ (o.getD i 0)) o es).1 (bfsI i (succ (o.getD i 0)) o es).2
   have hl1 := hp1.length_le
   have hl2 := hp2.length_le
   obtain ⟨e1, e2⟩ := bfs_edge hs f (i + 1) (bfsI i (succ (o.getD i 0)) o es).1 (bfsI i (succ (o.getD i 0)) o es).2 ho2 (by omega) (by omega)
   have hmem := bfsI_mem (i : Int) (succ (o.getD i 0)) o es
   have hed := bfsI_edge i (succ (o.getD i 0)) o es hp2
   have hg := getD_pre (hp1.trans hp2) hi
   generalize bfs succ f (i + 1) (bfsI i (succ (o.getD i 0)) o es).1 (bfsI i (succ (o.getD i 0)) o es).2 = R at *
   refine ⟨?_, fun j hj1 hj2 p hp => ?_⟩
   ·rw [e1, hed, bfsE, bfsE, show R.1.length - i = (R.1.length - (i + 1)) + 1 by omega, List.range'_succ, List.flatMap_cons, hg, List.append_assoc]
   ·by_cases hji : j = i
    ·subst hji
     rw [hg] at hp
     exact hp2.subset (hmem p hp)
    ·exact e2 j (by omega) hj2 p hp
  ·rename_i hi
   refine ⟨?_, fun j hj1 hj2 => by simp only at hj2; omega⟩
   simp only
   rw [show o.length - i = 0 by omega]
   simp [bfsE]
structure Numb (N : Nat) (succ : Int → List (Int × Int)) (O : List Int) (ES : List Edg) : Prop where
 ok : OrdOk N O
 first : 0 < O.length ∧ O.getD 0 0 = 0
 edges : ES = bfsE succ O 0 O.length
 closed : ∀ s ∈ O, ∀ p ∈ succ s, p.2 ∈ O
theorem numb_of {N : Nat} (hN : 0 < N) {succ : Int → List (Int × Int)} (hs : ∀ s : Int, 0 ≤ s → s < N → ∀ x ∈ succ s, 0 ≤ x.2 ∧ x.2 < N) {f : Nat} (hf : N < f) : Numb N succ (bfs succ f 0 [0] []).1 (bfs succ f 0 [0] []).2 := by
 have h0 : OrdOk N [0] := ⟨List.pairwise_singleton _ _, fun x hx => by rw [List.mem_singleton] at hx; subst hx; omega⟩
 obtain ⟨e1, e2⟩ := bfs_edge hs f 0 [0] [] h0 (by omega) (by simp)
 have hp := bfs_pre succ f 0 [0] []
 have hl := hp.length_le
 refine ⟨bfs_ok hs f 0 [0] [] h0, ⟨by simp at hl; omega, by rw [getD_pre hp (by simp)]; rfl⟩, by simpa using e1, fun s hs' p hp' => ?_⟩
 obtain ⟨j, hj, e⟩ := List.getElem_of_mem hs'
 refine e2 j (by omega) hj p ?_
 rw [List.getD, List.getElem?_eq_getElem hj, e]; exact hp'
theorem Numb.ix {N : Nat} {succ : Int → List (Int × Int)} {O : List Int} {ES : List Edg} (h : Numb N succ O ES) {x : Int} (hx : x ∈ O) : ∃ k, k < O.length ∧ ixF x 0 O = some k ∧ O.getD k 0 = x := by
 obtain ⟨k, hk, e⟩ := List.getElem_of_mem hx
 have e2 : O.getD k 0 = x := by rw [List.getD, List.getElem?_eq_getElem hk, e]; rfl
 refine ⟨k, hk, ?_, e2⟩
 rw [← e2]; exact ixF_at h.ok.nodup hk
theorem mem_bfsE {succ : Int → List (Int × Int)} {O : List Int} {x : Edg} : x ∈ bfsE succ O 0 O.length ↔ ∃ j, j < O.length ∧ ∃ p ∈ succ (O.getD j 0), x = edgB O j p := by
 rw [bfsE, List.mem_flatMap]
 constructor
 ·rintro ⟨j, hj, hx⟩
  rw [List.mem_range'_1] at hj
  obtain ⟨p, hp, rfl⟩ := List.mem_map.1 hx
  exact ⟨j, by omega, p, hp, rfl⟩
 ·rintro ⟨j, hj, p, hp, rfl⟩
  exact ⟨j, by rw [List.mem_range'_1]; omega, List.mem_map.2 ⟨p, hp, rfl⟩⟩
end Go.Proofs.YtgbhmieaoaojoaaGreatDoor
