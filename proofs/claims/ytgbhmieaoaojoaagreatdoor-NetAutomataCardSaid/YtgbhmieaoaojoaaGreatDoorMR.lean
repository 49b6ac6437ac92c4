/-
 NetAutomata in plain Lean: where a marking is in the automaton, its steps, how many edges there are.
-/
import Derived.Test.YtgbhmieaoaojoaaGreatDoorMP
set_option linter.unusedSimpArgs false
set_option linter.unusedVariables false
namespace Go.Proofs.YtgbhmieaoaojoaaGreatDoor
open Go.Eng Go.RowKit
def posn (O : List Int) (x : Int) : Nat := (ixF x 0 O).getD 0
def stepE (es : List Edg) (s e : Int) : Int := match es.find? fun x => decide (x.src = s) && decide (x.ev = e) with
 | some x => x.dst
 | none => -1
section
variable {n : Net} {nd : List SN}
theorem posn_ok {O : List Int} {x : Int} (h : x ∈ O) : posn O x < O.length ∧ O.getD (posn O x) 0 = x := by
 cases hx : ixF x 0 O with
 | none => exact absurd h (ixF_none.1 hx)
 | some k =>
  obtain ⟨_, h2, h3⟩ := ixF_some hx
  simp only [Nat.zero_add, Nat.sub_zero] at h2 h3
  rw [posn, hx]
  exact ⟨h2, h3⟩
theorem posn_ne {O : List Int} (hn : O.Nodup) {x : Int} (h : x ∈ O) {k : Nat} (hk : k < O.length) (hne : k ≠ posn O x) : O.getD k 0 ≠ x := by
 intro e
 obtain ⟨h1, h2⟩ := posn_ok h
 have e2 := e.trans h2.symm
 simp only [List.getD, List.getElem?_eq_getElem hk, List.getElem?_eq_getElem h1, Option.getD_some] at e2
 exact hne ((List.getElem_inj hn).1 e2)
theorem posn_of {O : List Int} (hn : O.Nodup) {k : Nat} (hk : k < O.length) : posn O (O.getD k 0) = k := by
 rw [posn, ixF_at hn hk]; rfl
theorem aut_step (h : AutOk n nd) {y : Edg} (hy : y ∈ grE n nd) : stepE (autO n nd).2 (posn (autO n nd).1 y.src) (evOf n y.ev) = posn (autO n nd).1 y.dst := by
 have hb := autO_numb h.found
 have hr := grE_ok h.found y hy
 have hs : y.src ∈ (autO n nd).1 := by
  have := autO_all h y.src.toNat (by omega)
  rwa [show ((y.src.toNat : Nat) : Int) = y.src by omega] at this
 obtain ⟨p1, p2⟩ := posn_ok hs
 have hsu := suc_of h hy
 rw [stepE]
 cases hf : (autO n nd).2.find? fun x => decide (x.src = (posn (autO n nd).1 y.src : Int)) && decide (x.ev = evOf n y.ev) with
 | none =>
  exfalso
  have h1 := List.find?_eq_none.1 hf (edgB (autO n nd).1 (posn (autO n nd).1 y.src) (evOf n y.ev, y.dst)) (by
   rw [hb.edges]
   exact mem_bfsE.2 ⟨_, p1, _, by rw [p2]; exact hsu, rfl⟩)
  simp [edgB] at h1
 | some x =>
  have h1 := List.find?_some hf
  have h2 := List.mem_of_find?_eq_some hf
  simp only [Bool.and_eq_true, decide_eq_true_eq] at h1
  rw [hb.edges] at h2
  obtain ⟨j, hj, p, hp, rfl⟩ := mem_bfsE.1 h2
  simp only [edgB] at h1
  have hj2 : j = posn (autO n nd).1 y.src := by omega
  subst hj2
  rw [p2] at hp
  have e1 := (mem_suc (n := n) (nd := nd) (s := y.src) (e := p.1) (x := p.2)).1 hp
  have e2 := (mem_suc.1 hsu).2
  rw [h1.2] at e1
  rw [e2] at e1
  have : p.2 = y.dst := (Option.some.inj e1.2).symm
  simp only [edgB, this, posn]
theorem aut_marked (h : AutOk n nd) {mk : List (List Int)} {i : Nat} (hi : i < nd.length) : ((posn (autO n nd).1 i : Nat) : Int) ∈ (autA n nd mk).marked ↔ (nd.getD i SN.no).m ∈ mk := by
 obtain ⟨p1, p2⟩ := posn_ok (autO_all h i hi)
 have e : atM nd ((autO n nd).1.getD (posn (autO n nd).1 i) 0) = (nd.getD i SN.no).m := by rw [p2, atM, Int.toNat_natCast]
 constructor
 ·intro hm
  obtain ⟨j, hj, hj2, hj3⟩ := mem_mkL.1 hm
  have : j = posn (autO n nd).1 i := by omega
  subst this
  rw [e] at hj3; exact hj3
 ·intro hm
  exact mem_mkL.2 ⟨_, p1, rfl, by rw [e]; exact hm⟩
/-! counting the edges -/
def sameK (n : Net) (x y : Edg) : Bool := decide (x.src = y.src) && decide (evOf n x.ev = evOf n y.ev)
def earl (n : Net) (es : List Edg) (j : Nat) : Bool := (List.range j).any fun k => sameK n (es.getD k Edg.no) (es.getD j Edg.no)
def cntF (n : Net) (es : List Edg) (i : Nat) : Nat := ((List.range i).filter fun j => !earl n es j).length
theorem cntF_succ (n : Net) (es : List Edg) (i : Nat) : cntF n es (i + 1) = cntF n es i + if earl n es i = true then 0 else 1 := by
 rw [cntF, List.range_succ, List.filter_append, List.length_append, ← cntF]
 congr 1
 rw [List.filter_cons, List.filter_nil]
 cases earl n es i <;> rfl
theorem cntF_le (n : Net) (es : List Edg) (i : Nat) : cntF n es i ≤ i := by
 have := List.length_filter_le (fun j => !earl n es j) (List.range i)
 rw [List.length_range] at this; exact this
def keyE (n : Net) (x : Edg) : Int × Int := (x.src, evOf n x.ev)
theorem sameK_iff {x y : Edg} : sameK n x y = true ↔ keyE n x = keyE n y := by
 simp [sameK, keyE]
theorem first_of {es : List Edg} : ∀ (j : Nat), j < es.length → ∃ k, k ≤ j ∧ earl n es k = false ∧ keyE n (es.getD k Edg.no) = keyE n (es.getD j Edg.no) := by
 intro j
 induction j using Nat.strongRecOn with
 | _ j ih =>
  intro hj
  cases he : earl n es j with
  | false => exact ⟨j, Nat.le_refl _, he, rfl⟩
  | true =>
   obtain ⟨k, hk, hs⟩ := List.any_eq_true.1 he
   rw [List.mem_range] at hk
   obtain ⟨k2, h1, h2, h3⟩ := ih k hk (by omega)
   exact ⟨k2, by omega, h2, h3.trans (sameK_iff.1 hs)⟩
theorem aut_count (h : AutOk n nd) : cntF n (grE n nd) (grE n nd).length = (autO n nd).2.length := by
 have hb := autO_numb h.found
 have hok := autA_ok h.found []
 let F := (List.range (grE n nd).length).filter fun j => !earl n (grE n nd) j
 let A := F.map fun j => keyE n ((grE n nd).getD j Edg.no)
 let B := (autO n nd).2.map fun x => ((autO n nd).1.getD x.src.toNat 0, x.ev)
 have hF : ∀ j, j ∈ F ↔ j < (grE n nd).length ∧ earl n (grE n nd) j = false := fun j => by
  simp [F, List.mem_filter, List.mem_range]
 have hA : A.Nodup := by
  show (F.map fun j => keyE n ((grE n nd).getD j Edg.no)).Nodup
  rw [List.Nodup, List.pairwise_map]
  refine (List.Pairwise.filter _ List.pairwise_lt_range).imp_of_mem fun {i j} hi hj hij e => ?_
  have h2 := ((hF j).1 hj).2
  have h3 : earl n (grE n nd) j = true := List.any_eq_true.2 ⟨i, List.mem_range.2 hij, sameK_iff.2 e⟩
  rw [h3] at h2; cases h2
 have hB : B.Nodup := by
  show ((autO n nd).2.map fun x => ((autO n nd).1.getD x.src.toNat 0, x.ev)).Nodup
  rw [List.Nodup, List.pairwise_map]
  refine hok.edges.2.imp_of_mem fun {x y} hx hy hxy e => ?_
  obtain ⟨j, _, hj, _, e1, _, _⟩ := numb_edge hb hx
  obtain ⟨k, _, hk, _, e3, _, _⟩ := numb_edge hb hy
  rw [e1, e3, Int.toNat_natCast, Int.toNat_natCast] at e
  have e5 := (Prod.mk.inj e).1
  simp only [List.getD, List.getElem?_eq_getElem hj, List.getElem?_eq_getElem hk, Option.getD_some] at e5
  have e6 := (List.getElem_inj hb.ok.nodup).1 e5
  have e7 := (Prod.mk.inj e).2
  unfold dLt at hxy
  omega
 have hAB : A ⊆ B := fun z hz => by
  obtain ⟨j, hj, rfl⟩ := List.mem_map.1 hz
  have hy := getD_mem (grE n nd) j Edg.no ((hF j).1 hj).1
  have hr := grE_ok h.found _ hy
  have hs : ((grE n nd).getD j Edg.no).src ∈ (autO n nd).1 := by
   have := autO_all h ((grE n nd).getD j Edg.no).src.toNat (by omega)
   rwa [show ((((grE n nd).getD j Edg.no).src.toNat : Nat) : Int) = ((grE n nd).getD j Edg.no).src by omega] at this
  obtain ⟨p1, p2⟩ := posn_ok hs
  refine List.mem_map.2 ⟨edgB (autO n nd).1 (posn (autO n nd).1 ((grE n nd).getD j Edg.no).src) (evOf n ((grE n nd).getD j Edg.no).ev, ((grE n nd).getD j Edg.no).dst), ?_, ?_⟩
  ·rw [hb.edges]
   exact mem_bfsE.2 ⟨_, p1, _, by rw [p2]; exact suc_of h hy, rfl⟩
  ·simp only [edgB, Int.toNat_natCast, p2, keyE]
 have hBA : B ⊆ A := fun z hz => by
  obtain ⟨x, hx, rfl⟩ := List.mem_map.1 hz
  obtain ⟨j, k, hj, hk, e1, e2, hp⟩ := numb_edge hb hx
  obtain ⟨y, hy, y1, y2, y3⟩ := suc_edge hp
  obtain ⟨i, hi, e⟩ := List.getElem_of_mem hy
  have e3 : (grE n nd).getD i Edg.no = y := by rw [List.getD, List.getElem?_eq_getElem hi, e]; rfl
  obtain ⟨q, q1, q2, q3⟩ := first_of (n := n) (es := grE n nd) i hi
  refine List.mem_map.2 ⟨q, (hF q).2 ⟨by omega, q2⟩, ?_⟩
  rw [q3, e3, e1, Int.toNat_natCast, keyE, y1, y2]
 have l1 := List.Nodup.length_le_of_subset hA hAB
 have l2 := List.Nodup.length_le_of_subset hB hBA
 have l3 : A.length = cntF n (grE n nd) (grE n nd).length := by show (F.map _).length = F.length; rw [List.length_map]
 have l4 : B.length = (autO n nd).2.length := by show ((autO n nd).2.map _).length = _; rw [List.length_map]
 omega
/-! where the markings are -/
def atP (O : List Int) (N i : Nat) : List Int := (List.range N).map fun j : Nat => if j < i then ((posn O j : Nat) : Int) else 0
theorem atP_length (O : List Int) (N i : Nat) : (atP O N i).length = N := by simp [atP]
theorem atP_zero (O : List Int) (N : Nat) : atP O N 0 = List.replicate N 0 := by
 apply List.ext_getElem
 ·simp [atP]
 ·intro i h1 h2; simp [atP]
theorem atP_succ (O : List Int) {N i : Nat} (h : i < N) : atP O N (i + 1) = (atP O N i).set i (posn O i) := by
 apply List.ext_getElem
 ·simp [atP]
 ·intro j h1 h2
  rw [List.getElem_set]
  simp only [atP, List.getElem_map, List.getElem_range]
  by_cases e : i = j
  ·subst e; rw [if_pos (by omega), if_pos rfl]
  ·rw [if_neg e]
   by_cases e2 : j < i
   ·rw [if_pos (by omega), if_pos e2]
   ·rw [if_neg (by omega), if_neg e2]
theorem atP_get (O : List Int) {N j : Nat} (h : j < N) : (atP O N N).getD j 0 = posn O j := by
 simp only [atP, List.getD, List.getElem?_map, List.getElem?_range h, Option.map_some, Option.getD_some, if_pos h]
/-! conflicts -/
def confB (n : Net) (x y : Edg) : Bool := decide (x.src = y.src) && decide (x.dst ≠ y.dst) && decide (evOf n x.ev = evOf n y.ev)
def rowC (n : Net) (es : List Edg) (i k : Nat) : Bool := (List.range k).any fun j => confB n (es.getD i Edg.no) (es.getD j Edg.no)
def allF (n : Net) (es : List Edg) (i : Nat) : Bool := (List.range i).any fun j => rowC n es j j
theorem rowC_succ (n : Net) (es : List Edg) (i k : Nat) : rowC n es i (k + 1) = (rowC n es i k || confB n (es.getD i Edg.no) (es.getD k Edg.no)) := by
 rw [rowC, List.range_succ, List.any_append]; simp [rowC]
theorem allF_succ (n : Net) (es : List Edg) (i : Nat) : allF n es (i + 1) = (allF n es i || rowC n es i i) := by
 rw [allF, List.range_succ, List.any_append]; simp [allF]
theorem allF_cons (es : List Edg) : allF n es es.length = false ↔ Cons n es := by
 constructor
 ·intro h
  have key : ∀ i j, j < i → i < es.length → confB n (es.getD i Edg.no) (es.getD j Edg.no) = false := fun i j hj hi => by
   rw [allF, List.any_eq_false] at h
   have := h i (List.mem_range.2 hi)
   rw [Bool.not_eq_true, rowC, List.any_eq_false] at this
   simpa using this j (List.mem_range.2 hj)
  intro x hx y hy h1 h2
  obtain ⟨i, hi, rfl⟩ := List.getElem_of_mem hx
  obtain ⟨j, hj, rfl⟩ := List.getElem_of_mem hy
  have gi : es.getD i Edg.no = es[i] := by simp [List.getD, List.getElem?_eq_getElem hi]
  have gj : es.getD j Edg.no = es[j] := by simp [List.getD, List.getElem?_eq_getElem hj]
  rcases Nat.lt_trichotomy i j with h3 | h3 | h3
  ·have := key j i h3 hj
   rw [gi, gj] at this
   simp only [confB, Bool.and_eq_false_iff, decide_eq_false_iff_not] at this
   rcases this with (h4 | h4) | h4
   ·exact absurd h1.symm h4
   ·exact (Decidable.not_not.1 h4).symm
   ·exact absurd h2.symm h4
  ·subst h3; rfl
  ·have := key i j h3 hi
   rw [gi, gj] at this
   simp only [confB, Bool.and_eq_false_iff, decide_eq_false_iff_not] at this
   rcases this with (h4 | h4) | h4
   ·exact absurd h1 h4
   ·exact Decidable.not_not.1 h4
   ·exact absurd h2 h4
 ·intro h
  rw [allF, List.any_eq_false]
  intro i hi
  rw [Bool.not_eq_true, rowC, List.any_eq_false]
  intro j hj
  rw [List.mem_range] at hi hj
  rw [Bool.not_eq_true]
  have := h _ (getD_mem es i Edg.no hi) _ (getD_mem es j Edg.no (by omega))
  simp only [confB, Bool.and_eq_false_iff, decide_eq_false_iff_not]
  by_cases h1 : (es.getD i Edg.no).src = (es.getD j Edg.no).src
  ·by_cases h2 : evOf n (es.getD i Edg.no).ev = evOf n (es.getD j Edg.no).ev
   ·exact .inl (.inr fun h3 => h3 (this h1 h2))
   ·exact .inr h2
  ·exact .inl (.inl h1)
end
end Go.Proofs.YtgbhmieaoaojoaaGreatDoor
