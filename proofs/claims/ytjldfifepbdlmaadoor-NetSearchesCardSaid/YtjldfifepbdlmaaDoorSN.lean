/-
 The law's own search, in plain Lean: the way to a node; the first that is no greater; greater limits.
-/
import Derived.Test.YtjldfifepbdlmaaDoorSM
import Derived.Test.YtjldfifepbdlmaaDoorSI
set_option linter.unusedSimpArgs false
set_option linter.unusedVariables false
namespace Go.Proofs.YtjldfifepbdlmaaDoor
open Go.Eng Go.RowKit
/-! the way to a node -/
def wayF (l : List SN) : Nat → Int → List Int
 | 0, _ => []
 | f + 1, i => if 0 < i then wayF l f (l.getD i.toNat SN.no).before ++ [i] else [0]
theorem wayF_fuel {n : Net} {l : List SN} (hL : Linked n l) : ∀ (f g : Nat) (i : Int), 0 ≤ i → i < l.length → i < f → i < g → wayF l f i = wayF l g i
 | 0, _, i, h0, _, h1, _ => by omega
 | _ + 1, 0, i, h0, _, _, h1 => by omega
 | f + 1, g + 1, i, h0, hl, h1, h2 => by
  rw [wayF, wayF]
  split
  ·obtain ⟨k1, k2, _, _⟩ := hL.link i.toNat (by omega) (by omega)
   rw [wayF_fuel hL f g _ k1 (by omega) (by omega) (by omega)]
  ·rfl
def wayG (l : List SN) (i : Int) : List Int := wayF l (i.toNat + 1) i
theorem wayG_zero (l : List SN) : wayG l 0 = [0] := rfl
theorem wayG_succ {n : Net} {l : List SN} (hL : Linked n l) {i : Int} (h0 : 0 < i) (hl : i < l.length) : wayG l i = wayG l (l.getD i.toNat SN.no).before ++ [i] := by
 obtain ⟨k1, k2, _, _⟩ := hL.link i.toNat (by omega) (by omega)
 rw [wayG, wayF, if_pos h0, wayG, wayF_fuel hL i.toNat ((l.getD i.toNat SN.no).before.toNat + 1) _ k1 (by omega) (by omega) (by omega)]
theorem pathF_zero {n : Net} {l : List SN} (hL : Linked n l) : pathF l 0 = [] := by
 rw [pathF, backF, show (0 : Int).toNat = 0 from rfl, hL.first, if_neg (show ¬ (0 : Int) ≤ -1 by decide)]; rfl
theorem pathF_succ {n : Net} {l : List SN} {pl : Nat} (hL : Linked n l) (hN : NodesOk pl l) {i : Int} (h0 : 0 < i) (hl : i < l.length) : pathF l i = pathF l (l.getD i.toNat SN.no).before ++ [(l.getD i.toNat SN.no).tr] := by
 obtain ⟨k1, k2, _, _⟩ := hL.link i.toNat (by omega) (by omega)
 rw [pathF, backF, if_pos k1, List.reverse_cons, pathF, backF_fuel hN i.toNat ((l.getD i.toNat SN.no).before.toNat + 1) _ k1 (by omega) (by omega) (by omega)]
theorem way_steps {n : Net} {l : List SN} {pl : Nat} (hL : Linked n l) (hN : NodesOk pl l) : ∀ (k : Nat), k < l.length →
  (wayG l k).length = (pathF l k).length + 1 ∧ ∀ j, j < (wayG l k).length → 0 ≤ (wayG l k).getD j 0 ∧ (wayG l k).getD j 0 ≤ k ∧ pathF l ((wayG l k).getD j 0) = (pathF l k).take j := by
 intro k
 induction k using Nat.strongRecOn with
 | ind k ih =>
  intro hk
  by_cases h0 : 0 < k
  ·obtain ⟨k1, k2, _, _⟩ := hL.link k h0 hk
   have e1 := wayG_succ hL (i := k) (by omega) (by omega)
   have e2 := pathF_succ hL hN (i := k) (by omega) (by omega)
   rw [Int.toNat_natCast] at e1 e2
   obtain ⟨b, hb⟩ : ∃ b : Nat, (l.getD k SN.no).before = b := ⟨_, (Int.toNat_of_nonneg k1).symm⟩
   rw [hb] at e1 e2 k2
   obtain ⟨h1, h2⟩ := ih b (by omega) (by omega)
   rw [e1]
   refine ⟨by simp [e2, h1], fun j hj => ?_⟩
   rw [List.length_append, List.length_singleton] at hj
   by_cases e : j < (wayG l b).length
   ·obtain ⟨q1, q2, q3⟩ := h2 j e
    have eg : (wayG l b ++ [(k : Int)]).getD j 0 = (wayG l b).getD j 0 := by simp [List.getD, List.getElem?_append_left e]
    rw [eg, e2, List.take_append_of_le_length (by omega)]
    exact ⟨q1, by omega, q3⟩
   ·have ej : j = (wayG l b).length := by omega
    subst ej
    have eg : (wayG l b ++ [(k : Int)]).getD (wayG l b).length 0 = k := by simp [List.getD]
    rw [eg, List.take_of_length_le (by rw [e2]; simp [h1])]
    exact ⟨by omega, by omega, rfl⟩
  ·obtain rfl : k = 0 := by omega
   have e1 : wayG l ((0 : Nat) : Int) = [0] := wayG_zero l
   have e2 : pathF l ((0 : Nat) : Int) = [] := pathF_zero hL
   rw [e1]
   refine ⟨by rw [e2]; rfl, fun j hj => ?_⟩
   simp only [List.length_singleton] at hj
   obtain rfl : j = 0 := by omega
   exact ⟨by decide, by decide, by rw [e2, show ([0] : List Int).getD 0 0 = 0 from rfl, pathF_zero hL]; rfl⟩
/-! which one pumps -/
def noMore (l : List SN) (last : List Int) (i : Int) : Bool := leqB (l.getD i.toNat SN.no).m last
theorem pump_find {n : Net} {l : List SN} (hL : Linked n l) (last : List Int) : ∀ (f : Nat) (i first : Int), 0 ≤ i → i < l.length → i < f → pumpF l last (f + 1) i first = ((wayG l i).find? (noMore l last)).getD first
 | 0, i, _, h0, _, hf => by omega
 | f + 1, i, first, h0, hl, hf => by
  rw [pumpF, if_pos h0]
  by_cases hi : 0 < i
  ·obtain ⟨k1, k2, _, _⟩ := hL.link i.toNat (by omega) (by omega)
   rw [pump_find hL last f _ _ k1 (by omega) (by omega), wayG_succ hL hi hl, List.find?_append]
   cases (wayG l (l.getD i.toNat SN.no).before).find? (noMore l last) with
   | some x => rfl
   | none =>
    rw [List.find?_cons]
    cases hm : noMore l last i
    ·rw [noMore] at hm; rw [hm]; rfl
    ·rw [noMore] at hm; rw [hm]; rfl
  ·obtain rfl : i = 0 := by omega
   rw [show (0 : Int).toNat = 0 from rfl, hL.first, wayG_zero, pumpF, if_neg (show ¬ (0 : Int) ≤ -1 by decide), List.find?_cons]
   have : noMore l last 0 = leqB n.init last := by rw [noMore, show (0 : Int).toNat = 0 from rfl, hL.first]
   rw [this]
   cases leqB n.init last <;> rfl
def anyF (l : List SN) (last : List Int) : Nat → Int → Bool
 | 0, _ => false
 | f + 1, i => if 0 ≤ i then leqB (l.getD i.toNat SN.no).m last || anyF l last f (l.getD i.toNat SN.no).before else false
theorem any_pump (l : List SN) (last : List Int) : ∀ (f : Nat) (i first : Int), (anyF l last f i = false → pumpF l last f i first = first) ∧ (anyF l last f i = true → 0 ≤ pumpF l last f i first)
 | 0, i, first => ⟨fun _ => rfl, fun h => by cases h⟩
 | f + 1, i, first => by
  rw [anyF, pumpF]
  by_cases h0 : 0 ≤ i
  ·rw [if_pos h0, if_pos h0]
   obtain ⟨h1, h2⟩ := any_pump l last f (l.getD i.toNat SN.no).before (if leqB (l.getD i.toNat SN.no).m last = true then i else first)
   cases hb : leqB (l.getD i.toNat SN.no).m last
   ·rw [hb, if_neg (by decide)] at h1 h2
    rw [if_neg (by decide), Bool.false_or]
    exact ⟨h1, h2⟩
   ·rw [hb, if_pos rfl] at h1 h2
    rw [if_pos rfl, Bool.true_or]
    refine ⟨fun h => (nomatch h), fun _ => ?_⟩
    cases ha : anyF l last f (l.getD i.toNat SN.no).before
    ·rw [h1 ha]; exact h0
    ·exact h2 ha
  ·rw [if_neg h0, if_neg h0]
   exact ⟨fun _ => rfl, fun h => by cases h⟩
/-! greater limits -/
theorem step_lim {n : Net} {lim lim' i : Nat} {t : Int} {nodes : List SN} {edges : List Edg} (h : lim ≤ lim') (hr : ∀ e, stepF n lim i t nodes edges ≠ .err e) : stepF n lim' i t nodes edges = stepF n lim i t nodes edges := by
 unfold stepF at hr ⊢
 simp only at hr ⊢
 generalize firedL (n.trs.getD t.toNat Tr.no) (nodes.getD i SN.no).m = m at *
 split
 ·rfl
 ·rename_i h1
  rw [if_neg h1] at hr
  split
  ·rfl
  ·rename_i h2
   rw [h2] at hr
   simp only at hr
   split
   ·rfl
   ·rename_i h3
    rw [if_neg h3] at hr
    by_cases h4 : lim < (nodes ++ [(⟨m, i, t⟩ : SN)]).length
    ·rw [if_pos h4] at hr; exact absurd rfl (hr 3)
    ·rw [if_neg h4, if_neg (by omega)]
theorem inner_lim {n : Net} {lim lim' i : Nat} (h : lim ≤ lim') : ∀ {ts : List Int} {nodes : List SN} {edges : List Edg}, (∀ e, innerF n lim i ts nodes edges ≠ .err e) → innerF n lim' i ts nodes edges = innerF n lim i ts nodes edges
 | [], _, _, _ => rfl
 | t :: ts, nodes, edges, hr => by
  simp only [innerF] at hr ⊢
  have hs : ∀ e, stepF n lim i t nodes edges ≠ .err e := fun e he => by rw [he] at hr; exact hr e rfl
  rw [step_lim h hs]
  cases hst : stepF n lim i t nodes edges with
  | err e => exact absurd hst (hs e)
  | pump nd ed p => rfl
  | cont nd ed =>
   rw [hst] at hr
   exact inner_lim h hr
theorem outer_lim {n : Net} {lim lim' : Nat} (h : lim ≤ lim') : ∀ {f g i : Nat} {nodes : List SN} {edges : List Edg}, f ≤ g → (∀ e, outerF n lim f i nodes edges ≠ .err e) → outerF n lim' g i nodes edges = outerF n lim f i nodes edges
 | 0, _, _, _, _, _, hr => absurd rfl (hr 3)
 | f + 1, 0, _, _, _, hg, _ => by omega
 | f + 1, g + 1, i, nodes, edges, hg, hr => by
  simp only [outerF] at hr ⊢
  split
  ·rename_i hi
   rw [if_pos hi] at hr
   have hs : ∀ e, innerF n lim i (ableL n (nodes.getD i SN.no).m n.trs.length) nodes edges ≠ .err e := fun e he => by rw [he] at hr; exact hr e rfl
   rw [inner_lim h hs]
   cases hst : innerF n lim i (ableL n (nodes.getD i SN.no).m n.trs.length) nodes edges with
   | err e => exact absurd hst (hs e)
   | pump nd ed p => rfl
   | cont nd ed =>
    rw [hst] at hr
    exact outer_lim h (by omega) hr
  ·rfl
theorem search_lim {n : Net} (hr : ∀ e, searchF n 60 ≠ .err e) : searchF n 4096 = searchF n 60 := outer_lim (by omega) (by omega) hr
/-! the transitions that are enabled, from one on -/
def ablD (n : Net) (m : List Int) : Nat → Nat → List Int
 | 0, _ => []
 | r + 1, j => if enB m (n.trs.getD j Tr.no) = true then (j : Int) :: ablD n m r (j + 1) else ablD n m r (j + 1)
theorem ablD_able (n : Net) (m : List Int) : ∀ (r j : Nat), ableL n m j ++ ablD n m r j = ableL n m (j + r)
 | 0, j => by rw [ablD, List.append_nil]; rfl
 | r + 1, j => by
  rw [ablD, show j + (r + 1) = (j + 1) + r by omega, ← ablD_able n m r (j + 1), ableL_succ]
  split <;> simp
theorem ablD_all (n : Net) (m : List Int) (k : Nat) : ablD n m k 0 = ableL n m k := by
 have := ablD_able n m k 0
 rwa [show ableL n m 0 = [] from rfl, List.nil_append, Nat.zero_add] at this
end Go.Proofs.YtjldfifepbdlmaaDoor
