/-
 The law's own search, in plain Lean: the way to a node; the first that is no greater; greater limits.
-/
import Derived.Test.YtgbhmieaoaojoaaGreatDoorSE
import Derived.Test.YtgbhmieaoaojoaaGreatDoorSM
import Derived.Test.YtgbhmieaoaojoaaGreatDoorS9
set_option linter.unusedSimpArgs false
set_option linter.unusedVariables false
namespace Go.Proofs.YtgbhmieaoaojoaaGreatDoor
open Go.Eng Go.RowKit
theorem make_ne (s : Nat → Int) : (makeNet s).init ≠ [] := by
 intro h
 have : (makeNet s).init.length = 0 := by rw [h]; rfl
 rw [show (makeNet s).init.length = np s from initL_length s (np s), np] at this
 omega
end Go.Proofs.YtgbhmieaoaojoaaGreatDoor
set_option linter.unusedSimpArgs false
set_option linter.unusedVariables false
namespace Go.Proofs.YtgbhmieaoaojoaaGreatDoor
open Go.Eng Go.RowKit
/-! the way to a node -/
/-! which one pumps -/
def anyF (l : List SN) (last : List Int) : Nat → Int → Bool
 | 0, _ => false
 | f + 1, i => if 0 ≤ i then leqB (l.getD i.toNat SN.no).m last || anyF l last f (l.getD i.toNat SN.no).before else false
theorem any_pump (l : List SN) (last : List Int) : ∀ (f : Nat) (i first : Int), (anyF l last f i = false → pumpF l last f i first = first) ∧ (anyF l last f i = true → 0 ≤ pumpF l last f i first)
 | 0, i, first => ⟨fun _ => rfl, fun h => by cases h⟩
 | f + 1, i, first => by
  rw [anyF, pumpF]
  by_cases h0 : 0 ≤ i
  ·rw [if_pos h0, if_pos h0]
   obtain ⟨h1, h2⟩ := any_pump l last f (l.getD i.toNat SN.no).before (if leqB (l.getD i.toNat SN.no).m last = true then i else first)
   cases hb : leqB (l.getD i.toNat SN.no).m last
   ·rw [hb, if_neg (by decide)] at h1 h2
    rw [if_neg (by decide), Bool.false_or]
    exact ⟨h1, h2⟩
   ·rw [hb, if_pos rfl] at h1 h2
    rw [if_pos rfl, Bool.true_or]
    refine ⟨fun h => (nomatch h), fun _ => ?_⟩
    cases ha : anyF l last f (l.getD i.toNat SN.no).before
    ·rw [h1 ha]; exact h0
    ·exact h2 ha
  ·rw [if_neg h0, if_neg h0]
   exact ⟨fun _ => rfl, fun h => by cases h⟩
/-! greater limits -/
theorem step_lim {n : Net} {lim lim' i : Nat} {t : Int} {nodes : List SN} {edges : List Edg} (h : lim ≤ lim') (hr : ∀ e, stepF n lim i t nodes edges ≠ .err e) : stepF n lim' i t nodes edges = stepF n lim i t nodes edges := by
 unfold stepF at hr ⊢
 simp only at hr ⊢
 generalize firedL (n.trs.getD t.toNat Tr.no) (nodes.getD i SN.no).m = m at *
 split
 ·rfl
 ·rename_i h1
  rw [if_neg h1] at hr
  split
  ·rfl
  ·rename_i h2
   rw [h2] at hr
   simp only at hr
   split
   ·rfl
   ·rename_i h3
    rw [if_neg h3] at hr
    by_cases h4 : lim < (nodes ++ [(⟨m, i, t⟩ : SN)]).length
    ·rw [if_pos h4] at hr; exact absurd rfl (hr 3)
    ·rw [if_neg h4, if_neg (by omega)]
theorem inner_lim {n : Net} {lim lim' i : Nat} (h : lim ≤ lim') : ∀ {ts : List Int} {nodes : List SN} {edges : List Edg}, (∀ e, innerF n lim i ts nodes edges ≠ .err e) → innerF n lim' i ts nodes edges = innerF n lim i ts nodes edges
 | [], _, _, _ => rfl
 | t :: ts, nodes, edges, hr => by
  simp only [innerF] at hr ⊢
  have hs : ∀ e, stepF n lim i t nodes edges ≠ .err e := fun e he => by rw [he] at hr; exact hr e rfl
  rw [step_lim h hs]
  cases hst : stepF n lim i t nodes edges with
  | err e => exact absurd hst (hs e)
  | pump nd ed p => rfl
  | cont nd ed =>
   rw [hst] at hr
   exact inner_lim h hr
theorem outer_lim {n : Net} {lim lim' : Nat} (h : lim ≤ lim') : ∀ {f g i : Nat} {nodes : List SN} {edges : List Edg}, f ≤ g → (∀ e, outerF n lim f i nodes edges ≠ .err e) → outerF n lim' g i nodes edges = outerF n lim f i nodes edges
 | 0, _, _, _, _, _, hr => absurd rfl (hr 3)
 | f + 1, 0, _, _, _, hg, _ => by omega
 | f + 1, g + 1, i, nodes, edges, hg, hr => by
  simp only [outerF] at hr ⊢
  split
  ·rename_i hi
   rw [if_pos hi] at hr
   have hs : ∀ e, innerF n lim i (ableL n (nodes.getD i SN.no).m n.trs.length) nodes edges ≠ .err e := fun e he => by rw [he] at hr; exact hr e rfl
   rw [inner_lim h hs]
   cases hst : innerF n lim i (ableL n (nodes.getD i SN.no).m n.trs.length) nodes edges with
   | err e => exact absurd hst (hs e)
   | pump nd ed p => rfl
   | cont nd ed =>
    rw [hst] at hr
    exact outer_lim h (by omega) hr
  ·rfl
theorem search_lim {n : Net} (hr : ∀ e, searchF n 60 ≠ .err e) : searchF n 4096 = searchF n 60 := outer_lim (by omega) (by omega) hr
/-! the transitions that are enabled, from one on -/
def ablD (n : Net) (m : List Int) : Nat → Nat → List Int
 | 0, _ => []
 | r + 1, j => if enB m (n.trs.getD j Tr.no) = true then (j : Int) :: ablD n m r (j + 1) else ablD n m r (j + 1)
theorem ablD_able (n : Net) (m : List Int) : ∀ (r j : Nat), ableL n m j ++ ablD n m r j = ableL n m (j + r)
 | 0, j => by rw [ablD, List.append_nil]; rfl
 | r + 1, j => by
  rw [ablD, show j + (r + 1) = (j + 1) + r by omega, ← ablD_able n m r (j + 1), ableL_succ]
  split <;> simp
theorem ablD_all (n : Net) (m : List Int) (k : Nat) : ablD n m k 0 = ableL n m k := by
 have := ablD_able n m k 0
 rwa [show ableL n m 0 = [] from rfl, List.nil_append, Nat.zero_add] at this
end Go.Proofs.YtgbhmieaoaojoaaGreatDoor
