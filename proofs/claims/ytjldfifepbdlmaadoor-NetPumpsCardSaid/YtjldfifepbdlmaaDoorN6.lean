/-
  Contracts: nets with a control place.
-/
import Derived.Test.YtjldfifepbdlmaaDoorN5
set_option linter.unusedSimpArgs false
set_option linter.unusedVariables false
namespace Go.Proofs.YtjldfifepbdlmaaDoor
open Go.Eng Go.RowKit
/-- what a checked constraint is -/
theorem conOk_of {n : Net} {c : Con} (h : conE n c = 0) : netE n = 0 ∧ c.fac.length = n.init.length ∧ Sm 16 c.fac ∧ -65536 ≤ c.bound ∧ c.bound ≤ 65536 := by
  unfold conE at h
  split at h
  · rename_i h1; exact absurd h h1
  rename_i h1
  split at h
  · cases h
  rename_i h2
  split at h
  · cases h
  rename_i h3
  simp only [Bool.or_eq_true, List.any_eq_true, not_or, not_exists, not_and] at h3
  refine ⟨by simpa using h1, by omega, ⟨fun x hx => ?_⟩, ?_⟩
  · have := h3.1 x hx
    simp [largeB] at this
    omega
  · have := h3.2
    simp [largeB] at this
    omega
def monT (place : Int) (e : Int) (t : Tr) : Tr := ⟨t.event, t.inn ++ (if 0 < e then [⟨place, e⟩] else []), t.out ++ (if e < 0 then [⟨place, -e⟩] else [])⟩
def monTrs (n : Net) (c : Con) (k : Nat) : List Tr := (n.trs.take k).map fun t => monT n.init.length (effT c.fac t) t
theorem monTrs_succ (n : Net) (c : Con) (k : Nat) (hk : k < n.trs.length) : monTrs n c (k + 1) = monTrs n c k ++ [monT n.init.length (effT c.fac (n.trs.getD k Tr.no)) (n.trs.getD k Tr.no)] := by
  rw [monTrs, take_succ_getD n.trs k Tr.no hk, List.map_append]; rfl
theorem monTrs_length (n : Net) (c : Con) (k : Nat) : (monTrs n c k).length ≤ k := by simp [monTrs]; omega
def monNet (n : Net) (c : Con) : Net := ⟨n.init ++ [c.bound - dot c.fac n.init], monTrs n c n.trs.length⟩
def Net.zero : Net := ⟨[], []⟩
def monE (n : Net) (c : Con) : Int := if conE n c ≠ 0 then conE n c else if c.bound - dot c.fac n.init < 0 then 19 else if n.init.length = 10 ∨ 65536 < c.bound - dot c.fac n.init ∨ (effL n c).any (largeB 8) = true then 3 else 0
def monL (n : Net) (c : Con) : Net := if monE n c = 0 then monNet n c else Net.zero
theorem effL_get (n : Net) (c : Con) (k : Nat) (hk : k < n.trs.length) : (effL n c).getD k 0 = effT c.fac (n.trs.getD k Tr.no) := by
  simp [effL, List.getD, List.getElem?_map, List.getElem?_eq_getElem hk]
theorem effL_length (n : Net) (c : Con) : (effL n c).length = n.trs.length := by simp [effL]
theorem trs_one (e : Int) (i o : List Arc) : [[D.int .i64 e, D.list (arcsD i), D.list (arcsD o)]] = trsD [⟨e, i, o⟩] := rfl
theorem trsD_one (e : Int) (i o : List Arc) : trsD [⟨e, i, o⟩] = [[D.int .i64 e, D.list (arcsD i), D.list (arcsD o)]] := rfl
end Go.Proofs.YtjldfifepbdlmaaDoor
