/-
 The abstract machine over data, part 4: contracts of the kit over one slice of the call's own, as contracts of calls that turn what they are handed.
-/
import Derived.Test.YtkjnjkdcpbgabaaGreatDoorE3
import Derived.Shelf.GgSortFunc.Insertion
set_option linter.unusedSimpArgs false
set_option linter.unusedVariables false
namespace Go.Eng
open Go.RowKit Go.Sort Go.Lib Go.Proofs
theorem grow_of_below {w w' : World} (h : Go.Eng.Below w.heap.size w w') : ∃ q os, w' = grow (w.drewN q) os := by
 obtain ⟨⟨h1, h2, h3, h4, h5⟩, h6⟩ := h
 refine ⟨w'.drawn - w.drawn, w'.heap.extract w.heap.size w'.heap.size, ?_⟩
 obtain ⟨hp, tp, dr, os, out⟩ := w
 obtain ⟨hp', tp', dr', os', out'⟩ := w'
 simp only at h1 h2 h3 h4 h5 h6
 subst h1 h2 h3
 have e : hp' = hp ++ hp'.extract hp.size hp'.size := by
  apply Array.ext_getElem?
  intro k
  by_cases hk : k < hp.size
  ·rw [Array.getElem?_append_left hk, h5 k hk]
  ·rw [Array.getElem?_append_right (by omega), Array.getElem?_extract]
   split
   ·congr 1; omega
   ·rw [Array.getElem?_eq_none (by omega)]
 have e2 : dr + (dr' - dr) = dr' := by omega
 simp only [grow, World.drewN]
 rw [← e, e2]
variable {α : Type} [Inhabited α]
theorem sortWorld_at {enc : α → Value} {w : World} {g off m : Nat} {dk : Array α} {os : Array Obj} {cur : Array Value} {e : TypeId} {fz : Nat × Nat} (h : w.heap[g]? = some (.cells cur e fz)) :
  (sortWorld enc w g off m dk os).heap[g]? = some (.cells (putCells enc off dk cur) e fz) := by
 have hlt : g < w.heap.size := (Array.getElem?_eq_some_iff.1 h).1
 unfold sortWorld grow putRow mapBlock Sort.ahead
 simp only
 rw [Array.getElem?_append_left (by simpa using hlt), Array.getElem?_modify, if_pos rfl, h]
 rfl
theorem sortWorld_other {enc : α → Value} {w : World} {g off m k : Nat} {dk : Array α} {os : Array Obj} (hk : k < w.heap.size) (hne : k ≠ g) : (sortWorld enc w g off m dk os).heap[k]? = w.heap[k]? := by
 unfold sortWorld grow putRow mapBlock Sort.ahead
 simp only
 rw [Array.getElem?_append_left (by simpa using hk), Array.getElem?_modify, if_neg (fun e => hne e.symm)]
theorem sortWorld_size {enc : α → Value} {w : World} {g off m : Nat} {dk : Array α} {os : Array Obj} : w.heap.size ≤ (sortWorld enc w g off m dk os).heap.size := by
 unfold sortWorld grow putRow mapBlock Sort.ahead
 simp
theorem sortWorld_belowX {enc : α → Value} {w : World} {g off m : Nat} {dk : Array α} {os : Array Obj} {X : Nat → Prop} (hX : X g) : BelowX X w (sortWorld enc w g off m dk os) :=
 ⟨rfl, rfl, rfl, sortWorld_size, fun k hk hx => sortWorld_other hk (fun e => hx (e ▸ hX)), Nat.le_add_right _ _⟩
theorem putCells_size (enc : α → Value) (off : Nat) (d : Array α) (c : Array Value) : (putCells enc off d c).size = c.size := by simp [putCells]
theorem putCells_get (enc : α → Value) (d : Array α) (c : Array Value) (j : Nat) (hj : j < d.size) (hc : j < c.size) : (putCells enc 0 d c)[j]? = some (enc d[j]!) := by
 simp only [putCells, Array.getElem?_mapIdx, Array.getElem?_eq_getElem hc, Option.map_some]
 rw [if_pos ⟨by omega, by omega⟩, Nat.sub_zero]
theorem holds_of_cells {enc : α → Value} {w : World} {g : Nat} {d : Array α} {cur : Array Value} {e : TypeId} (h : w.heap[g]? = some (.cells cur e (0, 0))) (hd : ∀ j, j < d.size → cur[j]? = some (enc d[j]!)) : Holds enc w g 0 d := by
 intro j hj
 constructor
 ·unfold World.cell?
  simp only [h, Nat.zero_add]
  exact hd j hj
 ·unfold World.frozen?
  simp [h]
section
variable {w : World} {M0 : Nat → Prop} {F : List Value} {e : TypeId} {rows : List (List D)} {v : Value}
theorem sortWorld_keeps {enc : α → Value} {w : World} {g m : Nat} {dk : Array α} {os : Array Obj} {M : Nat → Prop} (hM : M g) : Keeps w M (sortWorld enc w g 0 m dk os) M :=
 ⟨sortWorld_size, fun k hk hm => sortWorld_other hk (fun e => hm (e ▸ hM)), fun _ _ h => h⟩
theorem mok_less {M' : Nat → Prop} (h : MOk w M0 F) (hs : ∀ g, M' g → g < w.heap.size) (hm : ∀ g, M' g → Mof M0 F g) : MOk w M' [] :=
 ⟨hs, fun x hx => by
  obtain ⟨h1, ⟨h2, h3⟩, h4⟩ := h.2 x hx
  refine ⟨h1, ⟨fun hm' => ?_, fun ⟨t, y, ht, _⟩ => by simp at ht⟩, h4⟩
  rcases hm _ hm' with h | h
  ·exact h2 h
  ·exact h3 h⟩
theorem mok_sorted {M' : Nat → Prop} {enc : α → Value} {g m : Nat} {dk : Array α} {os : Array Obj} (h : MOk w M' []) (hg : M' g) : MOk (sortWorld enc w g 0 m dk os) M' [] :=
 ⟨fun k hk => Nat.lt_of_lt_of_le (h.1 k hk) sortWorld_size, fun x hx => by
  obtain ⟨h1, h2, e, fz, h4⟩ := h.2 x hx
  exact ⟨Nat.lt_of_lt_of_le h1 sortWorld_size, h2, e, fz, (sortWorld_other h1 (fun e' => h2.1 (e' ▸ hg))).trans h4⟩⟩
theorem okFn_enter {P : Program} {f : FuncId} (h : okFn P f = true) : ∀ args w, (callFunc f args).run P w = .ok (.enter f args) w := by
 intro args w
 unfold okFn at h
 cases hfn : P.funcs[f]? with
 | none => rw [hfn] at h; cases h
 | some fn =>
  rw [hfn] at h
  simp only [Bool.and_eq_true, bne_iff_ne] at h
  obtain ⟨c, hbody⟩ : ∃ c, fn.body = some c := by
   cases hb : fn.body with
   | none => rw [hb] at h; simp at h
   | some c => exact ⟨c, rfl⟩
  simp [callFunc, hfn, h.1, hbody]
end
end Go.Eng
