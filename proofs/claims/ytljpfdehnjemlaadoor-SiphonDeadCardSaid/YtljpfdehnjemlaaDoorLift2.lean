/-
 Arguments that are arrays, opened.
-/
import Derived.OpenShut
import Derived.Test.YtljpfdehnjemlaaDoorLift
set_option linter.unusedSimpArgs false
set_option linter.unusedVariables false
namespace Go.Eng
open Go.RowKit Go.ChangeShapes Go.WideShapes
section
variable {P : Program}
theorem repL_flat {W : World} {α : Type} {en : α → List D} {cs : List Value} {c : Nat} : ∀ (l : List α) (k : Nat), cs.length = (k + l.length) * c → (∀ i a, l[i]? = some a → RepL W NoM (en a) ((cs.drop ((k + i) * c)).take c)) → RepL W NoM (l.flatMap en) (cs.drop (k * c))
 | [], k, hl, _ => by
  rw [List.drop_of_length_le (by simpa using Nat.le_of_eq hl)]
  simp [RepL]
 | a :: l, k, hl, h => by
  have h1 := h 0 a rfl
  have h2 := repL_flat (W := W) (en := en) (cs := cs) (c := c) l (k + 1) (by rw [hl]; simp [Nat.add_comm, Nat.add_left_comm]) fun i b hb => by
   have := h (i + 1) b (by simpa using hb)
   rwa [show k + (i + 1) = k + 1 + i by omega] at this
  have h3 := RepL.append _ _ _ _ h1 h2
  rw [List.flatMap_cons]
  have e : (cs.drop ((k + 0) * c)).take c ++ cs.drop ((k + 1) * c) = cs.drop (k * c) := by
   rw [Nat.add_zero, Nat.add_mul, Nat.one_mul, ← List.drop_drop, List.take_append_drop]
  rwa [e] at h3
theorem opens_array {t e : TypeId} {n : Nat} {α : Type} {ok : α → Prop} {en : α → List D} (ht : P.underlying t = some (.array n e)) (hs : P.cellsOf t = n * P.cellsOf e) (h : Opens P e ok en) : Opens P t (fun l : List α => l.length = n ∧ ∀ a ∈ l, ok a) (fun l => l.flatMap en) := by
 intro H enc W fuel cs x hx
 obtain ⟨xs, m, _, _, hl, hn, hi⟩ := DataW.trod_array ht hx
 obtain ⟨l, hll, hR⟩ := list_of (fun i a => ok a ∧ RepL W NoM (en a) ((cs.drop (i * P.cellsOf e)).take (P.cellsOf e))) n fun i hin => by
  have := hi i hin
  rw [List.getElem?_eq_getElem (by omega)] at this
  obtain ⟨a, ha, hr⟩ := h H enc W m _ _ this
  exact ⟨a, ha, hr⟩
 refine ⟨l, ⟨hll, fun a ha => ?_⟩, ?_⟩
 ·obtain ⟨i, hi', rfl⟩ := List.mem_iff_getElem.1 ha
  exact (hR i _ (List.getElem?_eq_getElem hi')).1
 ·have := repL_flat (W := W) (en := en) (cs := cs) (c := P.cellsOf e) l 0 (by rw [hl, hs, hll]; simp) fun i a ha => by
   rw [Nat.zero_add]
   exact (hR i a ha).2
  simpa using this
end
end Go.Eng
