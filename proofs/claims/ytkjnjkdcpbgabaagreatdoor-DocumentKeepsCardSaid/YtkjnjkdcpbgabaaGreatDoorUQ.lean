/-
 Chapter 23: plain facts: what is put is found; a difference, applied.
-/
import Derived.Test.YtkjnjkdcpbgabaaGreatDoorUP
set_option linter.unusedSimpArgs false
set_option linter.unusedVariables false
namespace Go.Proofs.YtkjnjkdcpbgabaaGreatDoor
open Go.Eng Go.RowKit
theorem set_self {l : List It} {j : Nat} (hj : j < l.length) : l.set j (l.getD j It.no) = l := by
 refine List.ext_getElem (by simp) fun i h1 h2 => ?_
 rw [List.getElem_set]
 by_cases hij : j = i
 ·subst hij
  rw [if_pos rfl]
  simp [List.getD, List.getElem?_eq_getElem hj]
 ·rw [if_neg hij]
structure PutFind (l : List It) (x : It) (j : Nat) : Prop where
 lt : j < (putL l x).length
 at_ : findI (putL l x) x.kind x.name = j
 get : (putL l x).getD j It.no = x
 was : 0 ≤ findI l x.kind x.name → (putL l x).length = l.length
 new : findI l x.kind x.name < 0 → dropL (putL l x) x.kind x.name = l
theorem put_find {l : List It} (g : Good l) {x : It} (h : putE l x = 0) : ∃ j, PutFind l x j := by
 have gp := good_put g h
 by_cases hf : 0 ≤ findI l x.kind x.name
 ·obtain ⟨h1, h2⟩ := find_some hf
  have e : putL l x = l.set (findI l x.kind x.name).toNat x := by rw [putL, if_pos hf]
  have hget : (putL l x).getD (findI l x.kind x.name).toNat It.no = x := by
   rw [e]; simp [List.getD, List.getElem?_set, h1]
  have hlt : (findI l x.kind x.name).toNat < (putL l x).length := by rw [e, List.length_set]; exact h1
  exact ⟨_, hlt, find_at gp.keys hlt (by rw [hget]; rfl), hget, fun _ => by rw [e, List.length_set], fun h => by omega⟩
 ·have hle := (atL_split x.kind g.up).le
  have e : putL l x = insL l (atL l x.kind) x := by rw [putL, if_neg hf]
  have hlen : (putL l x).length = l.length + 1 := by rw [e, insL_length _ _ _ hle]
  have htl : (l.take (atL l x.kind)).length = atL l x.kind := by rw [List.length_take]; omega
  have hget : (putL l x).getD (atL l x.kind) It.no = x := by
   rw [e, insL]
   simp only [List.getD]
   rw [List.getElem?_append_right (by omega), htl, Nat.sub_self]
   rfl
  have hlt : atL l x.kind < (putL l x).length := by omega
  have hat := find_at (k := x.kind) (s := x.name) gp.keys hlt (by rw [hget]; rfl)
  refine ⟨_, hlt, hat, hget, fun h => by omega, fun _ => ?_⟩
  have hd : (l.take (atL l x.kind) ++ x :: l.drop (atL l x.kind)).drop (atL l x.kind + 1) = l.drop (atL l x.kind) := by
   rw [List.drop_append, List.drop_of_length_le (by omega), List.nil_append, htl, show atL l x.kind + 1 - atL l x.kind = 1 by omega]
   rfl
  rw [dropL, hat, Int.toNat_natCast, e, insL, hd, List.take_left' htl, List.take_append_drop]
theorem put_again {l : List It} (g : Good l) {x : It} (h : putE l x = 0) : putR (putL l x) x = (putL l x, 0) := by
 obtain ⟨j, h1, h2, h3, _, _⟩ := put_find g h
 have gp := good_put g h
 have e : putE (putL l x) x = 0 := (putE_zero gp x).2 ⟨((putE_zero g x).1 h).1, fun hh => by omega⟩
 rw [putR, if_pos e, e, putL, if_pos (by omega), h2, Int.toNat_natCast]
 refine congrArg (fun z => (z, (0 : Int))) ?_
 have := set_self h1
 rwa [h3] at this
theorem put_fst {l : List It} {x : It} (h : putE l x = 0) : putR l x = (putL l x, 0) := by rw [putR, if_pos h, h]
theorem drop_new {l : List It} (g : Good l) {x : It} (h : putE l x = 0) (hn : findI l x.kind x.name < 0) : dropR (putL l x) x.kind x.name = (l, 0) := by
 obtain ⟨j, h1, h2, h3, _, h5⟩ := put_find g h
 rw [drop_law (good_put g h), if_neg (by omega), h5 hn]
/-! differences -/
end Go.Proofs.YtkjnjkdcpbgabaaGreatDoor
