/-
 The abstract machine over data, part 6: contracts of the kit over one slice of the call's own whose elements have several cells.
-/
import Derived.Test.YtkjnjkdcpbgabaaGreatDoorE4
import Derived.Shelf.GgSortFunc.InsertionK
set_option linter.unusedSimpArgs false
set_option linter.unusedVariables false
namespace Go.Eng
open Go.RowKit Go.Sort Go.Lib Go.Proofs
variable {α : Type} [Inhabited α]
theorem holdsK_of_cells {enc : α → List Value} {k : Nat} {w : World} {g : Nat} {d : Array α} {cur : Array Value} {e : TypeId} (h : w.heap[g]? = some (.cells cur e (0, 0))) (hd : ∀ t, t < d.size * k → cur[t]? = some (enc d[t / k]!)[t % k]!) : HoldsK enc k w g 0 d :=
 holds_of_cells (enc := id) h fun j hj => by
  rw [size_flatK] at hj
  rw [hd j hj, get_flatK _ _ _ _ hj]; rfl
section
variable {w : World} {M0 : Nat → Prop} {F : List Value} {e : TypeId} {sz : Nat} {rows : List (List D)} {v : Value}
theorem row_inK (hp : MPre w M0 F [.row e sz rows]) (hv : RepV w (Mof M0 F) F (.one (.own 0)) v) :
  ∃ A c, F = [.slice A rows.length c] ∧ v = .slice A rows.length c ∧ rows.length ≤ c ∧ c ≤ maxLen ∧ (c = 0 ∨ 0 < c ∧ ∃ g cur, A = some ⟨g, 0, none⟩ ∧ (¬ M0 g ∧ g < w.heap.size) ∧
   w.heap[g]? = some (.cells cur e (0, 0)) ∧ cur.size = c * sz ∧ RepRows w (Mof M0 F) ⟨g, 0, none⟩ sz 0 rows ∧ ∀ k, Mof M0 F k ↔ (M0 k ∨ k = g)) := by
 obtain ⟨h, rfl⟩ : ∃ h, F = [h] := List.length_eq_one_iff.1 hp.len
 have ho := hp.objs 0 _ h rfl rfl
 have hv0 := own_live (e := e) (sz := sz) (rows := rows) hv (fun x hx => by simp at hx; subst hx; exact ho)
 simp at hv0
 subst hv0
 obtain ⟨A, c, h1, h2, h3, h4⟩ := ho
 subst h1
 refine ⟨A, c, rfl, rfl, h2, h3, ?_⟩
 rcases h4 with h4 | ⟨hc0, g, cur, rfl, h5, h6, h7⟩
 ·exact .inl h4
 ·have hbl : hblk (.slice (some ⟨g, 0, none⟩) rows.length c) = some g := hblk_row hc0
  have hown : owned [.slice (some ⟨g, 0, none⟩) rows.length c] g := ⟨0, _, rfl, hbl⟩
  refine .inr ⟨hc0, g, cur, rfl, hp.out g hown, h5, h6, h7, fun k => ?_⟩
  unfold Mof
  constructor
  ·rintro (h | ⟨t, x, ht, hx⟩)
   ·exact .inl h
   ·cases t with
    | zero => simp at ht; subst ht; rw [hbl] at hx; exact .inr (by simpa using hx.symm)
    | succ t => simp at ht
  ·rintro (h | rfl)
   ·exact .inl h
   ·exact .inr hown
theorem mof_ltK (hM : MOk w M0 F) (hp : MPre w M0 F [.row e sz rows]) : ∀ g, Mof M0 F g → g < w.heap.size := by
 rintro g (h | h)
 ·exact hM.1 g h
 ·exact (hp.out g h).2
theorem resM_idK {p : Nat} {r : AV} (hp : MPre w M0 F [.row e sz rows]) (hv : RepV w (Mof M0 F) F r v) : ∃ v' β, Ending.returned v = .returned v' ∧ ResM w w M0 F p r [.row e sz rows] v' β :=
 ⟨v, F, rfl, BelowX.refl _ _, hp.len, fun _ _ => rfl, hp.objs, fun g hg => ⟨.inl hg, (hp.out g hg).2⟩, hp.dist, hv⟩
end
theorem resM_rowK {w w' : World} {M0 : Nat → Prop} {g n c e p sz : Nat} {rows' : List (List D)} {cur' : Array Value} {r : AV} {v : Value}
  (hg : ¬ M0 g ∧ g < w.heap.size) (hn' : rows'.length ≤ c) (hp : p = 0 ∨ rows'.length = n) (hc : 0 < c) (hcm : c ≤ maxLen)
  (hw : BelowX (fun k => k = g) w w') (h1 : w'.heap[g]? = some (.cells cur' e (0, 0))) (h2 : cur'.size = c * sz)
  (h3 : RepRows w' (fun k => M0 k ∨ k = g) ⟨g, 0, none⟩ sz 0 rows')
  (hv : ∀ M β, β = [.slice (some ⟨g, 0, none⟩) rows'.length c] → RepV w' M β r v) (hp1 : p ≤ 1) :
  ∃ v' β, Ending.returned v = .returned v' ∧ ResM w w' M0 [.slice (some ⟨g, 0, none⟩) n c] p r [.row e sz rows'] v' β := by
 have hb : ∀ m, hblk (.slice (some ⟨g, 0, none⟩) m c) = some g := fun m => hblk_row hc
 have ho : ∀ m k, owned [.slice (some ⟨g, 0, none⟩) m c] k ↔ k = g := by
  intro m k
  constructor
  ·rintro ⟨t, h, ht, hh⟩
   cases t with
   | zero => simp at ht; subst ht; rw [hb] at hh; simpa using hh.symm
   | succ t => simp at ht
  ·rintro rfl
   exact ⟨0, _, rfl, hb m⟩
 refine ⟨v, [.slice (some ⟨g, 0, none⟩) rows'.length c], rfl, ?_, rfl, ?_, ?_, ?_, ?_, hv _ _ rfl⟩
 ·exact ⟨hw.os, hw.tape, hw.output, hw.size, fun k hk hx => hw.block k hk (fun e => hx ((ho _ _).2 e)), hw.drawn⟩
 ·intro t ht
  have : t = 0 := by omega
  subst this
  rcases hp with h | h
  ·omega
  ·rw [h]
 ·intro t o h hto hth
  cases t with
  | succ t => simp at hto
  | zero =>
   simp at hto hth
   subst hto hth
   refine ⟨_, c, rfl, hn', hcm, .inr ⟨hc, g, cur', rfl, h1, h2, ?_⟩⟩
   have : Mof M0 [.slice (some ⟨g, 0, none⟩) rows'.length c] = fun k => M0 k ∨ k = g := by
    funext k
    unfold Mof
    rw [ho]
   rw [this]
   exact h3
 ·intro k hk
  have := (ho _ _).1 hk
  subst this
  exact ⟨.inl ((ho _ _).2 rfl), Nat.lt_of_lt_of_le hg.2 hw.size⟩
 ·intro t t' x x' g' h1 h2 _ _
  cases t <;> cases t' <;> simp at h1 h2 ⊢
theorem resM_sortedK {w : World} {M0 : Nat → Prop} {e sz : Nat} {v : Value} {enc : α → List Value} (hk : ∀ x, (enc x).length = sz) {d' : Array α} {os : Array Obj} {q g n c p : Nat} {cur : Array Value} {rows' : List (List D)} {r : AV}
  (hg : ¬ M0 g ∧ g < w.heap.size) (hn' : rows'.length ≤ c) (hp : p = 0 ∨ rows'.length = n) (hc : 0 < c) (hcm : c ≤ maxLen)
  (h1 : w.heap[g]? = some (.cells cur e (0, 0))) (h2 : cur.size = c * sz) (hdc : d'.size ≤ c)
  (hrep : ∀ (j : Nat) (x : List D), rows'[j]? = some x → j < d'.size ∧ RepL w (fun k => M0 k ∨ k = g) x (enc d'[j]!))
  (hv : ∀ w' M β, β = [.slice (some ⟨g, 0, none⟩) rows'.length c] → RepV w' M β r v) (hp1 : p ≤ 1) :
  ∃ v' β, Ending.returned v = .returned v' ∧ ResM w (sortWorldK enc sz w g 0 q d' os) M0 [.slice (some ⟨g, 0, none⟩) n c] p r [.row e sz rows'] v' β := by
 show ∃ v' β, Ending.returned v = .returned v' ∧ ResM w (sortWorld id w g 0 q (flatK enc sz d') os) M0 [.slice (some ⟨g, 0, none⟩) n c] p r [.row e sz rows'] v' β
 refine resM_rowK hg hn' hp hc hcm (sortWorld_belowX rfl) (sortWorld_at h1) (by rw [putCells_size]; exact h2) ?_ (fun M β hb => hv _ M β hb) hp1
 refine RepRows.of_get _ _ fun i x hx => ?_
 obtain ⟨hi, hr⟩ := hrep i x hx
 refine ⟨enc d'[i]!, hk _, ?_, RepL.keep (sortWorld_keeps (.inr rfl)) _ _ hr⟩
 intro j u hu
 have hj : j < sz := by have := (List.getElem?_eq_some_iff.1 hu).1; rwa [hk] at this
 have hat := sortWorld_at (enc := id) (off := 0) (m := q) (dk := flatK enc sz d') (os := os) h1
 have hlt : i * sz + j < d'.size * sz := by
  have := Nat.mul_le_mul_right sz (show i + 1 ≤ d'.size from hi)
  rw [Nat.add_mul, Nat.one_mul] at this
  omega
 have hlc : d'.size * sz ≤ c * sz := Nat.mul_le_mul_right sz hdc
 rw [add_lit]
 unfold World.cell?
 simp only [hat]
 rw [show 0 + (0 + i * sz + j) = i * sz + j by omega, putCells_get id (flatK enc sz d') cur _ (by rw [size_flatK]; exact hlt) (by omega), get_flatK _ _ _ _ hlt]
 have e1 : (i * sz + j) / sz = i := by
  rw [Nat.add_comm, Nat.add_mul_div_right _ _ (by omega), Nat.div_eq_of_lt hj, Nat.zero_add]
 have e2 : (i * sz + j) % sz = j := by
  rw [Nat.add_comm, Nat.add_mul_mod_self_right, Nat.mod_eq_of_lt hj]
 rw [e1, e2]
 show some ((enc d'[i]!)[j]!) = some u
 rw [← hu]
 have := (List.getElem?_eq_some_iff.1 hu).1
 rw [List.getElem?_eq_getElem this, getElem!_pos _ j this]
end Go.Eng
