/-
 Chapter 23: the contract of Insert.
-/
import Derived.Test.YtkjnjkdcpbgabaaGreatDoorU6
set_option linter.unusedSimpArgs false
set_option linter.unusedVariables false
namespace Go.Proofs.YtkjnjkdcpbgabaaGreatDoor
open Go.RowKit Go.Eng Go.Sort Go.Lib Go.Proofs
def insL (l : List It) (i : Nat) (x : It) : List It := l.take i ++ x :: l.drop i
theorem insL_length (l : List It) (i : Nat) (x : It) (hi : i ≤ l.length) : (insL l i x).length = l.length + 1 := by
 rw [insL, List.length_append, List.length_take, List.length_cons, List.length_drop]
 omega
theorem ins_get (l : List It) (i j : Nat) (x : It) (r : List D) (hi : i ≤ l.length) (h : (itD (insL l i x))[j]? = some r) : j < l.length + 1 ∧ ((j < i ∧ (itD l)[j]? = some r) ∨ (j = i ∧ r = x.d) ∨ (i < j ∧ (itD l)[j - 1]? = some r)) := by
 have hj : j < (itD (insL l i x)).length := (List.getElem?_eq_some_iff.1 h).1
 rw [itD_length, insL_length l i x hi] at hj
 refine ⟨hj, ?_⟩
 have e : itD (insL l i x) = (itD l).take i ++ x.d :: (itD l).drop i := by simp [insL, itD]
 rw [e, List.getElem?_append, List.length_take, itD_length, Nat.min_eq_left hi] at h
 split at h
 ·rename_i hji
  rw [List.getElem?_take, if_pos hji] at h
  exact .inl ⟨hji, h⟩
 ·rename_i hji
  by_cases e2 : j = i
  ·subst e2
   simp at h
   exact .inr (.inl ⟨rfl, h.symm⟩)
  ·obtain ⟨k, hk⟩ : ∃ k, j - i = k + 1 := ⟨j - i - 1, by omega⟩
   rw [hk, List.getElem?_cons_succ, List.getElem?_drop] at h
   refine .inr (.inr ⟨by omega, ?_⟩)
   rw [← h]
   congr 1
   omega
set_option maxHeartbeats 4000000 in
theorem Insert_fin {l : List It} {x : It} {i g g' g1 c c' c1 : Nat} {A : Option Addr} {cur cur1 : Array Value} {vs : List Value} {w w' : World} {M0 : Nat → Prop} {F : List Value} (hi : i ≤ l.length)
  (hF : F = [.slice A l.length c, .slice (some ⟨g1, 0, none⟩) 1 c1]) (hp : MPre w M0 F [.row 30 9 (itD l), .row 30 9 (itD [x])])
  (h0 : (c = 0 ∧ l.length = 0 ∧ g = w.heap.size) ∨ (0 < c ∧ A = some ⟨g, 0, none⟩ ∧ w.heap[g]? = some (.cells cur 30 (0, 0)) ∧ RepRows w (Mof M0 F) ⟨g, 0, none⟩ 9 0 (itD l) ∧ g1 ≠ g))
  (hc1 : 0 < c1) (hc1m : 1 ≤ c1 ∧ c1 ≤ maxLen) (hb1 : w.heap[g1]? = some (.cells cur1 30 (0, 0))) (hs1 : cur1.size = c1 * 9) (hr1 : RepRows w (Mof M0 F) ⟨g1, 0, none⟩ 9 0 (itD [x]))
  (hvs : vs.length = 9) (hvr : RepL w (Mof M0 F) x.d vs) (hO : InsOut w g l.length i cur vs g' c' w') :
  ∃ v β, Ending.returned (.slice (some ⟨g', 0, none⟩) (l.length + 1) c') = .returned v ∧ ResM w w' M0 F 0 (.one (.own 0)) [.row 30 9 (itD (insL l i x)), .row 30 9 (itD [x])] v β := by
 have hg1 : g1 < w.heap.size := (Array.getElem?_eq_some_iff.1 hb1).1
 have hc'0 : 0 < c' := by have := hO.cap; omega
 have hbl1 : hblk (.slice (some ⟨g1, 0, none⟩) 1 c1) = some g1 := hblk_row hc1
 have hblg : hblk (.slice (some ⟨g', 0, none⟩) (l.length + 1) c') = some g' := hblk_row hc'0
 have hown1 : owned F g1 := ⟨1, _, by rw [hF]; rfl, hbl1⟩
 have hgF : g < w.heap.size → owned F g := fun hlt => by
  rcases h0 with ⟨_, _, e⟩ | ⟨h1, h2, _⟩
  ·omega
  ·exact ⟨0, _, by rw [hF]; rfl, by rw [h2]; exact hblk_row h1⟩
 have hne1 : g1 ≠ g := by
  rcases h0 with ⟨_, _, e⟩ | ⟨_, _, _, _, h⟩
  ·omega
  ·exact h
 have hg'F : g' < w.heap.size → owned F g' := fun hlt => by
  rcases hO.own with rfl | h
  ·exact hgF hlt
  ·omega
 have hne' : g' ≠ g1 := by
  rcases hO.own with rfl | h
  ·exact hne1.symm
  ·omega
 obtain ⟨β, hβ⟩ : ∃ β : List Value, β = [.slice (some ⟨g', 0, none⟩) (l.length + 1) c', .slice (some ⟨g1, 0, none⟩) 1 c1] := ⟨_, rfl⟩
 have hoβ : ∀ k, owned β k ↔ (k = g' ∨ k = g1) := by
  intro k
  subst hβ
  constructor
  ·rintro ⟨t, y, hy, hk⟩
   cases t with
   | zero => simp at hy; subst hy; rw [hblg] at hk; exact .inl (by simpa using hk.symm)
   | succ t =>
    cases t with
    | zero => simp at hy; subst hy; rw [hbl1] at hk; exact .inr (by simpa using hk.symm)
    | succ t => simp at hy
  ·rintro (rfl | rfl)
   ·exact ⟨0, _, rfl, hblg⟩
   ·exact ⟨1, _, rfl, hbl1⟩
 obtain ⟨cur', hcb, hcs⟩ := hO.cells
 have hg'lt : g' < w'.heap.size := (Array.getElem?_eq_some_iff.1 hcb).1
 have hkeep : Keeps w (Mof M0 F) w' (Mof M0 β) := by
  refine ⟨hO.below.size, fun k hk hm => hO.below.block k hk fun e => hm (.inr (hgF (by omega) |> fun h => by rw [e]; exact h)), fun k hk hm hm' => ?_⟩
  rcases hm' with hm' | hm'
  ·exact hm (.inl hm')
  ·rcases (hoβ k).1 hm' with rfl | rfl
   ·exact hm (.inr (hg'F hk))
   ·exact hm (.inr hown1)
 refine ⟨_, β, rfl, ?_⟩
 refine ⟨⟨hO.below.os, hO.below.tape, hO.below.output, hO.below.size, fun k hk hx => hO.below.block k hk fun e => hx (by rw [e]; exact hgF (by omega)), hO.below.drawn⟩, by rw [hβ]; rfl, fun t ht => by omega, ?_, ?_, ?_, ?_⟩
 ·intro t o h hto hth
  cases t with
  | zero =>
   rw [hβ] at hth
   simp at hto hth
   subst hto hth
   refine ⟨_, c', by rw [itD_length, insL_length l i x hi], by rw [itD_length, insL_length l i x hi]; exact hO.cap.1, hO.cap.2, .inr ⟨hc'0, g', cur', rfl, hcb, hcs, RepRows.of_get _ _ fun j r hr => ?_⟩⟩
   obtain ⟨hj, hcase⟩ := ins_get l i j x r hi hr
   have hval := hO.val
   have old : ∀ k, (itD l)[k]? = some r → (∀ t, t < 9 → w'.cell? ⟨g', j * 9 + t, none⟩ = cur[k * 9 + t]?) → ∃ us : List Value, us.length = 9 ∧ reads w' ⟨g', 0, none⟩ (0 + j * 9) us ∧ RepL w' (Mof M0 β) r us := fun k hk hc => by
    rcases h0 with ⟨_, e, _⟩ | ⟨_, _, hb, hrr, _⟩
    ·have : k < (itD l).length := (List.getElem?_eq_some_iff.1 hk).1
     rw [itD_length] at this
     omega
    ·obtain ⟨us, k1, k2, k3⟩ := RepRows.get _ 0 hrr k r hk
     refine ⟨us, k1, fun t u hu => ?_, RepL.keep hkeep _ _ k3⟩
     have ht : t < 9 := by have := (List.getElem?_eq_some_iff.1 hu).1; omega
     have h1 := k2 t u hu
     rw [add_lit, cell_of_row _ _ _ _ _ _ hb] at h1
     rw [add_lit, show 0 + (0 + j * 9 + t) = j * 9 + t by omega, hc t ht, ← h1]
     congr 1
     omega
   rcases hcase with ⟨hji, hx⟩ | ⟨rfl, rfl⟩ | ⟨hij, hx⟩
   ·exact old j hx fun t ht => by rw [hval _ (by omega), if_pos (by omega)]
   ·refine ⟨vs, hvs, fun t u hu => ?_, RepL.keep hkeep _ _ hvr⟩
    have ht : t < 9 := by have := (List.getElem?_eq_some_iff.1 hu).1; omega
    rw [add_lit, show 0 + (0 + j * 9 + t) = j * 9 + t by omega, hval _ (by omega), if_neg (by omega), if_pos (by omega), ← hu]
    congr 1
    omega
   ·refine old (j - 1) hx fun t ht => ?_
    rw [hval _ (by omega), if_neg (by omega), if_neg (by omega)]
    congr 1
    omega
  | succ t =>
   cases t with
   | zero =>
    rw [hβ] at hth
    simp at hto hth
    subst hto hth
    refine ⟨_, c1, rfl, hc1m.1, hc1m.2, .inr ⟨hc1, g1, cur1, rfl, (hO.below.block g1 hg1 hne1).trans hb1, hs1, RepRows.of_get _ _ fun j r hr => ?_⟩⟩
    obtain ⟨us, k1, k2, k3⟩ := RepRows.get _ 0 hr1 j r hr
    refine ⟨us, k1, fun t u hu => ?_, RepL.keep hkeep _ _ k3⟩
    have := k2 t u hu
    rw [add_lit] at this ⊢
    rw [World.cell?_of_block (w := w) (hO.below.block g1 hg1 hne1)]
    exact this
   | succ t => simp at hto
 ·intro k hk
  rcases (hoβ k).1 hk with rfl | rfl
  ·refine ⟨?_, hg'lt⟩
   by_cases hlt : k < w.heap.size
   ·exact .inl (hg'F hlt)
   ·exact .inr (by omega)
  ·exact ⟨.inl hown1, Nat.lt_of_lt_of_le hg1 hO.below.size⟩
 ·intro t t' y y' k hy hy' hk hk'
  subst hβ
  have f : ∀ (t : Nat) (y : Value), ([.slice (some ⟨g', 0, none⟩) (l.length + 1) c', .slice (some ⟨g1, 0, none⟩) 1 c1] : List Value)[t]? = some y → hblk y = some k → (t = 0 ∧ k = g') ∨ (t = 1 ∧ k = g1) := by
   intro t y hy hk
   cases t with
   | zero => simp at hy; subst hy; rw [hblg] at hk; exact .inl ⟨rfl, by simpa using hk.symm⟩
   | succ t =>
    cases t with
    | zero => simp at hy; subst hy; rw [hbl1] at hk; exact .inr ⟨rfl, by simpa using hk.symm⟩
    | succ t => simp at hy
  rcases f t y hy hk with ⟨e1, e2⟩ | ⟨e1, e2⟩ <;> rcases f t' y' hy' hk' with ⟨e3, e4⟩ | ⟨e3, e4⟩
  ·omega
  ·exact absurd (e2.symm.trans e4) hne'
  ·exact absurd (e4.symm.trans e2) hne'
  ·omega
 ·rw [hβ]
  exact ⟨.inl rfl, rfl⟩
theorem Insert_c (l : List It) (x : It) (i : Nat) (hi : i ≤ l.length) (hl : l.length ≤ 1000) : MCalls Tryz.prog 53 0 [.row 30 9 (itD l), .row 30 9 (itD [x])] [.one (.own 0), .one (.int .i64 i), .one (.own 1)] (.one (.own 0)) [.row 30 9 (itD (insL l i x)), .row 30 9 (itD [x])] := by
 refine ⟨by kernel_rfl, rfl, fun w M0 F vs0 hM hp hv => ?_⟩
 obtain ⟨v, u, y, rfl, hv1, rfl, hv3⟩ := vargs3 hv
 obtain ⟨f0, f1, hF⟩ : ∃ f0 f1, F = [f0, f1] := by
  match F, hp.len with
  | [f0, f1], _ => exact ⟨f0, f1, rfl⟩
 have o0 := hp.objs 0 _ f0 rfl (by rw [hF]; rfl)
 have o1 := hp.objs 1 _ f1 rfl (by rw [hF]; rfl)
 have e0 := own_live (e := 30) (sz := 9) (rows := itD l) hv1 (fun z hz => by rw [hF] at hz; simp at hz; subst hz; exact o0)
 have e1 := own_live (e := 30) (sz := 9) (rows := itD [x]) hv3 (fun z hz => by rw [hF] at hz; simp at hz; subst hz; exact o1)
 rw [hF] at e0 e1
 simp at e0 e1
 subst e0 e1
 obtain ⟨A, c, rfl, q1, q2, q3⟩ := o0
 obtain ⟨A1, c1, rfl, p1, p2, p3⟩ := o1
 rw [itD_length] at *
 have p1' : 1 ≤ c1 := p1
 rcases p3 with p3 | ⟨hc1, g1, cur1, rfl, hb1, hs1, hr1⟩
 ·omega
 obtain ⟨vs, k1, k2, k3⟩ := RepRows.cellList _ 0 hr1
 have hvs : vs.length = 9 := k1
 have hvr : RepL w (Mof M0 F) x.d vs := by simpa [itD] using k3
 have hsrc : ∀ j u, vs[j]? = some u → w.cell? ⟨g1, j, none⟩ = some u := fun j u hu => by
  have := k2 j u hu
  rwa [add_lit, Nat.zero_add, Nat.zero_add] at this
 have h1c := RepCL.oneCell (RepL.toC (β := []) hvr)
 have hg1 : g1 < w.heap.size := (Array.getElem?_eq_some_iff.1 hb1).1
 have hcu1 : cur1.size ≠ 0 := by omega
 rcases q3 with q3 | ⟨hc0, g, cur, rfl, hb, hs, hr⟩
 ·have hl0 : l.length = 0 := by omega
  obtain rfl : i = l.length := by omega
  refine (Insert_endgrow (g := w.heap.size) (g1 := g1) (c := c) (c1 := c1) (n := l.length) (cur := #[]) (w := w) (A := A) (.inl ⟨hl0, q3⟩) q1 (by omega) hl hvs hsrc h1c).mono ?_
  rintro e w' ⟨g', c', rfl, hO⟩
  exact Insert_fin (x := x) hi hF hp (.inl ⟨q3, hl0, rfl⟩) hc1 ⟨p1', p2⟩ hb1 hs1 hr1 hvs hvr hO
 ·have hgne : g1 ≠ g := fun e => by
   have := hp.dist 0 1 _ _ g (by rw [hF]; rfl) (by rw [hF]; rfl) (hblk_row hc0) (by rw [← e]; exact hblk_row hc1)
   omega
  have hone := one_cells hb hr
  rw [itD_length] at hone
  have fin : ∀ {g' c' : Nat} {w' : World}, InsOut w g l.length i cur vs g' c' w' → ∃ v β, Ending.returned (.slice (some ⟨g', 0, none⟩) (l.length + 1) c') = .returned v ∧ ResM w w' M0 F 0 (.one (.own 0)) [.row 30 9 (itD (insL l i x)), .row 30 9 (itD [x])] v β :=
   fun hO => Insert_fin hi hF hp (.inr ⟨hc0, rfl, hb, hr, hgne⟩) hc1 ⟨p1', p2⟩ hb1 hs1 hr1 hvs hvr hO
  by_cases hin : i = l.length
  ·subst hin
   by_cases hroom : l.length + 1 ≤ c
   ·refine (Insert_endroom (c1 := c1) hb hs hroom hl q2 hvs hsrc h1c).mono ?_
    rintro e w' ⟨g', c', rfl, hO⟩
    exact fin hO
   ·refine (Insert_endgrow (g := g) (c1 := c1) (cur := cur) (.inr ⟨rfl, hb, hs⟩) q1 (by omega) hl hvs hsrc h1c).mono ?_
    rintro e w' ⟨g', c', rfl, hO⟩
    exact fin hO
  ·by_cases hroom : l.length + 1 ≤ c
   ·refine (Insert_shift (c1 := c1) hb hb1 hgne (by omega) hs hroom hl q2 hvs hsrc h1c hone hcu1).mono ?_
    rintro e w' ⟨g', c', rfl, hO⟩
    exact fin hO
   ·refine (Insert_grow (c1 := c1) hb hg1 (by omega) hs q1 (by omega) hl hvs hsrc h1c hone).mono ?_
    rintro e w' ⟨g', c', rfl, hO⟩
    exact fin hO
end Go.Proofs.YtkjnjkdcpbgabaaGreatDoor
