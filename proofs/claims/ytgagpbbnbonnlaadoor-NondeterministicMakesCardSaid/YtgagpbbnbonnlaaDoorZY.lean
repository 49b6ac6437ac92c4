/-
 Chapter 05: edges put in order, each once: the library's SortFunc and Compact over a slice of the call's own.
-/
import Derived.Test.YtgagpbbnbonnlaaDoorE6
import Derived.Test.YtgagpbbnbonnlaaDoorZD
import Derived.Test.YtgagpbbnbonnlaaDoorSh2
import Derived.Shelf.SlSortCmp.WholeK
import Derived.Lib.SlicesCompact
import Derived.Lib.SliceRun
import Derived.Lib.RowBridge
import Derived.Deep.LoopGhost
set_option linter.unusedSimpArgs false
set_option linter.unusedVariables false
namespace Go.Proofs.YtgagpbbnbonnlaaDoor
open Go.RowKit Go.Eng Go.Sort Go.Lib Go.Proofs
instance : Inhabited Ed := ⟨Ed.no⟩
def edV (e : Ed) : List Value := [.int .i64 e.src, .int .i64 e.ev, .int .i64 e.dst]
theorem edV_length (e : Ed) : (edV e).length = 3 := rfl
theorem edV_one (e : Ed) : ∀ v ∈ edV e, v.oneCell' = true := by
 intro v hv
 simp only [edV, List.mem_cons, List.not_mem_nil, or_false] at hv
 rcases hv with rfl | rfl | rfl <;> rfl
theorem edV_rep (w : World) (M : Nat → Prop) (e : Ed) : RepL w M e.d (edV e) := ⟨_, _, rfl, rfl, _, _, rfl, rfl, _, _, rfl, rfl, rfl⟩
theorem edV_repC (w : World) (M : Nat → Prop) (β : List Value) (e : Ed) : RepCL w M β e.d (edV e) := by
 refine ⟨rfl, fun i d u h1 h2 => ?_⟩
 match i, h1, h2 with
 | 0, h1, h2 => cases h1; cases h2; rfl
 | 1, h1, h2 => cases h1; cases h2; rfl
 | 2, h1, h2 => cases h1; cases h2; rfl
 | n + 3, h1, h2 => cases h1
theorem edV_of {w : World} {M : Nat → Prop} {e : Ed} {us : List Value} (h : RepL w M e.d us) : us = edV e := by
 obtain ⟨a, r, rfl, h1, b, r, rfl, h2, c, r, rfl, h3, h4⟩ := h
 obtain rfl : a = _ := h1
 obtain rfl : b = _ := h2
 obtain rfl : c = _ := h3
 obtain rfl : r = [] := h4
 rfl
theorem ltE_swo : SWO (ltOf cmpE) := by
 have e : ltOf cmpE = fun x y => decide (edLt x y) := by
  funext x y
  exact decide_eq_decide.2 cmpE_neg
 rw [e]
 refine ⟨fun x => by simpa using edLt_irrefl x, fun x y z h k => ?_, fun x y z h k => ?_⟩
 ·simp only [decide_eq_true_eq] at *
  exact edLt_trans h k
 ·simp only [decide_eq_false_iff_not] at *
  unfold edLt at *
  omega
theorem sorted_two : ∀ {ys zs : List Ed}, zs.Perm ys → ys.Pairwise (fun a b => ¬ edLt b a) → zs.Pairwise (fun a b => ¬ edLt b a) → zs = ys
 | [], zs, h, _, _ => h.eq_nil
 | y :: ys, [], h, _, _ => by have := h.length_eq; simp at this
 | y :: ys, z :: zs, h, hy, hz => by
  have e : z = y := by
   by_cases he : z = y
   ·exact he
   ·have h1 : z ∈ ys := by
     have : z ∈ y :: ys := h.subset (by simp)
     rcases List.mem_cons.1 this with h | h
     ·exact absurd h he
     ·exact h
    have h2 : y ∈ zs := by
     have : y ∈ z :: zs := h.symm.subset (by simp)
     rcases List.mem_cons.1 this with h | h
     ·exact absurd h.symm he
     ·exact h
    exact (edLt_total ((List.pairwise_cons.1 hz).1 y h2) ((List.pairwise_cons.1 hy).1 z h1)).symm
  subst e
  rw [sorted_two h.cons_inv (List.pairwise_cons.1 hy).2 (List.pairwise_cons.1 hz).2]
def sortP (l : List Ed) : List Ed := l.mergeSort fun a b => !decide (edLt b a)
theorem sortP_perm (l : List Ed) : (sortP l).Perm l := List.mergeSort_perm l _
theorem sortP_pw (l : List Ed) : (sortP l).Pairwise fun a b => ¬ edLt b a := by
 have h := List.pairwise_mergeSort (le := fun a b => !decide (edLt b a)) (fun a b c h1 h2 => by
  simp only [Bool.not_eq_true', decide_eq_false_iff_not] at *
  unfold edLt at *; omega) (fun a b => by
  simp only [Bool.or_eq_true, Bool.not_eq_true', decide_eq_false_iff_not]
  unfold edLt; omega) l
 exact h.imp fun h => by simpa using h
theorem sortP_length (l : List Ed) : (sortP l).length = l.length := (sortP_perm l).length_eq
theorem compact_sorted {l : List Ed} (h : l.Pairwise fun a b => ¬ edLt b a) : EdInc (Lib.compact l) := by
 unfold Lib.compact compactUpTo EdInc
 rw [List.pairwise_map, List.pairwise_filter]
 refine List.pairwise_lt_range.imp_of_mem fun {i j} hi hj hij _ hk => ?_
 rw [List.mem_range] at hi hj
 rw [List.pairwise_iff_getElem] at h
 simp only [keeps, decide_eq_true_eq] at hk
 have hne := hk.resolve_left (by omega)
 simp only [List.getElem!_toArray, getElem!_pos l i hi, getElem!_pos l j hj, getElem!_pos l (j - 1) (by omega)] at hne ⊢
 have h1 := h (j - 1) j (by omega) hj (by omega)
 have h2 : edLt l[j - 1] l[j] := by
  by_cases h3 : edLt l[j - 1] l[j]
  ·exact h3
  ·exact absurd (edLt_total h1 h3) hne
 by_cases e : i = j - 1
 ·subst e; exact h2
 ·have h4 := h i (j - 1) hi (by omega) (by omega)
  unfold edLt at *
  omega
theorem mem_compact {l : List Ed} {z : Ed} : z ∈ Lib.compact l ↔ z ∈ l := by
 unfold Lib.compact compactUpTo
 rw [List.mem_map]
 constructor
 ·rintro ⟨j, hj, rfl⟩
  rw [List.mem_filter, List.mem_range] at hj
  simp only [List.getElem!_toArray, getElem!_pos l j hj.1]
  exact List.getElem_mem hj.1
 ·intro hz
  obtain ⟨j, hj, e⟩ := List.getElem_of_mem hz
  have key : ∀ n (hn : n < l.length), l[n] = z → ∃ j, (j ∈ List.filter (keeps l.toArray) (List.range l.length)) ∧ l.toArray[j]! = z := by
   intro n
   induction n with
   | zero =>
    intro hn e
    exact ⟨0, by rw [List.mem_filter, List.mem_range]; exact ⟨hn, by simp [keeps]⟩, by simp only [List.getElem!_toArray, getElem!_pos l 0 hn, e]⟩
   | succ n ih =>
    intro hn e
    by_cases h : l[n] = z
    ·exact ih (by omega) h
    ·refine ⟨n + 1, ?_, by simp only [List.getElem!_toArray, getElem!_pos l (n + 1) hn, e]⟩
     rw [List.mem_filter, List.mem_range]
     refine ⟨hn, ?_⟩
     simp only [keeps, decide_eq_true_eq, List.getElem!_toArray, Nat.add_sub_cancel, getElem!_pos l (n + 1) hn, getElem!_pos l n (by omega)]
     exact .inr (by rw [e]; exact fun h' => h h'.symm)
  exact key j hj e
theorem ordered_eq (l : List Ed) : Lib.compact (sortP l) = sortE l :=
 sortE_of (compact_sorted (sortP_pw l)) fun z => mem_compact.trans (sortP_perm l).mem_iff
/-! what an own slice of edges holds -/
theorem eds_cells {w : World} {M : Nat → Prop} {g c : Nat} {e : TypeId} {cur : Array Value} {l : List Ed} (h5 : w.heap[g]? = some (.cells cur e (0, 0))) (h7 : RepRows w M ⟨g, 0, none⟩ 3 0 (edD l)) :
  ∀ t, t < l.toArray.size * 3 → cur[t]? = some (edV (l.toArray)[t / 3]!)[t % 3]! := by
 intro t ht
 have hj : t / 3 < l.length := by simp at ht; omega
 obtain ⟨us, q1, q2, q3⟩ := RepRows.get (edD l) 0 h7 (t / 3) l[t / 3].d (by simp [edD, List.getElem?_eq_getElem hj])
 obtain rfl := edV_of q3
 have hm : t % 3 < 3 := Nat.mod_lt _ (by decide)
 have := q2 (t % 3) (edV l[t / 3])[t % 3]! (by rw [List.getElem?_eq_getElem (by rw [edV_length]; exact hm), getElem!_pos _ _ (by rw [edV_length]; exact hm)])
 rw [add_lit] at this
 unfold World.cell? at this
 simp only [h5] at this
 rw [show 0 + (0 + t / 3 * 3 + t % 3) = t by omega] at this
 have h8 : cur[t]? = some ((edV l[t / 3])[t % 3]!) := this
 rw [h8, List.getElem!_toArray, getElem!_pos l (t / 3) hj]
theorem eds_holds {w : World} {M : Nat → Prop} {g : Nat} {e : TypeId} {cur : Array Value} {l : List Ed} (h5 : w.heap[g]? = some (.cells cur e (0, 0))) (h7 : RepRows w M ⟨g, 0, none⟩ 3 0 (edD l)) : HoldsK edV 3 w g 0 l.toArray :=
 holdsK_of_cells h5 (eds_cells (c := 0) h5 h7)
theorem eds_rep {w : World} {M : Nat → Prop} {l : List Ed} {d : Array Ed} (hl : ∀ j, j < l.length → j < d.size ∧ d[j]! = l.getD j Ed.no) : ∀ (j : Nat) (x : List D), (edD l)[j]? = some x → j < d.size ∧ RepL w M x (edV d[j]!) := by
 intro j x hx
 have hj : j < l.length := by have := (List.getElem?_eq_some_iff.1 hx).1; simpa [edD] using this
 obtain ⟨h1, h2⟩ := hl j hj
 refine ⟨h1, ?_⟩
 have : x = (l.getD j Ed.no).d := by
  simp [edD, List.getElem?_eq_getElem hj] at hx
  simp [← hx, List.getD, List.getElem?_eq_getElem hj]
 subst this
 rw [h2]
 exact edV_rep _ _ _
theorem vargs1 {w : World} {M : Nat → Prop} {β vs : List Value} {a : AV} (h : RepVL w M β [a] vs) : ∃ v, vs = [v] ∧ RepV w M β a v := by
 obtain ⟨v, rest, rfl, h1, h2⟩ := h
 obtain rfl : rest = [] := h2
 exact ⟨v, rfl, h1⟩
theorem vargs2 {w : World} {M : Nat → Prop} {β vs : List Value} {a b : AV} (h : RepVL w M β [a, b] vs) : ∃ v u, vs = [v, u] ∧ RepV w M β a v ∧ RepV w M β b u := by
 obtain ⟨v, rest, rfl, h1, h2⟩ := h
 obtain ⟨u, rest, rfl, h3, h4⟩ := h2
 obtain rfl : rest = [] := h4
 exact ⟨v, u, rfl, h1, h3⟩
theorem own_ret {n c g : Nat} : ∀ (w' : World) (M : Nat → Prop) (β : List Value), β = [.slice (some ⟨g, 0, none⟩) n c] → RepV w' M β (.one (.own 0)) (.slice (some ⟨g, 0, none⟩) n c) := by
 rintro w' M β rfl
 exact ⟨.inl rfl, rfl⟩
theorem SortEds_c (l : List Ed) (h0 : l ≠ []) (hl : l.length ≤ 1000000) : MCalls Tryd.prog 87 1 [.row 43 3 (edD l)] [.one (.own 0), .one (.clo 73 [])] (.tup []) [.row 43 3 (edD (sortP l))] := by
 have hpos : 0 < l.length := List.length_pos_iff.2 h0
 refine ⟨by kernel_rfl, rfl, fun w M0 F vs hM hp hv => ?_⟩
 obtain ⟨v, u, rfl, hv1, cvs, rfl, hcl, hcr⟩ := vargs2 hv
 obtain rfl : cvs = [] := List.length_eq_zero_iff.1 hcl.symm
 obtain ⟨A, c, rfl, rfl, h2, h3, h4⟩ := row_inK hp hv1
 have hel : ∀ l : List Ed, (edD l).length = l.length := fun l => by simp [edD]
 rw [hel] at *
 rcases h4 with h4 | ⟨hc0, g, cur, rfl, hg, h5, h6, h7, h8⟩
 ·omega
 have hMg : Mof M0 [.slice (some ⟨g, 0, none⟩) l.length c] g := (h8 g).2 (.inr rfl)
 have hM1 := mok_less hM (mof_ltK hM hp) fun g h => h
 have hok := (compare_c Ed.no Ed.no).ok
 have hcmp : CmpLays Tryd.prog 73 #[] edV 3 cmpE g 0 l.toArray.size w := by
  intro m os dk hs x y
  have h := (compare_c x y).run (sortWorldK edV 3 w g 0 m dk os) _ [.agg (edV x).toArray, .agg (edV y).toArray] (mok_sorted (enc := id) (dk := flatK edV 3 dk) hM1 hMg) ⟨_, _, rfl, ⟨_, rfl, edV_repC _ _ _ x⟩, _, _, rfl, ⟨_, rfl, edV_repC _ _ _ y⟩, rfl⟩
  refine h.mono ?_
  rintro e w' ⟨v, β, rfl, hr⟩
  have : v = .int .i64 (cmpE x y) := hr.val
  obtain ⟨q, os', e'⟩ := grow_of_below hr.below
  exact ⟨by rw [this], q, os', e'⟩
 have hS := Tryd.slices_SortFunc 3 (fun w => by kernel_rfl) (fun w => by kernel_rfl) edV edV_length edV_one cmpE ltE_swo 73 #[] g 0 c l.toArray w (okFn_enter hok) hcmp (eds_holds h5 h7) hg.2 (by simp; omega)
 simp only [List.size_toArray] at hS
 refine hS.mono ?_
 rintro e w' ⟨rfl, d', q, os, hP, hSo, rfl⟩
 have hsz : d'.size = l.length := by rw [hP.1]; simp
 have hPl : d'.toList.Perm l := by
  have := hP.2.2
  rwa [Array.extract_eq_self_of_le (by omega), Array.extract_eq_self_of_le (by simp)] at this
 have hd : d'.toList = sortP l := by
  refine sorted_two (hPl.trans (sortP_perm l).symm) (sortP_pw l) ?_
  rw [List.pairwise_iff_getElem]
  intro i j hi hj hij
  have hi' : i < d'.size := by simpa using hi
  have hj' : j < d'.size := by simpa using hj
  have := hSo i j (Nat.zero_le _) hij (by omega)
  simp only [ltOf, decide_eq_false_iff_not, cmpE_neg] at this
  simpa [getElem!_pos d' i hi', getElem!_pos d' j hj'] using this
 have hyl := sortP_length l
 refine resM_sortedK edV_length (d' := d') (q := q) (os := os) hg (by rw [hel]; omega) (.inr (by rw [hel]; exact hyl)) hc0 h3 h5 h6 (by omega) (eds_rep fun j hj => ?_) (fun _ _ _ _ => ⟨[], rfl, rfl⟩) (Nat.le_refl _)
 have hj' : j < d'.size := by omega
 refine ⟨hj', ?_⟩
 rw [← hd, getElem!_pos d' j hj']
 simp [List.getD, hj']
end Go.Proofs.YtgagpbbnbonnlaaDoor
