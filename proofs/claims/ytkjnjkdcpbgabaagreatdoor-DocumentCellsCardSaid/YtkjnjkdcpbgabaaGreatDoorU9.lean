/-
 Chapter 23: local conditions and terms put in order of their components: the library's SortFunc over a slice of the call's own.
-/
import Derived.Test.YtkjnjkdcpbgabaaGreatDoorU8
import Derived.Test.YtkjnjkdcpbgabaaGreatDoorSh2
import Derived.Shelf.SlSortCmp.WholeK
import Derived.Shelf.SlSortCmp.NoneTotal
import Derived.Lib.RowBridge
import Derived.Deep.LoopGhost
set_option linter.unusedSimpArgs false
set_option linter.unusedVariables false
namespace Go.Proofs.YtkjnjkdcpbgabaaGreatDoor
open Go.RowKit Go.Eng Go.Sort Go.Lib Go.Proofs
structure Pr where
 comp : Int
 val : Int
 deriving DecidableEq
def Pr.no : Pr := ⟨0, 0⟩
instance : Inhabited Pr := ⟨Pr.no⟩
def Pr.d (e : Pr) : List D := [.int .i64 e.comp, .int .i64 e.val]
def prD (l : List Pr) : List (List D) := l.map Pr.d
theorem prs_length (l : List Pr) : (prD l).length = l.length := by simp [prD]
theorem prs_getD (l : List Pr) (k : Nat) : (prD l).getD k [.int .i64 0, .int .i64 0] = [.int .i64 (l.getD k Pr.no).comp, .int .i64 (l.getD k Pr.no).val] := by
 simp only [prD, List.getD, List.getElem?_map]
 cases l[k]? <;> rfl
theorem prs_sz (l : List Pr) : (∀ r : List D, r ∈ prD l → r.length = 2) ↔ True := ⟨fun _ => trivial, fun _ r hr => by obtain ⟨e, _, rfl⟩ := List.mem_map.1 hr; rfl⟩
theorem prs_append (xs ys : List Pr) : prD xs ++ prD ys = prD (xs ++ ys) := by simp [prD]
theorem prs_one (c v : Int) : [[D.int .i64 c, D.int .i64 v]] = prD [⟨c, v⟩] := rfl
attribute [go_sem] prs_length prs_getD prs_sz
def prV (e : Pr) : List Value := [.int .i64 (e.comp % 1024), .int .i64 e.val]
def prC (e : Pr) : Pr := ⟨e.comp % 1024, e.val⟩
def cmpP (x y : Pr) : Int := x.comp % 1024 - y.comp % 1024
def Small1 (l : List Pr) : Prop := ∀ e ∈ l, 0 ≤ e.comp ∧ e.comp < 1024
theorem prV_length (e : Pr) : (prV e).length = 2 := rfl
theorem prV_one (e : Pr) : ∀ v ∈ prV e, v.oneCell' = true := by
 intro v hv
 simp only [prV, List.mem_cons, List.not_mem_nil, or_false] at hv
 rcases hv with rfl | rfl <;> rfl
theorem prV_rep (w : World) (M : Nat → Prop) (e : Pr) : RepL w M (prC e).d (prV e) := ⟨_, _, rfl, rfl, _, _, rfl, rfl, rfl⟩
theorem prV_repC (w : World) (M : Nat → Prop) (β : List Value) (e : Pr) : RepCL w M β (prC e).d (prV e) := by
 refine ⟨rfl, fun i d u h1 h2 => ?_⟩
 match i, h1, h2 with
 | 0, h1, h2 => cases h1; cases h2; rfl
 | 1, h1, h2 => cases h1; cases h2; rfl
 | n + 2, h1, h2 => cases h1
theorem prC_small {e : Pr} (h : 0 ≤ e.comp ∧ e.comp < 1024) : prC e = e := by
 obtain ⟨c, v⟩ := e
 simp only [prC, Pr.mk.injEq, and_true]
 simp only at h
 omega
theorem prV_of {w : World} {M : Nat → Prop} {e : Pr} {us : List Value} (hs : 0 ≤ e.comp ∧ e.comp < 1024) (h : RepL w M e.d us) : us = prV e := by
 obtain ⟨a, r, rfl, h1, b, r, rfl, h2, h4⟩ := h
 obtain rfl : a = _ := h1
 obtain rfl : b = _ := h2
 obtain rfl : r = [] := h4
 rw [prV, Int.emod_eq_of_lt hs.1 hs.2]
theorem ltP_swo : SWO (ltOf cmpP) := by
 have e : ltOf cmpP = fun x y => decide (x.comp % 1024 < y.comp % 1024) := by
  funext x y
  unfold ltOf cmpP
  exact decide_eq_decide.2 (by omega)
 rw [e]
 refine ⟨fun x => by simp, fun x y z h k => ?_, fun x y z h k => ?_⟩
 ·simp only [decide_eq_true_eq] at *
  omega
 ·simp only [decide_eq_false_iff_not] at *
  omega
def DistP (l : List Pr) : Prop := (l.map Pr.comp).Nodup
theorem sorted_twoP : ∀ {ys zs : List Pr}, zs.Perm ys → DistP ys → ys.Pairwise (fun a b => ¬ b.comp < a.comp) → zs.Pairwise (fun a b => ¬ b.comp < a.comp) → zs = ys
 | [], zs, h, _, _, _ => h.eq_nil
 | y :: ys, [], h, _, _, _ => by have := h.length_eq; simp at this
 | y :: ys, z :: zs, h, hd, hy, hz => by
  have hd' : DistP (z :: zs) := (h.map Pr.comp).symm.nodup hd
  have e : z = y := by
   by_cases he : z = y
   ·exact he
   ·have h1 : z ∈ ys := by
     have : z ∈ y :: ys := h.subset (by simp)
     rcases List.mem_cons.1 this with h | h
     ·exact absurd h he
     ·exact h
    have h2 : y ∈ zs := by
     have : y ∈ z :: zs := h.symm.subset (by simp)
     rcases List.mem_cons.1 this with h | h
     ·exact absurd h.symm he
     ·exact h
    have h3 := (List.pairwise_cons.1 hz).1 y h2
    have h4 := (List.pairwise_cons.1 hy).1 z h1
    have h5 : y.comp ∉ ys.map Pr.comp := (List.nodup_cons.1 hd).1
    exact absurd (List.mem_map.2 ⟨z, h1, by omega⟩) h5
  subst e
  rw [sorted_twoP h.cons_inv (List.nodup_cons.1 hd).2 (List.pairwise_cons.1 hy).2 (List.pairwise_cons.1 hz).2]
def sortP (l : List Pr) : List Pr := l.mergeSort fun a b => decide (a.comp ≤ b.comp)
theorem sortP_perm (l : List Pr) : (sortP l).Perm l := List.mergeSort_perm l _
theorem sortP_pw (l : List Pr) : (sortP l).Pairwise fun a b => ¬ b.comp < a.comp := by
 have h := List.pairwise_mergeSort (le := fun a b : Pr => decide (a.comp ≤ b.comp)) (fun a b c h1 h2 => by
  simp only [decide_eq_true_eq] at *
  omega) (fun a b => by
  simp only [Bool.or_eq_true, decide_eq_true_eq]
  omega) l
 exact h.imp fun h => by simp only [decide_eq_true_eq] at h; omega
theorem sortP_length (l : List Pr) : (sortP l).length = l.length := (sortP_perm l).length_eq
theorem prs_holds {w : World} {M : Nat → Prop} {g : Nat} {e : TypeId} {cur : Array Value} {l : List Pr} (hs : Small1 l) (h5 : w.heap[g]? = some (.cells cur e (0, 0))) (h7 : RepRows w M ⟨g, 0, none⟩ 2 0 (prD l)) : HoldsK prV 2 w g 0 l.toArray := by
 refine holdsK_of_cells h5 fun t ht => ?_
 have hj : t / 2 < l.length := by simp at ht; omega
 obtain ⟨us, q1, q2, q3⟩ := RepRows.get (prD l) 0 h7 (t / 2) l[t / 2].d (by simp [prD, List.getElem?_eq_getElem hj])
 obtain rfl := prV_of (hs _ (List.getElem_mem hj)) q3
 have hm : t % 2 < 2 := Nat.mod_lt _ (by decide)
 have := q2 (t % 2) (prV l[t / 2])[t % 2]! (by rw [List.getElem?_eq_getElem (by rw [prV_length]; exact hm), getElem!_pos _ _ (by rw [prV_length]; exact hm)])
 rw [add_lit] at this
 unfold World.cell? at this
 simp only [h5] at this
 rw [show 0 + (0 + t / 2 * 2 + t % 2) = t by omega] at this
 have h8 : cur[t]? = some ((prV l[t / 2])[t % 2]!) := this
 rw [h8, List.getElem!_toArray, getElem!_pos l (t / 2) hj]
theorem prs_rep {w : World} {M : Nat → Prop} {l : List Pr} {d : Array Pr} (hs : Small1 l) (hl : ∀ j, j < l.length → j < d.size ∧ d[j]! = l.getD j Pr.no) : ∀ (j : Nat) (x : List D), (prD l)[j]? = some x → j < d.size ∧ RepL w M x (prV d[j]!) := by
 intro j x hx
 have hj : j < l.length := by have := (List.getElem?_eq_some_iff.1 hx).1; simpa [prD] using this
 obtain ⟨h1, h2⟩ := hl j hj
 refine ⟨h1, ?_⟩
 have : x = (l.getD j Pr.no).d := by
  simp [prD, List.getElem?_eq_getElem hj] at hx
  simp [← hx, List.getD, List.getElem?_eq_getElem hj]
 subst this
 rw [h2]
 have := prV_rep w M (l.getD j Pr.no)
 rwa [prC_small (hs _ (getD_mem l j Pr.no hj))] at this
theorem vargs2 {w : World} {M : Nat → Prop} {β vs : List Value} {a b : AV} (h : RepVL w M β [a, b] vs) : ∃ v u, vs = [v, u] ∧ RepV w M β a v ∧ RepV w M β b u := by
 obtain ⟨v, rest, rfl, h1, h2⟩ := h
 obtain ⟨u, rest, rfl, h3, h4⟩ := h2
 obtain rfl : rest = [] := h4
 exact ⟨v, u, rfl, h1, h3⟩
theorem lessLocal_c (x y : Pr) (hx : 0 ≤ x.comp ∧ x.comp < 1024) (hy : 0 ≤ y.comp ∧ y.comp < 1024) : ACalls Tryz.prog 93 [.agg x.d, .agg y.d] (.one (.int .i64 (x.comp - y.comp))) [] := by
 (refine ACalls.of_body Ty_ok mixed Tryz.func93 rfl (by kernel_rfl) Tryz.ntmps93 (by simp) (congrArg Array.toList Tryz.results93) ?_)
 simp only [slotsOf, Pr.d]
 (repeat' (first | (with_reducible first | exact True.intro | refine And.intro ?_ ?_ | refine aBl ?_ | (refine aS 5 [] ?_; intro K hK)) | ((with_reducible first | refine aGo ?_); simp only [go_sem]) | ((with_reducible refine aCd ?_ ?_ (fun hb => ?_) (fun hb => ?_)); (iterate 2 simp only [go_sem]); all_goals (simp only [go_sem] at hb; try simp only [bls] at hb)) | ((iterate 6 try ((fail_if_success with_reducible refine hK _ ?_ ?_ ?_); clear hK K)); with_reducible refine hK _ ?_ ?_ ?_; rotate_left; (focus (simp only [go_sem]; exact rfl)); clear hK K) | (with_reducible refine aGs (fun hg0 => ?_) (fun hg0 => ?_) <;> first | (with_reducible first | exact aF1 hg0 | exact aF2 hg0) | (simp only [hg0, go_sem])) | (with_reducible refine aNk ?_; intro bnil hnil; try simp only []) | exact aZ | fail))
 all_goals first | omega | skip
theorem SortLocals_c (l : List Pr) (h0 : l ≠ []) (hl : l.length ≤ 1000000) (hsm : Small1 l) (hdi : DistP l) : MCalls Tryz.prog 92 1 [.row 104 2 (prD l)] [.one (.own 0), .one (.clo 93 [])] (.tup []) [.row 104 2 (prD (sortP l))] := by
 have hpos : 0 < l.length := List.length_pos_iff.2 h0
 refine ⟨by kernel_rfl, rfl, fun w M0 F vs hM hp hv => ?_⟩
 obtain ⟨v, u, rfl, hv1, cvs, rfl, hcl, hcr⟩ := vargs2 hv
 obtain rfl : cvs = [] := List.length_eq_zero_iff.1 hcl.symm
 obtain ⟨A, c, rfl, rfl, h2, h3, h4⟩ := row_inK hp hv1
 have hel : ∀ l : List Pr, (prD l).length = l.length := fun l => by simp [prD]
 rw [hel] at *
 rcases h4 with h4 | ⟨hc0, g, cur, rfl, hg, h5, h6, h7, h8⟩
 ·omega
 have hMg : Mof M0 [.slice (some ⟨g, 0, none⟩) l.length c] g := (h8 g).2 (.inr rfl)
 have hM1 := mok_less hM (mof_ltK hM hp) fun g h => h
 have hok := (lessLocal_c Pr.no Pr.no (by decide) (by decide)).ok
 have hcmp : CmpLays Tryz.prog 93 #[] prV 2 cmpP g 0 l.toArray.size w := by
  intro m os dk hs x y
  have h := (lessLocal_c (prC x) (prC y) ⟨Int.emod_nonneg _ (by decide), Int.emod_lt_of_pos _ (by decide)⟩ ⟨Int.emod_nonneg _ (by decide), Int.emod_lt_of_pos _ (by decide)⟩).run (sortWorldK prV 2 w g 0 m dk os) _ [.agg (prV x).toArray, .agg (prV y).toArray] (mok_sorted (enc := id) (dk := flatK prV 2 dk) hM1 hMg) ⟨_, _, rfl, ⟨_, rfl, prV_repC _ _ _ x⟩, _, _, rfl, ⟨_, rfl, prV_repC _ _ _ y⟩, rfl⟩
  refine h.mono ?_
  rintro e w' ⟨v, β, rfl, hr⟩
  have : v = .int .i64 (cmpP x y) := hr.val
  obtain ⟨q, os', e'⟩ := grow_of_below hr.below
  exact ⟨by rw [this], q, os', e'⟩
 have hS := Tryz.slices_SortFunc_f92 2 (fun w => by kernel_rfl) (fun w => by kernel_rfl) prV prV_length prV_one cmpP ltP_swo 93 #[] g 0 c l.toArray w (okFn_enter hok) hcmp (prs_holds hsm h5 h7) hg.2 (by simp; omega)
 simp only [List.size_toArray] at hS
 refine hS.mono ?_
 rintro e w' ⟨rfl, d', q, os, hP, hSo, rfl⟩
 have hsz : d'.size = l.length := by rw [hP.1]; simp
 have hPl : d'.toList.Perm l := by
  have := hP.2.2
  rwa [Array.extract_eq_self_of_le (by omega), Array.extract_eq_self_of_le (by simp)] at this
 have hsP : Small1 (sortP l) := fun e he => hsm e ((sortP_perm l).mem_iff.1 he)
 have hd : d'.toList = sortP l := by
  refine sorted_twoP (hPl.trans (sortP_perm l).symm) (((sortP_perm l).map Pr.comp).symm.nodup hdi) (sortP_pw l) ?_
  rw [List.pairwise_iff_getElem]
  intro i j hi hj hij
  have hi' : i < d'.size := by simpa using hi
  have hj' : j < d'.size := by simpa using hj
  have := hSo i j (Nat.zero_le _) hij (by omega)
  have s1 := hsm _ (hPl.subset (List.getElem_mem hi))
  have s2 := hsm _ (hPl.subset (List.getElem_mem hj))
  simp only [ltOf, cmpP, decide_eq_false_iff_not, getElem!_pos d' i hi', getElem!_pos d' j hj'] at this
  simp only [Array.getElem_toList] at s1 s2 ⊢
  rw [Int.emod_eq_of_lt s1.1 s1.2, Int.emod_eq_of_lt s2.1 s2.2] at this
  omega
 have hyl := sortP_length l
 refine resM_sortedK prV_length (d' := d') (q := q) (os := os) hg (by rw [hel]; omega) (.inr (by rw [hel]; exact hyl)) hc0 h3 h5 h6 (by omega) (prs_rep hsP fun j hj => ?_) (fun _ _ _ _ => ⟨[], rfl, rfl⟩) (Nat.le_refl _)
 have hj' : j < d'.size := by omega
 refine ⟨hj', ?_⟩
 rw [← hd, getElem!_pos d' j hj']
 simp [List.getD, hj']
theorem SortLocals0_c : MCalls Tryz.prog 92 1 [.row 104 2 []] [.one (.own 0), .one (.clo 93 [])] (.tup []) [.row 104 2 []] := by
 refine ⟨by kernel_rfl, rfl, fun w M0 F vs hM hp hv => ?_⟩
 obtain ⟨v, u, rfl, hv1, cvs, rfl, hcl, hcr⟩ := vargs2 hv
 obtain rfl : cvs = [] := List.length_eq_zero_iff.1 hcl.symm
 obtain ⟨A, c, hFe, rfl, h2, h3, h4⟩ := row_inK hp hv1
 refine (AnyF.slices_SortFunc_none Tryz.laysSlF06_f92 A c _ w).mono ?_
 rintro e w' ⟨rfl, rfl⟩
 exact resM_idK hp ⟨[], rfl, rfl⟩
theorem lessTerm_c (x y : Pr) (hx : 0 ≤ x.comp ∧ x.comp < 1024) (hy : 0 ≤ y.comp ∧ y.comp < 1024) : ACalls Tryz.prog 95 [.agg x.d, .agg y.d] (.one (.int .i64 (x.comp - y.comp))) [] := by
 (refine ACalls.of_body Ty_ok mixed Tryz.func95 rfl (by kernel_rfl) Tryz.ntmps95 (by simp) (congrArg Array.toList Tryz.results95) ?_)
 simp only [slotsOf, Pr.d]
 (repeat' (first | (with_reducible first | exact True.intro | refine And.intro ?_ ?_ | refine aBl ?_ | (refine aS 5 [] ?_; intro K hK)) | ((with_reducible first | refine aGo ?_); simp only [go_sem]) | ((with_reducible refine aCd ?_ ?_ (fun hb => ?_) (fun hb => ?_)); (iterate 2 simp only [go_sem]); all_goals (simp only [go_sem] at hb; try simp only [bls] at hb)) | ((iterate 6 try ((fail_if_success with_reducible refine hK _ ?_ ?_ ?_); clear hK K)); with_reducible refine hK _ ?_ ?_ ?_; rotate_left; (focus (simp only [go_sem]; exact rfl)); clear hK K) | (with_reducible refine aGs (fun hg0 => ?_) (fun hg0 => ?_) <;> first | (with_reducible first | exact aF1 hg0 | exact aF2 hg0) | (simp only [hg0, go_sem])) | (with_reducible refine aNk ?_; intro bnil hnil; try simp only []) | exact aZ | fail))
 all_goals first | omega | skip
theorem SortTerms_c (l : List Pr) (h0 : l ≠ []) (hl : l.length ≤ 1000000) (hsm : Small1 l) (hdi : DistP l) : MCalls Tryz.prog 94 1 [.row 106 2 (prD l)] [.one (.own 0), .one (.clo 95 [])] (.tup []) [.row 106 2 (prD (sortP l))] := by
 have hpos : 0 < l.length := List.length_pos_iff.2 h0
 refine ⟨by kernel_rfl, rfl, fun w M0 F vs hM hp hv => ?_⟩
 obtain ⟨v, u, rfl, hv1, cvs, rfl, hcl, hcr⟩ := vargs2 hv
 obtain rfl : cvs = [] := List.length_eq_zero_iff.1 hcl.symm
 obtain ⟨A, c, rfl, rfl, h2, h3, h4⟩ := row_inK hp hv1
 have hel : ∀ l : List Pr, (prD l).length = l.length := fun l => by simp [prD]
 rw [hel] at *
 rcases h4 with h4 | ⟨hc0, g, cur, rfl, hg, h5, h6, h7, h8⟩
 ·omega
 have hMg : Mof M0 [.slice (some ⟨g, 0, none⟩) l.length c] g := (h8 g).2 (.inr rfl)
 have hM1 := mok_less hM (mof_ltK hM hp) fun g h => h
 have hok := (lessTerm_c Pr.no Pr.no (by decide) (by decide)).ok
 have hcmp : CmpLays Tryz.prog 95 #[] prV 2 cmpP g 0 l.toArray.size w := by
  intro m os dk hs x y
  have h := (lessTerm_c (prC x) (prC y) ⟨Int.emod_nonneg _ (by decide), Int.emod_lt_of_pos _ (by decide)⟩ ⟨Int.emod_nonneg _ (by decide), Int.emod_lt_of_pos _ (by decide)⟩).run (sortWorldK prV 2 w g 0 m dk os) _ [.agg (prV x).toArray, .agg (prV y).toArray] (mok_sorted (enc := id) (dk := flatK prV 2 dk) hM1 hMg) ⟨_, _, rfl, ⟨_, rfl, prV_repC _ _ _ x⟩, _, _, rfl, ⟨_, rfl, prV_repC _ _ _ y⟩, rfl⟩
  refine h.mono ?_
  rintro e w' ⟨v, β, rfl, hr⟩
  have : v = .int .i64 (cmpP x y) := hr.val
  obtain ⟨q, os', e'⟩ := grow_of_below hr.below
  exact ⟨by rw [this], q, os', e'⟩
 have hS := Tryz.slices_SortFunc_f94 2 (fun w => by kernel_rfl) (fun w => by kernel_rfl) prV prV_length prV_one cmpP ltP_swo 95 #[] g 0 c l.toArray w (okFn_enter hok) hcmp (prs_holds hsm h5 h7) hg.2 (by simp; omega)
 simp only [List.size_toArray] at hS
 refine hS.mono ?_
 rintro e w' ⟨rfl, d', q, os, hP, hSo, rfl⟩
 have hsz : d'.size = l.length := by rw [hP.1]; simp
 have hPl : d'.toList.Perm l := by
  have := hP.2.2
  rwa [Array.extract_eq_self_of_le (by omega), Array.extract_eq_self_of_le (by simp)] at this
 have hsP : Small1 (sortP l) := fun e he => hsm e ((sortP_perm l).mem_iff.1 he)
 have hd : d'.toList = sortP l := by
  refine sorted_twoP (hPl.trans (sortP_perm l).symm) (((sortP_perm l).map Pr.comp).symm.nodup hdi) (sortP_pw l) ?_
  rw [List.pairwise_iff_getElem]
  intro i j hi hj hij
  have hi' : i < d'.size := by simpa using hi
  have hj' : j < d'.size := by simpa using hj
  have := hSo i j (Nat.zero_le _) hij (by omega)
  have s1 := hsm _ (hPl.subset (List.getElem_mem hi))
  have s2 := hsm _ (hPl.subset (List.getElem_mem hj))
  simp only [ltOf, cmpP, decide_eq_false_iff_not, getElem!_pos d' i hi', getElem!_pos d' j hj'] at this
  simp only [Array.getElem_toList] at s1 s2 ⊢
  rw [Int.emod_eq_of_lt s1.1 s1.2, Int.emod_eq_of_lt s2.1 s2.2] at this
  omega
 have hyl := sortP_length l
 refine resM_sortedK prV_length (d' := d') (q := q) (os := os) hg (by rw [hel]; omega) (.inr (by rw [hel]; exact hyl)) hc0 h3 h5 h6 (by omega) (prs_rep hsP fun j hj => ?_) (fun _ _ _ _ => ⟨[], rfl, rfl⟩) (Nat.le_refl _)
 have hj' : j < d'.size := by omega
 refine ⟨hj', ?_⟩
 rw [← hd, getElem!_pos d' j hj']
 simp [List.getD, hj']
theorem SortTerms0_c : MCalls Tryz.prog 94 1 [.row 106 2 []] [.one (.own 0), .one (.clo 95 [])] (.tup []) [.row 106 2 []] := by
 refine ⟨by kernel_rfl, rfl, fun w M0 F vs hM hp hv => ?_⟩
 obtain ⟨v, u, rfl, hv1, cvs, rfl, hcl, hcr⟩ := vargs2 hv
 obtain rfl : cvs = [] := List.length_eq_zero_iff.1 hcl.symm
 obtain ⟨A, c, hFe, rfl, h2, h3, h4⟩ := row_inK hp hv1
 refine (AnyF.slices_SortFunc_none Tryz.laysSlF06_f94 A c _ w).mono ?_
 rintro e w' ⟨rfl, rfl⟩
 exact resM_idK hp ⟨[], rfl, rfl⟩
end Go.Proofs.YtkjnjkdcpbgabaaGreatDoor
