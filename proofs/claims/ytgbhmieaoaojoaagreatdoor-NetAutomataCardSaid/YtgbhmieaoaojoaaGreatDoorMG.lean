/-
 Contracts: the edges of a state, automaton.Equal, the canonical form.
-/
import Derived.Test.YtgbhmieaoaojoaaGreatDoorME
import Derived.Test.YtgbhmieaoaojoaaGreatDoorMD
set_option linter.unusedSimpArgs false
set_option linter.unusedVariables false
namespace Go.Proofs.YtgbhmieaoaojoaaGreatDoor
open Go.Eng Go.RowKit
theorem edg_ext {a b : Edg} (h : a.src = b.src ∧ a.ev = b.ev ∧ a.dst = b.dst) : a = b := by
 obtain ⟨a1, a2, a3⟩ := a
 obtain ⟨b1, b2, b3⟩ := b
 simp_all
set_option maxHeartbeats 4000000 in
theorem EqualEdgs_c (xs ys : List Edg) (hn : xs.length ≤ 1000000) : ACalls Tryz.prog 49 [.one (.list (edgsD xs)), .one (.list (edgsD ys))] (.one (.bool (decide (xs = ys)))) [] := by
 (refine ACalls.of_body Ty_ok mixed Tryz.func49 rfl (by kernel_rfl) Tryz.ntmps49 (by simp) (congrArg Array.toList Tryz.results49) ?_)
 simp only [slotsOf]
 (repeat' (first | (with_reducible first | exact True.intro | refine And.intro ?_ ?_ | refine aBl ?_ | (refine aS 6 [12, 13] ?_; intro K hK)) | ((with_reducible first | refine aGo ?_ | refine rD (id := 6) ?_); simp only [go_sem]) | ((with_reducible refine aCd ?_ ?_ (fun hb => ?_) (fun hb => ?_)); (iterate 2 simp only [go_sem]); all_goals (simp only [go_sem] at hb; try simp only [bls] at hb)) | ((iterate 6 try ((fail_if_success with_reducible refine hK _ ?_ ?_ ?_); clear hK K)); with_reducible refine hK _ ?_ ?_ ?_; rotate_left; (focus (simp only [go_sem]; exact rfl)); clear hK K) | (with_reducible refine aGs (fun hg0 => ?_) (fun hg0 => ?_) <;> first | (with_reducible first | exact aF1 hg0 | exact aF2 hg0) | (simp only [hg0, go_sem])) | (with_reducible refine aNk ?_; intro bnil hnil; try simp only []) | exact aZ | fail))
 ·have : xs ≠ ys := by rintro rfl; omega
  simp [this]
 refine awp_loop _ (by simp only [go_sem]; rfl) Nat (fun k => k ≤ xs.length ∧ decide (xs = ys) = decide (xs.drop k = ys.drop k)) (fun k => [(13, .one (.int .i64 k))]) (fun _ H => H) (fun k => xs.length - k) 0 ⟨by omega, by simp⟩ ?_ ?_
 ·(simp only [SubF, go_sem]; (try simp only [go_sem]); repeat' (first | exact True.intro | with_reducible refine And.intro ?_ ?_ | rfl | omega))
 ·rintro k ⟨hk, hres⟩ L hL
  have hq : ((k : Nat) : Int).toNat = k := by omega
  by_cases hlt : k < xs.length
  ·have a1 := edgs_at (l := xs) hlt [.int .i64 0, .int .i64 0, .int .i64 0]
   have a2 := edgs_at (l := xs) hlt []
   have b1 := edgs_at (l := ys) (k := k) (by omega) [.int .i64 0, .int .i64 0, .int .i64 0]
   have b2 := edgs_at (l := ys) (k := k) (by omega) []
   have hs := eqq_step (d := Edg.no) (by omega) (by omega) hres
   (simp only [go_sem] at hL ⊢)
   (repeat' (first | (with_reducible first | exact True.intro | refine And.intro ?_ ?_ | refine aBl ?_ | (refine aS 6 [12, 13] ?_; intro K hK)) | ((with_reducible first | refine aGo ?_ | refine rD (id := 6) ?_); simp only [hq, a1, a2, b1, b2, go_sem]) | ((with_reducible refine aCd ?_ ?_ (fun hb => ?_) (fun hb => ?_)); (iterate 2 simp only [hq, a1, a2, b1, b2, go_sem]); all_goals (simp only [hq, a1, a2, b1, b2, go_sem] at hb; try simp only [bls] at hb)) | ((iterate 6 try ((fail_if_success with_reducible refine hK _ ?_ ?_ ?_); clear hK K)); with_reducible refine hK _ ?_ ?_ ?_; rotate_left; (focus (simp only [hq, a1, a2, b1, b2, go_sem]; exact rfl)); clear hK K) | (with_reducible refine aGs (fun hg0 => ?_) (fun hg0 => ?_) <;> first | (with_reducible first | exact aF1 hg0 | exact aF2 hg0) | (simp only [hg0, hq, a1, a2, b1, b2, go_sem])) | (with_reducible refine aNk ?_; intro bnil hnil; try simp only []) | exact aZ | fail))
   all_goals first | omega | skip
   ·rw [hs, decide_eq_false]
    ·rfl
    ·intro h; rw [h] at hb; simp at hb
   ·rw [decide_eq_true (edg_ext (by simpa using hb)), Bool.true_and] at hs
    exact hL _ (k + 1) ⟨by omega, hs⟩ (by (simp only [SubF, go_sem]; (try simp only [go_sem]); repeat' (first | exact True.intro | with_reducible refine And.intro ?_ ?_ | rfl | omega))) (by omega)
  ·(simp only [go_sem] at hL ⊢)
   (repeat' (first | (with_reducible first | exact True.intro | refine And.intro ?_ ?_ | refine aBl ?_ | (refine aS 6 [12, 13] ?_; intro K hK)) | ((with_reducible first | refine aGo ?_ | refine rD (id := 6) ?_); simp only [go_sem]) | ((with_reducible refine aCd ?_ ?_ (fun hb => ?_) (fun hb => ?_)); (iterate 2 simp only [go_sem]); all_goals (simp only [go_sem] at hb; try simp only [bls] at hb)) | ((iterate 6 try ((fail_if_success with_reducible refine hK _ ?_ ?_ ?_); clear hK K)); with_reducible refine hK _ ?_ ?_ ?_; rotate_left; (focus (simp only [go_sem]; exact rfl)); clear hK K) | (with_reducible refine aGs (fun hg0 => ?_) (fun hg0 => ?_) <;> first | (with_reducible first | exact aF1 hg0 | exact aF2 hg0) | (simp only [hg0, go_sem])) | (with_reducible refine aNk ?_; intro bnil hnil; try simp only []) | exact aZ | fail))
   all_goals first | omega | skip
   rw [hres, drop_end xs k (by omega), drop_end ys k (by omega)]; rfl
theorem aut_eq (a b : Aut) : decide (a = b) = (decide (a.states = b.states) && decide (a.alph = b.alph) && decide (a.marked = b.marked) && decide (a.edges = b.edges)) := by
 obtain ⟨a1, a2, a3, a4⟩ := a
 obtain ⟨b1, b2, b3, b4⟩ := b
 rw [Bool.eq_iff_iff]
 simp only [decide_eq_true_eq, Bool.and_eq_true, Aut.mk.injEq]
 constructor
 ·rintro ⟨h1, h2, h3, h4⟩; exact ⟨⟨⟨h2, h1⟩, h3⟩, h4⟩
 ·rintro ⟨⟨⟨h2, h1⟩, h3⟩, h4⟩; exact ⟨h1, h2, h3, h4⟩
set_option maxHeartbeats 4000000 in
theorem autEqual_c (a b : Aut) (ha : a.Fits) : ACalls Tryz.prog 14 [.agg a.d, .agg b.d] (.one (.bool (decide (a = b)))) [] := by
 obtain ⟨f1, f2, f3⟩ := ha
 have c1 := EqualInts_c a.alph b.alph (by omega)
 have c2 := EqualInts_c a.marked b.marked (by omega)
 have c3 := EqualEdgs_c a.edges b.edges (by omega)
 rw [aut_eq]
 (refine ACalls.of_body Ty_ok mixed Tryz.func14 rfl (by kernel_rfl) Tryz.ntmps14 (by simp) (congrArg Array.toList Tryz.results14) ?_)
 simp only [slotsOf, Aut.d]
 (repeat' (first | (with_reducible first | exact True.intro | refine And.intro ?_ ?_ | refine aBl ?_ | (refine aS 5 [] ?_; intro K hK)) | ((with_reducible first | refine aGo ?_); simp only [go_sem]) | ((with_reducible refine aCd ?_ ?_ (fun hb => ?_) (fun hb => ?_)); (iterate 2 simp only [go_sem]); all_goals (simp only [go_sem] at hb; try simp only [bls] at hb)) | ((iterate 6 try ((fail_if_success with_reducible refine hK _ ?_ ?_ ?_); clear hK K)); with_reducible refine hK _ ?_ ?_ ?_; rotate_left; (focus (simp only [go_sem]; exact rfl)); clear hK K) | ((first | (with_reducible first | refine xA ?_ | refine xD ?_ | refine xO ?_ | refine xR ?_ | refine xG ?_ | refine xH ?_ | refine xM ?_) | ((with_reducible refine gA ?_); refine xA ?_) | ((with_reducible refine gD ?_); refine xD ?_) | ((with_reducible refine gG ?_); refine xG ?_)); simp only [go_sem]) | (with_reducible refine aGs (fun hg0 => ?_) (fun hg0 => ?_) <;> first | (with_reducible first | exact aF1 hg0 | exact aF2 hg0) | (simp only [hg0, go_sem])) | (with_reducible refine aNk ?_; intro bnil hnil; try simp only []) | exact aZ | fail))
 all_goals first | omega | rfl
/-! the edges of a state -/
def outL (es : List Edg) (s : Int) : List Edg := es.filter fun x => decide (x.src = s)
theorem sorted_cut : ∀ (es : List Edg) (s : Int), (es.map Edg.src).Pairwise (· ≤ ·) → (es.take (below (es.map Edg.src) (s + 1))).drop (below (es.map Edg.src) s) = outL es s
 | [], s, _ => by simp [outL]
 | x :: es, s, h => by
  rw [List.map_cons, List.pairwise_cons] at h
  have ih := sorted_cut es s h.2
  by_cases h1 : x.src < s
  ·have e1 : below ((x :: es).map Edg.src) s = below (es.map Edg.src) s + 1 := by simp [below, List.filter_cons, h1]
   have e2 : below ((x :: es).map Edg.src) (s + 1) = below (es.map Edg.src) (s + 1) + 1 := by simp [below, List.filter_cons, show x.src < s + 1 by omega]
   have e3 : outL (x :: es) s = outL es s := by simp [outL, List.filter_cons, show ¬ x.src = s by omega]
   rw [e1, e2, e3, List.take_succ_cons, List.drop_succ_cons, ih]
  ·have e0 : ∀ t, t ≤ x.src → below (es.map Edg.src) t = 0 := fun t ht => by
    rw [below, List.length_eq_zero_iff, List.filter_eq_nil_iff]
    intro z hz
    have := h.1 z hz
    simp; omega
   have e1 : below ((x :: es).map Edg.src) s = 0 := by
    have := e0 s (by omega)
    simp only [below, List.map_cons, List.filter_cons, decide_eq_true_eq, if_neg h1] at this ⊢
    exact this
   by_cases h2 : x.src = s
   ·have e2 : below ((x :: es).map Edg.src) (s + 1) = below (es.map Edg.src) (s + 1) + 1 := by simp [below, List.filter_cons, show x.src < s + 1 by omega]
    have e3 : outL (x :: es) s = x :: outL es s := by simp [outL, List.filter_cons, h2]
    rw [e0 s (by omega)] at ih
    rw [e1, e2, e3, List.take_succ_cons, List.drop_zero, ← ih, List.drop_zero]
   ·have e2 : below ((x :: es).map Edg.src) (s + 1) = 0 := by
     have := e0 (s + 1) (by omega)
     simp only [below, List.map_cons, List.filter_cons, decide_eq_true_eq, if_neg (show ¬ x.src < s + 1 by omega)] at this ⊢
     exact this
    have e3 : outL (x :: es) s = [] := by
     rw [outL, List.filter_eq_nil_iff]
     intro y hy
     rcases List.mem_cons.1 hy with rfl | hy
     ·simpa using h2
     ·have := h.1 y.src (List.mem_map_of_mem hy)
      simp; omega
    rw [e1, e2, e3]; simp
theorem out1_c (x : Edg) (s : Int) (hx : 0 ≤ x.src ∧ x.src ≤ 1000000) (hs : 0 ≤ s ∧ s ≤ 1000000) : ACalls Tryz.prog 136 [.agg x.d, .one (.int .i64 s)] (.one (.int .i64 (x.src - s))) [] := by
 (refine ACalls.of_body Ty_ok mixed Tryz.func136 rfl (by kernel_rfl) Tryz.ntmps136 (by simp) (congrArg Array.toList Tryz.results136) ?_)
 simp only [slotsOf, Edg.d]
 (repeat' (first | (with_reducible first | exact True.intro | refine And.intro ?_ ?_ | refine aBl ?_ | (refine aS 5 [] ?_; intro K hK)) | ((with_reducible first | refine aGo ?_); simp only [go_sem]) | ((with_reducible refine aCd ?_ ?_ (fun hb => ?_) (fun hb => ?_)); (iterate 2 simp only [go_sem]); all_goals (simp only [go_sem] at hb; try simp only [bls] at hb)) | ((iterate 6 try ((fail_if_success with_reducible refine hK _ ?_ ?_ ?_); clear hK K)); with_reducible refine hK _ ?_ ?_ ?_; rotate_left; (focus (simp only [go_sem]; exact rfl)); clear hK K) | (with_reducible refine aGs (fun hg0 => ?_) (fun hg0 => ?_) <;> first | (with_reducible first | exact aF1 hg0 | exact aF2 hg0) | (simp only [hg0, go_sem])) | (with_reducible refine aNk ?_; intro bnil hnil; try simp only []) | exact aZ | fail))
 all_goals first | omega | skip
theorem out2_c (x : Edg) (s : Int) (hx : 0 ≤ x.src ∧ x.src ≤ 1000000) (hs : 0 ≤ s ∧ s ≤ 1000000) : ACalls Tryz.prog 137 [.agg x.d, .one (.int .i64 s)] (.one (.int .i64 (x.src - s))) [] := by
 (refine ACalls.of_body Ty_ok mixed Tryz.func137 rfl (by kernel_rfl) Tryz.ntmps137 (by simp) (congrArg Array.toList Tryz.results137) ?_)
 simp only [slotsOf, Edg.d]
 (repeat' (first | (with_reducible first | exact True.intro | refine And.intro ?_ ?_ | refine aBl ?_ | (refine aS 5 [] ?_; intro K hK)) | ((with_reducible first | refine aGo ?_); simp only [go_sem]) | ((with_reducible refine aCd ?_ ?_ (fun hb => ?_) (fun hb => ?_)); (iterate 2 simp only [go_sem]); all_goals (simp only [go_sem] at hb; try simp only [bls] at hb)) | ((iterate 6 try ((fail_if_success with_reducible refine hK _ ?_ ?_ ?_); clear hK K)); with_reducible refine hK _ ?_ ?_ ?_; rotate_left; (focus (simp only [go_sem]; exact rfl)); clear hK K) | (with_reducible refine aGs (fun hg0 => ?_) (fun hg0 => ?_) <;> first | (with_reducible first | exact aF1 hg0 | exact aF2 hg0) | (simp only [hg0, go_sem])) | (with_reducible refine aNk ?_; intro bnil hnil; try simp only []) | exact aZ | fail))
 all_goals first | omega | skip
set_option maxHeartbeats 8000000 in
theorem BSearchEdg_c (es : List Edg) (s : Int) (f : FuncId) (hn : es.length ≤ 1000000) (hs : (es.map Edg.src).Pairwise (· ≤ ·)) (hp : ∀ x ∈ es, ACalls Tryz.prog f [.agg x.d, .one (.int .i64 s)] (.one (.int .i64 (x.src - s))) []) :
  ACalls Tryz.prog 135 [.one (.list (edgsD es)), .one (.int .i64 s), .one (.clo f [])] (.tup [.one (.int .i64 (below (es.map Edg.src) s)), .one (.bool (decide (s ∈ es.map Edg.src)))]) [] := by
 have hsort := sorted_getD hs
 have hml : (es.map Edg.src).length = es.length := by simp
 have hga : ∀ k, k < es.length → (es.map Edg.src).getD k 0 = (es.getD k Edg.no).src := fun k hk => by simp [List.getD, List.getElem?_eq_getElem hk]
 generalize hxs : es.map Edg.src = xs at *
 (refine ACalls.of_body Ty_ok mixed Tryz.func135 rfl (by kernel_rfl) Tryz.ntmps135 (by simp) (congrArg Array.toList Tryz.results135) ?_)
 simp only [slotsOf]
 (repeat' (first | (with_reducible first | exact True.intro | refine And.intro ?_ ?_ | refine aBl ?_ | (refine aS 12 [] ?_; intro K hK)) | ((with_reducible first | refine aGo ?_); simp only [go_sem]) | ((with_reducible refine aCd ?_ ?_ (fun hb => ?_) (fun hb => ?_)); (iterate 2 simp only [go_sem]); all_goals (simp only [go_sem] at hb; try simp only [bls] at hb)) | ((iterate 6 try ((fail_if_success with_reducible refine hK _ ?_ ?_ ?_); clear hK K)); with_reducible refine hK _ ?_ ?_ ?_; rotate_left; (focus (simp only [go_sem]; exact rfl)); clear hK K) | (with_reducible refine aGs (fun hg0 => ?_) (fun hg0 => ?_) <;> first | (with_reducible first | exact aF1 hg0 | exact aF2 hg0) | (simp only [hg0, go_sem])) | (with_reducible refine aNk ?_; intro bnil hnil; try simp only []) | exact aZ | fail))
 refine awp_loop _ (by simp only [go_sem]; rfl) (Nat × Nat) (fun t => t.1 ≤ t.2 ∧ t.2 ≤ xs.length ∧ (∀ i, i < t.1 → xs.getD i 0 < s) ∧ ∀ i, t.2 ≤ i → i < xs.length → s ≤ xs.getD i 0) (fun t => [(9, .one (.int .i64 t.1)), (10, .one (.int .i64 t.2))]) (fun _ H => H) (fun t => t.2 - t.1) (0, es.length) ⟨Nat.zero_le _, by simp only; omega, fun i hi => by simp at hi, fun i h1 h2 => by simp only at h1; omega⟩ ?_ ?_
 ·(simp only [SubF, go_sem]; (try simp only [go_sem]); repeat' (first | exact True.intro | with_reducible refine And.intro ?_ ?_ | rfl | omega))
 rintro ⟨i, j⟩ ⟨h1, h2, h3, h4⟩ L hL
 simp only at h1 h2 h3 h4
 have hm := mid_eq i j (by omega)
 by_cases hij : i < j
 ·have hk : (i + j) / 2 < es.length := by omega
  have hq : (((i + j) / 2 : Nat) : Int).toNat = (i + j) / 2 := by omega
  have a1 := edgs_at (l := es) hk [.int .i64 0, .int .i64 0, .int .i64 0]
  have a2 := edgs_at (l := es) hk []
  have c := hp _ (getD_mem es ((i + j) / 2) Edg.no hk)
  have hg := hga _ hk
  generalize es.getD ((i + j) / 2) Edg.no = x at *
  simp only [Edg.d] at c
  (simp only [go_sem] at hL ⊢)
  (repeat' (first | (with_reducible first | exact True.intro | refine And.intro ?_ ?_ | refine aBl ?_ | (refine aS 12 [] ?_; intro K hK)) | ((with_reducible first | refine aGo ?_); simp only [hm, hq, a1, a2, go_sem]) | ((with_reducible refine aCd ?_ ?_ (fun hb => ?_) (fun hb => ?_)); (iterate 2 simp only [hm, hq, a1, a2, go_sem]); all_goals (simp only [hm, hq, a1, a2, go_sem] at hb; try simp only [bls] at hb)) | ((iterate 6 try ((fail_if_success with_reducible refine hK _ ?_ ?_ ?_); clear hK K)); with_reducible refine hK _ ?_ ?_ ?_; rotate_left; (focus (simp only [hm, hq, a1, a2, go_sem]; exact rfl)); clear hK K) | ((first | (with_reducible first | refine xA ?_ | refine xD ?_ | refine xO ?_ | refine xR ?_ | refine xG ?_ | refine xH ?_ | refine xM ?_) | ((with_reducible refine gA ?_); refine xA ?_) | ((with_reducible refine gD ?_); refine xD ?_) | ((with_reducible refine gG ?_); refine xG ?_)); simp only [hm, hq, a1, a2, go_sem]) | (with_reducible refine aGs (fun hg0 => ?_) (fun hg0 => ?_) <;> first | (with_reducible first | exact aF1 hg0 | exact aF2 hg0) | (simp only [hg0, hm, hq, a1, a2, go_sem])) | (with_reducible refine aNk ?_; intro bnil hnil; try simp only []) | exact aZ | fail))
  all_goals first | omega | skip
  ·exact hL _ ((i + j) / 2 + 1, j) ⟨by simp only; omega, by simp only; omega, fun t ht => by
    simp only at ht
    have := hsort t ((i + j) / 2) (by omega) (by omega)
    omega, fun t h5 h6 => h4 t h5 h6⟩ (by (simp only [SubF, go_sem]; (try simp only [go_sem]); repeat' (first | exact True.intro | with_reducible refine And.intro ?_ ?_ | rfl | omega))) (by simp only; omega)
  ·exact hL _ (i, (i + j) / 2) ⟨by simp only; omega, by simp only; omega, h3, fun t h5 h6 => by
    simp only at h5
    have := hsort ((i + j) / 2) t h5 h6
    omega⟩ (by (simp only [SubF, go_sem]; (try simp only [go_sem]); repeat' (first | exact True.intro | with_reducible refine And.intro ?_ ?_ | rfl | omega))) (by simp only; omega)
 ·have hij2 : i = j := by omega
  subst hij2
  have e1 := below_at xs s i h2 h3 h4
  have e2 := found_at xs s i h2 h3 h4 hsort
  by_cases hlt : i < es.length
  ·have hq : ((i : Nat) : Int).toNat = i := by omega
   have a1 := edgs_at (l := es) hlt [.int .i64 0, .int .i64 0, .int .i64 0]
   have a2 := edgs_at (l := es) hlt []
   have c := hp _ (getD_mem es i Edg.no hlt)
   have hg := hga _ hlt
   generalize es.getD i Edg.no = x at *
   have e3 : decide (s ∈ xs) = (x.src - s == 0) := by
    rw [e2, hg, Bool.eq_iff_iff]; simp; omega
   simp only [Edg.d] at c
   (simp only [go_sem] at hL ⊢)
   (repeat' (first | (with_reducible first | exact True.intro | refine And.intro ?_ ?_ | refine aBl ?_ | (refine aS 12 [] ?_; intro K hK)) | ((with_reducible first | refine aGo ?_); simp only [hq, a1, a2, go_sem]) | ((with_reducible refine aCd ?_ ?_ (fun hb => ?_) (fun hb => ?_)); (iterate 2 simp only [hq, a1, a2, go_sem]); all_goals (simp only [hq, a1, a2, go_sem] at hb; try simp only [bls] at hb)) | ((iterate 6 try ((fail_if_success with_reducible refine hK _ ?_ ?_ ?_); clear hK K)); with_reducible refine hK _ ?_ ?_ ?_; rotate_left; (focus (simp only [hq, a1, a2, go_sem]; exact rfl)); clear hK K) | ((first | (with_reducible first | refine xA ?_ | refine xD ?_ | refine xO ?_ | refine xR ?_ | refine xG ?_ | refine xH ?_ | refine xM ?_) | ((with_reducible refine gA ?_); refine xA ?_) | ((with_reducible refine gD ?_); refine xD ?_) | ((with_reducible refine gG ?_); refine xG ?_)); simp only [hq, a1, a2, go_sem]) | (with_reducible refine aGs (fun hg0 => ?_) (fun hg0 => ?_) <;> first | (with_reducible first | exact aF1 hg0 | exact aF2 hg0) | (simp only [hg0, hq, a1, a2, go_sem])) | (with_reducible refine aNk ?_; intro bnil hnil; try simp only []) | exact aZ | fail))
   all_goals first | omega | skip
   all_goals first | (rw [e1]; done) | (rw [e3]; simp [hlt]; done)
  ·have e3 : decide (s ∈ xs) = false := by
    rw [e2]; simp; omega
   have hdf : decide ((i : Int) < (es.length : Int)) = false := decide_eq_false (by omega)
   have hz : ∀ z, (edgsD es).getD i z = z := fun z => by rw [List.getD, List.getElem?_eq_none (by rw [edgs_length]; omega)]; rfl
   have c : False → ACalls Tryz.prog f [.agg [.int .i64 0, .int .i64 0, .int .i64 0], .one (.int .i64 s)] (.one (.int .i64 0)) [] := fun h => h.elim
   (simp only [go_sem] at hL ⊢)
   (repeat' (first | (with_reducible first | exact True.intro | refine And.intro ?_ ?_ | refine aBl ?_ | (refine aS 12 [] ?_; intro K hK)) | ((with_reducible first | refine aGo ?_); simp only [hdf, hz, go_sem]) | ((with_reducible refine aCd ?_ ?_ (fun hb => ?_) (fun hb => ?_)); (iterate 2 simp only [hdf, hz, go_sem]); all_goals (simp only [hdf, hz, go_sem] at hb; try simp only [bls] at hb)) | ((iterate 6 try ((fail_if_success with_reducible refine hK _ ?_ ?_ ?_); clear hK K)); with_reducible refine hK _ ?_ ?_ ?_; rotate_left; (focus (simp only [hdf, hz, go_sem]; exact rfl)); clear hK K) | ((first | (with_reducible first | refine cA (c (by simp at hg)) ?_ | refine cD (c (by simp at hg)) ?_ | refine cO (c (by simp at hg)) ?_ | refine cR (c (by simp at hg)) ?_ | refine cG (fun hg => (c (by simp at hg))) ?_ | refine cH (fun hg => (c (by simp at hg))) ?_ | refine cM (fun hg => (c (by simp at hg))) ?_) | ((with_reducible refine gA ?_); refine cA (c (by simp at hg)) ?_) | ((with_reducible refine gD ?_); refine cD (c (by simp at hg)) ?_) | ((with_reducible refine gG ?_); refine cG (fun hg => (c (by simp at hg))) ?_)); simp only [hdf, hz, go_sem]) | (with_reducible refine aGs (fun hg0 => ?_) (fun hg0 => ?_) <;> first | (with_reducible first | exact aF1 hg0 | exact aF2 hg0) | (simp only [hg0, hdf, hz, go_sem])) | (with_reducible refine aNk ?_; intro bnil hnil; try simp only []) | exact aZ | fail))
   all_goals first | omega | skip
   all_goals first | (rw [e1]; done) | (rw [e3]; done)
set_option maxHeartbeats 8000000 in
theorem out_c (a : Aut) (s : Int) (hf : a.Fits) (hs : (a.edges.map Edg.src).Pairwise (· ≤ ·)) (hr : ∀ x ∈ a.edges, 0 ≤ x.src ∧ x.src ≤ 4096) (h0 : 0 ≤ s ∧ s ≤ 4096) :
  ACalls Tryz.prog 103 [.agg a.d, .one (.int .i64 s)] (.one (.list (edgsD (outL a.edges s)))) [] := by
 have h1 := BSearchEdg_c a.edges s 136 hf.edges hs fun x hx => out1_c x s (by have := hr x hx; omega) (by omega)
 have h2 := BSearchEdg_c a.edges (s + 1) 137 hf.edges hs fun x hx => out2_c x (s + 1) (by have := hr x hx; omega) (by omega)
 have hc := sorted_cut a.edges s hs
 have hb1 : below (a.edges.map Edg.src) s ≤ below (a.edges.map Edg.src) (s + 1) := by
  unfold below
  generalize a.edges.map Edg.src = xs
  induction xs with
  | nil => simp
  | cons x xs ih =>
   simp only [List.filter_cons, decide_eq_true_eq]
   split <;> split <;> (try simp only [List.length_cons]) <;> omega
 have hb2 := below_le (a.edges.map Edg.src) (s + 1)
 rw [List.length_map] at hb2
 have hcd : ((edgsD a.edges).take (below (a.edges.map Edg.src) (s + 1))).drop (below (a.edges.map Edg.src) s) = edgsD (outL a.edges s) := by
  rw [← hc, edgsD, edgsD, List.map_drop, List.map_take]
 have hf3 := hf.edges
 generalize below (a.edges.map Edg.src) s = B1 at *
 generalize below (a.edges.map Edg.src) (s + 1) = B2 at *
 (refine ACalls.of_body Ty_ok mixed Tryz.func103 rfl (by kernel_rfl) Tryz.ntmps103 (by simp) (congrArg Array.toList Tryz.results103) ?_)
 simp only [slotsOf, Aut.d]
 (repeat' (first | (with_reducible first | exact True.intro | refine And.intro ?_ ?_ | refine aBl ?_ | (refine aS 6 [7] ?_; intro K hK)) | ((with_reducible first | refine aGo ?_); simp only [hcd, Int.toNat_natCast, go_sem]) | ((with_reducible refine aCd ?_ ?_ (fun hb => ?_) (fun hb => ?_)); (iterate 2 simp only [hcd, Int.toNat_natCast, go_sem]); all_goals (simp only [hcd, Int.toNat_natCast, go_sem] at hb; try simp only [bls] at hb)) | ((iterate 6 try ((fail_if_success with_reducible refine hK _ ?_ ?_ ?_); clear hK K)); with_reducible refine hK _ ?_ ?_ ?_; rotate_left; (focus (simp only [hcd, Int.toNat_natCast, go_sem]; exact rfl)); clear hK K) | ((first | (with_reducible first | refine xA ?_ | refine xD ?_ | refine xO ?_ | refine xR ?_ | refine xG ?_ | refine xH ?_ | refine xM ?_) | ((with_reducible refine gA ?_); refine xA ?_) | ((with_reducible refine gD ?_); refine xD ?_) | ((with_reducible refine gG ?_); refine xG ?_)); simp only [hcd, Int.toNat_natCast, go_sem]) | (with_reducible refine aGs (fun hg0 => ?_) (fun hg0 => ?_) <;> first | (with_reducible first | exact aF1 hg0 | exact aF2 hg0) | (simp only [hg0, hcd, Int.toNat_natCast, go_sem])) | (with_reducible refine aNk ?_; intro bnil hnil; try simp only []) | exact aZ | fail))
 all_goals first | omega | skip
end Go.Proofs.YtgbhmieaoaojoaaGreatDoor
