/-
 Contracts: the canonical form of an automaton.
-/
import Derived.Test.YtkjllcmpjghmkaaGreatDoorMA
import Derived.Test.YtkjllcmpjghmkaaGreatDoorME
set_option linter.unusedSimpArgs false
set_option linter.unusedVariables false
namespace Go.Proofs.YtkjllcmpjghmkaaGreatDoor
open Go.Eng Go.RowKit
theorem zfi {x : Int} {a b : List Int} (h : a <+: b) {k : Nat} (hk : ixF x 0 a = some k) : ixF x 0 b = some k := by
 obtain ⟨c, rfl⟩ := h; exact zdF hk c
theorem zbJ (succ : Int → List (Int × Int)) : ∀ (f i : Nat) (o : List Int) (es : List Edg), o <+: (bfs succ f i o es).1
 | 0, _, _, _ => List.prefix_refl _
 | f + 1, i, o, es => by
  simp only [bfs]
  split
  ·exact (z2h _ _ _ _).trans (zbJ succ f (i + 1) _ _)
  ·exact List.prefix_refl _
def edgB (O : List Int) (i : Nat) (p : Int × Int) : Edg := ⟨i, p.1, ((ixF p.2 0 O).getD 0 : Nat)⟩
theorem z7i {O : List Int} (i : Nat) : ∀ (l : List (Int × Int)) (o : List Int) (es : List Edg), (bfsI i l o es).1 <+: O → (bfsI i l o es).2 = es ++ l.map (edgB O i)
 | [], o, es, _ => by simp [bfsI]
 | (e, x) :: r, o, es, h => by
  simp only [bfsI] at h ⊢
  cases hx : ixF x 0 o with
  | some k =>
   rw [hx] at h
   simp only at h ⊢
   have h1 := zfi ((z2h _ _ _ _).trans h) hx
   rw [z7i i r _ _ h, List.map_cons, edgB, h1]
   simp
  | none =>
   rw [hx] at h
   simp only at h ⊢
   have h1 := zfi ((z2h _ _ _ _).trans h) (z8Z (ixF_none.1 hx) 0)
   rw [z7i i r _ _ h, List.map_cons, edgB, h1]
   simp
theorem z9c (i : Int) : ∀ (l : List (Int × Int)) (o : List Int) (es : List Edg), ∀ p ∈ l, p.2 ∈ (bfsI i l o es).1
 | [], _, _, p, hp => by simp at hp
 | (e, x) :: r, o, es, p, hp => by
  simp only [bfsI]
  cases hx : ixF x 0 o with
  | some k =>
   rcases List.mem_cons.1 hp with rfl | hp
   ·have : x ∈ o := Classical.byContradiction fun h => by rw [ixF_none.2 h] at hx; cases hx
    exact (z2h _ _ _ _).subset this
   ·exact z9c i r _ _ p hp
  | none =>
   rcases List.mem_cons.1 hp with rfl | hp
   ·exact (z2h _ _ _ _).subset (by simp)
   ·exact z9c i r _ _ p hp
theorem z93 {a b : List Int} (h : a <+: b) {k : Nat} (hk : k < a.length) : b.getD k 0 = a.getD k 0 := by
 obtain ⟨c, rfl⟩ := h
 simp [List.getD, List.getElem?_append_left hk]
def bfsE (succ : Int → List (Int × Int)) (O : List Int) (i n : Nat) : List Edg := (List.range' i n).flatMap fun j => (succ (O.getD j 0)).map (edgB O j)
theorem zcT {N : Nat} {succ : Int → List (Int × Int)} (hs : ∀ s : Int, 0 ≤ s → s < N → ∀ x ∈ succ s, 0 ≤ x.2 ∧ x.2 < N) : ∀ (f i : Nat) (o : List Int) (es : List Edg), OrdOk N o → N < f + i → i ≤ o.length →
  (bfs succ f i o es).2 = es ++ bfsE succ (bfs succ f i o es).1 i ((bfs succ f i o es).1.length - i) ∧ ∀ j, i ≤ j → j < (bfs succ f i o es).1.length → ∀ p ∈ succ ((bfs succ f i o es).1.getD j 0), p.2 ∈ (bfs succ f i o es).1
 | 0, i, o, es, h, h1, h2 => by have := h.le; omega
 | f + 1, i, o, es, h, h1, h2 => by
  simp only [bfs]
  split
  ·rename_i hi
   have hm := h.rng _ (z01 o i 0 hi)
   have ho2 := z7h (i : Int) (succ (o.getD i 0)) o es h (hs _ hm.1 hm.2)
   have hp1 := z2h (i : Int) (succ (o.getD i 0)) o es
   have hp2 := zbJ succ f (i + 1) (bfsI i (succ (o.getD i 0)) o es).1 (bfsI i (succ (o.getD i 0)) o es).2
   have hl1 := hp1.length_le
   have hl2 := hp2.length_le
   obtain ⟨e1, e2⟩ := zcT hs f (i + 1) (bfsI i (succ (o.getD i 0)) o es).1 (bfsI i (succ (o.getD i 0)) o es).2 ho2 (by omega) (by omega)
   have hmem := z9c (i : Int) (succ (o.getD i 0)) o es
   have hed := z7i i (succ (o.getD i 0)) o es hp2
   have hg := z93 (hp1.trans hp2) hi
   generalize bfs succ f (i + 1) (bfsI i (succ (o.getD i 0)) o es).1 (bfsI i (succ (o.getD i 0)) o es).2 = R at *
   refine ⟨?_, fun j hj1 hj2 p hp => ?_⟩
   ·rw [e1, hed, bfsE, bfsE, show R.1.length - i = (R.1.length - (i + 1)) + 1 by omega, List.range'_succ, List.flatMap_cons, hg, List.append_assoc]
   ·by_cases hji : j = i
    ·subst hji
     rw [hg] at hp
     exact hp2.subset (hmem p hp)
    ·exact e2 j (by omega) hj2 p hp
  ·rename_i hi
   refine ⟨?_, fun j hj1 hj2 => by simp only at hj2; omega⟩
   simp only
   rw [show o.length - i = 0 by omega]
   simp [bfsE]
structure Numb (N : Nat) (succ : Int → List (Int × Int)) (O : List Int) (ES : List Edg) : Prop where
 ok : OrdOk N O
 first : 0 < O.length ∧ O.getD 0 0 = 0
 edges : ES = bfsE succ O 0 O.length
 closed : ∀ s ∈ O, ∀ p ∈ succ s, p.2 ∈ O
theorem zeR {N : Nat} (hN : 0 < N) {succ : Int → List (Int × Int)} (hs : ∀ s : Int, 0 ≤ s → s < N → ∀ x ∈ succ s, 0 ≤ x.2 ∧ x.2 < N) {f : Nat} (hf : N < f) : Numb N succ (bfs succ f 0 [0] []).1 (bfs succ f 0 [0] []).2 := by
 have h0 : OrdOk N [0] := ⟨List.pairwise_singleton _ _, fun x hx => by rw [List.mem_singleton] at hx; subst hx; omega⟩
 obtain ⟨e1, e2⟩ := zcT hs f 0 [0] [] h0 (by omega) (by simp)
 have hp := zbJ succ f 0 [0] []
 have hl := hp.length_le
 refine ⟨zg1 hs f 0 [0] [] h0, ⟨by simp at hl; omega, by rw [z93 hp (by simp)]; rfl⟩, by simpa using e1, fun s hs' p hp' => ?_⟩
 obtain ⟨j, hj, e⟩ := List.getElem_of_mem hs'
 refine e2 j (by omega) hj p ?_
 rw [List.getD, List.getElem?_eq_getElem hj, e]; exact hp'
theorem Numb.ix {N : Nat} {succ : Int → List (Int × Int)} {O : List Int} {ES : List Edg} (h : Numb N succ O ES) {x : Int} (hx : x ∈ O) : ∃ k, k < O.length ∧ ixF x 0 O = some k ∧ O.getD k 0 = x := by
 obtain ⟨k, hk, e⟩ := List.getElem_of_mem hx
 have e2 : O.getD k 0 = x := by rw [List.getD, List.getElem?_eq_getElem hk, e]; rfl
 refine ⟨k, hk, ?_, e2⟩
 rw [← e2]; exact zfj h.ok.nodup hk
theorem mem_bfsE {succ : Int → List (Int × Int)} {O : List Int} {x : Edg} : x ∈ bfsE succ O 0 O.length ↔ ∃ j, j < O.length ∧ ∃ p ∈ succ (O.getD j 0), x = edgB O j p := by
 rw [bfsE, List.mem_flatMap]
 constructor
 ·rintro ⟨j, hj, hx⟩
  rw [List.mem_range'_1] at hj
  obtain ⟨p, hp, rfl⟩ := List.mem_map.1 hx
  exact ⟨j, by omega, p, hp, rfl⟩
 ·rintro ⟨j, hj, p, hp, rfl⟩
  exact ⟨j, by rw [List.mem_range'_1]; omega, List.mem_map.2 ⟨p, hp, rfl⟩⟩
end Go.Proofs.YtkjllcmpjghmkaaGreatDoor
set_option linter.unusedSimpArgs false
set_option linter.unusedVariables false
namespace Go.Proofs.YtkjllcmpjghmkaaGreatDoor
open Go.Eng Go.RowKit
theorem ziW {a b : Edg} (h : a.src = b.src ∧ a.ev = b.ev ∧ a.dst = b.dst) : a = b := by
 obtain ⟨a1, a2, a3⟩ := a
 obtain ⟨b1, b2, b3⟩ := b
 simp_all
set_option maxHeartbeats 4000000 in
theorem zbW (xs ys : List Edg) (hn : xs.length ≤ 1000000) : ACalls Tryz.prog 44 [.one (.list (edgsD xs)), .one (.list (edgsD ys))] (.one (.bool (decide (xs = ys)))) [] := by
 (refine ACalls.of_body Ty_ok mixed Tryz.func44 rfl (by kernel_rfl) Tryz.ntmps44 (by simp) (congrArg Array.toList Tryz.results44) ?_)
 simp only [z00]
 (repeat' (first | (with_reducible first | refine aBl ?_ | (refine aS 6 [12, 13] ?_; intro K hK)) | ((with_reducible refine aGo ?_); simp only [go_sem]) | ((with_reducible refine aCd ?_ ?_ (fun hb => ?_) (fun hb => ?_)); (iterate 2 simp only [go_sem]); all_goals (simp only [go_sem] at hb; try simp only [bls] at hb)) | ((iterate 6 try ((fail_if_success with_reducible refine hK _ ?_ ?_ ?_); clear hK K)); with_reducible refine hK _ ?_ ?_ ?_; rotate_left; (focus (simp only [go_sem]; exact rfl)); clear hK K) | fail))
 ·have : xs ≠ ys := by rintro rfl; omega
  simp [this]
 refine z02 _ (by simp only [go_sem]; rfl) Nat (fun k => k ≤ xs.length ∧ decide (xs = ys) = decide (xs.drop k = ys.drop k)) (fun k => [(13, .one (.int .i64 k))]) (fun _ H => H) (fun k => xs.length - k) 0 ⟨by omega, by simp⟩ ?_ ?_
 ·(simp only [SubF, go_sem]; (try simp only [go_sem]); repeat' (first | exact True.intro | with_reducible refine And.intro ?_ ?_ | rfl | omega))
 ·rintro k ⟨hk, hres⟩ L hL
  have hq : ((k : Nat) : Int).toNat = k := by omega
  by_cases hlt : k < xs.length
  ·have a1 := z0p (l := xs) hlt [.int .i64 0, .int .i64 0, .int .i64 0]
   have a2 := z0p (l := xs) hlt []
   have b1 := z0p (l := ys) (k := k) (by omega) [.int .i64 0, .int .i64 0, .int .i64 0]
   have b2 := z0p (l := ys) (k := k) (by omega) []
   have hs := z2N (d := Edg.no) (by omega) (by omega) hres
   (simp only [go_sem] at hL ⊢)
   (repeat' (first | (with_reducible first | refine And.intro ?_ ?_ | refine aBl ?_ | (refine aS 6 [12, 13] ?_; intro K hK)) | ((with_reducible first | refine aGo ?_ | refine rD (id := 6) ?_); simp only [hq, a1, a2, b1, b2, go_sem]) | ((with_reducible refine aCd ?_ ?_ (fun hb => ?_) (fun hb => ?_)); (iterate 2 simp only [hq, a1, a2, b1, b2, go_sem]); all_goals (simp only [hq, a1, a2, b1, b2, go_sem] at hb; try simp only [bls] at hb)) | ((iterate 6 try ((fail_if_success with_reducible refine hK _ ?_ ?_ ?_); clear hK K)); with_reducible refine hK _ ?_ ?_ ?_; rotate_left; (focus (simp only [hq, a1, a2, b1, b2, go_sem]; exact rfl)); clear hK K) | exact aZ | fail))
   all_goals first | omega | skip
   ·rw [hs, decide_eq_false]
    ·rfl
    ·intro h; rw [h] at hb; simp at hb
   ·rw [decide_eq_true (ziW (by simpa using hb)), Bool.true_and] at hs
    exact hL _ (k + 1) ⟨by omega, hs⟩ (by (simp only [SubF, go_sem]; (try simp only [go_sem]); repeat' (first | exact True.intro | with_reducible refine And.intro ?_ ?_ | rfl | omega))) (by omega)
  ·(simp only [go_sem] at hL ⊢)
   (repeat' (first | (with_reducible first | refine And.intro ?_ ?_ | refine aBl ?_ | (refine aS 6 [12, 13] ?_; intro K hK)) | ((with_reducible first | refine aGo ?_ | refine rD (id := 6) ?_); simp only [go_sem]) | ((with_reducible refine aCd ?_ ?_ (fun hb => ?_) (fun hb => ?_)); (iterate 2 simp only [go_sem]); all_goals (simp only [go_sem] at hb; try simp only [bls] at hb)) | ((iterate 6 try ((fail_if_success with_reducible refine hK _ ?_ ?_ ?_); clear hK K)); with_reducible refine hK _ ?_ ?_ ?_; rotate_left; (focus (simp only [go_sem]; exact rfl)); clear hK K) | exact aZ | fail))
   all_goals first | omega | skip
   rw [hres, z0z xs k (by omega), z0z ys k (by omega)]; rfl
theorem zjX (a b : Aut) : decide (a = b) = (decide (a.states = b.states) && decide (a.alph = b.alph) && decide (a.marked = b.marked) && decide (a.edges = b.edges)) := by
 obtain ⟨a1, a2, a3, a4⟩ := a
 obtain ⟨b1, b2, b3, b4⟩ := b
 rw [Bool.eq_iff_iff]
 simp only [decide_eq_true_eq, Bool.and_eq_true, Aut.mk.injEq]
 constructor
 ·rintro ⟨h1, h2, h3, h4⟩; exact ⟨⟨⟨h2, h1⟩, h3⟩, h4⟩
 ·rintro ⟨⟨⟨h2, h1⟩, h3⟩, h4⟩; exact ⟨h1, h2, h3, h4⟩
set_option maxHeartbeats 4000000 in
theorem ze3 (a b : Aut) (ha : a.Fits) : ACalls Tryz.prog 13 [.agg a.d, .agg b.d] (.one (.bool (decide (a = b)))) [] := by
 obtain ⟨f1, f2, f3⟩ := ha
 have c1 := z2Q a.alph b.alph (by omega)
 have c2 := z2Q a.marked b.marked (by omega)
 have c3 := zbW a.edges b.edges (by omega)
 rw [zjX]
 (refine ACalls.of_body Ty_ok mixed Tryz.func13 rfl (by kernel_rfl) Tryz.ntmps13 (by simp) (congrArg Array.toList Tryz.results13) ?_)
 simp only [z00, Aut.d]
 (repeat' (first | (with_reducible (refine aS 5 [] ?_; intro K hK)) | ((with_reducible refine aGo ?_); simp only [go_sem]) | ((iterate 6 try ((fail_if_success with_reducible refine hK _ ?_ ?_ ?_); clear hK K)); with_reducible refine hK _ ?_ ?_ ?_; rotate_left; (focus (simp only [go_sem]; exact rfl)); clear hK K) | ((with_reducible refine xG ?_); simp only [go_sem]) | fail))
 all_goals first | omega | rfl
def outL (es : List Edg) (s : Int) : List Edg := es.filter fun x => decide (x.src = s)
theorem z7P : ∀ (es : List Edg) (s : Int), (es.map Edg.src).Pairwise (· ≤ ·) → (es.take (below (es.map Edg.src) (s + 1))).drop (below (es.map Edg.src) s) = outL es s
 | [], s, _ => by simp [outL]
 | x :: es, s, h => by
  rw [List.map_cons, List.pairwise_cons] at h
  have ih := z7P es s h.2
  by_cases h1 : x.src < s
  ·have e1 : below ((x :: es).map Edg.src) s = below (es.map Edg.src) s + 1 := by simp [below, List.filter_cons, h1]
   have e2 : below ((x :: es).map Edg.src) (s + 1) = below (es.map Edg.src) (s + 1) + 1 := by simp [below, List.filter_cons, show x.src < s + 1 by omega]
   have e3 : outL (x :: es) s = outL es s := by simp [outL, List.filter_cons, show ¬ x.src = s by omega]
   rw [e1, e2, e3, List.take_succ_cons, List.drop_succ_cons, ih]
  ·have e0 : ∀ t, t ≤ x.src → below (es.map Edg.src) t = 0 := fun t ht => by
    rw [below, List.length_eq_zero_iff, List.filter_eq_nil_iff]
    intro z hz
    have := h.1 z hz
    simp; omega
   have e1 : below ((x :: es).map Edg.src) s = 0 := by
    have := e0 s (by omega)
    simp only [below, List.map_cons, List.filter_cons, decide_eq_true_eq, if_neg h1] at this ⊢
    exact this
   by_cases h2 : x.src = s
   ·have e2 : below ((x :: es).map Edg.src) (s + 1) = below (es.map Edg.src) (s + 1) + 1 := by simp [below, List.filter_cons, show x.src < s + 1 by omega]
    have e3 : outL (x :: es) s = x :: outL es s := by simp [outL, List.filter_cons, h2]
    rw [e0 s (by omega)] at ih
    rw [e1, e2, e3, List.take_succ_cons, List.drop_zero, ← ih, List.drop_zero]
   ·have e2 : below ((x :: es).map Edg.src) (s + 1) = 0 := by
     have := e0 (s + 1) (by omega)
     simp only [below, List.map_cons, List.filter_cons, decide_eq_true_eq, if_neg (show ¬ x.src < s + 1 by omega)] at this ⊢
     exact this
    have e3 : outL (x :: es) s = [] := by
     rw [outL, List.filter_eq_nil_iff]
     intro y hy
     rcases List.mem_cons.1 hy with rfl | hy
     ·simpa using h2
     ·have := h.1 y.src (List.mem_map_of_mem hy)
      simp; omega
    rw [e1, e2, e3]; simp
theorem zju (x : Edg) (s : Int) (hx : 0 ≤ x.src ∧ x.src ≤ 1000000) (hs : 0 ≤ s ∧ s ≤ 1000000) : ACalls Tryz.prog 122 [.agg x.d, .one (.int .i64 s)] (.one (.int .i64 (x.src - s))) [] := by
 (refine ACalls.of_body Ty_ok mixed Tryz.func122 rfl (by kernel_rfl) Tryz.ntmps122 (by simp) (congrArg Array.toList Tryz.results122) ?_)
 simp only [z00, Edg.d]
 (repeat' (first | (with_reducible first | refine And.intro ?_ ?_ | (refine aS 5 [] ?_; intro K hK)) | ((with_reducible refine aGo ?_); simp only [go_sem]) | ((iterate 6 try ((fail_if_success with_reducible refine hK _ ?_ ?_ ?_); clear hK K)); with_reducible refine hK _ ?_ ?_ ?_; rotate_left; (focus (simp only [go_sem]; exact rfl)); clear hK K) | exact aZ | fail))
 all_goals first | omega | skip
theorem zjt (x : Edg) (s : Int) (hx : 0 ≤ x.src ∧ x.src ≤ 1000000) (hs : 0 ≤ s ∧ s ≤ 1000000) : ACalls Tryz.prog 123 [.agg x.d, .one (.int .i64 s)] (.one (.int .i64 (x.src - s))) [] := by
 (refine ACalls.of_body Ty_ok mixed Tryz.func123 rfl (by kernel_rfl) Tryz.ntmps123 (by simp) (congrArg Array.toList Tryz.results123) ?_)
 simp only [z00, Edg.d]
 (repeat' (first | (with_reducible first | refine And.intro ?_ ?_ | (refine aS 5 [] ?_; intro K hK)) | ((with_reducible refine aGo ?_); simp only [go_sem]) | ((iterate 6 try ((fail_if_success with_reducible refine hK _ ?_ ?_ ?_); clear hK K)); with_reducible refine hK _ ?_ ?_ ?_; rotate_left; (focus (simp only [go_sem]; exact rfl)); clear hK K) | exact aZ | fail))
 all_goals first | omega | skip
set_option maxHeartbeats 8000000 in
theorem z5E (es : List Edg) (s : Int) (f : FuncId) (hn : es.length ≤ 1000000) (hs : (es.map Edg.src).Pairwise (· ≤ ·)) (hp : ∀ x ∈ es, ACalls Tryz.prog f [.agg x.d, .one (.int .i64 s)] (.one (.int .i64 (x.src - s))) []) :
  ACalls Tryz.prog 121 [.one (.list (edgsD es)), .one (.int .i64 s), .one (.clo f [])] (.tup [.one (.int .i64 (below (es.map Edg.src) s)), .one (.bool (decide (s ∈ es.map Edg.src)))]) [] := by
 have hsort := zb0 hs
 have hml : (es.map Edg.src).length = es.length := by simp
 have hga : ∀ k, k < es.length → (es.map Edg.src).getD k 0 = (es.getD k Edg.no).src := fun k hk => by simp [List.getD, List.getElem?_eq_getElem hk]
 generalize hxs : es.map Edg.src = xs at *
 (refine ACalls.of_body Ty_ok mixed Tryz.func121 rfl (by kernel_rfl) Tryz.ntmps121 (by simp) (congrArg Array.toList Tryz.results121) ?_)
 simp only [z00]
 (repeat' (first | (with_reducible first | refine aBl ?_ | (refine aS 12 [] ?_; intro K hK)) | ((with_reducible refine aGo ?_); simp only [go_sem]) | ((iterate 6 try ((fail_if_success with_reducible refine hK _ ?_ ?_ ?_); clear hK K)); with_reducible refine hK _ ?_ ?_ ?_; rotate_left; (focus (simp only [go_sem]; exact rfl)); clear hK K) | fail))
 refine z02 _ (by simp only [go_sem]; rfl) (Nat × Nat) (fun t => t.1 ≤ t.2 ∧ t.2 ≤ xs.length ∧ (∀ i, i < t.1 → xs.getD i 0 < s) ∧ ∀ i, t.2 ≤ i → i < xs.length → s ≤ xs.getD i 0) (fun t => [(9, .one (.int .i64 t.1)), (10, .one (.int .i64 t.2))]) (fun _ H => H) (fun t => t.2 - t.1) (0, es.length) ⟨Nat.zero_le _, by simp only; omega, fun i hi => by simp at hi, fun i h1 h2 => by simp only at h1; omega⟩ ?_ ?_
 ·(simp only [SubF, go_sem]; (try simp only [go_sem]); repeat' (first | exact True.intro | with_reducible refine And.intro ?_ ?_ | rfl | omega))
 rintro ⟨i, j⟩ ⟨h1, h2, h3, h4⟩ L hL
 simp only at h1 h2 h3 h4
 have hm := zjD i j (by omega)
 by_cases hij : i < j
 ·have hk : (i + j) / 2 < es.length := by omega
  have hq : (((i + j) / 2 : Nat) : Int).toNat = (i + j) / 2 := by omega
  have a1 := z0p (l := es) hk [.int .i64 0, .int .i64 0, .int .i64 0]
  have a2 := z0p (l := es) hk []
  have c := hp _ (z01 es ((i + j) / 2) Edg.no hk)
  have hg := hga _ hk
  generalize es.getD ((i + j) / 2) Edg.no = x at *
  simp only [Edg.d] at c
  (simp only [go_sem] at hL ⊢)
  (repeat' (first | (with_reducible first | refine And.intro ?_ ?_ | refine aBl ?_ | (refine aS 12 [] ?_; intro K hK)) | ((with_reducible refine aGo ?_); simp only [hm, hq, a1, a2, go_sem]) | ((with_reducible refine aCd ?_ ?_ (fun hb => ?_) (fun hb => ?_)); (iterate 2 simp only [hm, hq, a1, a2, go_sem]); all_goals (simp only [hm, hq, a1, a2, go_sem] at hb; try simp only [bls] at hb)) | ((iterate 6 try ((fail_if_success with_reducible refine hK _ ?_ ?_ ?_); clear hK K)); with_reducible refine hK _ ?_ ?_ ?_; rotate_left; (focus (simp only [hm, hq, a1, a2, go_sem]; exact rfl)); clear hK K) | ((with_reducible refine xA ?_); simp only [hm, hq, a1, a2, go_sem]) | exact aZ | fail))
  all_goals first | omega | skip
  ·exact hL _ ((i + j) / 2 + 1, j) ⟨by simp only; omega, by simp only; omega, fun t ht => by
    simp only at ht
    have := hsort t ((i + j) / 2) (by omega) (by omega)
    omega, fun t h5 h6 => h4 t h5 h6⟩ (by (simp only [SubF, go_sem]; (try simp only [go_sem]); repeat' (first | exact True.intro | with_reducible refine And.intro ?_ ?_ | rfl | omega))) (by simp only; omega)
  ·exact hL _ (i, (i + j) / 2) ⟨by simp only; omega, by simp only; omega, h3, fun t h5 h6 => by
    simp only at h5
    have := hsort ((i + j) / 2) t h5 h6
    omega⟩ (by (simp only [SubF, go_sem]; (try simp only [go_sem]); repeat' (first | exact True.intro | with_reducible refine And.intro ?_ ?_ | rfl | omega))) (by simp only; omega)
 ·have hij2 : i = j := by omega
  subst hij2
  have e1 := zhF xs s i h2 h3 h4
  have e2 := zhn xs s i h2 h3 h4 hsort
  by_cases hlt : i < es.length
  ·have hq : ((i : Nat) : Int).toNat = i := by omega
   have a1 := z0p (l := es) hlt [.int .i64 0, .int .i64 0, .int .i64 0]
   have a2 := z0p (l := es) hlt []
   have c := hp _ (z01 es i Edg.no hlt)
   have hg := hga _ hlt
   generalize es.getD i Edg.no = x at *
   have e3 : decide (s ∈ xs) = (x.src - s == 0) := by
    rw [e2, hg, Bool.eq_iff_iff]; simp; omega
   simp only [Edg.d] at c
   (simp only [go_sem] at hL ⊢)
   (repeat' (first | (with_reducible first | refine And.intro ?_ ?_ | refine aBl ?_ | (refine aS 12 [] ?_; intro K hK)) | ((with_reducible refine aGo ?_); simp only [hq, a1, a2, go_sem]) | ((with_reducible refine aCd ?_ ?_ (fun hb => ?_) (fun hb => ?_)); (iterate 2 simp only [hq, a1, a2, go_sem]); all_goals (simp only [hq, a1, a2, go_sem] at hb; try simp only [bls] at hb)) | ((iterate 6 try ((fail_if_success with_reducible refine hK _ ?_ ?_ ?_); clear hK K)); with_reducible refine hK _ ?_ ?_ ?_; rotate_left; (focus (simp only [hq, a1, a2, go_sem]; exact rfl)); clear hK K) | ((with_reducible refine xG ?_); simp only [hq, a1, a2, go_sem]) | exact aZ | fail))
   all_goals first | omega | skip
   all_goals first | (rw [e1]; done) | (rw [e3]; simp [hlt]; done)
  ·have e3 : decide (s ∈ xs) = false := by
    rw [e2]; simp; omega
   have hdf : decide ((i : Int) < (es.length : Int)) = false := decide_eq_false (by omega)
   have hz : ∀ z, (edgsD es).getD i z = z := fun z => by rw [List.getD, List.getElem?_eq_none (by rw [z2O]; omega)]; rfl
   have c : False → ACalls Tryz.prog f [.agg [.int .i64 0, .int .i64 0, .int .i64 0], .one (.int .i64 s)] (.one (.int .i64 0)) [] := fun h => h.elim
   (simp only [go_sem] at hL ⊢)
   (repeat' (first | (with_reducible first | refine And.intro ?_ ?_ | refine aBl ?_ | (refine aS 12 [] ?_; intro K hK)) | ((with_reducible refine aGo ?_); simp only [hdf, hz, go_sem]) | ((with_reducible refine aCd ?_ ?_ (fun hb => ?_) (fun hb => ?_)); (iterate 2 simp only [hdf, hz, go_sem]); all_goals (simp only [hdf, hz, go_sem] at hb; try simp only [bls] at hb)) | ((iterate 6 try ((fail_if_success with_reducible refine hK _ ?_ ?_ ?_); clear hK K)); with_reducible refine hK _ ?_ ?_ ?_; rotate_left; (focus (simp only [hdf, hz, go_sem]; exact rfl)); clear hK K) | ((with_reducible refine cG (fun hg => (c (by simp at hg))) ?_); simp only [hdf, hz, go_sem]) | exact aZ | fail))
   all_goals first | omega | skip
   all_goals first | (rw [e1]; done) | (rw [e3]; done)
set_option maxHeartbeats 8000000 in
theorem out_c (a : Aut) (s : Int) (hf : a.Fits) (hs : (a.edges.map Edg.src).Pairwise (· ≤ ·)) (hr : ∀ x ∈ a.edges, 0 ≤ x.src ∧ x.src ≤ 4096) (h0 : 0 ≤ s ∧ s ≤ 4096) :
  ACalls Tryz.prog 87 [.agg a.d, .one (.int .i64 s)] (.one (.list (edgsD (outL a.edges s)))) [] := by
 have h1 := z5E a.edges s 122 hf.edges hs fun x hx => zju x s (by have := hr x hx; omega) (by omega)
 have h2 := z5E a.edges (s + 1) 123 hf.edges hs fun x hx => zjt x (s + 1) (by have := hr x hx; omega) (by omega)
 have hc := z7P a.edges s hs
 have hb1 : below (a.edges.map Edg.src) s ≤ below (a.edges.map Edg.src) (s + 1) := by
  unfold below
  generalize a.edges.map Edg.src = xs
  induction xs with
  | nil => simp
  | cons x xs ih =>
   simp only [List.filter_cons, decide_eq_true_eq]
   split <;> split <;> (try simp only [List.length_cons]) <;> omega
 have hb2 := zhE (a.edges.map Edg.src) (s + 1)
 rw [List.length_map] at hb2
 have hcd : ((edgsD a.edges).take (below (a.edges.map Edg.src) (s + 1))).drop (below (a.edges.map Edg.src) s) = edgsD (outL a.edges s) := by
  rw [← hc, edgsD, edgsD, List.map_drop, List.map_take]
 have hf3 := hf.edges
 generalize below (a.edges.map Edg.src) s = B1 at *
 generalize below (a.edges.map Edg.src) (s + 1) = B2 at *
 (refine ACalls.of_body Ty_ok mixed Tryz.func87 rfl (by kernel_rfl) Tryz.ntmps87 (by simp) (congrArg Array.toList Tryz.results87) ?_)
 simp only [z00, Aut.d]
 (repeat' (first | (with_reducible first | refine And.intro ?_ ?_ | (refine aS 6 [7] ?_; intro K hK)) | ((with_reducible refine aGo ?_); simp only [hcd, Int.toNat_natCast, go_sem]) | ((iterate 6 try ((fail_if_success with_reducible refine hK _ ?_ ?_ ?_); clear hK K)); with_reducible refine hK _ ?_ ?_ ?_; rotate_left; (focus (simp only [hcd, Int.toNat_natCast, go_sem]; exact rfl)); clear hK K) | ((with_reducible refine xA ?_); simp only [hcd, Int.toNat_natCast, go_sem]) | exact aZ | fail))
 all_goals first | omega | skip
end Go.Proofs.YtkjllcmpjghmkaaGreatDoor
set_option linter.unusedSimpArgs false
set_option linter.unusedVariables false
namespace Go.Proofs.YtkjllcmpjghmkaaGreatDoor
open Go.Eng Go.RowKit
def mkC (mk : List Int) (o : List Int) (k : Nat) : List Int := ((List.range k).filter fun j => decide (o.getD j 0 ∈ mk)).map Int.ofNat
theorem zh4 (mk o : List Int) (k : Nat) : mkC mk o (k + 1) = mkC mk o k ++ if o.getD k 0 ∈ mk then [(k : Int)] else [] := by
 rw [mkC, List.range_succ, List.filter_append, List.map_append, ← mkC]
 congr 1
 rw [List.filter_cons, List.filter_nil]
 generalize o.getD k 0 = m
 by_cases h : m ∈ mk <;> simp [h]
theorem zdw (mk o : List Int) (k : Nat) : (mkC mk o k).length ≤ k := by
 rw [mkC, List.length_map]
 exact Nat.le_trans (List.length_filter_le _ _) (by simp)
theorem ziJ {mk a b : List Int} (h : a <+: b) {k : Nat} (hk : k ≤ a.length) : mkC mk b k = mkC mk a k := by
 rw [mkC, mkC]
 congr 1
 refine List.filter_congr fun j hj => ?_
 rw [List.mem_range] at hj
 rw [z93 h (by omega)]
theorem Aut.Ok.fits {a : Aut} (h : a.Ok) (hl : a.edges.length ≤ 1000000) : a.Fits := by
 refine ⟨?_, ?_, hl⟩
 ·have h1 : a.alph.Nodup := h.alph.2.imp fun h => by omega
  have := (OrdOk.mk (N := 32) h1 fun x hx => h.alph.1 x hx).le
  omega
 ·have h1 : a.marked.Nodup := h.marked.2.imp fun h => by omega
  have h2 := h.states
  have := (OrdOk.mk (N := a.states.toNat) h1 fun x hx => by have := h.marked.1 x hx; omega).le
  omega
theorem Aut.Ok.srcs {a : Aut} (h : a.Ok) : (a.edges.map Edg.src).Pairwise (· ≤ ·) := by
 rw [List.pairwise_map]
 exact h.edges.2.imp fun h => by unfold dLt at h; omega
theorem zhh {l : List Int} {k : Nat} (h : k < l.length) (z : Int) : (ints l).set k (((ints l).getD k []).set 0 (.int .i64 z)) = ints (l.set k z) := by
 rw [z0s h]
 simp [ints]
end Go.Proofs.YtkjllcmpjghmkaaGreatDoor
