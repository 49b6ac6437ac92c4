/-
 Contracts: the canonical form of an automaton.
-/
import Derived.Test.YtgbhmieaoaojoaaGreatDoorMG
set_option linter.unusedSimpArgs false
set_option linter.unusedVariables false
namespace Go.Proofs.YtgbhmieaoaojoaaGreatDoor
open Go.Eng Go.RowKit
def sucC (a : Aut) (s : Int) : List (Int × Int) := (outL a.edges s).map fun x => (x.ev, x.dst)
def mkC (mk : List Int) (o : List Int) (k : Nat) : List Int := ((List.range k).filter fun j => decide (o.getD j 0 ∈ mk)).map Int.ofNat
theorem mkC_succ (mk o : List Int) (k : Nat) : mkC mk o (k + 1) = mkC mk o k ++ if o.getD k 0 ∈ mk then [(k : Int)] else [] := by
 rw [mkC, List.range_succ, List.filter_append, List.map_append, ← mkC]
 congr 1
 rw [List.filter_cons, List.filter_nil]
 generalize o.getD k 0 = m
 by_cases h : m ∈ mk <;> simp [h]
theorem mkC_length (mk o : List Int) (k : Nat) : (mkC mk o k).length ≤ k := by
 rw [mkC, List.length_map]
 exact Nat.le_trans (List.length_filter_le _ _) (by simp)
theorem mkC_pre {mk a b : List Int} (h : a <+: b) {k : Nat} (hk : k ≤ a.length) : mkC mk b k = mkC mk a k := by
 rw [mkC, mkC]
 congr 1
 refine List.filter_congr fun j hj => ?_
 rw [List.mem_range] at hj
 rw [getD_pre h (by omega)]
def canO (a : Aut) : List Int × List Edg := bfs (sucC a) (a.states.toNat + 1) 0 [0] []
def canA (a : Aut) : Aut := ⟨a.alph, (canO a).1.length, mkC a.marked (canO a).1 (canO a).1.length, (canO a).2⟩
def ixZ (x : Int) (o : List Int) : Int := match ixF x 0 o with
 | some k => k
 | none => -1
def numL (N : Nat) (o : List Int) : List Int := (List.range N).map fun s : Nat => ixZ s o
theorem numL_length (N : Nat) (o : List Int) : (numL N o).length = N := by simp [numL]
theorem numL_get {N : Nat} (o : List Int) {x : Int} (h : 0 ≤ x ∧ x < N) : (numL N o).getD x.toNat 0 = ixZ x o := by
 have hk : x.toNat < N := by omega
 simp only [numL, List.getD, List.getElem?_map, List.getElem?_range hk, Option.map_some, Option.getD_some]
 rw [show ((x.toNat : Nat) : Int) = x by omega]
theorem numL_snoc {N : Nat} {o : List Int} {x : Int} (hx : x ∉ o) (h : 0 ≤ x ∧ x < N) : numL N (o ++ [x]) = (numL N o).set x.toNat o.length := by
 apply List.ext_getElem
 ·simp [numL]
 ·intro i h1 h2
  have hi : i < N := by simpa [numL] using h1
  rw [List.getElem_set]
  simp only [numL, List.getElem_map, List.getElem_range]
  by_cases e : x.toNat = i
  ·rw [if_pos e, ixZ, show ((i : Nat) : Int) = x by omega, ixF_snoc hx]; simp
  ·rw [if_neg e, ixZ, ixZ]
   have hne : ((i : Nat) : Int) ≠ x := by omega
   cases hi : ixF (i : Int) 0 o with
   | some k => rw [ixF_append hi]
   | none =>
    rw [ixF_none.2 fun hm => ?_]
    rcases List.mem_append.1 hm with hm | hm
    ·exact ixF_none.1 hi hm
    ·exact hne (List.mem_singleton.1 hm)
theorem numL_one {N : Nat} (h : 0 < N) : numL N [0] = (List.replicate N (-1 : Int)).set 0 0 := by
 have h1 := numL_snoc (N := N) (o := []) (x := 0) (by simp) (by omega)
 rw [List.nil_append] at h1
 rw [h1]
 congr 1
 apply List.ext_getElem
 ·simp [numL]
 ·intro i h2 h3; simp [numL, ixZ, ixF]
theorem Aut.Ok.fits {a : Aut} (h : a.Ok) (hl : a.edges.length ≤ 1000000) : a.Fits := by
 refine ⟨?_, ?_, hl⟩
 ·have h1 : a.alph.Nodup := h.alph.2.imp fun h => by omega
  have := (OrdOk.mk (N := 32) h1 fun x hx => h.alph.1 x hx).le
  omega
 ·have h1 : a.marked.Nodup := h.marked.2.imp fun h => by omega
  have h2 := h.states
  have := (OrdOk.mk (N := a.states.toNat) h1 fun x hx => by have := h.marked.1 x hx; omega).le
  omega
theorem Aut.Ok.srcs {a : Aut} (h : a.Ok) : (a.edges.map Edg.src).Pairwise (· ≤ ·) := by
 rw [List.pairwise_map]
 exact h.edges.2.imp fun h => by unfold dLt at h; omega
theorem sucC_rng {a : Aut} (h : a.Ok) (s : Int) : ∀ x ∈ sucC a s, 0 ≤ x.2 ∧ x.2 < (a.states.toNat : Nat) := by
 intro x hx
 obtain ⟨y, hy, rfl⟩ := List.mem_map.1 hx
 have := h.edges.1 y (List.mem_filter.1 hy).1
 have := h.states
 simp only; omega
theorem ints_put {l : List Int} {k : Nat} (h : k < l.length) (z : Int) : (ints l).set k (((ints l).getD k []).set 0 (.int .i64 z)) = ints (l.set k z) := by
 rw [ints_at h]
 simp [ints]
set_option maxRecDepth 20000 in
set_option maxHeartbeats 32000000 in
theorem canonical_c (a : Aut) (h : a.Ok) (h1 : 0 < a.states) (hl : a.edges.length ≤ 50000) : ACalls Tryz.prog 71 [.agg a.d] (.agg (canA a).d) [] := by
 have hf := h.fits (by omega)
 obtain ⟨f1, f2, f3⟩ := hf
 have hst := h.states
 have hC := CloneInts_c a.alph f1
 have hO : canO a = bfs (sucC a) (a.states.toNat + 1) 0 [0] [] := rfl
 have hA : canA a = ⟨a.alph, (canO a).1.length, mkC a.marked (canO a).1 (canO a).1.length, (canO a).2⟩ := rfl
 have hout := fun s h0 => out_c a s (h.fits (by omega)) h.srcs (fun x hx => by have := h.edges.1 x hx; omega) h0
 have hms : a.marked.Pairwise (· ≤ ·) := h.marked.2.imp fun h => by omega
 have hbs := fun x => BinarySearch_c a.marked x f2 hms
 have hrng := sucC_rng h
 have hN : ∃ N : Nat, a.states = N := ⟨a.states.toNat, by omega⟩
 obtain ⟨N, hN⟩ := hN
 rw [show a.states.toNat = N by omega] at hO hrng
 rw [hA]
 generalize canO a = O at *
 obtain ⟨alph, states, marked, edges⟩ := a
 simp only at *
 subst hN
 (refine ACalls.of_body Ty_ok mixed Tryz.func71 rfl (by kernel_rfl) Tryz.ntmps71 (by simp) (congrArg Array.toList Tryz.results71) ?_)
 simp only [slotsOf, Aut.d]
 (repeat' (first | (with_reducible first | exact True.intro | refine And.intro ?_ ?_ | refine aBl ?_ | (refine aS 8 [24, 25, 9, 64, 63, 11, 65] ?_; intro K hK)) | ((with_reducible first | refine aGo ?_ | refine rP Ty_ok mixed 15 [0, 2, 3] [.mid [pe 1, pe 4, pe 5] 0, .one 6, .mid [pe 7, pe 8, pe 9, pe 10, pe 11] 0] ?_ | refine rP Ty_ok mixed 18 [1, 2, 7] [.mid [pe 0, pe 3, pe 4] 0, .one 5, .one 6] ?_ | refine rP Ty_ok mixed 24 [0, 2, 3, 5, 6] [.mid [pe 1, pe 4, pe 7, pe 8, pe 9, pe 10, pe 11] 0, .one 12, .one 13, .one 14] ?_); simp only [List.length_replicate, go_sem]) | ((with_reducible refine aCd ?_ ?_ (fun hb => ?_) (fun hb => ?_)); (iterate 2 simp only [List.length_replicate, go_sem]); all_goals (simp only [List.length_replicate, go_sem] at hb; try simp only [bls] at hb)) | ((iterate 6 try ((fail_if_success with_reducible refine hK _ ?_ ?_ ?_); clear hK K)); with_reducible refine hK _ ?_ ?_ ?_; rotate_left; (focus (simp only [List.length_replicate, go_sem]; exact rfl)); clear hK K) | ((first | (with_reducible first | refine xA ?_ | refine xD ?_ | refine xO ?_ | refine xR ?_ | refine xG ?_ | refine xH ?_ | refine xM ?_) | ((with_reducible refine gA ?_); refine xA ?_) | ((with_reducible refine gD ?_); refine xD ?_) | ((with_reducible refine gG ?_); refine xG ?_)); simp only [List.length_replicate, go_sem]) | (with_reducible refine aGs (fun hg0 => ?_) (fun hg0 => ?_) <;> first | (with_reducible first | exact aF1 hg0 | exact aF2 hg0) | (simp only [hg0, List.length_replicate, go_sem])) | (with_reducible refine aNk ?_; intro bnil hnil; try simp only []) | exact aZ | fail))
 all_goals first | omega | skip
 have hz : ∀ k, k ≤ N → ints (List.replicate k (-1 : Int) ++ List.replicate (N - k) 0) = ints (List.replicate k (-1)) ++ List.replicate (N - k) [.int .i64 0] := fun k hk => by simp [ints]
 refine awp_loop _ (by simp only [go_sem]; rfl) Nat (fun k => k ≤ N) (fun k => [(25, .one (.int .i64 k)), (4, .one (.own 4))]) (fun k H => H.set 4 (.row 3 1 (ints (List.replicate k (-1) ++ List.replicate (N - k) 0)))) (fun k => N - k) 0 (by omega) ?_ ?_
 ·have e0 : ints (List.replicate 0 (-1) ++ List.replicate (N - 0) 0) = List.replicate N [.int .i64 0] := by simp [ints]
  rw [e0]
  (simp only [SubF, List.set_cons_succ, List.set_cons_zero, go_sem]; (try simp only [List.set_cons_succ, List.set_cons_zero, go_sem]); repeat' (first | exact True.intro | with_reducible refine And.intro ?_ ?_ | rfl | omega))
 rintro k hk L hL
 have hq : ((k : Nat) : Int).toNat = k := by omega
 have hnl : (List.replicate k (-1 : Int) ++ List.replicate (N - k) 0).length = N := by simp; omega
 by_cases hlt : k < N
 ·have hset : (List.replicate k (-1 : Int) ++ List.replicate (N - k) 0).set k (-1) = List.replicate (k + 1) (-1) ++ List.replicate (N - (k + 1)) 0 := by
   rw [show N - k = (N - (k + 1)) + 1 by omega, List.replicate_succ (n := N - (k + 1))]
   simp [List.set_append, List.replicate_succ']
  have hput := ints_put (l := List.replicate k (-1 : Int) ++ List.replicate (N - k) 0) (k := k) (by omega) (-1)
  rw [hset] at hput
  generalize List.replicate k (-1 : Int) ++ List.replicate (N - k) 0 = X at *
  (simp only [List.set_cons_succ, List.set_cons_zero, go_sem] at hL ⊢)
  (repeat' (first | (with_reducible first | exact True.intro | refine And.intro ?_ ?_ | refine aBl ?_ | (refine aS 8 [24, 25, 9, 64, 63, 11, 65] ?_; intro K hK)) | ((with_reducible first | refine aGo ?_ | refine rP Ty_ok mixed 15 [0, 2, 3] [.mid [pe 1, pe 4, pe 5] 0, .one 6, .mid [pe 7, pe 8, pe 9, pe 10, pe 11] 0] ?_ | refine rP Ty_ok mixed 18 [1, 2, 7] [.mid [pe 0, pe 3, pe 4] 0, .one 5, .one 6] ?_ | refine rP Ty_ok mixed 24 [0, 2, 3, 5, 6] [.mid [pe 1, pe 4, pe 7, pe 8, pe 9, pe 10, pe 11] 0, .one 12, .one 13, .one 14] ?_); simp only [hq, hnl, hput, go_sem]) | ((with_reducible refine aCd ?_ ?_ (fun hb => ?_) (fun hb => ?_)); (iterate 2 simp only [hq, hnl, hput, go_sem]); all_goals (simp only [hq, hnl, hput, go_sem] at hb; try simp only [bls] at hb)) | ((iterate 6 try ((fail_if_success with_reducible refine hK _ ?_ ?_ ?_); clear hK K)); with_reducible refine hK _ ?_ ?_ ?_; rotate_left; (focus (simp only [hq, hnl, hput, go_sem]; exact rfl)); clear hK K) | (with_reducible refine aGs (fun hg0 => ?_) (fun hg0 => ?_) <;> first | (with_reducible first | exact aF1 hg0 | exact aF2 hg0) | (simp only [hg0, hq, hnl, hput, go_sem])) | (with_reducible refine aNk ?_; intro bnil hnil; try simp only []) | exact aZ | fail))
  all_goals first | omega | skip
  exact hL _ (k + 1) (by omega) (by (simp only [SubF, List.set_cons_succ, List.set_cons_zero, go_sem]; (try simp only [List.set_cons_succ, List.set_cons_zero, go_sem]); repeat' (first | exact True.intro | with_reducible refine And.intro ?_ ?_ | rfl | omega))) (by omega)
 have hkl : k = N := by omega
 rw [hkl]
 rw [hkl] at hnl
 clear hL hq hlt hkl hk
 have hX : List.replicate N (-1 : Int) ++ List.replicate (N - N) 0 = List.replicate N (-1) := by simp
 rw [hX] at hnl
 have hput := ints_put (l := List.replicate N (-1 : Int)) (k := 0) (by omega) 0
 rw [← numL_one (by omega)] at hput
 simp only [hX]
 generalize List.replicate N (-1 : Int) = X at *
 (simp only [List.set_cons_succ, List.set_cons_zero, go_sem] at *)
 (repeat' (first | (with_reducible first | exact True.intro | refine And.intro ?_ ?_ | refine aBl ?_ | (refine aS 8 [24, 25, 9, 64, 63, 11, 65] ?_; intro K hK)) | ((with_reducible first | refine aGo ?_ | refine rP Ty_ok mixed 15 [0, 2, 3] [.mid [pe 1, pe 4, pe 5] 0, .one 6, .mid [pe 7, pe 8, pe 9, pe 10, pe 11] 0] ?_ | refine rP Ty_ok mixed 18 [1, 2, 7] [.mid [pe 0, pe 3, pe 4] 0, .one 5, .one 6] ?_ | refine rP Ty_ok mixed 24 [0, 2, 3, 5, 6] [.mid [pe 1, pe 4, pe 7, pe 8, pe 9, pe 10, pe 11] 0, .one 12, .one 13, .one 14] ?_); simp only [hnl, hput, go_sem]) | ((with_reducible refine aCd ?_ ?_ (fun hb => ?_) (fun hb => ?_)); (iterate 2 simp only [hnl, hput, go_sem]); all_goals (simp only [hnl, hput, go_sem] at hb; try simp only [bls] at hb)) | ((iterate 6 try ((fail_if_success with_reducible refine hK _ ?_ ?_ ?_); clear hK K)); with_reducible refine hK _ ?_ ?_ ?_; rotate_left; (focus (simp only [hnl, hput, go_sem]; exact rfl)); clear hK K) | (with_reducible refine aGs (fun hg0 => ?_) (fun hg0 => ?_) <;> first | (with_reducible first | exact aF1 hg0 | exact aF2 hg0) | (simp only [hg0, hnl, hput, go_sem])) | (with_reducible refine aNk ?_; intro bnil hnil; try simp only []) | exact aZ | fail))
 all_goals first | omega | skip
 clear hput hX
 generalize hsu : sucC ⟨alph, (N : Int), marked, edges⟩ = su at *
 refine awp_loopT [.cell 3 2 3 1, .cell 3 3 88 3] _ (by simp only [go_sem]; rfl) (Nat × Nat × List Int × List Edg) (fun s => O = bfs su s.1 s.2.1 s.2.2.1 s.2.2.2 ∧ OrdOk N s.2.2.1 ∧ s.2.1 ≤ s.2.2.1.length ∧ s.2.2.2.length ≤ edges.length * s.2.1 ∧ s.1 + s.2.1 = N + 1)
  (fun s => [(4, .one (.own 4)), (6, .one (.own 5)), (7, .one (.int .i64 s.2.1))])
  (fun s => [.var 41 [.list (ints alph), .int .i64 N, .list (ints marked), .list (edgsD edges)], .var 41 [.nil, .int .i64 0, .nil, .nil], .row 3 1 (ints alph), .var 41 [.own 2, .int .i64 0, .own 6, .own 7], .row 3 1 (ints (numL N s.2.2.1)), .row 3 1 (ints s.2.2.1), .row 3 1 (ints (mkC marked s.2.2.1 s.2.1)), .row 88 3 (edgsD s.2.2.2)])
  (fun s => s.1) (N + 1, 0, [0], []) ⟨hO, ⟨List.pairwise_singleton _ _, fun x hx => by rw [List.mem_singleton] at hx; subst hx; omega⟩, by simp, by simp, by simp⟩ ?_ ?_
 ·have e2 : ints (mkC marked [0] 0) = [] := rfl
  have e3 : edgsD [] = [] := rfl
  have e4 : ints [0] = [[.int .i64 0]] := rfl
  simp only [e2, e3, e4]
  (simp only [SubF, go_sem]; (try simp only [go_sem]); repeat' (first | exact True.intro | with_reducible refine And.intro ?_ ?_ | rfl | omega))
 rintro ⟨f, i, o, es⟩ ⟨hOe, hOo, hio, hes, hfi⟩ L hL
 simp only at hOe hOo hio hes hfi
 have hq : ((i : Nat) : Int).toNat = i := by omega
 have hol := hOo.le
 obtain ⟨f, rfl⟩ : ∃ g, f = g + 1 := ⟨f - 1, by omega⟩
 have hmkl := mkC_length marked o i
 rw [bfs_succ] at hOe
 by_cases hlt : i < o.length
 ·rw [if_pos hlt] at hOe
  have hs := hOo.rng _ (getD_mem o i 0 hlt)
  have ha := ints_at (l := o) hlt
  have e2 := mkC_succ marked o i
  generalize hss : o.getD i 0 = s at hOe hs ha e2
  have hbs := hbs s
  have hou := hout s (by omega)
  have hrs := hrng s
  have hsu2 : su s = (outL edges s).map fun x => (x.ev, x.dst) := by rw [← hsu]; rfl
  have hll : (outL edges s).length ≤ edges.length := List.length_filter_le _ _
  have hmul : edges.length * i ≤ 50000 * 4096 := Nat.mul_le_mul (by omega) (by omega)
  have hmul2 : edges.length * (i + 1) = edges.length * i + edges.length := Nat.mul_succ _ _
  rw [hsu2] at hOe hrs
  generalize outL edges s = ls at *
  simp only [Aut.d] at hou
  (simp only [go_sem] at hL ⊢)
  (repeat' (first | (with_reducible first | exact True.intro | refine And.intro ?_ ?_ | refine aBl ?_ | (refine aS 8 [24, 25, 9, 64, 63, 11, 65] ?_; intro K hK)) | ((with_reducible first | refine aGo ?_ | refine rP Ty_ok mixed 15 [0, 2, 3] [.mid [pe 1, pe 4, pe 5] 0, .one 6, .mid [pe 7, pe 8, pe 9, pe 10, pe 11] 0] ?_ | refine rP Ty_ok mixed 18 [1, 2, 7] [.mid [pe 0, pe 3, pe 4] 0, .one 5, .one 6] ?_ | refine rP Ty_ok mixed 24 [0, 2, 3, 5, 6] [.mid [pe 1, pe 4, pe 7, pe 8, pe 9, pe 10, pe 11] 0, .one 12, .one 13, .one 14] ?_); simp only [hq, ha, go_sem]) | ((with_reducible refine aCd ?_ ?_ (fun hb => ?_) (fun hb => ?_)); (iterate 2 simp only [hq, ha, go_sem]); all_goals (simp only [hq, ha, go_sem] at hb; try simp only [bls] at hb)) | ((iterate 6 try ((fail_if_success with_reducible refine hK _ ?_ ?_ ?_); clear hK K)); with_reducible refine hK _ ?_ ?_ ?_; rotate_left; (focus (simp only [hq, ha, go_sem]; exact rfl)); clear hK K) | ((first | (with_reducible first | refine xA ?_ | refine xD ?_ | refine xO ?_ | refine xR ?_ | refine xG ?_ | refine xH ?_ | refine xM ?_) | ((with_reducible refine gA ?_); refine xA ?_) | ((with_reducible refine gD ?_); refine xD ?_) | ((with_reducible refine gG ?_); refine xG ?_)); simp only [hq, ha, go_sem]) | (with_reducible refine aGs (fun hg0 => ?_) (fun hg0 => ?_) <;> first | (with_reducible first | exact aF1 hg0 | exact aF2 hg0) | (simp only [hg0, hq, ha, go_sem])) | (with_reducible refine aNk ?_; intro bnil hnil; try simp only []) | exact aZ | fail))
  all_goals first | omega | skip
  all_goals
   refine awp_loop _ (by simp only [go_sem]; rfl) (Nat × List Int × List Edg) (fun t => t.1 ≤ ls.length ∧ O = bfs su f (i + 1) (bfsI i ((ls.drop t.1).map fun x => (x.ev, x.dst)) t.2.1 t.2.2).1 (bfsI i ((ls.drop t.1).map fun x => (x.ev, x.dst)) t.2.1 t.2.2).2 ∧ OrdOk N t.2.1 ∧ o <+: t.2.1 ∧ t.2.2.length ≤ es.length + t.1)
    (fun t => [(6, .one (.own 5)), (65, .one (.int .i64 t.1))]) (fun t H => ((H.set 4 (.row 3 1 (ints (numL N t.2.1)))).set 5 (.row 3 1 (ints t.2.1))).set 7 (.row 88 3 (edgsD t.2.2))) (fun t => ls.length - t.1) (0, o, es) ⟨by simp only; omega, by simpa using hOe, hOo, List.prefix_refl _, by simp only; omega⟩ ?_ ?_
   ·(simp only [SubF, List.set_cons_succ, List.set_cons_zero, go_sem]; (try simp only [List.set_cons_succ, List.set_cons_zero, go_sem]); repeat' (first | exact True.intro | with_reducible refine And.intro ?_ ?_ | rfl | omega))
   rintro ⟨j, o2, es2⟩ ⟨hj, hO2, hOo2, hpre, hes2⟩ L2 hL2
   simp only at hj hO2 hOo2 hpre hes2
   have hq2 : ((j : Nat) : Int).toNat = j := by omega
   have hol2 := hOo2.le
   have hnl2 := numL_length N o2
   by_cases hjl : j < ls.length
   ·have c1 := edgs_at (l := ls) hjl [.int .i64 0, .int .i64 0, .int .i64 0]
    have c2 := edgs_at (l := ls) hjl []
    rw [drop_getD ls j Edg.no hjl, List.map_cons, bfsI_cons] at hO2
    have hy := hrs _ (List.mem_map_of_mem (f := fun x : Edg => (x.ev, x.dst)) (getD_mem ls j Edg.no hjl))
    generalize ls.getD j Edg.no = x at *
    simp only at hy
    have d1 := numL_get o2 hy
    have d2 := ints_at (l := numL N o2) (k := x.dst.toNat) (by omega)
    rw [d1] at d2
    cases hix : ixF x.dst 0 o2 with
    | some k =>
     rw [hix] at hO2
     simp only at hO2
     have d3 : ixZ x.dst o2 = k := by rw [ixZ, hix]
     have hkl := ixF_some hix
     rw [d3] at d2
     (simp only [List.set_cons_succ, List.set_cons_zero, go_sem] at hL2 ⊢)
     (repeat' (first | (with_reducible first | exact True.intro | refine And.intro ?_ ?_ | refine aBl ?_ | (refine aS 8 [24, 25, 9, 64, 63, 11, 65] ?_; intro K hK)) | ((with_reducible first | refine aGo ?_ | refine rP Ty_ok mixed 15 [0, 2, 3] [.mid [pe 1, pe 4, pe 5] 0, .one 6, .mid [pe 7, pe 8, pe 9, pe 10, pe 11] 0] ?_ | refine rP Ty_ok mixed 18 [1, 2, 7] [.mid [pe 0, pe 3, pe 4] 0, .one 5, .one 6] ?_ | refine rP Ty_ok mixed 24 [0, 2, 3, 5, 6] [.mid [pe 1, pe 4, pe 7, pe 8, pe 9, pe 10, pe 11] 0, .one 12, .one 13, .one 14] ?_); simp only [hq2, hq, c1, c2, d2, hnl2, go_sem]) | ((with_reducible refine aCd ?_ ?_ (fun hb => ?_) (fun hb => ?_)); (iterate 2 simp only [hq2, hq, c1, c2, d2, hnl2, go_sem]); all_goals (simp only [hq2, hq, c1, c2, d2, hnl2, go_sem] at hb; try simp only [bls] at hb)) | ((iterate 6 try ((fail_if_success with_reducible refine hK _ ?_ ?_ ?_); clear hK K)); with_reducible refine hK _ ?_ ?_ ?_; rotate_left; (focus (simp only [hq2, hq, c1, c2, d2, hnl2, go_sem]; exact rfl)); clear hK K) | (with_reducible refine aGs (fun hg0 => ?_) (fun hg0 => ?_) <;> first | (with_reducible first | exact aF1 hg0 | exact aF2 hg0) | (simp only [hg0, hq2, hq, c1, c2, d2, hnl2, go_sem])) | (with_reducible refine aNk ?_; intro bnil hnil; try simp only []) | exact aZ | fail))
     all_goals first | omega | skip
     refine hL2 _ (j + 1, o2, es2 ++ [⟨i, x.ev, k⟩]) ⟨by simp only; omega, hO2, hOo2, hpre, by simp only [List.length_append, List.length_singleton]; omega⟩ ?_ (by simp only; omega)
     simp only [edgs_snoc]
     (simp only [SubF, List.set_cons_succ, List.set_cons_zero, go_sem]; (try simp only [List.set_cons_succ, List.set_cons_zero, go_sem]); repeat' (first | exact True.intro | with_reducible refine And.intro ?_ ?_ | rfl | omega))
    | none =>
     rw [hix] at hO2
     simp only at hO2
     have hnm := ixF_none.1 hix
     have d3 : ixZ x.dst o2 = -1 := by rw [ixZ, hix]
     rw [d3] at d2
     have d4 := ints_put (l := numL N o2) (k := x.dst.toNat) (by omega) o2.length
     rw [← numL_snoc hnm hy] at d4
     have d5 := numL_get (o2 ++ [x.dst]) hy
     have d6 := ints_at (l := numL N (o2 ++ [x.dst])) (k := x.dst.toNat) (by rw [numL_length]; omega)
     have d7 : ixZ x.dst (o2 ++ [x.dst]) = o2.length := by rw [ixZ, ixF_snoc hnm]; simp
     rw [d5, d7] at d6
     have hnl3 := numL_length N (o2 ++ [x.dst])
     have hsn := (numL_snoc hnm hy).symm
     (simp only [List.set_cons_succ, List.set_cons_zero, go_sem] at hL2 ⊢)
     (repeat' (first | (with_reducible first | exact True.intro | refine And.intro ?_ ?_ | refine aBl ?_ | (refine aS 8 [24, 25, 9, 64, 63, 11, 65] ?_; intro K hK)) | ((with_reducible first | refine aGo ?_ | refine rP Ty_ok mixed 15 [0, 2, 3] [.mid [pe 1, pe 4, pe 5] 0, .one 6, .mid [pe 7, pe 8, pe 9, pe 10, pe 11] 0] ?_ | refine rP Ty_ok mixed 18 [1, 2, 7] [.mid [pe 0, pe 3, pe 4] 0, .one 5, .one 6] ?_ | refine rP Ty_ok mixed 24 [0, 2, 3, 5, 6] [.mid [pe 1, pe 4, pe 7, pe 8, pe 9, pe 10, pe 11] 0, .one 12, .one 13, .one 14] ?_); simp only [hq2, hq, c1, c2, d2, d4, hsn, d6, hnl2, hnl3, go_sem]) | ((with_reducible refine aCd ?_ ?_ (fun hb => ?_) (fun hb => ?_)); (iterate 2 simp only [hq2, hq, c1, c2, d2, d4, hsn, d6, hnl2, hnl3, go_sem]); all_goals (simp only [hq2, hq, c1, c2, d2, d4, hsn, d6, hnl2, hnl3, go_sem] at hb; try simp only [bls] at hb)) | ((iterate 6 try ((fail_if_success with_reducible refine hK _ ?_ ?_ ?_); clear hK K)); with_reducible refine hK _ ?_ ?_ ?_; rotate_left; (focus (simp only [hq2, hq, c1, c2, d2, d4, hsn, d6, hnl2, hnl3, go_sem]; exact rfl)); clear hK K) | (with_reducible refine aGs (fun hg0 => ?_) (fun hg0 => ?_) <;> first | (with_reducible first | exact aF1 hg0 | exact aF2 hg0) | (simp only [hg0, hq2, hq, c1, c2, d2, d4, hsn, d6, hnl2, hnl3, go_sem])) | (with_reducible refine aNk ?_; intro bnil hnil; try simp only []) | exact aZ | fail))
     all_goals first | omega | skip
     refine hL2 _ (j + 1, o2 ++ [x.dst], es2 ++ [⟨i, x.ev, o2.length⟩]) ⟨by simp only; omega, hO2, hOo2.snoc hnm hy, hpre.trans (List.prefix_append _ _), by simp only [List.length_append, List.length_singleton]; omega⟩ ?_ (by simp only; omega)
     simp only [edgs_snoc, ← ints_append]
     (simp only [SubF, ints_one, List.set_cons_succ, List.set_cons_zero, go_sem]; (try simp only [ints_one, List.set_cons_succ, List.set_cons_zero, go_sem]); repeat' (first | exact True.intro | with_reducible refine And.intro ?_ ?_ | rfl | omega))
   have hjl2 : j = ls.length := by omega
   subst hjl2
   rw [List.drop_length, List.map_nil] at hO2
   (simp only [List.set_cons_succ, List.set_cons_zero, go_sem] at hL2 ⊢)
   (repeat' (first | (with_reducible first | exact True.intro | refine And.intro ?_ ?_ | refine aBl ?_ | (refine aS 8 [24, 25, 9, 64, 63, 11, 65] ?_; intro K hK)) | ((with_reducible first | refine aGo ?_ | refine rP Ty_ok mixed 15 [0, 2, 3] [.mid [pe 1, pe 4, pe 5] 0, .one 6, .mid [pe 7, pe 8, pe 9, pe 10, pe 11] 0] ?_ | refine rP Ty_ok mixed 18 [1, 2, 7] [.mid [pe 0, pe 3, pe 4] 0, .one 5, .one 6] ?_ | refine rP Ty_ok mixed 24 [0, 2, 3, 5, 6] [.mid [pe 1, pe 4, pe 7, pe 8, pe 9, pe 10, pe 11] 0, .one 12, .one 13, .one 14] ?_); simp only [go_sem]) | ((with_reducible refine aCd ?_ ?_ (fun hb => ?_) (fun hb => ?_)); (iterate 2 simp only [go_sem]); all_goals (simp only [go_sem] at hb; try simp only [bls] at hb)) | ((iterate 6 try ((fail_if_success with_reducible refine hK _ ?_ ?_ ?_); clear hK K)); with_reducible refine hK _ ?_ ?_ ?_; rotate_left; (focus (simp only [go_sem]; exact rfl)); clear hK K) | (with_reducible refine aGs (fun hg0 => ?_) (fun hg0 => ?_) <;> first | (with_reducible first | exact aF1 hg0 | exact aF2 hg0) | (simp only [hg0, go_sem])) | (with_reducible refine aNk ?_; intro bnil hnil; try simp only []) | exact aZ | fail))
   all_goals first | omega | skip
   have t2 : mkC marked o2 (i + 1) = mkC marked o i ++ if s ∈ marked then [(i : Int)] else [] := by rw [mkC_pre hpre (by omega), e2]
   refine hL _ (f, i + 1, o2, es2) ⟨hO2, hOo2, by simp only; have := hpre.length_le; omega, by simp only; omega, by simp only; omega⟩ ?_ (by simp only; omega)
   first | rw [if_pos (by assumption)] at t2 | rw [if_neg (by assumption), List.append_nil] at t2
   simp only [t2, ← ints_append]
   (simp only [SubF, ints_one, List.set_cons_succ, List.set_cons_zero, go_sem]; (try simp only [ints_one, List.set_cons_succ, List.set_cons_zero, go_sem]); repeat' (first | exact True.intro | with_reducible refine And.intro ?_ ?_ | rfl | omega))
 ·rw [if_neg hlt] at hOe
  have hil : i = o.length := by omega
  subst hil
  subst hOe
  (simp only [go_sem] at hL ⊢)
  (repeat' (first | (with_reducible first | exact True.intro | refine And.intro ?_ ?_ | refine aBl ?_ | (refine aS 8 [24, 25, 9, 64, 63, 11, 65] ?_; intro K hK)) | ((with_reducible first | refine aGo ?_ | refine rP Ty_ok mixed 15 [0, 2, 3] [.mid [pe 1, pe 4, pe 5] 0, .one 6, .mid [pe 7, pe 8, pe 9, pe 10, pe 11] 0] ?_ | refine rP Ty_ok mixed 18 [1, 2, 7] [.mid [pe 0, pe 3, pe 4] 0, .one 5, .one 6] ?_ | refine rP Ty_ok mixed 24 [0, 2, 3, 5, 6] [.mid [pe 1, pe 4, pe 7, pe 8, pe 9, pe 10, pe 11] 0, .one 12, .one 13, .one 14] ?_); simp only [go_sem]) | ((with_reducible refine aCd ?_ ?_ (fun hb => ?_) (fun hb => ?_)); (iterate 2 simp only [go_sem]); all_goals (simp only [go_sem] at hb; try simp only [bls] at hb)) | ((iterate 6 try ((fail_if_success with_reducible refine hK _ ?_ ?_ ?_); clear hK K)); with_reducible refine hK _ ?_ ?_ ?_; rotate_left; (focus (simp only [go_sem]; exact rfl)); clear hK K) | (with_reducible refine aGs (fun hg0 => ?_) (fun hg0 => ?_) <;> first | (with_reducible first | exact aF1 hg0 | exact aF2 hg0) | (simp only [hg0, go_sem])) | (with_reducible refine aNk ?_; intro bnil hnil; try simp only []) | exact aZ | fail))
  all_goals first | omega | rfl | skip
end Go.Proofs.YtgbhmieaoaojoaaGreatDoor
