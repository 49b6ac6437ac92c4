/-
 Contracts: monitor.Forbidden.
-/
import Derived.Test.YtkjllcmpjghmkaaGreatDoorMC
import Derived.Test.YtkjllcmpjghmkaaGreatDoorQL
import Derived.Test.YtkjllcmpjghmkaaGreatDoorSV
set_option linter.unusedSimpArgs false
set_option linter.unusedVariables false
namespace Go.Proofs.YtkjllcmpjghmkaaGreatDoor
open Go.Eng Go.RowKit
def badL (c : Con) (ms : List (List Int)) (k : Nat) : List Int := ((List.range k).filter fun j => decide (c.bound < dot c.fac (ms.getD j []))).map Int.ofNat
theorem z7l (c : Con) (ms : List (List Int)) (k : Nat) : badL c ms (k + 1) = badL c ms k ++ if c.bound < dot c.fac (ms.getD k []) then [(k : Int)] else [] := by
 rw [badL, List.range_succ, List.filter_append, List.map_append, ← badL]
 congr 1
 rw [List.filter_cons, List.filter_nil]
 generalize dot c.fac (ms.getD k []) = z
 by_cases h : c.bound < z <;> simp [h]
theorem z43 (c : Con) (ms : List (List Int)) (k : Nat) : (badL c ms k).length ≤ k := by
 rw [badL, List.length_map]
 exact Nat.le_trans (List.length_filter_le _ _) (by simp)
theorem zhG (c : Con) (ms : List (List Int)) {k l : Nat} (h : k ≤ l) : badL c ms k <+: badL c ms l := by
 induction l with
 | zero => rw [show k = 0 by omega]; exact List.prefix_refl _
 | succ l ih =>
  by_cases e : k = l + 1
  ·rw [e]; exact List.prefix_refl _
  ·rw [z7l]; exact (ih (by omega)).trans (List.prefix_append _ _)
theorem zj5 (c : Con) (ms : List (List Int)) {k l : Nat} (h : k < l) (hb : c.bound < dot c.fac (ms.getD k [])) : (badL c ms k).length < (badL c ms l).length ∧ (badL c ms l).getD (badL c ms k).length 0 = k := by
 have h1 := zhG c ms (show k + 1 ≤ l by omega)
 rw [z7l, if_pos hb] at h1
 have h2 := h1.length_le
 simp only [List.length_append, List.length_singleton] at h2
 refine ⟨by omega, ?_⟩
 rw [z8I h1 (by simp), show (badL c ms k ++ [(k : Int)]).getD (badL c ms k).length 0 = k by simp [List.getD]]
theorem z57 {n : Net} {nd : List SN} (h : Found n nd) : (∀ m ∈ autM n nd, m.length = n.init.length ∧ ∀ y ∈ m, 0 ≤ y ∧ y ≤ 65536) ∧ (autM n nd).length ≤ 4096 := by
 have ho := z7m h
 refine ⟨fun m hm => ?_, ?_⟩
 ·obtain ⟨s, hs, rfl⟩ := List.mem_map.1 hm
  have hr := ho.rng s hs
  have hx := z01 nd s.toNat SN.no (by omega)
  exact ⟨h.nodes.len _ hx, h.nodes.tok _ hx⟩
 ·have := ho.le; have := h.le
  rw [autM, List.length_map]; omega
theorem zj7 {n : Net} {mk : List (List Int)} {a : Aut} {ms : List (List Int)} (h : autF n mk = .inr (a, ms)) : ∃ nd ed, bndF n = .inr (nd, ed) ∧ Found n nd ∧ ed = grE n nd ∧ (∃ T, toF n ed [] = some T) ∧ a = autA n nd mk ∧ ms = autM n nd := by
 unfold autF at h
 split at h
 ·cases h
 ·cases hB : bndF n with
  | inl e =>
   rw [hB, auG] at h
   split at h <;> cases h
  | inr r =>
   obtain ⟨nd, ed⟩ := r
   rw [hB, auG] at h
   obtain ⟨hF, hE⟩ := z2x hB
   split at h
   ·cases h
   ·split at h
    ·cases h
    ·rename_i T hT
     cases h
     exact ⟨nd, ed, rfl, hF, hE, ⟨T, hT⟩, rfl, rfl⟩
theorem zj8 {n : Net} {mk : List (List Int)} {e : Int} (h : autF n mk = .inl e) : e ≠ 0 := by
 unfold autF at h
 split at h
 ·cases h; assumption
 ·cases hB : bndF n with
  | inl e' =>
   have := zaH hB
   rw [hB, auG] at h
   split at h <;> (cases h; assumption)
  | inr r =>
   obtain ⟨nd, ed⟩ := r
   rw [hB, auG] at h
   split at h
   ·cases h; assumption
   ·split at h
    ·cases h; decide
    ·cases h
def fbR (c : Con) : Sum Int (Aut × List (List Int)) → AV
 | .inl e => .tup [.one (.list []), .one (.int .i64 e)]
 | .inr (_, ms) => .tup [.one (.list (ints (badL c ms ms.length))), .one (.int .i64 0)]
set_option maxHeartbeats 8000000 in
theorem zbV (n : Net) (c : Con) (hf : n.Fits) (hc : conE n c = 0) (h0 : n.init ≠ []) : ACalls Tryz.prog 10 [.agg n.d, .agg c.d] (fbR c (autF n [])) [] := by
 obtain ⟨q1, q2, q3, q4, q5⟩ := z1v hc
 have hno := z0K q1
 have hi10 := hno.init
 have hC := z3v n c hf (by omega)
 rw [hc] at hC
 have hA := z2R n [] hf h0 (by decide) (fun m hm => by simp at hm)
 rw [z3l] at hA
 have hne := fun e => zj8 (n := n) (mk := []) (e := e)
 have hok := fun a ms => zj7 (n := n) (mk := []) (a := a) (ms := ms)
 generalize autF n [] = B at *
 cases B with
 | inl e =>
  have hne := hne e rfl
  simp only [Net.d, Con.d, auR, Aut.d] at hC hA
  simp only [fbR]
  (refine ACalls.of_body Ty_ok mixed Tryz.func10 rfl (by kernel_rfl) Tryz.ntmps10 (by simp) (congrArg Array.toList Tryz.results10) ?_)
  simp only [z00, Net.d, Con.d]
  (repeat' (first | (with_reducible first | refine aBl ?_ | (refine aS 7 [9, 8, 29, 28, 12, 11, 30, 10] ?_; intro K hK)) | ((with_reducible refine aGo ?_); simp only [go_sem]) | ((with_reducible refine aCd ?_ ?_ (fun hb => ?_) (fun hb => ?_)); (iterate 2 simp only [go_sem]); all_goals (simp only [go_sem] at hb; try simp only [bls] at hb)) | ((iterate 6 try ((fail_if_success with_reducible refine hK _ ?_ ?_ ?_); clear hK K)); with_reducible refine hK _ ?_ ?_ ?_; rotate_left; (focus (simp only [go_sem]; exact rfl)); clear hK K) | ((with_reducible refine xA ?_); simp only [go_sem]) | exact aZ | fail))
  all_goals first | omega | skip
 | inr r =>
  obtain ⟨a, W⟩ := r
  obtain ⟨nd, ed, _, hF, _, _, _, rfl⟩ := hok a W rfl
  obtain ⟨hWl, hWn⟩ := z57 hF
  simp only [Net.d, Con.d, auR, Aut.d] at hC hA
  simp only [fbR]
  generalize autM n nd = W at *
  (refine ACalls.of_body Ty_ok mixed Tryz.func10 rfl (by kernel_rfl) Tryz.ntmps10 (by simp) (congrArg Array.toList Tryz.results10) ?_)
  simp only [z00, Net.d, Con.d]
  (repeat' (first | (with_reducible first | refine aBl ?_ | (refine aS 7 [9, 8, 29, 28, 12, 11, 30, 10] ?_; intro K hK)) | ((with_reducible refine aGo ?_); simp only [go_sem]) | ((with_reducible refine aCd ?_ ?_ (fun hb => ?_) (fun hb => ?_)); (iterate 2 simp only [go_sem]); all_goals (simp only [go_sem] at hb; try simp only [bls] at hb)) | ((iterate 6 try ((fail_if_success with_reducible refine hK _ ?_ ?_ ?_); clear hK K)); with_reducible refine hK _ ?_ ?_ ?_; rotate_left; (focus (simp only [go_sem]; exact rfl)); clear hK K) | ((with_reducible refine xA ?_); simp only [go_sem]) | fail))
  all_goals first | omega | skip
  refine z02 _ (by simp only [go_sem]; rfl) Nat (fun k => k ≤ W.length) (fun k => [(10, .one (.own 4)), (30, .one (.int .i64 k))]) (fun k H => H.set 4 (.row 3 1 (ints (badL c W k)))) (fun k => W.length - k) 0 (by omega) ?_ ?_
  ·have e0 : ints (badL c W 0) = [] := rfl
   rw [e0]
   (simp only [SubF, List.set_cons_succ, List.set_cons_zero, go_sem]; (try simp only [List.set_cons_succ, List.set_cons_zero, go_sem]); repeat' (first | exact True.intro | with_reducible refine And.intro ?_ ?_ | rfl | omega))
  rintro k hk L hL
  have hq : ((k : Nat) : Int).toNat = k := by omega
  have hbl := z43 c W k
  by_cases hlk : k < W.length
  ·have a1 := z1d (l := W) hlk [.nil]
   have a2 := z1d (l := W) hlk []
   have hs := z7l c W k
   obtain ⟨w1, w2⟩ := hWl _ (z01 W k [] hlk)
   generalize W.getD k [] = m at *
   have hV := zei c m (by omega) q3 ⟨fun y hy => by have := w2 y hy; omega⟩ (by omega) (by omega)
   simp only [Con.d] at hV
   (simp only [List.set_cons_succ, List.set_cons_zero, go_sem] at hL ⊢)
   (repeat' (first | (with_reducible first | refine And.intro ?_ ?_ | refine aBl ?_ | (refine aS 7 [9, 8, 29, 28, 12, 11, 30, 10] ?_; intro K hK)) | ((with_reducible first | refine aGo ?_ | refine rP Ty_ok mixed 11 [1, 3] [.mid [pe 0, ⟨2, 0, true, false, false, [], []⟩, ⟨4, 1, false, false, false, [0], []⟩, ⟨5, 1, false, false, false, [], []⟩] 1] ?_); simp only [hq, a1, a2, go_sem]) | ((with_reducible refine aCd ?_ ?_ (fun hb => ?_) (fun hb => ?_)); (iterate 2 simp only [hq, a1, a2, go_sem]); all_goals (simp only [hq, a1, a2, go_sem] at hb; try simp only [bls] at hb)) | ((iterate 6 try ((fail_if_success with_reducible refine hK _ ?_ ?_ ?_); clear hK K)); with_reducible refine hK _ ?_ ?_ ?_; rotate_left; (focus (simp only [hq, a1, a2, go_sem]; exact rfl)); clear hK K) | ((with_reducible refine xO ?_); simp only [hq, a1, a2, go_sem]) | exact aZ | fail))
   all_goals first | omega | skip
   all_goals
    refine hL _ (k + 1) (by omega) ?_ (by omega)
    first | rw [hs, if_pos (by assumption), ← z0f] | rw [hs, if_neg (by omega), List.append_nil]
    (simp only [SubF, z0e, List.set_cons_succ, List.set_cons_zero, go_sem]; (try simp only [z0e, List.set_cons_succ, List.set_cons_zero, go_sem]); repeat' (first | exact True.intro | with_reducible refine And.intro ?_ ?_ | rfl | omega))
  ·have hkl : k = W.length := by omega
   subst hkl
   (simp only [List.set_cons_succ, List.set_cons_zero, go_sem] at hL ⊢)
   (repeat' (first | (with_reducible first | refine And.intro ?_ ?_ | refine aBl ?_ | (refine aS 7 [9, 8, 29, 28, 12, 11, 30, 10] ?_; intro K hK)) | ((with_reducible first | refine aGo ?_ | refine rP Ty_ok mixed 11 [1, 3] [.mid [pe 0, ⟨2, 0, true, false, false, [], []⟩, ⟨4, 1, false, false, false, [0], []⟩, ⟨5, 1, false, false, false, [], []⟩] 1] ?_); simp only [go_sem]) | ((with_reducible refine aCd ?_ ?_ (fun hb => ?_) (fun hb => ?_)); (iterate 2 simp only [go_sem]); all_goals (simp only [go_sem] at hb; try simp only [bls] at hb)) | ((iterate 6 try ((fail_if_success with_reducible refine hK _ ?_ ?_ ?_); clear hK K)); with_reducible refine hK _ ?_ ?_ ?_; rotate_left; (focus (simp only [go_sem]; exact rfl)); clear hK K) | exact aZ | fail))
   all_goals first | omega | skip
end Go.Proofs.YtkjllcmpjghmkaaGreatDoor
