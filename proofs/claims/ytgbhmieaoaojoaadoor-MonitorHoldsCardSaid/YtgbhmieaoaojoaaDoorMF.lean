/-
 Contracts: monitor.Forbidden.
-/
import Derived.Test.YtgbhmieaoaojoaaDoorMC
import Derived.Test.YtgbhmieaoaojoaaDoorMH
set_option linter.unusedSimpArgs false
set_option linter.unusedVariables false
namespace Go.Proofs.YtgbhmieaoaojoaaDoor
open Go.Eng Go.RowKit
def badL (c : Con) (ms : List (List Int)) (k : Nat) : List Int := ((List.range k).filter fun j => decide (c.bound < dot c.fac (ms.getD j []))).map Int.ofNat
theorem badL_succ (c : Con) (ms : List (List Int)) (k : Nat) : badL c ms (k + 1) = badL c ms k ++ if c.bound < dot c.fac (ms.getD k []) then [(k : Int)] else [] := by
 rw [badL, List.range_succ, List.filter_append, List.map_append, ← badL]
 congr 1
 rw [List.filter_cons, List.filter_nil]
 generalize dot c.fac (ms.getD k []) = z
 by_cases h : c.bound < z <;> simp [h]
theorem badL_length (c : Con) (ms : List (List Int)) (k : Nat) : (badL c ms k).length ≤ k := by
 rw [badL, List.length_map]
 exact Nat.le_trans (List.length_filter_le _ _) (by simp)
theorem badL_pre (c : Con) (ms : List (List Int)) {k l : Nat} (h : k ≤ l) : badL c ms k <+: badL c ms l := by
 induction l with
 | zero => rw [show k = 0 by omega]; exact List.prefix_refl _
 | succ l ih =>
  by_cases e : k = l + 1
  ·rw [e]; exact List.prefix_refl _
  ·rw [badL_succ]; exact (ih (by omega)).trans (List.prefix_append _ _)
theorem badL_at (c : Con) (ms : List (List Int)) {k l : Nat} (h : k < l) (hb : c.bound < dot c.fac (ms.getD k [])) : (badL c ms k).length < (badL c ms l).length ∧ (badL c ms l).getD (badL c ms k).length 0 = k := by
 have h1 := badL_pre c ms (show k + 1 ≤ l by omega)
 rw [badL_succ, if_pos hb] at h1
 have h2 := h1.length_le
 simp only [List.length_append, List.length_singleton] at h2
 refine ⟨by omega, ?_⟩
 rw [pre_get h1 (by simp), show (badL c ms k ++ [(k : Int)]).getD (badL c ms k).length 0 = k by simp [List.getD]]
theorem autM_ok {n : Net} {nd : List SN} (h : Found n nd) : (∀ m ∈ autM n nd, m.length = n.init.length ∧ ∀ y ∈ m, 0 ≤ y ∧ y ≤ 65536) ∧ (autM n nd).length ≤ 4096 := by
 have ho := autO_ok h
 refine ⟨fun m hm => ?_, ?_⟩
 ·obtain ⟨s, hs, rfl⟩ := List.mem_map.1 hm
  have hr := ho.rng s hs
  have hx := getD_mem nd s.toNat SN.no (by omega)
  exact ⟨h.nodes.len _ hx, h.nodes.tok _ hx⟩
 ·have := ho.le; have := h.le
  rw [autM, List.length_map]; omega
theorem autF_ok {n : Net} {mk : List (List Int)} {a : Aut} {ms : List (List Int)} (h : autF n mk = .inr (a, ms)) : ∃ nd ed, bndF n = .inr (nd, ed) ∧ Found n nd ∧ ed = grE n nd ∧ (∃ T, toF n ed [] = some T) ∧ a = autA n nd mk ∧ ms = autM n nd := by
 unfold autF at h
 split at h
 ·cases h
 ·cases hB : bndF n with
  | inl e =>
   rw [hB, auG] at h
   split at h <;> cases h
  | inr r =>
   obtain ⟨nd, ed⟩ := r
   rw [hB, auG] at h
   obtain ⟨hF, hE⟩ := bnd_found hB
   split at h
   ·cases h
   ·split at h
    ·cases h
    ·rename_i T hT
     cases h
     exact ⟨nd, ed, rfl, hF, hE, ⟨T, hT⟩, rfl, rfl⟩
theorem autF_ne {n : Net} {mk : List (List Int)} {e : Int} (h : autF n mk = .inl e) : e ≠ 0 := by
 unfold autF at h
 split at h
 ·cases h; assumption
 ·cases hB : bndF n with
  | inl e' =>
   have := bnd_ne hB
   rw [hB, auG] at h
   split at h <;> (cases h; assumption)
  | inr r =>
   obtain ⟨nd, ed⟩ := r
   rw [hB, auG] at h
   split at h
   ·cases h; assumption
   ·split at h
    ·cases h; decide
    ·cases h
def fbR (c : Con) : Sum Int (Aut × List (List Int)) → AV
 | .inl e => .tup [.one (.list []), .one (.int .i64 e)]
 | .inr (_, ms) => .tup [.one (.list (ints (badL c ms ms.length))), .one (.int .i64 0)]
set_option maxHeartbeats 8000000 in
theorem Forbidden_c (n : Net) (c : Con) (hf : n.Fits) (hc : conE n c = 0) (h0 : n.init ≠ []) : ACalls Tryd.prog 14 [.agg n.d, .agg c.d] (fbR c (autF n [])) [] := by
 obtain ⟨q1, q2, q3, q4, q5⟩ := conOk_of hc
 have hno := netOk_of q1
 have hi10 := hno.init
 have hC := conCheck_c n c hf (by omega)
 rw [hc] at hC
 have hA := Automaton_c n [] hf h0 (by decide) (fun m hm => by simp at hm)
 rw [wordsD_nil] at hA
 have hne := fun e => autF_ne (n := n) (mk := []) (e := e)
 have hok := fun a ms => autF_ok (n := n) (mk := []) (a := a) (ms := ms)
 generalize autF n [] = B at *
 cases B with
 | inl e =>
  have hne := hne e rfl
  simp only [Net.d, Con.d, auR, Aut.d] at hC hA
  simp only [fbR]
  (refine ACalls.of_body Ty_ok mixed Tryd.func14 rfl (by kernel_rfl) Tryd.ntmps14 (by simp) (congrArg Array.toList Tryd.results14) ?_)
  simp only [slotsOf, Net.d, Con.d]
  (repeat' (first | (with_reducible first | exact True.intro | refine And.intro ?_ ?_ | refine aBl ?_ | (refine aS 7 [9, 8, 29, 28, 12, 11, 30, 10] ?_; intro K hK)) | ((with_reducible first | refine aGo ?_ | refine rP Ty_ok mixed 11 [1, 3] [.mid [pe 0, ⟨2, 0, true, false, false, [], []⟩, ⟨4, 1, false, false, false, [0], []⟩, ⟨5, 1, false, false, false, [], []⟩] 1] ?_); simp only [go_sem]) | ((with_reducible refine aCd ?_ ?_ (fun hb => ?_) (fun hb => ?_)); (iterate 2 simp only [go_sem]); all_goals (simp only [go_sem] at hb; try simp only [bls] at hb)) | ((iterate 6 try ((fail_if_success with_reducible refine hK _ ?_ ?_ ?_); clear hK K)); with_reducible refine hK _ ?_ ?_ ?_; rotate_left; (focus (simp only [go_sem]; exact rfl)); clear hK K) | ((first | (with_reducible first | refine xA ?_ | refine xD ?_ | refine xO ?_ | refine xR ?_ | refine xG ?_ | refine xH ?_ | refine xM ?_) | ((with_reducible refine gA ?_); refine xA ?_) | ((with_reducible refine gD ?_); refine xD ?_) | ((with_reducible refine gG ?_); refine xG ?_)); simp only [go_sem]) | (with_reducible refine aGs (fun hg0 => ?_) (fun hg0 => ?_) <;> first | (with_reducible first | exact aF1 hg0 | exact aF2 hg0) | (simp only [hg0, go_sem])) | (with_reducible refine aNk ?_; intro bnil hnil; try simp only []) | exact aZ | fail))
  all_goals first | omega | skip
 | inr r =>
  obtain ⟨a, W⟩ := r
  obtain ⟨nd, ed, _, hF, _, _, _, rfl⟩ := hok a W rfl
  obtain ⟨hWl, hWn⟩ := autM_ok hF
  simp only [Net.d, Con.d, auR, Aut.d] at hC hA
  simp only [fbR]
  generalize autM n nd = W at *
  (refine ACalls.of_body Ty_ok mixed Tryd.func14 rfl (by kernel_rfl) Tryd.ntmps14 (by simp) (congrArg Array.toList Tryd.results14) ?_)
  simp only [slotsOf, Net.d, Con.d]
  (repeat' (first | (with_reducible first | exact True.intro | refine And.intro ?_ ?_ | refine aBl ?_ | (refine aS 7 [9, 8, 29, 28, 12, 11, 30, 10] ?_; intro K hK)) | ((with_reducible first | refine aGo ?_ | refine rP Ty_ok mixed 11 [1, 3] [.mid [pe 0, ⟨2, 0, true, false, false, [], []⟩, ⟨4, 1, false, false, false, [0], []⟩, ⟨5, 1, false, false, false, [], []⟩] 1] ?_); simp only [go_sem]) | ((with_reducible refine aCd ?_ ?_ (fun hb => ?_) (fun hb => ?_)); (iterate 2 simp only [go_sem]); all_goals (simp only [go_sem] at hb; try simp only [bls] at hb)) | ((iterate 6 try ((fail_if_success with_reducible refine hK _ ?_ ?_ ?_); clear hK K)); with_reducible refine hK _ ?_ ?_ ?_; rotate_left; (focus (simp only [go_sem]; exact rfl)); clear hK K) | ((first | (with_reducible first | refine xA ?_ | refine xD ?_ | refine xO ?_ | refine xR ?_ | refine xG ?_ | refine xH ?_ | refine xM ?_) | ((with_reducible refine gA ?_); refine xA ?_) | ((with_reducible refine gD ?_); refine xD ?_) | ((with_reducible refine gG ?_); refine xG ?_)); simp only [go_sem]) | (with_reducible refine aGs (fun hg0 => ?_) (fun hg0 => ?_) <;> first | (with_reducible first | exact aF1 hg0 | exact aF2 hg0) | (simp only [hg0, go_sem])) | (with_reducible refine aNk ?_; intro bnil hnil; try simp only []) | exact aZ | fail))
  all_goals first | omega | skip
  refine awp_loop _ (by simp only [go_sem]; rfl) Nat (fun k => k ≤ W.length) (fun k => [(10, .one (.own 4)), (30, .one (.int .i64 k))]) (fun k H => H.set 4 (.row 3 1 (ints (badL c W k)))) (fun k => W.length - k) 0 (by omega) ?_ ?_
  ·have e0 : ints (badL c W 0) = [] := rfl
   rw [e0]
   (simp only [SubF, List.set_cons_succ, List.set_cons_zero, go_sem]; (try simp only [List.set_cons_succ, List.set_cons_zero, go_sem]); repeat' (first | exact True.intro | with_reducible refine And.intro ?_ ?_ | rfl | omega))
  rintro k hk L hL
  have hq : ((k : Nat) : Int).toNat = k := by omega
  have hbl := badL_length c W k
  by_cases hlk : k < W.length
  ·have a1 := words_at (l := W) hlk [.nil]
   have a2 := words_at (l := W) hlk []
   have hs := badL_succ c W k
   obtain ⟨w1, w2⟩ := hWl _ (getD_mem W k [] hlk)
   generalize W.getD k [] = m at *
   have hV := value_c c m (by omega) q3 ⟨fun y hy => by have := w2 y hy; omega⟩ (by omega) (by omega)
   simp only [Con.d] at hV
   (simp only [List.set_cons_succ, List.set_cons_zero, go_sem] at hL ⊢)
   (repeat' (first | (with_reducible first | exact True.intro | refine And.intro ?_ ?_ | refine aBl ?_ | (refine aS 7 [9, 8, 29, 28, 12, 11, 30, 10] ?_; intro K hK)) | ((with_reducible first | refine aGo ?_ | refine rP Ty_ok mixed 11 [1, 3] [.mid [pe 0, ⟨2, 0, true, false, false, [], []⟩, ⟨4, 1, false, false, false, [0], []⟩, ⟨5, 1, false, false, false, [], []⟩] 1] ?_); simp only [hq, a1, a2, go_sem]) | ((with_reducible refine aCd ?_ ?_ (fun hb => ?_) (fun hb => ?_)); (iterate 2 simp only [hq, a1, a2, go_sem]); all_goals (simp only [hq, a1, a2, go_sem] at hb; try simp only [bls] at hb)) | ((iterate 6 try ((fail_if_success with_reducible refine hK _ ?_ ?_ ?_); clear hK K)); with_reducible refine hK _ ?_ ?_ ?_; rotate_left; (focus (simp only [hq, a1, a2, go_sem]; exact rfl)); clear hK K) | ((first | (with_reducible first | refine xA ?_ | refine xD ?_ | refine xO ?_ | refine xR ?_ | refine xG ?_ | refine xH ?_ | refine xM ?_) | ((with_reducible refine gA ?_); refine xA ?_) | ((with_reducible refine gD ?_); refine xD ?_) | ((with_reducible refine gG ?_); refine xG ?_)); simp only [hq, a1, a2, go_sem]) | (with_reducible refine aGs (fun hg0 => ?_) (fun hg0 => ?_) <;> first | (with_reducible first | exact aF1 hg0 | exact aF2 hg0) | (simp only [hg0, hq, a1, a2, go_sem])) | (with_reducible refine aNk ?_; intro bnil hnil; try simp only []) | exact aZ | fail))
   all_goals first | omega | skip
   all_goals
    refine hL _ (k + 1) (by omega) ?_ (by omega)
    first | rw [hs, if_pos (by assumption), ← ints_append] | rw [hs, if_neg (by omega), List.append_nil]
    (simp only [SubF, ints_one, List.set_cons_succ, List.set_cons_zero, go_sem]; (try simp only [ints_one, List.set_cons_succ, List.set_cons_zero, go_sem]); repeat' (first | exact True.intro | with_reducible refine And.intro ?_ ?_ | rfl | omega))
  ·have hkl : k = W.length := by omega
   subst hkl
   (simp only [List.set_cons_succ, List.set_cons_zero, go_sem] at hL ⊢)
   (repeat' (first | (with_reducible first | exact True.intro | refine And.intro ?_ ?_ | refine aBl ?_ | (refine aS 7 [9, 8, 29, 28, 12, 11, 30, 10] ?_; intro K hK)) | ((with_reducible first | refine aGo ?_ | refine rP Ty_ok mixed 11 [1, 3] [.mid [pe 0, ⟨2, 0, true, false, false, [], []⟩, ⟨4, 1, false, false, false, [0], []⟩, ⟨5, 1, false, false, false, [], []⟩] 1] ?_); simp only [go_sem]) | ((with_reducible refine aCd ?_ ?_ (fun hb => ?_) (fun hb => ?_)); (iterate 2 simp only [go_sem]); all_goals (simp only [go_sem] at hb; try simp only [bls] at hb)) | ((iterate 6 try ((fail_if_success with_reducible refine hK _ ?_ ?_ ?_); clear hK K)); with_reducible refine hK _ ?_ ?_ ?_; rotate_left; (focus (simp only [go_sem]; exact rfl)); clear hK K) | (with_reducible refine aGs (fun hg0 => ?_) (fun hg0 => ?_) <;> first | (with_reducible first | exact aF1 hg0 | exact aF2 hg0) | (simp only [hg0, go_sem])) | (with_reducible refine aNk ?_; intro bnil hnil; try simp only []) | exact aZ | fail))
   all_goals first | omega | skip
end Go.Proofs.YtgbhmieaoaojoaaDoor
