/-
 Contracts: monitor.Holds.
-/
import Derived.Test.YtgbhmieaoaojoaaDoorQL
import Derived.Test.YtgbhmieaoaojoaaDoorS9
set_option linter.unusedSimpArgs false
set_option linter.unusedVariables false
namespace Go.Proofs.YtgbhmieaoaojoaaDoor
open Go.Eng Go.RowKit
def hoR (c : Con) : Sum Int (List SN × List Edg) → AV
 | .inl e => .tup [.one (.list []), .one (.bool false), .one (.int .i64 e)]
 | .inr (nodes, _) => match holdF c (nodes.map SN.m) with
  | none => .tup [.one (.list []), .one (.bool true), .one (.int .i64 0)]
  | some m => .tup [.one (.list (ints m)), .one (.bool false), .one (.int .i64 0)]
theorem holdF_cons (c : Con) (m : List Int) (l : List (List Int)) : holdF c (m :: l) = if c.bound < dot c.fac m then some m else holdF c l := by
 rw [holdF, List.find?_cons]
 by_cases h : c.bound < dot c.fac m
 ·rw [if_pos h]; simp [h]
 ·rw [if_neg h]; simp [h]; rfl
set_option maxHeartbeats 8000000 in
theorem Holds_c (n : Net) (c : Con) (hf : n.Fits) (hc : conE n c = 0) (h0 : n.init ≠ []) : ACalls Tryd.prog 9 [.agg n.d, .agg c.d] (hoR c (bndF n)) [] := by
 obtain ⟨q1, q2, q3, q4, q5⟩ := conOk_of hc
 have hno := netOk_of q1
 have hi10 := hno.init
 have hC := conCheck_c n c hf (by omega)
 rw [hc] at hC
 have hG := Graph_c n hf h0 (graph_len (by omega))
 have hne := fun e => bnd_ne (n := n) (e := e)
 have hok := fun nd ed => bnd_ok (n := n) (nd := nd) (ed := ed)
 generalize bndF n = B at *
 cases B with
 | inl e =>
  have hne := hne e rfl
  simp only [Net.d, Con.d, grR] at hC hG
  simp only [hoR]
  (refine ACalls.of_body Ty_ok mixed Tryd.func9 rfl (by kernel_rfl) Tryd.ntmps9 (by simp) (congrArg Array.toList Tryd.results9) ?_)
  simp only [slotsOf, Net.d, Con.d]
  (repeat' (first | (with_reducible first | exact True.intro | refine And.intro ?_ ?_ | refine aBl ?_ | (refine aS 8 [9, 28, 27, 11, 29] ?_; intro K hK)) | ((with_reducible first | refine aGo ?_ | refine rP Ty_ok mixed 10 [1, 3] [.mid [pe 0, ⟨2, 0, true, false, false, [], []⟩, ⟨4, 1, false, false, false, [0], []⟩, ⟨5, 1, false, false, false, [], []⟩] 1] ?_); simp only [go_sem]) | ((with_reducible refine aCd ?_ ?_ (fun hb => ?_) (fun hb => ?_)); (iterate 2 simp only [go_sem]); all_goals (simp only [go_sem] at hb; try simp only [bls] at hb)) | ((iterate 6 try ((fail_if_success with_reducible refine hK _ ?_ ?_ ?_); clear hK K)); with_reducible refine hK _ ?_ ?_ ?_; rotate_left; (focus (simp only [go_sem]; exact rfl)); clear hK K) | ((first | (with_reducible first | refine xA ?_ | refine xD ?_ | refine xO ?_ | refine xR ?_ | refine xG ?_ | refine xH ?_ | refine xM ?_) | ((with_reducible refine gA ?_); refine xA ?_) | ((with_reducible refine gD ?_); refine xD ?_) | ((with_reducible refine gG ?_); refine xG ?_)); simp only [go_sem]) | (with_reducible refine aGs (fun hg0 => ?_) (fun hg0 => ?_) <;> first | (with_reducible first | exact aF1 hg0 | exact aF2 hg0) | (simp only [hg0, go_sem])) | (with_reducible refine aNk ?_; intro bnil hnil; try simp only []) | exact aZ | fail))
  all_goals first | omega | skip
 | inr r =>
  obtain ⟨nd, ed⟩ := r
  obtain ⟨hn, hN, hl⟩ := hok nd ed rfl
  have hWl : ∀ m ∈ nd.map SN.m, m.length = n.init.length ∧ ∀ y ∈ m, 0 ≤ y ∧ y ≤ 65536 := fun m hm => by
   obtain ⟨x, hx, rfl⟩ := List.mem_map.1 hm
   exact ⟨hN.len x hx, hN.tok x hx⟩
  have hWn : (nd.map SN.m).length = nd.length := by simp
  simp only [Net.d, Con.d, grR] at hC hG
  simp only [hoR]
  generalize nd.map SN.m = W at *
  generalize hR : (match holdF c W with
   | none => AV.tup [.one (.list []), .one (.bool true), .one (.int .i64 0)]
   | some m => .tup [.one (.list (ints m)), .one (.bool false), .one (.int .i64 0)]) = R
  (refine ACalls.of_body Ty_ok mixed Tryd.func9 rfl (by kernel_rfl) Tryd.ntmps9 (by simp) (congrArg Array.toList Tryd.results9) ?_)
  simp only [slotsOf, Net.d, Con.d]
  (repeat' (first | (with_reducible first | exact True.intro | refine And.intro ?_ ?_ | refine aBl ?_ | (refine aS 8 [9, 28, 27, 11, 29] ?_; intro K hK)) | ((with_reducible first | refine aGo ?_ | refine rP Ty_ok mixed 10 [1, 3] [.mid [pe 0, ⟨2, 0, true, false, false, [], []⟩, ⟨4, 1, false, false, false, [0], []⟩, ⟨5, 1, false, false, false, [], []⟩] 1] ?_); simp only [go_sem]) | ((with_reducible refine aCd ?_ ?_ (fun hb => ?_) (fun hb => ?_)); (iterate 2 simp only [go_sem]); all_goals (simp only [go_sem] at hb; try simp only [bls] at hb)) | ((iterate 6 try ((fail_if_success with_reducible refine hK _ ?_ ?_ ?_); clear hK K)); with_reducible refine hK _ ?_ ?_ ?_; rotate_left; (focus (simp only [go_sem]; exact rfl)); clear hK K) | ((first | (with_reducible first | refine xA ?_ | refine xD ?_ | refine xO ?_ | refine xR ?_ | refine xG ?_ | refine xH ?_ | refine xM ?_) | ((with_reducible refine gA ?_); refine xA ?_) | ((with_reducible refine gD ?_); refine xD ?_) | ((with_reducible refine gG ?_); refine xG ?_)); simp only [go_sem]) | (with_reducible refine aGs (fun hg0 => ?_) (fun hg0 => ?_) <;> first | (with_reducible first | exact aF1 hg0 | exact aF2 hg0) | (simp only [hg0, go_sem])) | (with_reducible refine aNk ?_; intro bnil hnil; try simp only []) | exact aZ | fail))
  all_goals first | omega | skip
  refine awp_loop _ (by simp only [go_sem]; rfl) Nat (fun k => k ≤ W.length ∧ holdF c W = holdF c (W.drop k)) (fun k => [(29, .one (.int .i64 k))]) (fun _ H => H) (fun k => W.length - k) 0 ⟨by omega, by rw [List.drop_zero]⟩ ?_ ?_
  ·(simp only [SubF, go_sem]; (try simp only [go_sem]); repeat' (first | exact True.intro | with_reducible refine And.intro ?_ ?_ | rfl | omega))
  rintro k ⟨hk, hd⟩ L hL
  have hq : ((k : Nat) : Int).toNat = k := by omega
  by_cases hlk : k < W.length
  ·have a1 := words_at (l := W) hlk [.nil]
   have a2 := words_at (l := W) hlk []
   rw [drop_getD W k [] hlk, holdF_cons] at hd
   obtain ⟨w1, w2⟩ := hWl _ (getD_mem W k [] hlk)
   generalize W.getD k [] = m at *
   have hV := value_c c m (by omega) q3 ⟨fun y hy => by have := w2 y hy; omega⟩ (by omega) (by omega)
   have hCl := ACalls.frozen (CloneInts_c m (by omega))
   simp only [Con.d] at hV
   by_cases hz : c.bound < dot c.fac m
   ·rw [if_pos hz] at hd
    rw [hd] at hR
    simp only at hR
    subst hR
    (simp only [go_sem] at hL ⊢)
    (repeat' (first | (with_reducible first | exact True.intro | refine And.intro ?_ ?_ | refine aBl ?_ | (refine aS 8 [9, 28, 27, 11, 29] ?_; intro K hK)) | ((with_reducible first | refine aGo ?_ | refine rP Ty_ok mixed 10 [1, 3] [.mid [pe 0, ⟨2, 0, true, false, false, [], []⟩, ⟨4, 1, false, false, false, [0], []⟩, ⟨5, 1, false, false, false, [], []⟩] 1] ?_); simp only [hq, a1, a2, go_sem]) | ((with_reducible refine aCd ?_ ?_ (fun hb => ?_) (fun hb => ?_)); (iterate 2 simp only [hq, a1, a2, go_sem]); all_goals (simp only [hq, a1, a2, go_sem] at hb; try simp only [bls] at hb)) | ((iterate 6 try ((fail_if_success with_reducible refine hK _ ?_ ?_ ?_); clear hK K)); with_reducible refine hK _ ?_ ?_ ?_; rotate_left; (focus (simp only [hq, a1, a2, go_sem]; exact rfl)); clear hK K) | ((first | (with_reducible first | refine xA ?_ | refine xD ?_ | refine xO ?_ | refine xR ?_ | refine xG ?_ | refine xH ?_ | refine xM ?_) | ((with_reducible refine gA ?_); refine xA ?_) | ((with_reducible refine gD ?_); refine xD ?_) | ((with_reducible refine gG ?_); refine xG ?_)); simp only [hq, a1, a2, go_sem]) | (with_reducible refine aGs (fun hg0 => ?_) (fun hg0 => ?_) <;> first | (with_reducible first | exact aF1 hg0 | exact aF2 hg0) | (simp only [hg0, hq, a1, a2, go_sem])) | (with_reducible refine aNk ?_; intro bnil hnil; try simp only []) | exact aZ | fail))
    all_goals first | omega | skip
   ·rw [if_neg hz] at hd
    (simp only [go_sem] at hL ⊢)
    (repeat' (first | (with_reducible first | exact True.intro | refine And.intro ?_ ?_ | refine aBl ?_ | (refine aS 8 [9, 28, 27, 11, 29] ?_; intro K hK)) | ((with_reducible first | refine aGo ?_ | refine rP Ty_ok mixed 10 [1, 3] [.mid [pe 0, ⟨2, 0, true, false, false, [], []⟩, ⟨4, 1, false, false, false, [0], []⟩, ⟨5, 1, false, false, false, [], []⟩] 1] ?_); simp only [hq, a1, a2, go_sem]) | ((with_reducible refine aCd ?_ ?_ (fun hb => ?_) (fun hb => ?_)); (iterate 2 simp only [hq, a1, a2, go_sem]); all_goals (simp only [hq, a1, a2, go_sem] at hb; try simp only [bls] at hb)) | ((iterate 6 try ((fail_if_success with_reducible refine hK _ ?_ ?_ ?_); clear hK K)); with_reducible refine hK _ ?_ ?_ ?_; rotate_left; (focus (simp only [hq, a1, a2, go_sem]; exact rfl)); clear hK K) | ((first | (with_reducible first | refine xA ?_ | refine xD ?_ | refine xO ?_ | refine xR ?_ | refine xG ?_ | refine xH ?_ | refine xM ?_) | ((with_reducible refine gA ?_); refine xA ?_) | ((with_reducible refine gD ?_); refine xD ?_) | ((with_reducible refine gG ?_); refine xG ?_)); simp only [hq, a1, a2, go_sem]) | (with_reducible refine aGs (fun hg0 => ?_) (fun hg0 => ?_) <;> first | (with_reducible first | exact aF1 hg0 | exact aF2 hg0) | (simp only [hg0, hq, a1, a2, go_sem])) | (with_reducible refine aNk ?_; intro bnil hnil; try simp only []) | exact aZ | fail))
    all_goals first | omega | skip
    exact hL _ (k + 1) ⟨by omega, hd⟩ (by (simp only [SubF, go_sem]; (try simp only [go_sem]); repeat' (first | exact True.intro | with_reducible refine And.intro ?_ ?_ | rfl | omega))) (by omega)
  ·have hkl : k = W.length := by omega
   subst hkl
   rw [List.drop_length] at hd
   rw [hd, holdF] at hR
   simp only [List.find?_nil] at hR
   subst hR
   (simp only [go_sem] at hL ⊢)
   (repeat' (first | (with_reducible first | exact True.intro | refine And.intro ?_ ?_ | refine aBl ?_ | (refine aS 8 [9, 28, 27, 11, 29] ?_; intro K hK)) | ((with_reducible first | refine aGo ?_ | refine rP Ty_ok mixed 10 [1, 3] [.mid [pe 0, ⟨2, 0, true, false, false, [], []⟩, ⟨4, 1, false, false, false, [0], []⟩, ⟨5, 1, false, false, false, [], []⟩] 1] ?_); simp only [go_sem]) | ((with_reducible refine aCd ?_ ?_ (fun hb => ?_) (fun hb => ?_)); (iterate 2 simp only [go_sem]); all_goals (simp only [go_sem] at hb; try simp only [bls] at hb)) | ((iterate 6 try ((fail_if_success with_reducible refine hK _ ?_ ?_ ?_); clear hK K)); with_reducible refine hK _ ?_ ?_ ?_; rotate_left; (focus (simp only [go_sem]; exact rfl)); clear hK K) | (with_reducible refine aGs (fun hg0 => ?_) (fun hg0 => ?_) <;> first | (with_reducible first | exact aF1 hg0 | exact aF2 hg0) | (simp only [hg0, go_sem])) | (with_reducible refine aNk ?_; intro bnil hnil; try simp only []) | exact aZ | fail))
   all_goals first | omega | skip
end Go.Proofs.YtgbhmieaoaojoaaDoor
