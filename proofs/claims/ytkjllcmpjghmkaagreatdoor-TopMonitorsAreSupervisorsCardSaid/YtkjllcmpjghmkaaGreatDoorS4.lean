/-
 Contracts: bounded, Graph.
-/
import Derived.Test.YtkjllcmpjghmkaaGreatDoorS3
set_option linter.unusedSimpArgs false
set_option linter.unusedVariables false
namespace Go.Proofs.YtkjllcmpjghmkaaGreatDoor
open Go.Eng Go.RowKit
def z0v (l : List (List Int)) : List (List D) := l.map fun m => [.list (ints m)]
theorem z5e (l : List (List Int)) : (z0v l).length = l.length := by simp [z0v]
theorem zgq (l : List (List Int)) : (∀ r : List D, r ∈ z0v l → r.length = 1) ↔ True := ⟨fun _ => trivial, fun _ r hr => by obtain ⟨e, _, rfl⟩ := List.mem_map.1 hr; rfl⟩
theorem z9p (xs ys : List (List Int)) : z0v xs ++ z0v ys = z0v (xs ++ ys) := by simp [z0v]
theorem z1d {l : List (List Int)} {k : Nat} (hk : k < l.length) (z : List D) : (z0v l).getD k z = [.list (ints (l.getD k []))] := by
 simp only [z0v, List.getD, List.getElem?_map, List.getElem?_eq_getElem hk]; rfl
attribute [go_sem] z5e zgq
def bndF (n : Net) : Sum Int (List SN × List Edg) :=
 if netE n ≠ 0 then .inl (netE n) else match z0w n 4096 with
 | .err e => .inl e
 | .pump _ _ _ => .inl 23
 | .cont nodes edges => .inr (nodes, edges)
def bndR : Sum Int (List SN × List Edg) → AV
 | .inl e => .tup [.one (.raw (.pointer none)), .one (.int .i64 e)]
 | .inr (nodes, edges) => .tup [.one (.ref [.list (snsD nodes), .list (edgsD edges), .unk, .int .i64 (-1)]), .one (.int .i64 0)]
theorem z6A (n : Net) (lim : Nat) : ∀ (f i : Nat) (nodes : List SN) (edges : List Edg), (∀ e, z0x n lim f i nodes edges = .err e → e = 3) ∧ ∀ nd ed p, z0x n lim f i nodes edges = .pump nd ed p → 0 ≤ p := by
 have inner : ∀ (i : Nat) (ts : List Int) (nodes : List SN) (edges : List Edg), (∀ e, z0t n lim i ts nodes edges = .err e → e = 3) ∧ ∀ nd ed p, z0t n lim i ts nodes edges = .pump nd ed p → 0 ≤ p := by
  intro i ts
  induction ts with
  | nil => intro nodes edges; exact ⟨fun e h => (nomatch h), fun nd ed p h => (nomatch h)⟩
  | cons t ts ih =>
   intro nodes edges
   have hs : (∀ e, stepF n lim i t nodes edges = .err e → e = 3) ∧ ∀ nd ed p, stepF n lim i t nodes edges = .pump nd ed p → 0 ≤ p := by
    unfold stepF
    simp only
    split
    ·exact ⟨fun e h => (by cases h; rfl), fun nd ed p h => (nomatch h)⟩
    ·split
     ·exact ⟨fun e h => (nomatch h), fun nd ed p h => (nomatch h)⟩
     ·split
      ·rename_i hp
       exact ⟨fun e h => (nomatch h), fun nd ed p h => by cases h; exact hp⟩
      ·split
       ·exact ⟨fun e h => (by cases h; rfl), fun nd ed p h => (nomatch h)⟩
       ·exact ⟨fun e h => (nomatch h), fun nd ed p h => (nomatch h)⟩
   simp only [z0t]
   cases hst : stepF n lim i t nodes edges with
   | err e => exact ⟨fun e' h => (by cases h; exact hs.1 _ hst), fun nd ed p h => (nomatch h)⟩
   | pump nd ed p => exact ⟨fun e h => (nomatch h), fun nd' ed' p' h => by cases h; exact hs.2 _ _ _ hst⟩
   | cont nd ed => exact ih nd ed
 intro f
 induction f with
 | zero => intro i nodes edges; exact ⟨fun e h => (by cases h; rfl), fun nd ed p h => (nomatch h)⟩
 | succ f ih =>
  intro i nodes edges
  simp only [z0x]
  split
  ·have := inner i (ableL n (nodes.getD i SN.no).m n.trs.length) nodes edges
   cases hst : z0t n lim i (ableL n (nodes.getD i SN.no).m n.trs.length) nodes edges with
   | err e => exact ⟨fun e' h => (by cases h; exact this.1 _ hst), fun nd ed p h => (nomatch h)⟩
   | pump nd ed p => exact ⟨fun e h => (nomatch h), fun nd' ed' p' h => by cases h; exact this.2 _ _ _ hst⟩
   | cont nd ed => exact ih (i + 1) nd ed
  ·exact ⟨fun e h => (nomatch h), fun nd ed p h => (nomatch h)⟩
set_option maxHeartbeats 8000000 in
theorem z7d (n : Net) (hf : n.Fits) (h0 : n.init ≠ []) : ACalls Tryz.prog 29 [.agg n.d] (bndR (bndF n)) [] := by
 have h1 := z2s n hf
 by_cases hE : netE n = 0
 ·have h2 := z7Q n (z0K hE) h0
  have hO := z6A n 4096 4098 0 [⟨n.init, -1, -1⟩] []
  rw [hE] at h1
  have hB : bndF n = match z0w n 4096 with
   | .err e => .inl e
   | .pump _ _ _ => .inl 23
   | .cont nodes edges => .inr (nodes, edges) := by rw [bndF, if_neg (by omega)]
  rw [show z0x n 4096 4098 0 [⟨n.init, -1, -1⟩] [] = z0w n 4096 from rfl] at hO
  rw [hB]
  generalize z0w n 4096 = S at *
  cases S with
  | err e =>
   have he := hO.1 e rfl
   simp only [Net.d, soRes] at h1 h2
   simp only [bndR]
   (refine ACalls.of_body Ty_ok mixed Tryz.func29 rfl (by kernel_rfl) Tryz.ntmps29 (by simp) (congrArg Array.toList Tryz.results29) ?_)
   simp only [z00, Net.d]
   (repeat' (first | (with_reducible (refine aS 7 [] ?_; intro K hK)) | ((with_reducible refine aGo ?_); simp only [go_sem]) | ((with_reducible refine aCd ?_ ?_ (fun hb => ?_) (fun hb => ?_)); (iterate 2 simp only [go_sem]); all_goals (simp only [go_sem] at hb; try simp only [bls] at hb)) | ((iterate 6 try ((fail_if_success with_reducible refine hK _ ?_ ?_ ?_); clear hK K)); with_reducible refine hK _ ?_ ?_ ?_; rotate_left; (focus (simp only [go_sem]; exact rfl)); clear hK K) | ((with_reducible refine xA ?_); simp only [go_sem]) | exact aZ | fail))
   all_goals first | omega | skip
  | pump nd ed p =>
   have hp := hO.2 nd ed p rfl
   simp only [Net.d, soRes] at h1 h2
   simp only [bndR]
   (refine ACalls.of_body Ty_ok mixed Tryz.func29 rfl (by kernel_rfl) Tryz.ntmps29 (by simp) (congrArg Array.toList Tryz.results29) ?_)
   simp only [z00, Net.d]
   (repeat' (first | (with_reducible (refine aS 7 [] ?_; intro K hK)) | ((with_reducible refine aGo ?_); simp only [go_sem]) | ((with_reducible refine aCd ?_ ?_ (fun hb => ?_) (fun hb => ?_)); (iterate 2 simp only [go_sem]); all_goals (simp only [go_sem] at hb; try simp only [bls] at hb)) | ((iterate 6 try ((fail_if_success with_reducible refine hK _ ?_ ?_ ?_); clear hK K)); with_reducible refine hK _ ?_ ?_ ?_; rotate_left; (focus (simp only [go_sem]; exact rfl)); clear hK K) | ((with_reducible refine xA ?_); simp only [go_sem]) | exact aZ | fail))
   all_goals first | omega | skip
  | cont nd ed =>
   simp only [Net.d, soRes] at h1 h2
   simp only [bndR]
   (refine ACalls.of_body Ty_ok mixed Tryz.func29 rfl (by kernel_rfl) Tryz.ntmps29 (by simp) (congrArg Array.toList Tryz.results29) ?_)
   simp only [z00, Net.d]
   (repeat' (first | (with_reducible (refine aS 7 [] ?_; intro K hK)) | ((with_reducible refine aGo ?_); simp only [go_sem]) | ((with_reducible refine aCd ?_ ?_ (fun hb => ?_) (fun hb => ?_)); (iterate 2 simp only [go_sem]); all_goals (simp only [go_sem] at hb; try simp only [bls] at hb)) | ((iterate 6 try ((fail_if_success with_reducible refine hK _ ?_ ?_ ?_); clear hK K)); with_reducible refine hK _ ?_ ?_ ?_; rotate_left; (focus (simp only [go_sem]; exact rfl)); clear hK K) | ((with_reducible refine xA ?_); simp only [go_sem]) | fail))
   all_goals first | omega | skip
 ·have hB : bndF n = .inl (netE n) := by rw [bndF, if_pos hE]
  rw [hB]
  simp only [Net.d] at h1
  simp only [bndR]
  (refine ACalls.of_body Ty_ok mixed Tryz.func29 rfl (by kernel_rfl) Tryz.ntmps29 (by simp) (congrArg Array.toList Tryz.results29) ?_)
  simp only [z00, Net.d]
  (repeat' (first | (with_reducible (refine aS 7 [] ?_; intro K hK)) | ((with_reducible refine aGo ?_); simp only [go_sem]) | ((with_reducible refine aCd ?_ ?_ (fun hb => ?_) (fun hb => ?_)); (iterate 2 simp only [go_sem]); all_goals (simp only [go_sem] at hb; try simp only [bls] at hb)) | ((iterate 6 try ((fail_if_success with_reducible refine hK _ ?_ ?_ ?_); clear hK K)); with_reducible refine hK _ ?_ ?_ ?_; rotate_left; (focus (simp only [go_sem]; exact rfl)); clear hK K) | ((with_reducible refine xA ?_); simp only [go_sem]) | exact aZ | fail))
  all_goals first | omega | skip
theorem zaH {n : Net} {e : Int} (h : bndF n = .inl e) : e ≠ 0 := by
 unfold bndF at h
 split at h
 ·cases h; assumption
 ·have hO := z6A n 4096 4098 0 [⟨n.init, -1, -1⟩] []
  rw [show z0x n 4096 4098 0 [⟨n.init, -1, -1⟩] [] = z0w n 4096 from rfl] at hO
  cases hS : z0w n 4096 with
  | err e' => rw [hS] at h; cases h; rw [hO.1 _ hS]; decide
  | pump nd ed p => rw [hS] at h; cases h; decide
  | cont nd ed => rw [hS] at h; cases h
theorem z7H (l : List (List Int)) (m : List Int) : z0v (l ++ [m]) = z0v l ++ [[.list (ints m)]] := by rw [← z9p]; rfl
def grR : Sum Int (List SN × List Edg) → AV
 | .inl e => .tup [.one (.list []), .one (.list []), .one (.int .i64 e)]
 | .inr (nodes, edges) => .tup [.one (.list (edgsD edges)), .one (.list (z0v (nodes.map SN.m))), .one (.int .i64 0)]
set_option maxHeartbeats 8000000 in
theorem zji (n : Net) (hf : n.Fits) (h0 : n.init ≠ []) (hlen : ∀ nd ed, bndF n = .inr (nd, ed) → nd.length ≤ 4096 ∧ ∀ x ∈ nd, x.m.length ≤ 1000) : ACalls Tryz.prog 17 [.agg n.d] (grR (bndF n)) [] := by
 have h1 := z7d n hf h0
 have hne := fun e => zaH (n := n) (e := e)
 generalize bndF n = B at *
 cases B with
 | inl e =>
  have hne := hne e rfl
  simp only [Net.d, bndR] at h1
  simp only [grR]
  (refine ACalls.of_body Ty_ok mixed Tryz.func17 rfl (by kernel_rfl) Tryz.ntmps17 (by simp) (congrArg Array.toList Tryz.results17) ?_)
  simp only [z00, Net.d]
  (repeat' (first | (with_reducible (refine aS 8 [20, 19, 21] ?_; intro K hK)) | ((with_reducible refine aGo ?_); simp only [go_sem]) | ((with_reducible refine aCd ?_ ?_ (fun hb => ?_) (fun hb => ?_)); (iterate 2 simp only [go_sem]); all_goals (simp only [go_sem] at hb; try simp only [bls] at hb)) | ((iterate 6 try ((fail_if_success with_reducible refine hK _ ?_ ?_ ?_); clear hK K)); with_reducible refine hK _ ?_ ?_ ?_; rotate_left; (focus (simp only [go_sem]; exact rfl)); clear hK K) | ((with_reducible refine xA ?_); simp only [go_sem]) | exact aZ | fail))
  all_goals first | omega | skip
 | inr r =>
  obtain ⟨nd, ed⟩ := r
  obtain ⟨hl, hm⟩ := hlen nd ed rfl
  simp only [Net.d, bndR] at h1
  simp only [grR]
  (refine ACalls.of_body Ty_ok mixed Tryz.func17 rfl (by kernel_rfl) Tryz.ntmps17 (by simp) (congrArg Array.toList Tryz.results17) ?_)
  simp only [z00, Net.d]
  (repeat' (first | (with_reducible first | refine aBl ?_ | (refine aS 8 [20, 19, 21] ?_; intro K hK)) | ((with_reducible refine aGo ?_); simp only [go_sem]) | ((with_reducible refine aCd ?_ ?_ (fun hb => ?_) (fun hb => ?_)); (iterate 2 simp only [go_sem]); all_goals (simp only [go_sem] at hb; try simp only [bls] at hb)) | ((iterate 6 try ((fail_if_success with_reducible refine hK _ ?_ ?_ ?_); clear hK K)); with_reducible refine hK _ ?_ ?_ ?_; rotate_left; (focus (simp only [go_sem]; exact rfl)); clear hK K) | ((with_reducible refine xA ?_); simp only [go_sem]) | fail))
  all_goals first | omega | skip
  refine z02 _ (by simp only [go_sem]; rfl) Nat (fun k => k ≤ nd.length) (fun k => [(3, .one (.own 2)), (21, .one (.int .i64 k))]) (fun k H => H.set 2 (.row 29 1 (z0v ((nd.take k).map SN.m)))) (fun k => nd.length - k) 0 (by omega) ?_ ?_
  ·have e0 : z0v ((nd.take 0).map SN.m) = [] := rfl
   rw [e0]
   (simp only [SubF, List.set_cons_succ, List.set_cons_zero, go_sem]; (try simp only [List.set_cons_succ, List.set_cons_zero, go_sem]); repeat' (first | exact True.intro | with_reducible refine And.intro ?_ ?_ | rfl | omega))
  rintro k hk L hL
  have hq : ((k : Nat) : Int).toNat = k := by omega
  have hwl : (z0v ((nd.take k).map SN.m)).length = k := by rw [z5e, List.length_map, List.length_take]; omega
  by_cases hlk : k < nd.length
  ·have a1 := z1X (l := nd) hlk [.nil, .int .i64 0, .int .i64 0]
   have a2 := z1X (l := nd) hlk []
   have e1 : (nd.take (k + 1)).map SN.m = (nd.take k).map SN.m ++ [(nd.getD k SN.no).m] := by rw [z07 nd k SN.no hlk, List.map_append]; rfl
   (simp only [List.set_cons_succ, List.set_cons_zero, go_sem] at hL ⊢)
   (repeat' (first | (with_reducible first | refine And.intro ?_ ?_ | refine aBl ?_ | (refine aS 8 [20, 19, 21] ?_; intro K hK)) | ((with_reducible refine aGo ?_); simp only [hq, a1, a2, hwl, go_sem]) | ((with_reducible refine aCd ?_ ?_ (fun hb => ?_) (fun hb => ?_)); (iterate 2 simp only [hq, a1, a2, hwl, go_sem]); all_goals (simp only [hq, a1, a2, hwl, go_sem] at hb; try simp only [bls] at hb)) | ((iterate 6 try ((fail_if_success with_reducible refine hK _ ?_ ?_ ?_); clear hK K)); with_reducible refine hK _ ?_ ?_ ?_; rotate_left; (focus (simp only [hq, a1, a2, hwl, go_sem]; exact rfl)); clear hK K) | exact aZ | fail))
   all_goals first | omega | skip
   refine hL _ (k + 1) (by omega) ?_ (by omega)
   rw [e1, z7H]
   (simp only [SubF, List.set_cons_succ, List.set_cons_zero, go_sem]; (try simp only [List.set_cons_succ, List.set_cons_zero, go_sem]); repeat' (first | exact True.intro | with_reducible refine And.intro ?_ ?_ | rfl | omega))
  ·have hkl : k = nd.length := by omega
   subst hkl
   rw [List.take_length]
   (simp only [List.set_cons_succ, List.set_cons_zero, go_sem] at hL ⊢)
   (repeat' (first | (with_reducible first | refine And.intro ?_ ?_ | refine aBl ?_ | (refine aS 8 [20, 19, 21] ?_; intro K hK)) | ((with_reducible refine aGo ?_); simp only [go_sem]) | ((with_reducible refine aCd ?_ ?_ (fun hb => ?_) (fun hb => ?_)); (iterate 2 simp only [go_sem]); all_goals (simp only [go_sem] at hb; try simp only [bls] at hb)) | ((iterate 6 try ((fail_if_success with_reducible refine hK _ ?_ ?_ ?_); clear hK K)); with_reducible refine hK _ ?_ ?_ ?_; rotate_left; (focus (simp only [go_sem]; exact rfl)); clear hK K) | exact aZ | fail))
   all_goals first | omega | rfl | skip
end Go.Proofs.YtkjllcmpjghmkaaGreatDoor
