/-
 Contracts: bounded, Graph.
-/
import Derived.Test.YtljpfdehnjemlaaDoorS3
set_option linter.unusedSimpArgs false
set_option linter.unusedVariables false
namespace Go.Proofs.YtljpfdehnjemlaaDoor
open Go.Eng Go.RowKit
def wordsD (l : List (List Int)) : List (List D) := l.map fun m => [.list (ints m)]
theorem words_length (l : List (List Int)) : (wordsD l).length = l.length := by simp [wordsD]
theorem words_sz (l : List (List Int)) : (∀ r : List D, r ∈ wordsD l → r.length = 1) ↔ True := ⟨fun _ => trivial, fun _ r hr => by obtain ⟨e, _, rfl⟩ := List.mem_map.1 hr; rfl⟩
theorem words_append (xs ys : List (List Int)) : wordsD xs ++ wordsD ys = wordsD (xs ++ ys) := by simp [wordsD]
theorem words_at {l : List (List Int)} {k : Nat} (hk : k < l.length) (z : List D) : (wordsD l).getD k z = [.list (ints (l.getD k []))] := by
 simp only [wordsD, List.getD, List.getElem?_map, List.getElem?_eq_getElem hk]; rfl
attribute [go_sem] words_length words_sz
def bndF (n : Net) : Sum Int (List SN × List Edg) :=
 if netE n ≠ 0 then .inl (netE n) else match searchF n 4096 with
 | .err e => .inl e
 | .pump _ _ _ => .inl 23
 | .cont nodes edges => .inr (nodes, edges)
def bndR : Sum Int (List SN × List Edg) → AV
 | .inl e => .tup [.one (.raw (.pointer none)), .one (.int .i64 e)]
 | .inr (nodes, edges) => .tup [.one (.ref [.list (snsD nodes), .list (edgsD edges), .unk, .int .i64 (-1)]), .one (.int .i64 0)]
theorem outer_err (n : Net) (lim : Nat) : ∀ (f i : Nat) (nodes : List SN) (edges : List Edg), (∀ e, outerF n lim f i nodes edges = .err e → e = 3) ∧ ∀ nd ed p, outerF n lim f i nodes edges = .pump nd ed p → 0 ≤ p := by
 have inner : ∀ (i : Nat) (ts : List Int) (nodes : List SN) (edges : List Edg), (∀ e, innerF n lim i ts nodes edges = .err e → e = 3) ∧ ∀ nd ed p, innerF n lim i ts nodes edges = .pump nd ed p → 0 ≤ p := by
  intro i ts
  induction ts with
  | nil => intro nodes edges; exact ⟨fun e h => (nomatch h), fun nd ed p h => (nomatch h)⟩
  | cons t ts ih =>
   intro nodes edges
   have hs : (∀ e, stepF n lim i t nodes edges = .err e → e = 3) ∧ ∀ nd ed p, stepF n lim i t nodes edges = .pump nd ed p → 0 ≤ p := by
    unfold stepF
    simp only
    split
    ·exact ⟨fun e h => (by cases h; rfl), fun nd ed p h => (nomatch h)⟩
    ·split
     ·exact ⟨fun e h => (nomatch h), fun nd ed p h => (nomatch h)⟩
     ·split
      ·rename_i hp
       exact ⟨fun e h => (nomatch h), fun nd ed p h => by cases h; exact hp⟩
      ·split
       ·exact ⟨fun e h => (by cases h; rfl), fun nd ed p h => (nomatch h)⟩
       ·exact ⟨fun e h => (nomatch h), fun nd ed p h => (nomatch h)⟩
   simp only [innerF]
   cases hst : stepF n lim i t nodes edges with
   | err e => exact ⟨fun e' h => (by cases h; exact hs.1 _ hst), fun nd ed p h => (nomatch h)⟩
   | pump nd ed p => exact ⟨fun e h => (nomatch h), fun nd' ed' p' h => by cases h; exact hs.2 _ _ _ hst⟩
   | cont nd ed => exact ih nd ed
 intro f
 induction f with
 | zero => intro i nodes edges; exact ⟨fun e h => (by cases h; rfl), fun nd ed p h => (nomatch h)⟩
 | succ f ih =>
  intro i nodes edges
  simp only [outerF]
  split
  ·have := inner i (ableL n (nodes.getD i SN.no).m n.trs.length) nodes edges
   cases hst : innerF n lim i (ableL n (nodes.getD i SN.no).m n.trs.length) nodes edges with
   | err e => exact ⟨fun e' h => (by cases h; exact this.1 _ hst), fun nd ed p h => (nomatch h)⟩
   | pump nd ed p => exact ⟨fun e h => (nomatch h), fun nd' ed' p' h => by cases h; exact this.2 _ _ _ hst⟩
   | cont nd ed => exact ih (i + 1) nd ed
  ·exact ⟨fun e h => (nomatch h), fun nd ed p h => (nomatch h)⟩
set_option maxHeartbeats 8000000 in
theorem bounded_c (n : Net) (hf : n.Fits) (h0 : n.init ≠ []) : ACalls Tryd.prog 14 [.agg n.d] (bndR (bndF n)) [] := by
 have h1 := netCheck_c n hf
 by_cases hE : netE n = 0
 ·have h2 := searched_c n (netOk_of hE) h0
  have hO := outer_err n 4096 4098 0 [⟨n.init, -1, -1⟩] []
  rw [hE] at h1
  have hB : bndF n = match searchF n 4096 with
   | .err e => .inl e
   | .pump _ _ _ => .inl 23
   | .cont nodes edges => .inr (nodes, edges) := by rw [bndF, if_neg (by omega)]
  rw [show outerF n 4096 4098 0 [⟨n.init, -1, -1⟩] [] = searchF n 4096 from rfl] at hO
  rw [hB]
  generalize searchF n 4096 = S at *
  cases S with
  | err e =>
   have he := hO.1 e rfl
   simp only [Net.d, soRes] at h1 h2
   simp only [bndR]
   (refine ACalls.of_body Ty_ok mixed Tryd.func14 rfl (by kernel_rfl) Tryd.ntmps14 (by simp) (congrArg Array.toList Tryd.results14) ?_)
   simp only [slotsOf, Net.d]
   (repeat' (first | (with_reducible first | exact True.intro | refine And.intro ?_ ?_ | refine aBl ?_ | (refine aS 7 [] ?_; intro K hK)) | ((with_reducible first | refine aGo ?_); simp only [go_sem]) | ((with_reducible refine aCd ?_ ?_ (fun hb => ?_) (fun hb => ?_)); (iterate 2 simp only [go_sem]); all_goals (simp only [go_sem] at hb; try simp only [bls] at hb)) | ((iterate 6 try ((fail_if_success with_reducible refine hK _ ?_ ?_ ?_); clear hK K)); with_reducible refine hK _ ?_ ?_ ?_; rotate_left; (focus (simp only [go_sem]; exact rfl)); clear hK K) | ((first | (with_reducible first | refine xA ?_ | refine xD ?_ | refine xO ?_ | refine xR ?_ | refine xG ?_ | refine xH ?_ | refine xM ?_) | ((with_reducible refine gA ?_); refine xA ?_) | ((with_reducible refine gD ?_); refine xD ?_) | ((with_reducible refine gG ?_); refine xG ?_)); simp only [go_sem]) | (with_reducible refine aGs (fun hg0 => ?_) (fun hg0 => ?_) <;> first | (with_reducible first | exact aF1 hg0 | exact aF2 hg0) | (simp only [hg0, go_sem])) | (with_reducible refine aNk ?_; intro bnil hnil; try simp only []) | exact aZ | fail))
   all_goals first | omega | skip
  | pump nd ed p =>
   have hp := hO.2 nd ed p rfl
   simp only [Net.d, soRes] at h1 h2
   simp only [bndR]
   (refine ACalls.of_body Ty_ok mixed Tryd.func14 rfl (by kernel_rfl) Tryd.ntmps14 (by simp) (congrArg Array.toList Tryd.results14) ?_)
   simp only [slotsOf, Net.d]
   (repeat' (first | (with_reducible first | exact True.intro | refine And.intro ?_ ?_ | refine aBl ?_ | (refine aS 7 [] ?_; intro K hK)) | ((with_reducible first | refine aGo ?_); simp only [go_sem]) | ((with_reducible refine aCd ?_ ?_ (fun hb => ?_) (fun hb => ?_)); (iterate 2 simp only [go_sem]); all_goals (simp only [go_sem] at hb; try simp only [bls] at hb)) | ((iterate 6 try ((fail_if_success with_reducible refine hK _ ?_ ?_ ?_); clear hK K)); with_reducible refine hK _ ?_ ?_ ?_; rotate_left; (focus (simp only [go_sem]; exact rfl)); clear hK K) | ((first | (with_reducible first | refine xA ?_ | refine xD ?_ | refine xO ?_ | refine xR ?_ | refine xG ?_ | refine xH ?_ | refine xM ?_) | ((with_reducible refine gA ?_); refine xA ?_) | ((with_reducible refine gD ?_); refine xD ?_) | ((with_reducible refine gG ?_); refine xG ?_)); simp only [go_sem]) | (with_reducible refine aGs (fun hg0 => ?_) (fun hg0 => ?_) <;> first | (with_reducible first | exact aF1 hg0 | exact aF2 hg0) | (simp only [hg0, go_sem])) | (with_reducible refine aNk ?_; intro bnil hnil; try simp only []) | exact aZ | fail))
   all_goals first | omega | skip
  | cont nd ed =>
   simp only [Net.d, soRes] at h1 h2
   simp only [bndR]
   (refine ACalls.of_body Ty_ok mixed Tryd.func14 rfl (by kernel_rfl) Tryd.ntmps14 (by simp) (congrArg Array.toList Tryd.results14) ?_)
   simp only [slotsOf, Net.d]
   (repeat' (first | (with_reducible first | exact True.intro | refine And.intro ?_ ?_ | refine aBl ?_ | (refine aS 7 [] ?_; intro K hK)) | ((with_reducible first | refine aGo ?_); simp only [go_sem]) | ((with_reducible refine aCd ?_ ?_ (fun hb => ?_) (fun hb => ?_)); (iterate 2 simp only [go_sem]); all_goals (simp only [go_sem] at hb; try simp only [bls] at hb)) | ((iterate 6 try ((fail_if_success with_reducible refine hK _ ?_ ?_ ?_); clear hK K)); with_reducible refine hK _ ?_ ?_ ?_; rotate_left; (focus (simp only [go_sem]; exact rfl)); clear hK K) | ((first | (with_reducible first | refine xA ?_ | refine xD ?_ | refine xO ?_ | refine xR ?_ | refine xG ?_ | refine xH ?_ | refine xM ?_) | ((with_reducible refine gA ?_); refine xA ?_) | ((with_reducible refine gD ?_); refine xD ?_) | ((with_reducible refine gG ?_); refine xG ?_)); simp only [go_sem]) | (with_reducible refine aGs (fun hg0 => ?_) (fun hg0 => ?_) <;> first | (with_reducible first | exact aF1 hg0 | exact aF2 hg0) | (simp only [hg0, go_sem])) | (with_reducible refine aNk ?_; intro bnil hnil; try simp only []) | exact aZ | fail))
   all_goals first | omega | skip
 ·have hB : bndF n = .inl (netE n) := by rw [bndF, if_pos hE]
  rw [hB]
  simp only [Net.d] at h1
  simp only [bndR]
  (refine ACalls.of_body Ty_ok mixed Tryd.func14 rfl (by kernel_rfl) Tryd.ntmps14 (by simp) (congrArg Array.toList Tryd.results14) ?_)
  simp only [slotsOf, Net.d]
  (repeat' (first | (with_reducible first | exact True.intro | refine And.intro ?_ ?_ | refine aBl ?_ | (refine aS 7 [] ?_; intro K hK)) | ((with_reducible first | refine aGo ?_); simp only [go_sem]) | ((with_reducible refine aCd ?_ ?_ (fun hb => ?_) (fun hb => ?_)); (iterate 2 simp only [go_sem]); all_goals (simp only [go_sem] at hb; try simp only [bls] at hb)) | ((iterate 6 try ((fail_if_success with_reducible refine hK _ ?_ ?_ ?_); clear hK K)); with_reducible refine hK _ ?_ ?_ ?_; rotate_left; (focus (simp only [go_sem]; exact rfl)); clear hK K) | ((first | (with_reducible first | refine xA ?_ | refine xD ?_ | refine xO ?_ | refine xR ?_ | refine xG ?_ | refine xH ?_ | refine xM ?_) | ((with_reducible refine gA ?_); refine xA ?_) | ((with_reducible refine gD ?_); refine xD ?_) | ((with_reducible refine gG ?_); refine xG ?_)); simp only [go_sem]) | (with_reducible refine aGs (fun hg0 => ?_) (fun hg0 => ?_) <;> first | (with_reducible first | exact aF1 hg0 | exact aF2 hg0) | (simp only [hg0, go_sem])) | (with_reducible refine aNk ?_; intro bnil hnil; try simp only []) | exact aZ | fail))
  all_goals first | omega | skip
theorem bnd_ne {n : Net} {e : Int} (h : bndF n = .inl e) : e ≠ 0 := by
 unfold bndF at h
 split at h
 ·cases h; assumption
 ·have hO := outer_err n 4096 4098 0 [⟨n.init, -1, -1⟩] []
  rw [show outerF n 4096 4098 0 [⟨n.init, -1, -1⟩] [] = searchF n 4096 from rfl] at hO
  cases hS : searchF n 4096 with
  | err e' => rw [hS] at h; cases h; rw [hO.1 _ hS]; decide
  | pump nd ed p => rw [hS] at h; cases h; decide
  | cont nd ed => rw [hS] at h; cases h
theorem words_snoc (l : List (List Int)) (m : List Int) : wordsD (l ++ [m]) = wordsD l ++ [[.list (ints m)]] := by rw [← words_append]; rfl
theorem words_one (m : List Int) : [[D.list (ints m)]] = wordsD [m] := rfl
def grR : Sum Int (List SN × List Edg) → AV
 | .inl e => .tup [.one (.list []), .one (.list []), .one (.int .i64 e)]
 | .inr (nodes, edges) => .tup [.one (.list (edgsD edges)), .one (.list (wordsD (nodes.map SN.m))), .one (.int .i64 0)]
set_option maxHeartbeats 8000000 in
theorem Graph_c (n : Net) (hf : n.Fits) (h0 : n.init ≠ []) (hlen : ∀ nd ed, bndF n = .inr (nd, ed) → nd.length ≤ 4096 ∧ ∀ x ∈ nd, x.m.length ≤ 1000) : ACalls Tryd.prog 29 [.agg n.d] (grR (bndF n)) [] := by
 have h1 := bounded_c n hf h0
 have hne := fun e => bnd_ne (n := n) (e := e)
 generalize bndF n = B at *
 cases B with
 | inl e =>
  have hne := hne e rfl
  simp only [Net.d, bndR] at h1
  simp only [grR]
  (refine ACalls.of_body Ty_ok mixed Tryd.func29 rfl (by kernel_rfl) Tryd.ntmps29 (by simp) (congrArg Array.toList Tryd.results29) ?_)
  simp only [slotsOf, Net.d]
  (repeat' (first | (with_reducible first | exact True.intro | refine And.intro ?_ ?_ | refine aBl ?_ | (refine aS 8 [20, 19, 21] ?_; intro K hK)) | ((with_reducible first | refine aGo ?_); simp only [go_sem]) | ((with_reducible refine aCd ?_ ?_ (fun hb => ?_) (fun hb => ?_)); (iterate 2 simp only [go_sem]); all_goals (simp only [go_sem] at hb; try simp only [bls] at hb)) | ((iterate 6 try ((fail_if_success with_reducible refine hK _ ?_ ?_ ?_); clear hK K)); with_reducible refine hK _ ?_ ?_ ?_; rotate_left; (focus (simp only [go_sem]; exact rfl)); clear hK K) | ((first | (with_reducible first | refine xA ?_ | refine xD ?_ | refine xO ?_ | refine xR ?_ | refine xG ?_ | refine xH ?_ | refine xM ?_) | ((with_reducible refine gA ?_); refine xA ?_) | ((with_reducible refine gD ?_); refine xD ?_) | ((with_reducible refine gG ?_); refine xG ?_)); simp only [go_sem]) | (with_reducible refine aGs (fun hg0 => ?_) (fun hg0 => ?_) <;> first | (with_reducible first | exact aF1 hg0 | exact aF2 hg0) | (simp only [hg0, go_sem])) | (with_reducible refine aNk ?_; intro bnil hnil; try simp only []) | exact aZ | fail))
  all_goals first | omega | skip
 | inr r =>
  obtain ⟨nd, ed⟩ := r
  obtain ⟨hl, hm⟩ := hlen nd ed rfl
  simp only [Net.d, bndR] at h1
  simp only [grR]
  (refine ACalls.of_body Ty_ok mixed Tryd.func29 rfl (by kernel_rfl) Tryd.ntmps29 (by simp) (congrArg Array.toList Tryd.results29) ?_)
  simp only [slotsOf, Net.d]
  (repeat' (first | (with_reducible first | exact True.intro | refine And.intro ?_ ?_ | refine aBl ?_ | (refine aS 8 [20, 19, 21] ?_; intro K hK)) | ((with_reducible first | refine aGo ?_); simp only [go_sem]) | ((with_reducible refine aCd ?_ ?_ (fun hb => ?_) (fun hb => ?_)); (iterate 2 simp only [go_sem]); all_goals (simp only [go_sem] at hb; try simp only [bls] at hb)) | ((iterate 6 try ((fail_if_success with_reducible refine hK _ ?_ ?_ ?_); clear hK K)); with_reducible refine hK _ ?_ ?_ ?_; rotate_left; (focus (simp only [go_sem]; exact rfl)); clear hK K) | ((first | (with_reducible first | refine xA ?_ | refine xD ?_ | refine xO ?_ | refine xR ?_ | refine xG ?_ | refine xH ?_ | refine xM ?_) | ((with_reducible refine gA ?_); refine xA ?_) | ((with_reducible refine gD ?_); refine xD ?_) | ((with_reducible refine gG ?_); refine xG ?_)); simp only [go_sem]) | (with_reducible refine aGs (fun hg0 => ?_) (fun hg0 => ?_) <;> first | (with_reducible first | exact aF1 hg0 | exact aF2 hg0) | (simp only [hg0, go_sem])) | (with_reducible refine aNk ?_; intro bnil hnil; try simp only []) | exact aZ | fail))
  all_goals first | omega | skip
  refine awp_loop _ (by simp only [go_sem]; rfl) Nat (fun k => k ≤ nd.length) (fun k => [(3, .one (.own 2)), (21, .one (.int .i64 k))]) (fun k H => H.set 2 (.row 27 1 (wordsD ((nd.take k).map SN.m)))) (fun k => nd.length - k) 0 (by omega) ?_ ?_
  ·have e0 : wordsD ((nd.take 0).map SN.m) = [] := rfl
   rw [e0]
   (simp only [SubF, List.set_cons_succ, List.set_cons_zero, go_sem]; (try simp only [List.set_cons_succ, List.set_cons_zero, go_sem]); repeat' (first | exact True.intro | with_reducible refine And.intro ?_ ?_ | rfl | omega))
  rintro k hk L hL
  have hq : ((k : Nat) : Int).toNat = k := by omega
  have hwl : (wordsD ((nd.take k).map SN.m)).length = k := by rw [words_length, List.length_map, List.length_take]; omega
  by_cases hlk : k < nd.length
  ·have a1 := sns_at (l := nd) hlk [.nil, .int .i64 0, .int .i64 0]
   have a2 := sns_at (l := nd) hlk []
   have e1 : (nd.take (k + 1)).map SN.m = (nd.take k).map SN.m ++ [(nd.getD k SN.no).m] := by rw [take_succ_getD nd k SN.no hlk, List.map_append]; rfl
   (simp only [List.set_cons_succ, List.set_cons_zero, go_sem] at hL ⊢)
   (repeat' (first | (with_reducible first | exact True.intro | refine And.intro ?_ ?_ | refine aBl ?_ | (refine aS 8 [20, 19, 21] ?_; intro K hK)) | ((with_reducible first | refine aGo ?_); simp only [hq, a1, a2, hwl, go_sem]) | ((with_reducible refine aCd ?_ ?_ (fun hb => ?_) (fun hb => ?_)); (iterate 2 simp only [hq, a1, a2, hwl, go_sem]); all_goals (simp only [hq, a1, a2, hwl, go_sem] at hb; try simp only [bls] at hb)) | ((iterate 6 try ((fail_if_success with_reducible refine hK _ ?_ ?_ ?_); clear hK K)); with_reducible refine hK _ ?_ ?_ ?_; rotate_left; (focus (simp only [hq, a1, a2, hwl, go_sem]; exact rfl)); clear hK K) | (with_reducible refine aGs (fun hg0 => ?_) (fun hg0 => ?_) <;> first | (with_reducible first | exact aF1 hg0 | exact aF2 hg0) | (simp only [hg0, hq, a1, a2, hwl, go_sem])) | (with_reducible refine aNk ?_; intro bnil hnil; try simp only []) | exact aZ | fail))
   all_goals first | omega | skip
   refine hL _ (k + 1) (by omega) ?_ (by omega)
   rw [e1, words_snoc]
   (simp only [SubF, List.set_cons_succ, List.set_cons_zero, go_sem]; (try simp only [List.set_cons_succ, List.set_cons_zero, go_sem]); repeat' (first | exact True.intro | with_reducible refine And.intro ?_ ?_ | rfl | omega))
  ·have hkl : k = nd.length := by omega
   subst hkl
   rw [List.take_length]
   (simp only [List.set_cons_succ, List.set_cons_zero, go_sem] at hL ⊢)
   (repeat' (first | (with_reducible first | exact True.intro | refine And.intro ?_ ?_ | refine aBl ?_ | (refine aS 8 [20, 19, 21] ?_; intro K hK)) | ((with_reducible first | refine aGo ?_); simp only [go_sem]) | ((with_reducible refine aCd ?_ ?_ (fun hb => ?_) (fun hb => ?_)); (iterate 2 simp only [go_sem]); all_goals (simp only [go_sem] at hb; try simp only [bls] at hb)) | ((iterate 6 try ((fail_if_success with_reducible refine hK _ ?_ ?_ ?_); clear hK K)); with_reducible refine hK _ ?_ ?_ ?_; rotate_left; (focus (simp only [go_sem]; exact rfl)); clear hK K) | (with_reducible refine aGs (fun hg0 => ?_) (fun hg0 => ?_) <;> first | (with_reducible first | exact aF1 hg0 | exact aF2 hg0) | (simp only [hg0, go_sem])) | (with_reducible refine aNk ?_; intro bnil hnil; try simp only []) | exact aZ | fail))
   all_goals first | omega | rfl | skip
end Go.Proofs.YtljpfdehnjemlaaDoor
