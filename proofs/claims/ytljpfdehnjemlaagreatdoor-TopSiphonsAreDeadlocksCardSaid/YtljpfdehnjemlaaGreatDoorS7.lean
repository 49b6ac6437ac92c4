/-
 Contracts: Bounded, Deadlock.
-/
import Derived.Test.YtljpfdehnjemlaaGreatDoorS4
import Derived.Test.YtljpfdehnjemlaaGreatDoorS5
set_option linter.unusedSimpArgs false
set_option linter.unusedVariables false
namespace Go.Proofs.YtljpfdehnjemlaaGreatDoor
open Go.Eng Go.RowKit
set_option maxHeartbeats 8000000 in
theorem SameInts_c (xs ys : List Int) (hn : xs.length ≤ 1000000) : ACalls Tryz.prog 91 [.one (.list (ints xs)), .one (.list (ints ys))] (.one (.bool (decide (xs = ys)))) [] := by
 (refine ACalls.of_body Ty_ok mixed Tryz.func91 rfl (by kernel_rfl) Tryz.ntmps91 (by simp) (congrArg Array.toList Tryz.results91) ?_)
 simp only [slotsOf]
 (repeat' (first | (with_reducible first | refine aBl ?_ | (refine aS 6 [] ?_; intro K hK)) | ((with_reducible refine aGo ?_); simp only [go_sem]) | ((with_reducible refine aCd ?_ ?_ (fun hb => ?_) (fun hb => ?_)); (iterate 2 simp only [go_sem]); all_goals (simp only [go_sem] at hb; try simp only [bls] at hb)) | ((iterate 6 try ((fail_if_success with_reducible refine hK _ ?_ ?_ ?_); clear hK K)); with_reducible refine hK _ ?_ ?_ ?_; rotate_left; (focus (simp only [go_sem]; exact rfl)); clear hK K) | fail))
 ·have : xs ≠ ys := by rintro rfl; omega
  simp [this]
 refine awp_loop _ (by simp only [go_sem]; rfl) Nat (fun k => k ≤ xs.length ∧ decide (xs = ys) = decide (xs.drop k = ys.drop k)) (fun k => [(5, .one (.int .i64 k))]) (fun _ H => H) (fun k => xs.length - k) 0 ⟨by omega, by simp⟩ ?_ ?_
 ·(simp only [SubF, go_sem]; (try simp only [go_sem]); repeat' (first | exact True.intro | with_reducible refine And.intro ?_ ?_ | rfl | omega))
 ·rintro k ⟨hk, hres⟩ L hL
  have hq : ((k : Nat) : Int).toNat = k := by omega
  (simp only [go_sem] at hL ⊢)
  (repeat' (first | (with_reducible first | refine And.intro ?_ ?_ | refine aBl ?_ | (refine aS 6 [] ?_; intro K hK)) | ((with_reducible first | refine aGo ?_ | refine rD (id := 6) ?_); simp only [hq, go_sem]) | ((with_reducible refine aCd ?_ ?_ (fun hb => ?_) (fun hb => ?_)); (iterate 2 simp only [hq, go_sem]); all_goals (simp only [hq, go_sem] at hb; try simp only [bls] at hb)) | ((iterate 6 try ((fail_if_success with_reducible refine hK _ ?_ ?_ ?_); clear hK K)); with_reducible refine hK _ ?_ ?_ ?_; rotate_left; (focus (simp only [hq, go_sem]; exact rfl)); clear hK K) | exact aZ | fail))
  ·rw [eqq_step (d := 0) (by omega) (by omega) hres, decide_eq_false hb]; rfl
  ·have h1 := eqq_step (d := 0) (by omega) (by omega) hres
   rw [decide_eq_true hb, Bool.true_and] at h1
   exact hL _ (k + 1) ⟨by omega, h1⟩ (by (simp only [SubF, go_sem]; (try simp only [go_sem]); repeat' (first | exact True.intro | with_reducible refine And.intro ?_ ?_ | rfl | omega))) (by omega)
  ·rw [hres, drop_end xs k (by omega), drop_end ys k (by omega)]; rfl
set_option maxHeartbeats 8000000 in
theorem SameWords_c (xs ys : List (List Int)) (hn : xs.length ≤ 1000000) (hx : ∀ x ∈ xs, x.length ≤ 1000000) : ACalls Tryz.prog 104 [.one (.list (wordsD xs)), .one (.list (wordsD ys))] (.one (.bool (decide (xs = ys)))) [] := by
 (refine ACalls.of_body Ty_ok mixed Tryz.func104 rfl (by kernel_rfl) Tryz.ntmps104 (by simp) (congrArg Array.toList Tryz.results104) ?_)
 simp only [slotsOf]
 (repeat' (first | (with_reducible first | refine aBl ?_ | (refine aS 6 [] ?_; intro K hK)) | ((with_reducible refine aGo ?_); simp only [go_sem]) | ((with_reducible refine aCd ?_ ?_ (fun hb => ?_) (fun hb => ?_)); (iterate 2 simp only [go_sem]); all_goals (simp only [go_sem] at hb; try simp only [bls] at hb)) | ((iterate 6 try ((fail_if_success with_reducible refine hK _ ?_ ?_ ?_); clear hK K)); with_reducible refine hK _ ?_ ?_ ?_; rotate_left; (focus (simp only [go_sem]; exact rfl)); clear hK K) | fail))
 ·have : xs ≠ ys := by rintro rfl; omega
  simp [this]
 refine awp_loop _ (by simp only [go_sem]; rfl) Nat (fun k => k ≤ xs.length ∧ decide (xs = ys) = decide (xs.drop k = ys.drop k)) (fun k => [(5, .one (.int .i64 k))]) (fun _ H => H) (fun k => xs.length - k) 0 ⟨by omega, by simp⟩ ?_ ?_
 ·(simp only [SubF, go_sem]; (try simp only [go_sem]); repeat' (first | exact True.intro | with_reducible refine And.intro ?_ ?_ | rfl | omega))
 ·rintro k ⟨hk, hres⟩ L hL
  have hq : ((k : Nat) : Int).toNat = k := by omega
  by_cases hlt : k < xs.length
  ·have a1 := words_at hlt [.nil]
   have a2 := words_at (l := ys) (k := k) (by omega) [.nil]
   have a3 := words_at hlt []
   have a4 := words_at (l := ys) (k := k) (by omega) []
   have hc := SameInts_c (xs.getD k []) (ys.getD k []) (hx _ (getD_mem xs k [] hlt))
   (simp only [go_sem] at hL ⊢)
   (repeat' (first | (with_reducible first | refine And.intro ?_ ?_ | refine aBl ?_ | (refine aS 6 [] ?_; intro K hK)) | ((with_reducible first | refine aGo ?_ | refine rP Ty_ok mixed 6 [0, 1, 4, 5] [.mid [pe 2, pe 3, pe 6, pe 7] 0, .one 8, .one 9] ?_); simp only [hq, a1, a2, a3, a4, go_sem]) | ((with_reducible refine aCd ?_ ?_ (fun hb => ?_) (fun hb => ?_)); (iterate 2 simp only [hq, a1, a2, a3, a4, go_sem]); all_goals (simp only [hq, a1, a2, a3, a4, go_sem] at hb; try simp only [bls] at hb)) | ((iterate 6 try ((fail_if_success with_reducible refine hK _ ?_ ?_ ?_); clear hK K)); with_reducible refine hK _ ?_ ?_ ?_; rotate_left; (focus (simp only [hq, a1, a2, a3, a4, go_sem]; exact rfl)); clear hK K) | ((with_reducible refine xA ?_); simp only [hq, a1, a2, a3, a4, go_sem]) | exact aZ | fail))
   all_goals first | omega | skip
   ·rw [eqq_step (d := []) (by omega) (by omega) hres, decide_eq_false hb]; rfl
   ·have h1 := eqq_step (d := []) (by omega) (by omega) hres
    rw [decide_eq_true hb, Bool.true_and] at h1
    exact hL _ (k + 1) ⟨by omega, h1⟩ (by (simp only [SubF, go_sem]; (try simp only [go_sem]); repeat' (first | exact True.intro | with_reducible refine And.intro ?_ ?_ | rfl | omega))) (by omega)
  ·(simp only [go_sem] at hL ⊢)
   (repeat' (first | (with_reducible first | refine And.intro ?_ ?_ | refine aBl ?_ | (refine aS 6 [] ?_; intro K hK)) | ((with_reducible first | refine aGo ?_ | refine rP Ty_ok mixed 6 [0, 1, 4, 5] [.mid [pe 2, pe 3, pe 6, pe 7] 0, .one 8, .one 9] ?_); simp only [go_sem]) | ((with_reducible refine aCd ?_ ?_ (fun hb => ?_) (fun hb => ?_)); (iterate 2 simp only [go_sem]); all_goals (simp only [go_sem] at hb; try simp only [bls] at hb)) | ((iterate 6 try ((fail_if_success with_reducible refine hK _ ?_ ?_ ?_); clear hK K)); with_reducible refine hK _ ?_ ?_ ?_; rotate_left; (focus (simp only [go_sem]; exact rfl)); clear hK K) | exact aZ | fail))
   all_goals first | omega | skip
   rw [hres, drop_end xs k (by omega), drop_end ys k (by omega)]; rfl
def movesN (w : Int) : Net := ⟨[2, 0], [⟨0, [⟨0, 1⟩], [⟨1, 1⟩]⟩, ⟨1, [⟨1, 1⟩], [⟨0, w⟩]⟩]⟩
theorem moves_c (w : Int) : ACalls Tryz.prog 102 [.one (.int .i64 w)] (.agg (movesN w).d) [] := by
 have e : (movesN w).d = [.list [[.int .i64 2], [.int .i64 0]], .list [[.int .i64 0, .list [[.int .i64 0, .int .i64 1]], .list [[.int .i64 1, .int .i64 1]]], [.int .i64 1, .list [[.int .i64 1, .int .i64 1]], .list [[.int .i64 0, .int .i64 w]]]]] := rfl
 rw [e]
 (refine ACalls.of_body Ty_ok mixed Tryz.func102 rfl (by kernel_rfl) Tryz.ntmps102 (by simp) (congrArg Array.toList Tryz.results102) ?_)
 simp only [slotsOf]
 (repeat' (first | (with_reducible (refine aS 3 [] ?_; intro K hK)) | ((with_reducible refine aGo ?_); simp only [go_sem]) | ((iterate 6 try ((fail_if_success with_reducible refine hK _ ?_ ?_ ?_); clear hK K)); with_reducible refine hK _ ?_ ?_ ?_; rotate_left; (focus (simp only [go_sem]; exact rfl)); clear hK K) | fail))
end Go.Proofs.YtljpfdehnjemlaaGreatDoor
set_option linter.unusedSimpArgs false
set_option linter.unusedVariables false
namespace Go.Proofs.YtljpfdehnjemlaaGreatDoor
open Go.Eng Go.RowKit
theorem outer_ok (n : Net) (hn : NetOk n) (lim : Nat) (hl : lim ≤ 4096) : ∀ (f i : Nat) (nodes : List SN) (edges : List Edg), NodesOk n.init.length nodes → nodes.length ≤ lim →
  (∀ nd ed p, outerF n lim f i nodes edges = .pump nd ed p → NodesOk n.init.length nd ∧ nd.length ≤ lim + 1 ∧ p = pumpsF nd ∧ nd ≠ []) ∧ ∀ nd ed, outerF n lim f i nodes edges = .cont nd ed → NodesOk n.init.length nd ∧ nd.length ≤ lim := by
 have step : ∀ (i : Nat) (t : Int) (nodes : List SN) (edges : List Edg), NodesOk n.init.length nodes → nodes.length ≤ lim → i < nodes.length → t ∈ ableL n (nodes.getD i SN.no).m n.trs.length →
   (∀ nd ed p, stepF n lim i t nodes edges = .pump nd ed p → NodesOk n.init.length nd ∧ nd.length ≤ lim + 1 ∧ p = pumpsF nd ∧ nd ≠ []) ∧ ∀ nd ed, stepF n lim i t nodes edges = .cont nd ed → NodesOk n.init.length nd ∧ nd.length ≤ lim ∧ nodes.length ≤ nd.length ∧ nd.getD i SN.no = nodes.getD i SN.no := by
  intro i t nodes edges hN hlen hi ht
  obtain ⟨t0, t1, t2⟩ := able_mem ht
  have hfl := firedL_length (n.trs.getD t.toNat Tr.no) (nodes.getD i SN.no).m
  have hml := hN.len _ (getD_mem nodes i SN.no hi)
  unfold stepF
  simp only
  generalize firedL (n.trs.getD t.toNat Tr.no) (nodes.getD i SN.no).m = m at *
  split
  ·exact ⟨fun nd ed p h => (nomatch h), fun nd ed h => (nomatch h)⟩
  ·rename_i hbad
   have hok : ∀ y ∈ m, 0 ≤ y ∧ y ≤ 65536 := fun y hy => by
    have : tokB y ≠ true := fun hh => hbad (List.any_eq_true.2 ⟨y, hy, hh⟩)
    simp [tokB] at this
    omega
   have hN2 := hN.snoc (m := m) (i := i) (t := t) (by omega) hok hi
   split
   ·exact ⟨fun nd ed p h => (nomatch h), fun nd ed h => by cases h; exact ⟨hN, hlen, Nat.le_refl _, rfl⟩⟩
   ·split
    ·exact ⟨fun nd ed p h => by cases h; exact ⟨hN2, by simp; omega, rfl, by simp⟩, fun nd ed h => (nomatch h)⟩
    ·split
     ·exact ⟨fun nd ed p h => (nomatch h), fun nd ed h => (nomatch h)⟩
     ·exact ⟨fun nd ed p h => (nomatch h), fun nd ed h => by cases h; exact ⟨hN2, by omega, by simp, getD_append_lt _ _ _ _ hi⟩⟩
 have inner : ∀ (i : Nat) (ts : List Int) (nodes : List SN) (edges : List Edg), NodesOk n.init.length nodes → nodes.length ≤ lim → i < nodes.length → (∀ t ∈ ts, t ∈ ableL n (nodes.getD i SN.no).m n.trs.length) →
   (∀ nd ed p, innerF n lim i ts nodes edges = .pump nd ed p → NodesOk n.init.length nd ∧ nd.length ≤ lim + 1 ∧ p = pumpsF nd ∧ nd ≠ []) ∧ ∀ nd ed, innerF n lim i ts nodes edges = .cont nd ed → NodesOk n.init.length nd ∧ nd.length ≤ lim := by
  intro i ts
  induction ts with
  | nil => intro nodes edges hN hlen _ _; exact ⟨fun nd ed p h => (nomatch h), fun nd ed h => by cases h; exact ⟨hN, hlen⟩⟩
  | cons t ts ih =>
   intro nodes edges hN hlen hi hts
   have hs := step i t nodes edges hN hlen hi (hts t (by simp))
   simp only [innerF]
   cases hst : stepF n lim i t nodes edges with
   | err e => exact ⟨fun nd ed p h => (nomatch h), fun nd ed h => (nomatch h)⟩
   | pump nd ed p => exact ⟨fun nd' ed' p' h => by cases h; exact hs.1 _ _ _ hst, fun nd ed h => (nomatch h)⟩
   | cont nd ed =>
    obtain ⟨k1, k2, k3, k4⟩ := hs.2 _ _ hst
    exact ih nd ed k1 k2 (by omega) fun t' ht' => by rw [k4]; exact hts t' (by simp [ht'])
 intro f
 induction f with
 | zero => intro i nodes edges _ _; exact ⟨fun nd ed p h => (nomatch h), fun nd ed h => (nomatch h)⟩
 | succ f ih =>
  intro i nodes edges hN hlen
  simp only [outerF]
  split
  ·rename_i hi
   have hs := inner i (ableL n (nodes.getD i SN.no).m n.trs.length) nodes edges hN hlen hi fun t ht => ht
   cases hst : innerF n lim i (ableL n (nodes.getD i SN.no).m n.trs.length) nodes edges with
   | err e => exact ⟨fun nd ed p h => (nomatch h), fun nd ed h => (nomatch h)⟩
   | pump nd ed p => exact ⟨fun nd' ed' p' h => by cases h; exact hs.1 _ _ _ hst, fun nd ed h => (nomatch h)⟩
   | cont nd ed =>
    obtain ⟨k1, k2⟩ := hs.2 _ _ hst
    exact ih (i + 1) nd ed k1 k2
  ·exact ⟨fun nd ed p h => (nomatch h), fun nd ed h => by cases h; exact ⟨hN, hlen⟩⟩
theorem search_ok (n : Net) (hn : NetOk n) : (∀ nd ed p, searchF n 4096 = .pump nd ed p → NodesOk n.init.length nd ∧ nd.length ≤ 4097 ∧ p = pumpsF nd ∧ nd ≠ []) ∧ ∀ nd ed, searchF n 4096 = .cont nd ed → NodesOk n.init.length nd ∧ nd.length ≤ 4096 :=
 outer_ok n hn 4096 (Nat.le_refl _) 4098 0 [⟨n.init, -1, -1⟩] [] (nodesOk_one hn.tok) (by rw [List.length_singleton]; omega)
theorem step_edges {n : Net} {lim i : Nat} {t : Int} {nodes nd : List SN} {edges ed : List Edg} (h : stepF n lim i t nodes edges = .cont nd ed) : ed.length = edges.length + 1 := by
 unfold stepF at h
 simp only at h
 split at h
 ·cases h
 ·split at h
  ·cases h; simp
  ·split at h
   ·cases h
   ·split at h
    ·cases h
    ·cases h; simp
theorem inner_edges {n : Net} {lim i : Nat} : ∀ (ts : List Int) {nodes nd : List SN} {edges ed : List Edg}, innerF n lim i ts nodes edges = .cont nd ed → ed.length = edges.length + ts.length
 | [], _, _, _, _, h => by simp only [innerF] at h; cases h; rfl
 | t :: ts, nodes, nd, edges, ed, h => by
  simp only [innerF] at h
  cases hst : stepF n lim i t nodes edges with
  | err e => rw [hst] at h; cases h
  | pump nd1 ed1 p => rw [hst] at h; cases h
  | cont nd1 ed1 =>
   rw [hst] at h
   have h1 := step_edges hst
   have h2 := inner_edges ts h
   simp only [List.length_cons]; omega
theorem outer_edges {n : Net} {lim : Nat} : ∀ (f i : Nat) {nodes nd : List SN} {edges ed : List Edg}, outerF n lim f i nodes edges = .cont nd ed → ed.length ≤ edges.length + n.trs.length * f
 | 0, _, _, _, _, _, h => by cases h
 | f + 1, i, nodes, nd, edges, ed, h => by
  simp only [outerF] at h
  split at h
  ·cases hst : innerF n lim i (ableL n (nodes.getD i SN.no).m n.trs.length) nodes edges with
   | err e => rw [hst] at h; cases h
   | pump nd1 ed1 p => rw [hst] at h; cases h
   | cont nd1 ed1 =>
    rw [hst] at h
    have h1 := inner_edges _ hst
    have h2 := outer_edges f (i + 1) h
    have h3 := ableL_length n (nodes.getD i SN.no).m n.trs.length
    rw [Nat.mul_succ]; omega
  ·cases h; omega
theorem pump_back {l : List SN} {pl : Nat} (hN : NodesOk pl l) (last : List Int) : ∀ (f : Nat) (i first : Int), i < f → i < l.length → -1 ≤ i → pumpF l last f i first = first ∨ (0 ≤ i ∧ 0 ≤ pumpF l last f i first ∧ pumpF l last f i first < l.length ∧ ∃ pre, backF l f i = pre ++ backF l ((pumpF l last f i first).toNat + 1) (pumpF l last f i first))
 | 0, i, first, _, _, _ => .inl rfl
 | f + 1, i, first, h1, h2, h3 => by
  rw [pumpF]
  by_cases h0 : 0 ≤ i
  ·rw [if_pos h0]
   have hb := hN.back i.toNat (by omega)
   have ih := pump_back hN last f (l.getD i.toNat SN.no).before (if leqB (l.getD i.toNat SN.no).m last = true then i else first) (by omega) (by omega) (by omega)
   rcases ih with ih | ⟨k1, k2, k3, pre, k4⟩
   ·rw [ih]
    split
    ·exact .inr ⟨h0, h0, h2, [], by rw [List.nil_append]; exact backF_fuel hN _ _ i h0 h2 (by omega) (by omega)⟩
    ·exact .inl rfl
   ·refine .inr ⟨h0, k2, k3, (l.getD i.toNat SN.no).tr :: pre, ?_⟩
    rw [backF, if_pos k1, k4, List.cons_append]
  ·rw [if_neg h0]; exact .inl rfl
theorem path_pump {l : List SN} {pl : Nat} (hN : NodesOk pl l) (h0 : l ≠ []) (hp : 0 ≤ pumpsF l) : pumpsF l < l.length ∧ ∃ rest, rest ≠ [] ∧ pathF l ((l.length : Int) - 1) = pathF l (pumpsF l) ++ rest := by
 have hl : 0 < l.length := List.length_pos_iff.2 h0
 have hb := hN.back (l.length - 1) (by omega)
 have h := pump_back hN (l.getD (l.length - 1) SN.no).m (l.length + 1) (l.getD (l.length - 1) SN.no).before (-1) (by omega) (by omega) (by omega)
 rw [show pumpF l (l.getD (l.length - 1) SN.no).m (l.length + 1) (l.getD (l.length - 1) SN.no).before (-1) = pumpsF l from rfl] at h
 rcases h with h | ⟨k1, k2, k3, pre, k4⟩
 ·omega
 ·refine ⟨k3, ((l.getD (l.length - 1) SN.no).tr :: pre).reverse, by simp, ?_⟩
  have e : ((l.length : Int) - 1).toNat = l.length - 1 := by omega
  rw [pathF, pathF, e, ← List.reverse_append, List.cons_append, ← k4, backF, e, if_pos k1]
  rw [backF_fuel hN (l.length - 1) (l.length + 1) _ k1 (by omega) (by omega) (by omega)]
def bddR (n : Net) : AV := if netE n ≠ 0 then .tup [.one (.list []), .one (.list []), .one (.bool false), .one (.int .i64 (netE n))] else match searchF n 4096 with
 | .err e => .tup [.one (.list []), .one (.list []), .one (.bool false), .one (.int .i64 e)]
 | .pump nd _ p => .tup [.one (.list (ints (pathF nd p))), .one (.list (ints ((pathF nd ((nd.length : Int) - 1)).drop (pathF nd p).length))), .one (.bool false), .one (.int .i64 0)]
 | .cont _ _ => .tup [.one (.list []), .one (.list []), .one (.bool true), .one (.int .i64 0)]
set_option maxHeartbeats 8000000 in
theorem Bounded_c (n : Net) (hf : n.Fits) (h0 : n.init ≠ []) : ACalls Tryz.prog 103 [.agg n.d] (bddR n) [] := by
 have h1 := netCheck_c n hf
 by_cases hE : netE n = 0
 ·have h2 := searched_c n (netOk_of hE) h0
  have hO := outer_err n 4096 4098 0 [⟨n.init, -1, -1⟩] []
  have hS := search_ok n (netOk_of hE)
  rw [hE] at h1
  rw [show outerF n 4096 4098 0 [⟨n.init, -1, -1⟩] [] = searchF n 4096 from rfl] at hO
  rw [bddR, if_neg (by omega)]
  generalize searchF n 4096 = S at *
  cases S with
  | err e =>
   have he := hO.1 e rfl
   simp only [Net.d, soRes] at h1 h2
   simp only
   (refine ACalls.of_body Ty_ok mixed Tryz.func103 rfl (by kernel_rfl) Tryz.ntmps103 (by simp) (congrArg Array.toList Tryz.results103) ?_)
   simp only [slotsOf, Net.d]
   (repeat' (first | (with_reducible (refine aS 7 [] ?_; intro K hK)) | ((with_reducible refine aGo ?_); simp only [go_sem]) | ((with_reducible refine aCd ?_ ?_ (fun hb => ?_) (fun hb => ?_)); (iterate 2 simp only [go_sem]); all_goals (simp only [go_sem] at hb; try simp only [bls] at hb)) | ((iterate 6 try ((fail_if_success with_reducible refine hK _ ?_ ?_ ?_); clear hK K)); with_reducible refine hK _ ?_ ?_ ?_; rotate_left; (focus (simp only [go_sem]; exact rfl)); clear hK K) | ((with_reducible refine xA ?_); simp only [go_sem]) | exact aZ | fail))
   all_goals first | omega | skip
  | pump nd ed p =>
   have hp := hO.2 nd ed p rfl
   obtain ⟨hN, hnl, rfl, hne⟩ := hS.1 nd ed _ rfl
   obtain ⟨hpl, rest, hr, hpath⟩ := path_pump hN hne hp
   have hlen : 0 < nd.length := List.length_pos_iff.2 hne
   have c1 := ACalls.frozen (path_c n.init.length nd (edgsD ed) (pumpsF nd) (pumpsF nd) (by omega) hN hp hpl)
   have c2 := ACalls.frozen (path_c n.init.length nd (edgsD ed) (pumpsF nd) ((nd.length : Int) - 1) (by omega) hN (by omega) (by omega))
   have hle : (pathF nd (pumpsF nd)).length ≤ (pathF nd ((nd.length : Int) - 1)).length := by rw [hpath, List.length_append]; omega
   simp only [Net.d, soRes] at h1 h2
   simp only
   generalize pathF nd (pumpsF nd) = p1 at *
   generalize pathF nd ((nd.length : Int) - 1) = p2 at *
   (refine ACalls.of_body Ty_ok mixed Tryz.func103 rfl (by kernel_rfl) Tryz.ntmps103 (by simp) (congrArg Array.toList Tryz.results103) ?_)
   simp only [slotsOf, Net.d]
   (repeat' (first | (with_reducible first | refine And.intro ?_ ?_ | (refine aS 7 [] ?_; intro K hK)) | ((with_reducible first | refine aGo ?_ | refine rP Ty_ok mixed 10 [0, 1, 2, 9] [.mid [pe 3, pe 4, pe 5, pe 6, pe 7, ⟨8, 0, true, false, false, [], []⟩, ⟨10, 1, false, false, false, [0], []⟩, ⟨11, 1, false, false, false, [], []⟩, ⟨12, 1, false, false, false, [], []⟩, ⟨13, 1, false, false, false, [], []⟩, ⟨14, 1, false, false, false, [], []⟩, ⟨15, 1, false, false, false, [], []⟩] 1] ?_); simp only [Int.toNat_natCast, go_sem]) | ((with_reducible refine aCd ?_ ?_ (fun hb => ?_) (fun hb => ?_)); (iterate 2 simp only [Int.toNat_natCast, go_sem]); all_goals (simp only [Int.toNat_natCast, go_sem] at hb; try simp only [bls] at hb)) | ((iterate 6 try ((fail_if_success with_reducible refine hK _ ?_ ?_ ?_); clear hK K)); with_reducible refine hK _ ?_ ?_ ?_; rotate_left; (focus (simp only [Int.toNat_natCast, go_sem]; exact rfl)); clear hK K) | ((with_reducible first | refine xA ?_ | refine xO ?_); simp only [Int.toNat_natCast, go_sem]) | exact aZ | fail))
   all_goals first | omega | skip
   all_goals rw [List.take_length]
  | cont nd ed =>
   simp only [Net.d, soRes] at h1 h2
   simp only
   (refine ACalls.of_body Ty_ok mixed Tryz.func103 rfl (by kernel_rfl) Tryz.ntmps103 (by simp) (congrArg Array.toList Tryz.results103) ?_)
   simp only [slotsOf, Net.d]
   (repeat' (first | (with_reducible (refine aS 7 [] ?_; intro K hK)) | ((with_reducible refine aGo ?_); simp only [go_sem]) | ((with_reducible refine aCd ?_ ?_ (fun hb => ?_) (fun hb => ?_)); (iterate 2 simp only [go_sem]); all_goals (simp only [go_sem] at hb; try simp only [bls] at hb)) | ((iterate 6 try ((fail_if_success with_reducible refine hK _ ?_ ?_ ?_); clear hK K)); with_reducible refine hK _ ?_ ?_ ?_; rotate_left; (focus (simp only [go_sem]; exact rfl)); clear hK K) | ((with_reducible refine xA ?_); simp only [go_sem]) | fail))
   all_goals first | omega | skip
 ·rw [bddR, if_pos hE]
  simp only [Net.d] at h1
  (refine ACalls.of_body Ty_ok mixed Tryz.func103 rfl (by kernel_rfl) Tryz.ntmps103 (by simp) (congrArg Array.toList Tryz.results103) ?_)
  simp only [slotsOf, Net.d]
  (repeat' (first | (with_reducible (refine aS 7 [] ?_; intro K hK)) | ((with_reducible refine aGo ?_); simp only [go_sem]) | ((with_reducible refine aCd ?_ ?_ (fun hb => ?_) (fun hb => ?_)); (iterate 2 simp only [go_sem]); all_goals (simp only [go_sem] at hb; try simp only [bls] at hb)) | ((iterate 6 try ((fail_if_success with_reducible refine hK _ ?_ ?_ ?_); clear hK K)); with_reducible refine hK _ ?_ ?_ ?_; rotate_left; (focus (simp only [go_sem]; exact rfl)); clear hK K) | ((with_reducible refine xA ?_); simp only [go_sem]) | exact aZ | fail))
  all_goals first | omega | skip
end Go.Proofs.YtljpfdehnjemlaaGreatDoor
