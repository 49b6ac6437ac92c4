/-
 Contracts: Bounded, Deadlock.
-/
import Derived.Test.YtgbhmieaoaojoaaGreatDoorS5
import Derived.Test.YtgbhmieaoaojoaaGreatDoorS6
set_option linter.unusedSimpArgs false
set_option linter.unusedVariables false
namespace Go.Proofs.YtgbhmieaoaojoaaGreatDoor
open Go.Eng Go.RowKit
theorem outer_ok (n : Net) (hn : NetOk n) (lim : Nat) (hl : lim ≤ 4096) : ∀ (f i : Nat) (nodes : List SN) (edges : List Edg), NodesOk n.init.length nodes → nodes.length ≤ lim →
  (∀ nd ed p, outerF n lim f i nodes edges = .pump nd ed p → NodesOk n.init.length nd ∧ nd.length ≤ lim + 1 ∧ p = pumpsF nd ∧ nd ≠ []) ∧ ∀ nd ed, outerF n lim f i nodes edges = .cont nd ed → NodesOk n.init.length nd ∧ nd.length ≤ lim := by
 have step : ∀ (i : Nat) (t : Int) (nodes : List SN) (edges : List Edg), NodesOk n.init.length nodes → nodes.length ≤ lim → i < nodes.length → t ∈ ableL n (nodes.getD i SN.no).m n.trs.length →
   (∀ nd ed p, stepF n lim i t nodes edges = .pump nd ed p → NodesOk n.init.length nd ∧ nd.length ≤ lim + 1 ∧ p = pumpsF nd ∧ nd ≠ []) ∧ ∀ nd ed, stepF n lim i t nodes edges = .cont nd ed → NodesOk n.init.length nd ∧ nd.length ≤ lim ∧ nodes.length ≤ nd.length ∧ nd.getD i SN.no = nodes.getD i SN.no := by
  intro i t nodes edges hN hlen hi ht
  obtain ⟨t0, t1, t2⟩ := able_mem ht
  have hfl := firedL_length (n.trs.getD t.toNat Tr.no) (nodes.getD i SN.no).m
  have hml := hN.len _ (getD_mem nodes i SN.no hi)
  unfold stepF
  simp only
  generalize firedL (n.trs.getD t.toNat Tr.no) (nodes.getD i SN.no).m = m at *
  split
  ·exact ⟨fun nd ed p h => (nomatch h), fun nd ed h => (nomatch h)⟩
  ·rename_i hbad
   have hok : ∀ y ∈ m, 0 ≤ y ∧ y ≤ 65536 := fun y hy => by
    have : tokB y ≠ true := fun hh => hbad (List.any_eq_true.2 ⟨y, hy, hh⟩)
    simp [tokB] at this
    omega
   have hN2 := hN.snoc (m := m) (i := i) (t := t) (by omega) hok hi
   split
   ·exact ⟨fun nd ed p h => (nomatch h), fun nd ed h => by cases h; exact ⟨hN, hlen, Nat.le_refl _, rfl⟩⟩
   ·split
    ·exact ⟨fun nd ed p h => by cases h; exact ⟨hN2, by simp; omega, rfl, by simp⟩, fun nd ed h => (nomatch h)⟩
    ·split
     ·exact ⟨fun nd ed p h => (nomatch h), fun nd ed h => (nomatch h)⟩
     ·exact ⟨fun nd ed p h => (nomatch h), fun nd ed h => by cases h; exact ⟨hN2, by omega, by simp, getD_append_lt _ _ _ _ hi⟩⟩
 have inner : ∀ (i : Nat) (ts : List Int) (nodes : List SN) (edges : List Edg), NodesOk n.init.length nodes → nodes.length ≤ lim → i < nodes.length → (∀ t ∈ ts, t ∈ ableL n (nodes.getD i SN.no).m n.trs.length) →
   (∀ nd ed p, innerF n lim i ts nodes edges = .pump nd ed p → NodesOk n.init.length nd ∧ nd.length ≤ lim + 1 ∧ p = pumpsF nd ∧ nd ≠ []) ∧ ∀ nd ed, innerF n lim i ts nodes edges = .cont nd ed → NodesOk n.init.length nd ∧ nd.length ≤ lim := by
  intro i ts
  induction ts with
  | nil => intro nodes edges hN hlen _ _; exact ⟨fun nd ed p h => (nomatch h), fun nd ed h => by cases h; exact ⟨hN, hlen⟩⟩
  | cons t ts ih =>
   intro nodes edges hN hlen hi hts
   have hs := step i t nodes edges hN hlen hi (hts t (by simp))
   simp only [innerF]
   cases hst : stepF n lim i t nodes edges with
   | err e => exact ⟨fun nd ed p h => (nomatch h), fun nd ed h => (nomatch h)⟩
   | pump nd ed p => exact ⟨fun nd' ed' p' h => by cases h; exact hs.1 _ _ _ hst, fun nd ed h => (nomatch h)⟩
   | cont nd ed =>
    obtain ⟨k1, k2, k3, k4⟩ := hs.2 _ _ hst
    exact ih nd ed k1 k2 (by omega) fun t' ht' => by rw [k4]; exact hts t' (by simp [ht'])
 intro f
 induction f with
 | zero => intro i nodes edges _ _; exact ⟨fun nd ed p h => (nomatch h), fun nd ed h => (nomatch h)⟩
 | succ f ih =>
  intro i nodes edges hN hlen
  simp only [outerF]
  split
  ·rename_i hi
   have hs := inner i (ableL n (nodes.getD i SN.no).m n.trs.length) nodes edges hN hlen hi fun t ht => ht
   cases hst : innerF n lim i (ableL n (nodes.getD i SN.no).m n.trs.length) nodes edges with
   | err e => exact ⟨fun nd ed p h => (nomatch h), fun nd ed h => (nomatch h)⟩
   | pump nd ed p => exact ⟨fun nd' ed' p' h => by cases h; exact hs.1 _ _ _ hst, fun nd ed h => (nomatch h)⟩
   | cont nd ed =>
    obtain ⟨k1, k2⟩ := hs.2 _ _ hst
    exact ih (i + 1) nd ed k1 k2
  ·exact ⟨fun nd ed p h => (nomatch h), fun nd ed h => by cases h; exact ⟨hN, hlen⟩⟩
theorem search_ok (n : Net) (hn : NetOk n) : (∀ nd ed p, searchF n 4096 = .pump nd ed p → NodesOk n.init.length nd ∧ nd.length ≤ 4097 ∧ p = pumpsF nd ∧ nd ≠ []) ∧ ∀ nd ed, searchF n 4096 = .cont nd ed → NodesOk n.init.length nd ∧ nd.length ≤ 4096 :=
 outer_ok n hn 4096 (Nat.le_refl _) 4098 0 [⟨n.init, -1, -1⟩] [] (nodesOk_one hn.tok) (by rw [List.length_singleton]; omega)
theorem step_edges {n : Net} {lim i : Nat} {t : Int} {nodes nd : List SN} {edges ed : List Edg} (h : stepF n lim i t nodes edges = .cont nd ed) : ed.length = edges.length + 1 := by
 unfold stepF at h
 simp only at h
 split at h
 ·cases h
 ·split at h
  ·cases h; simp
  ·split at h
   ·cases h
   ·split at h
    ·cases h
    ·cases h; simp
theorem inner_edges {n : Net} {lim i : Nat} : ∀ (ts : List Int) {nodes nd : List SN} {edges ed : List Edg}, innerF n lim i ts nodes edges = .cont nd ed → ed.length = edges.length + ts.length
 | [], _, _, _, _, h => by simp only [innerF] at h; cases h; rfl
 | t :: ts, nodes, nd, edges, ed, h => by
  simp only [innerF] at h
  cases hst : stepF n lim i t nodes edges with
  | err e => rw [hst] at h; cases h
  | pump nd1 ed1 p => rw [hst] at h; cases h
  | cont nd1 ed1 =>
   rw [hst] at h
   have h1 := step_edges hst
   have h2 := inner_edges ts h
   simp only [List.length_cons]; omega
theorem outer_edges {n : Net} {lim : Nat} : ∀ (f i : Nat) {nodes nd : List SN} {edges ed : List Edg}, outerF n lim f i nodes edges = .cont nd ed → ed.length ≤ edges.length + n.trs.length * f
 | 0, _, _, _, _, _, h => by cases h
 | f + 1, i, nodes, nd, edges, ed, h => by
  simp only [outerF] at h
  split at h
  ·cases hst : innerF n lim i (ableL n (nodes.getD i SN.no).m n.trs.length) nodes edges with
   | err e => rw [hst] at h; cases h
   | pump nd1 ed1 p => rw [hst] at h; cases h
   | cont nd1 ed1 =>
    rw [hst] at h
    have h1 := inner_edges _ hst
    have h2 := outer_edges f (i + 1) h
    have h3 := ableL_length n (nodes.getD i SN.no).m n.trs.length
    rw [Nat.mul_succ]; omega
  ·cases h; omega
theorem pump_back {l : List SN} {pl : Nat} (hN : NodesOk pl l) (last : List Int) : ∀ (f : Nat) (i first : Int), i < f → i < l.length → -1 ≤ i → pumpF l last f i first = first ∨ (0 ≤ i ∧ 0 ≤ pumpF l last f i first ∧ pumpF l last f i first < l.length ∧ ∃ pre, backF l f i = pre ++ backF l ((pumpF l last f i first).toNat + 1) (pumpF l last f i first))
 | 0, i, first, _, _, _ => .inl rfl
 | f + 1, i, first, h1, h2, h3 => by
  rw [pumpF]
  by_cases h0 : 0 ≤ i
  ·rw [if_pos h0]
   have hb := hN.back i.toNat (by omega)
   have ih := pump_back hN last f (l.getD i.toNat SN.no).before (if leqB (l.getD i.toNat SN.no).m last = true then i else first) (by omega) (by omega) (by omega)
   rcases ih with ih | ⟨k1, k2, k3, pre, k4⟩
   ·rw [ih]
    split
    ·exact .inr ⟨h0, h0, h2, [], by rw [List.nil_append]; exact backF_fuel hN _ _ i h0 h2 (by omega) (by omega)⟩
    ·exact .inl rfl
   ·refine .inr ⟨h0, k2, k3, (l.getD i.toNat SN.no).tr :: pre, ?_⟩
    rw [backF, if_pos k1, k4, List.cons_append]
  ·rw [if_neg h0]; exact .inl rfl
theorem path_pump {l : List SN} {pl : Nat} (hN : NodesOk pl l) (h0 : l ≠ []) (hp : 0 ≤ pumpsF l) : pumpsF l < l.length ∧ ∃ rest, rest ≠ [] ∧ pathF l ((l.length : Int) - 1) = pathF l (pumpsF l) ++ rest := by
 have hl : 0 < l.length := List.length_pos_iff.2 h0
 have hb := hN.back (l.length - 1) (by omega)
 have h := pump_back hN (l.getD (l.length - 1) SN.no).m (l.length + 1) (l.getD (l.length - 1) SN.no).before (-1) (by omega) (by omega) (by omega)
 rw [show pumpF l (l.getD (l.length - 1) SN.no).m (l.length + 1) (l.getD (l.length - 1) SN.no).before (-1) = pumpsF l from rfl] at h
 rcases h with h | ⟨k1, k2, k3, pre, k4⟩
 ·omega
 ·refine ⟨k3, ((l.getD (l.length - 1) SN.no).tr :: pre).reverse, by simp, ?_⟩
  have e : ((l.length : Int) - 1).toNat = l.length - 1 := by omega
  rw [pathF, pathF, e, ← List.reverse_append, List.cons_append, ← k4, backF, e, if_pos k1]
  rw [backF_fuel hN (l.length - 1) (l.length + 1) _ k1 (by omega) (by omega) (by omega)]
def bddR (n : Net) : AV := if netE n ≠ 0 then .tup [.one (.list []), .one (.list []), .one (.bool false), .one (.int .i64 (netE n))] else match searchF n 4096 with
 | .err e => .tup [.one (.list []), .one (.list []), .one (.bool false), .one (.int .i64 e)]
 | .pump nd _ p => .tup [.one (.list (ints (pathF nd p))), .one (.list (ints ((pathF nd ((nd.length : Int) - 1)).drop (pathF nd p).length))), .one (.bool false), .one (.int .i64 0)]
 | .cont _ _ => .tup [.one (.list []), .one (.list []), .one (.bool true), .one (.int .i64 0)]
set_option maxHeartbeats 8000000 in
theorem Bounded_c (n : Net) (hf : n.Fits) (h0 : n.init ≠ []) : ACalls Tryz.prog 62 [.agg n.d] (bddR n) [] := by
 have h1 := netCheck_c n hf
 by_cases hE : netE n = 0
 ·have h2 := searched_c n (netOk_of hE) h0
  have hO := outer_err n 4096 4098 0 [⟨n.init, -1, -1⟩] []
  have hS := search_ok n (netOk_of hE)
  rw [hE] at h1
  rw [show outerF n 4096 4098 0 [⟨n.init, -1, -1⟩] [] = searchF n 4096 from rfl] at hO
  rw [bddR, if_neg (by omega)]
  generalize searchF n 4096 = S at *
  cases S with
  | err e =>
   have he := hO.1 e rfl
   simp only [Net.d, soRes] at h1 h2
   simp only
   (refine ACalls.of_body Ty_ok mixed Tryz.func62 rfl (by kernel_rfl) Tryz.ntmps62 (by simp) (congrArg Array.toList Tryz.results62) ?_)
   simp only [slotsOf, Net.d]
   (repeat' (first | (with_reducible first | exact True.intro | refine And.intro ?_ ?_ | refine aBl ?_ | (refine aS 7 [] ?_; intro K hK)) | ((with_reducible first | refine aGo ?_ | refine rP Ty_ok mixed 10 [0, 1, 2, 9] [.mid [pe 3, pe 4, pe 5, pe 6, pe 7, ⟨8, 0, true, false, false, [], []⟩, ⟨10, 1, false, false, false, [0], []⟩, ⟨11, 1, false, false, false, [], []⟩, ⟨12, 1, false, false, false, [], []⟩, ⟨13, 1, false, false, false, [], []⟩, ⟨14, 1, false, false, false, [], []⟩, ⟨15, 1, false, false, false, [], []⟩] 1] ?_); simp only [go_sem]) | ((with_reducible refine aCd ?_ ?_ (fun hb => ?_) (fun hb => ?_)); (iterate 2 simp only [go_sem]); all_goals (simp only [go_sem] at hb; try simp only [bls] at hb)) | ((iterate 6 try ((fail_if_success with_reducible refine hK _ ?_ ?_ ?_); clear hK K)); with_reducible refine hK _ ?_ ?_ ?_; rotate_left; (focus (simp only [go_sem]; exact rfl)); clear hK K) | ((first | (with_reducible first | refine xA ?_ | refine xD ?_ | refine xO ?_ | refine xR ?_ | refine xG ?_ | refine xH ?_ | refine xM ?_) | ((with_reducible refine gA ?_); refine xA ?_) | ((with_reducible refine gD ?_); refine xD ?_) | ((with_reducible refine gG ?_); refine xG ?_)); simp only [go_sem]) | (with_reducible refine aGs (fun hg0 => ?_) (fun hg0 => ?_) <;> first | (with_reducible first | exact aF1 hg0 | exact aF2 hg0) | (simp only [hg0, go_sem])) | (with_reducible refine aNk ?_; intro bnil hnil; try simp only []) | exact aZ | fail))
   all_goals first | omega | skip
  | pump nd ed p =>
   have hp := hO.2 nd ed p rfl
   obtain ⟨hN, hnl, rfl, hne⟩ := hS.1 nd ed _ rfl
   obtain ⟨hpl, rest, hr, hpath⟩ := path_pump hN hne hp
   have hlen : 0 < nd.length := List.length_pos_iff.2 hne
   have c1 := ACalls.frozen (path_c n.init.length nd (edgsD ed) (pumpsF nd) (pumpsF nd) (by omega) hN hp hpl)
   have c2 := ACalls.frozen (path_c n.init.length nd (edgsD ed) (pumpsF nd) ((nd.length : Int) - 1) (by omega) hN (by omega) (by omega))
   have hle : (pathF nd (pumpsF nd)).length ≤ (pathF nd ((nd.length : Int) - 1)).length := by rw [hpath, List.length_append]; omega
   simp only [Net.d, soRes] at h1 h2
   simp only
   generalize pathF nd (pumpsF nd) = p1 at *
   generalize pathF nd ((nd.length : Int) - 1) = p2 at *
   (refine ACalls.of_body Ty_ok mixed Tryz.func62 rfl (by kernel_rfl) Tryz.ntmps62 (by simp) (congrArg Array.toList Tryz.results62) ?_)
   simp only [slotsOf, Net.d]
   (repeat' (first | (with_reducible first | exact True.intro | refine And.intro ?_ ?_ | refine aBl ?_ | (refine aS 7 [] ?_; intro K hK)) | ((with_reducible first | refine aGo ?_ | refine rP Ty_ok mixed 10 [0, 1, 2, 9] [.mid [pe 3, pe 4, pe 5, pe 6, pe 7, ⟨8, 0, true, false, false, [], []⟩, ⟨10, 1, false, false, false, [0], []⟩, ⟨11, 1, false, false, false, [], []⟩, ⟨12, 1, false, false, false, [], []⟩, ⟨13, 1, false, false, false, [], []⟩, ⟨14, 1, false, false, false, [], []⟩, ⟨15, 1, false, false, false, [], []⟩] 1] ?_); simp only [Int.toNat_natCast, go_sem]) | ((with_reducible refine aCd ?_ ?_ (fun hb => ?_) (fun hb => ?_)); (iterate 2 simp only [Int.toNat_natCast, go_sem]); all_goals (simp only [Int.toNat_natCast, go_sem] at hb; try simp only [bls] at hb)) | ((iterate 6 try ((fail_if_success with_reducible refine hK _ ?_ ?_ ?_); clear hK K)); with_reducible refine hK _ ?_ ?_ ?_; rotate_left; (focus (simp only [Int.toNat_natCast, go_sem]; exact rfl)); clear hK K) | ((first | (with_reducible first | refine xA ?_ | refine xD ?_ | refine xO ?_ | refine xR ?_ | refine xG ?_ | refine xH ?_ | refine xM ?_) | ((with_reducible refine gA ?_); refine xA ?_) | ((with_reducible refine gD ?_); refine xD ?_) | ((with_reducible refine gG ?_); refine xG ?_)); simp only [Int.toNat_natCast, go_sem]) | (with_reducible refine aGs (fun hg0 => ?_) (fun hg0 => ?_) <;> first | (with_reducible first | exact aF1 hg0 | exact aF2 hg0) | (simp only [hg0, Int.toNat_natCast, go_sem])) | (with_reducible refine aNk ?_; intro bnil hnil; try simp only []) | exact aZ | fail))
   all_goals first | omega | skip
   all_goals rw [List.take_length]
  | cont nd ed =>
   simp only [Net.d, soRes] at h1 h2
   simp only
   (refine ACalls.of_body Ty_ok mixed Tryz.func62 rfl (by kernel_rfl) Tryz.ntmps62 (by simp) (congrArg Array.toList Tryz.results62) ?_)
   simp only [slotsOf, Net.d]
   (repeat' (first | (with_reducible first | exact True.intro | refine And.intro ?_ ?_ | refine aBl ?_ | (refine aS 7 [] ?_; intro K hK)) | ((with_reducible first | refine aGo ?_ | refine rP Ty_ok mixed 10 [0, 1, 2, 9] [.mid [pe 3, pe 4, pe 5, pe 6, pe 7, ⟨8, 0, true, false, false, [], []⟩, ⟨10, 1, false, false, false, [0], []⟩, ⟨11, 1, false, false, false, [], []⟩, ⟨12, 1, false, false, false, [], []⟩, ⟨13, 1, false, false, false, [], []⟩, ⟨14, 1, false, false, false, [], []⟩, ⟨15, 1, false, false, false, [], []⟩] 1] ?_); simp only [go_sem]) | ((with_reducible refine aCd ?_ ?_ (fun hb => ?_) (fun hb => ?_)); (iterate 2 simp only [go_sem]); all_goals (simp only [go_sem] at hb; try simp only [bls] at hb)) | ((iterate 6 try ((fail_if_success with_reducible refine hK _ ?_ ?_ ?_); clear hK K)); with_reducible refine hK _ ?_ ?_ ?_; rotate_left; (focus (simp only [go_sem]; exact rfl)); clear hK K) | ((first | (with_reducible first | refine xA ?_ | refine xD ?_ | refine xO ?_ | refine xR ?_ | refine xG ?_ | refine xH ?_ | refine xM ?_) | ((with_reducible refine gA ?_); refine xA ?_) | ((with_reducible refine gD ?_); refine xD ?_) | ((with_reducible refine gG ?_); refine xG ?_)); simp only [go_sem]) | (with_reducible refine aGs (fun hg0 => ?_) (fun hg0 => ?_) <;> first | (with_reducible first | exact aF1 hg0 | exact aF2 hg0) | (simp only [hg0, go_sem])) | (with_reducible refine aNk ?_; intro bnil hnil; try simp only []) | exact aZ | fail))
   all_goals first | omega | skip
 ·rw [bddR, if_pos hE]
  simp only [Net.d] at h1
  (refine ACalls.of_body Ty_ok mixed Tryz.func62 rfl (by kernel_rfl) Tryz.ntmps62 (by simp) (congrArg Array.toList Tryz.results62) ?_)
  simp only [slotsOf, Net.d]
  (repeat' (first | (with_reducible first | exact True.intro | refine And.intro ?_ ?_ | refine aBl ?_ | (refine aS 7 [] ?_; intro K hK)) | ((with_reducible first | refine aGo ?_ | refine rP Ty_ok mixed 10 [0, 1, 2, 9] [.mid [pe 3, pe 4, pe 5, pe 6, pe 7, ⟨8, 0, true, false, false, [], []⟩, ⟨10, 1, false, false, false, [0], []⟩, ⟨11, 1, false, false, false, [], []⟩, ⟨12, 1, false, false, false, [], []⟩, ⟨13, 1, false, false, false, [], []⟩, ⟨14, 1, false, false, false, [], []⟩, ⟨15, 1, false, false, false, [], []⟩] 1] ?_); simp only [go_sem]) | ((with_reducible refine aCd ?_ ?_ (fun hb => ?_) (fun hb => ?_)); (iterate 2 simp only [go_sem]); all_goals (simp only [go_sem] at hb; try simp only [bls] at hb)) | ((iterate 6 try ((fail_if_success with_reducible refine hK _ ?_ ?_ ?_); clear hK K)); with_reducible refine hK _ ?_ ?_ ?_; rotate_left; (focus (simp only [go_sem]; exact rfl)); clear hK K) | ((first | (with_reducible first | refine xA ?_ | refine xD ?_ | refine xO ?_ | refine xR ?_ | refine xG ?_ | refine xH ?_ | refine xM ?_) | ((with_reducible refine gA ?_); refine xA ?_) | ((with_reducible refine gD ?_); refine xD ?_) | ((with_reducible refine gG ?_); refine xG ?_)); simp only [go_sem]) | (with_reducible refine aGs (fun hg0 => ?_) (fun hg0 => ?_) <;> first | (with_reducible first | exact aF1 hg0 | exact aF2 hg0) | (simp only [hg0, go_sem])) | (with_reducible refine aNk ?_; intro bnil hnil; try simp only []) | exact aZ | fail))
  all_goals first | omega | skip
end Go.Proofs.YtgbhmieaoaojoaaGreatDoor
