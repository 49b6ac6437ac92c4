/-
 Contracts: Deadlock; what a search within the limit gives.
-/
import Derived.Test.YtkjllcmpjghmkaaGreatDoorS5
import Derived.Test.YtkjllcmpjghmkaaGreatDoorS6
set_option linter.unusedSimpArgs false
set_option linter.unusedVariables false
namespace Go.Proofs.YtkjllcmpjghmkaaGreatDoor
open Go.Eng Go.RowKit
theorem zgR (n : Net) (hn : NetOk n) (lim : Nat) (hl : lim ≤ 4096) : ∀ (f i : Nat) (nodes : List SN) (edges : List Edg), NodesOk n.init.length nodes → nodes.length ≤ lim →
  (∀ nd ed p, z0x n lim f i nodes edges = .pump nd ed p → NodesOk n.init.length nd ∧ nd.length ≤ lim + 1 ∧ p = z0D nd ∧ nd ≠ []) ∧ ∀ nd ed, z0x n lim f i nodes edges = .cont nd ed → NodesOk n.init.length nd ∧ nd.length ≤ lim := by
 have step : ∀ (i : Nat) (t : Int) (nodes : List SN) (edges : List Edg), NodesOk n.init.length nodes → nodes.length ≤ lim → i < nodes.length → t ∈ ableL n (nodes.getD i SN.no).m n.trs.length →
   (∀ nd ed p, stepF n lim i t nodes edges = .pump nd ed p → NodesOk n.init.length nd ∧ nd.length ≤ lim + 1 ∧ p = z0D nd ∧ nd ≠ []) ∧ ∀ nd ed, stepF n lim i t nodes edges = .cont nd ed → NodesOk n.init.length nd ∧ nd.length ≤ lim ∧ nodes.length ≤ nd.length ∧ nd.getD i SN.no = nodes.getD i SN.no := by
  intro i t nodes edges hN hlen hi ht
  obtain ⟨t0, t1, t2⟩ := z4G ht
  have hfl := z0y (n.trs.getD t.toNat Tr.no) (nodes.getD i SN.no).m
  have hml := hN.len _ (z01 nodes i SN.no hi)
  unfold stepF
  simp only
  generalize z05 (n.trs.getD t.toNat Tr.no) (nodes.getD i SN.no).m = m at *
  split
  ·exact ⟨fun nd ed p h => (nomatch h), fun nd ed h => (nomatch h)⟩
  ·rename_i hbad
   have hok : ∀ y ∈ m, 0 ≤ y ∧ y ≤ 65536 := fun y hy => by
    have : tokB y ≠ true := fun hh => hbad (List.any_eq_true.2 ⟨y, hy, hh⟩)
    simp [tokB] at this
    omega
   have hN2 := hN.snoc (m := m) (i := i) (t := t) (by omega) hok hi
   split
   ·exact ⟨fun nd ed p h => (nomatch h), fun nd ed h => by cases h; exact ⟨hN, hlen, Nat.le_refl _, rfl⟩⟩
   ·split
    ·exact ⟨fun nd ed p h => by cases h; exact ⟨hN2, by simp; omega, rfl, by simp⟩, fun nd ed h => (nomatch h)⟩
    ·split
     ·exact ⟨fun nd ed p h => (nomatch h), fun nd ed h => (nomatch h)⟩
     ·exact ⟨fun nd ed p h => (nomatch h), fun nd ed h => by cases h; exact ⟨hN2, by omega, by simp, z08 _ _ _ _ hi⟩⟩
 have inner : ∀ (i : Nat) (ts : List Int) (nodes : List SN) (edges : List Edg), NodesOk n.init.length nodes → nodes.length ≤ lim → i < nodes.length → (∀ t ∈ ts, t ∈ ableL n (nodes.getD i SN.no).m n.trs.length) →
   (∀ nd ed p, z0t n lim i ts nodes edges = .pump nd ed p → NodesOk n.init.length nd ∧ nd.length ≤ lim + 1 ∧ p = z0D nd ∧ nd ≠ []) ∧ ∀ nd ed, z0t n lim i ts nodes edges = .cont nd ed → NodesOk n.init.length nd ∧ nd.length ≤ lim := by
  intro i ts
  induction ts with
  | nil => intro nodes edges hN hlen _ _; exact ⟨fun nd ed p h => (nomatch h), fun nd ed h => by cases h; exact ⟨hN, hlen⟩⟩
  | cons t ts ih =>
   intro nodes edges hN hlen hi hts
   have hs := step i t nodes edges hN hlen hi (hts t (by simp))
   simp only [z0t]
   cases hst : stepF n lim i t nodes edges with
   | err e => exact ⟨fun nd ed p h => (nomatch h), fun nd ed h => (nomatch h)⟩
   | pump nd ed p => exact ⟨fun nd' ed' p' h => by cases h; exact hs.1 _ _ _ hst, fun nd ed h => (nomatch h)⟩
   | cont nd ed =>
    obtain ⟨k1, k2, k3, k4⟩ := hs.2 _ _ hst
    exact ih nd ed k1 k2 (by omega) fun t' ht' => by rw [k4]; exact hts t' (by simp [ht'])
 intro f
 induction f with
 | zero => intro i nodes edges _ _; exact ⟨fun nd ed p h => (nomatch h), fun nd ed h => (nomatch h)⟩
 | succ f ih =>
  intro i nodes edges hN hlen
  simp only [z0x]
  split
  ·rename_i hi
   have hs := inner i (ableL n (nodes.getD i SN.no).m n.trs.length) nodes edges hN hlen hi fun t ht => ht
   cases hst : z0t n lim i (ableL n (nodes.getD i SN.no).m n.trs.length) nodes edges with
   | err e => exact ⟨fun nd ed p h => (nomatch h), fun nd ed h => (nomatch h)⟩
   | pump nd ed p => exact ⟨fun nd' ed' p' h => by cases h; exact hs.1 _ _ _ hst, fun nd ed h => (nomatch h)⟩
   | cont nd ed =>
    obtain ⟨k1, k2⟩ := hs.2 _ _ hst
    exact ih (i + 1) nd ed k1 k2
  ·exact ⟨fun nd ed p h => (nomatch h), fun nd ed h => by cases h; exact ⟨hN, hlen⟩⟩
theorem z9B (n : Net) (hn : NetOk n) : (∀ nd ed p, z0w n 4096 = .pump nd ed p → NodesOk n.init.length nd ∧ nd.length ≤ 4097 ∧ p = z0D nd ∧ nd ≠ []) ∧ ∀ nd ed, z0w n 4096 = .cont nd ed → NodesOk n.init.length nd ∧ nd.length ≤ 4096 :=
 zgR n hn 4096 (Nat.le_refl _) 4098 0 [⟨n.init, -1, -1⟩] [] (z3U hn.tok) (by rw [List.length_singleton]; omega)
theorem zdd {n : Net} {lim i : Nat} {t : Int} {nodes nd : List SN} {edges ed : List Edg} (h : stepF n lim i t nodes edges = .cont nd ed) : ed.length = edges.length + 1 := by
 unfold stepF at h
 simp only at h
 split at h
 ·cases h
 ·split at h
  ·cases h; simp
  ·split at h
   ·cases h
   ·split at h
    ·cases h
    ·cases h; simp
theorem z6K {n : Net} {lim i : Nat} : ∀ (ts : List Int) {nodes nd : List SN} {edges ed : List Edg}, z0t n lim i ts nodes edges = .cont nd ed → ed.length = edges.length + ts.length
 | [], _, _, _, _, h => by simp only [z0t] at h; cases h; rfl
 | t :: ts, nodes, nd, edges, ed, h => by
  simp only [z0t] at h
  cases hst : stepF n lim i t nodes edges with
  | err e => rw [hst] at h; cases h
  | pump nd1 ed1 p => rw [hst] at h; cases h
  | cont nd1 ed1 =>
   rw [hst] at h
   have h1 := zdd hst
   have h2 := z6K ts h
   simp only [List.length_cons]; omega
theorem z6B {n : Net} {lim : Nat} : ∀ (f i : Nat) {nodes nd : List SN} {edges ed : List Edg}, z0x n lim f i nodes edges = .cont nd ed → ed.length ≤ edges.length + n.trs.length * f
 | 0, _, _, _, _, _, h => by cases h
 | f + 1, i, nodes, nd, edges, ed, h => by
  simp only [z0x] at h
  split at h
  ·cases hst : z0t n lim i (ableL n (nodes.getD i SN.no).m n.trs.length) nodes edges with
   | err e => rw [hst] at h; cases h
   | pump nd1 ed1 p => rw [hst] at h; cases h
   | cont nd1 ed1 =>
    rw [hst] at h
    have h1 := z6K _ hst
    have h2 := z6B f (i + 1) h
    have h3 := z2k n (nodes.getD i SN.no).m n.trs.length
    rw [Nat.mul_succ]; omega
  ·cases h; omega
theorem z9L {l : List SN} {pl : Nat} (hN : NodesOk pl l) (last : List Int) : ∀ (f : Nat) (i first : Int), i < f → i < l.length → -1 ≤ i → pumpF l last f i first = first ∨ (0 ≤ i ∧ 0 ≤ pumpF l last f i first ∧ pumpF l last f i first < l.length ∧ ∃ pre, backF l f i = pre ++ backF l ((pumpF l last f i first).toNat + 1) (pumpF l last f i first))
 | 0, i, first, _, _, _ => .inl rfl
 | f + 1, i, first, h1, h2, h3 => by
  rw [pumpF]
  by_cases h0 : 0 ≤ i
  ·rw [if_pos h0]
   have hb := hN.back i.toNat (by omega)
   have ih := z9L hN last f (l.getD i.toNat SN.no).before (if leqB (l.getD i.toNat SN.no).m last = true then i else first) (by omega) (by omega) (by omega)
   rcases ih with ih | ⟨k1, k2, k3, pre, k4⟩
   ·rw [ih]
    split
    ·exact .inr ⟨h0, h0, h2, [], by rw [List.nil_append]; exact z54 hN _ _ i h0 h2 (by omega) (by omega)⟩
    ·exact .inl rfl
   ·refine .inr ⟨h0, k2, k3, (l.getD i.toNat SN.no).tr :: pre, ?_⟩
    rw [backF, if_pos k1, k4, List.cons_append]
  ·rw [if_neg h0]; exact .inl rfl
theorem z9N {l : List SN} {pl : Nat} (hN : NodesOk pl l) (h0 : l ≠ []) (hp : 0 ≤ z0D l) : z0D l < l.length ∧ ∃ rest, rest ≠ [] ∧ pathF l ((l.length : Int) - 1) = pathF l (z0D l) ++ rest := by
 have hl : 0 < l.length := List.length_pos_iff.2 h0
 have hb := hN.back (l.length - 1) (by omega)
 have h := z9L hN (l.getD (l.length - 1) SN.no).m (l.length + 1) (l.getD (l.length - 1) SN.no).before (-1) (by omega) (by omega) (by omega)
 rw [show pumpF l (l.getD (l.length - 1) SN.no).m (l.length + 1) (l.getD (l.length - 1) SN.no).before (-1) = z0D l from rfl] at h
 rcases h with h | ⟨k1, k2, k3, pre, k4⟩
 ·omega
 ·refine ⟨k3, ((l.getD (l.length - 1) SN.no).tr :: pre).reverse, by simp, ?_⟩
  have e : ((l.length : Int) - 1).toNat = l.length - 1 := by omega
  rw [pathF, pathF, e, ← List.reverse_append, List.cons_append, ← k4, backF, e, if_pos k1]
  rw [z54 hN (l.length - 1) (l.length + 1) _ k1 (by omega) (by omega) (by omega)]
def bddR (n : Net) : AV := if netE n ≠ 0 then .tup [.one (.list []), .one (.list []), .one (.bool false), .one (.int .i64 (netE n))] else match z0w n 4096 with
 | .err e => .tup [.one (.list []), .one (.list []), .one (.bool false), .one (.int .i64 e)]
 | .pump nd _ p => .tup [.one (.list (ints (pathF nd p))), .one (.list (ints ((pathF nd ((nd.length : Int) - 1)).drop (pathF nd p).length))), .one (.bool false), .one (.int .i64 0)]
 | .cont _ _ => .tup [.one (.list []), .one (.list []), .one (.bool true), .one (.int .i64 0)]
set_option maxHeartbeats 8000000 in
theorem zgn (n : Net) (hf : n.Fits) (h0 : n.init ≠ []) : ACalls Tryz.prog 103 [.agg n.d] (bddR n) [] := by
 have h1 := z2s n hf
 by_cases hE : netE n = 0
 ·have h2 := z7Q n (z0K hE) h0
  have hO := z6A n 4096 4098 0 [⟨n.init, -1, -1⟩] []
  have hS := z9B n (z0K hE)
  rw [hE] at h1
  rw [show z0x n 4096 4098 0 [⟨n.init, -1, -1⟩] [] = z0w n 4096 from rfl] at hO
  rw [bddR, if_neg (by omega)]
  generalize z0w n 4096 = S at *
  cases S with
  | err e =>
   have he := hO.1 e rfl
   simp only [Net.d, soRes] at h1 h2
   simp only
   (refine ACalls.of_body Ty_ok mixed Tryz.func103 rfl (by kernel_rfl) Tryz.ntmps103 (by simp) (congrArg Array.toList Tryz.results103) ?_)
   simp only [z00, Net.d]
   (repeat' (first | (with_reducible (refine aS 7 [] ?_; intro K hK)) | ((with_reducible refine aGo ?_); simp only [go_sem]) | ((with_reducible refine aCd ?_ ?_ (fun hb => ?_) (fun hb => ?_)); (iterate 2 simp only [go_sem]); all_goals (simp only [go_sem] at hb; try simp only [bls] at hb)) | ((iterate 6 try ((fail_if_success with_reducible refine hK _ ?_ ?_ ?_); clear hK K)); with_reducible refine hK _ ?_ ?_ ?_; rotate_left; (focus (simp only [go_sem]; exact rfl)); clear hK K) | ((with_reducible refine xA ?_); simp only [go_sem]) | exact aZ | fail))
   all_goals first | omega | skip
  | pump nd ed p =>
   have hp := hO.2 nd ed p rfl
   obtain ⟨hN, hnl, rfl, hne⟩ := hS.1 nd ed _ rfl
   obtain ⟨hpl, rest, hr, hpath⟩ := z9N hN hne hp
   have hlen : 0 < nd.length := List.length_pos_iff.2 hne
   have c1 := ACalls.frozen (zeH n.init.length nd (edgsD ed) (z0D nd) (z0D nd) (by omega) hN hp hpl)
   have c2 := ACalls.frozen (zeH n.init.length nd (edgsD ed) (z0D nd) ((nd.length : Int) - 1) (by omega) hN (by omega) (by omega))
   have hle : (pathF nd (z0D nd)).length ≤ (pathF nd ((nd.length : Int) - 1)).length := by rw [hpath, List.length_append]; omega
   simp only [Net.d, soRes] at h1 h2
   simp only
   generalize pathF nd (z0D nd) = p1 at *
   generalize pathF nd ((nd.length : Int) - 1) = p2 at *
   (refine ACalls.of_body Ty_ok mixed Tryz.func103 rfl (by kernel_rfl) Tryz.ntmps103 (by simp) (congrArg Array.toList Tryz.results103) ?_)
   simp only [z00, Net.d]
   (repeat' (first | (with_reducible first | refine And.intro ?_ ?_ | (refine aS 7 [] ?_; intro K hK)) | ((with_reducible first | refine aGo ?_ | refine rP Ty_ok mixed 10 [0, 1, 2, 9] [.mid [pe 3, pe 4, pe 5, pe 6, pe 7, ⟨8, 0, true, false, false, [], []⟩, ⟨10, 1, false, false, false, [0], []⟩, ⟨11, 1, false, false, false, [], []⟩, ⟨12, 1, false, false, false, [], []⟩, ⟨13, 1, false, false, false, [], []⟩, ⟨14, 1, false, false, false, [], []⟩, ⟨15, 1, false, false, false, [], []⟩] 1] ?_); simp only [Int.toNat_natCast, go_sem]) | ((with_reducible refine aCd ?_ ?_ (fun hb => ?_) (fun hb => ?_)); (iterate 2 simp only [Int.toNat_natCast, go_sem]); all_goals (simp only [Int.toNat_natCast, go_sem] at hb; try simp only [bls] at hb)) | ((iterate 6 try ((fail_if_success with_reducible refine hK _ ?_ ?_ ?_); clear hK K)); with_reducible refine hK _ ?_ ?_ ?_; rotate_left; (focus (simp only [Int.toNat_natCast, go_sem]; exact rfl)); clear hK K) | ((with_reducible first | refine xA ?_ | refine xO ?_); simp only [Int.toNat_natCast, go_sem]) | exact aZ | fail))
   all_goals first | omega | skip
   all_goals rw [List.take_length]
  | cont nd ed =>
   simp only [Net.d, soRes] at h1 h2
   simp only
   (refine ACalls.of_body Ty_ok mixed Tryz.func103 rfl (by kernel_rfl) Tryz.ntmps103 (by simp) (congrArg Array.toList Tryz.results103) ?_)
   simp only [z00, Net.d]
   (repeat' (first | (with_reducible (refine aS 7 [] ?_; intro K hK)) | ((with_reducible refine aGo ?_); simp only [go_sem]) | ((with_reducible refine aCd ?_ ?_ (fun hb => ?_) (fun hb => ?_)); (iterate 2 simp only [go_sem]); all_goals (simp only [go_sem] at hb; try simp only [bls] at hb)) | ((iterate 6 try ((fail_if_success with_reducible refine hK _ ?_ ?_ ?_); clear hK K)); with_reducible refine hK _ ?_ ?_ ?_; rotate_left; (focus (simp only [go_sem]; exact rfl)); clear hK K) | ((with_reducible refine xA ?_); simp only [go_sem]) | fail))
   all_goals first | omega | skip
 ·rw [bddR, if_pos hE]
  simp only [Net.d] at h1
  (refine ACalls.of_body Ty_ok mixed Tryz.func103 rfl (by kernel_rfl) Tryz.ntmps103 (by simp) (congrArg Array.toList Tryz.results103) ?_)
  simp only [z00, Net.d]
  (repeat' (first | (with_reducible (refine aS 7 [] ?_; intro K hK)) | ((with_reducible refine aGo ?_); simp only [go_sem]) | ((with_reducible refine aCd ?_ ?_ (fun hb => ?_) (fun hb => ?_)); (iterate 2 simp only [go_sem]); all_goals (simp only [go_sem] at hb; try simp only [bls] at hb)) | ((iterate 6 try ((fail_if_success with_reducible refine hK _ ?_ ?_ ?_); clear hK K)); with_reducible refine hK _ ?_ ?_ ?_; rotate_left; (focus (simp only [go_sem]; exact rfl)); clear hK K) | ((with_reducible refine xA ?_); simp only [go_sem]) | exact aZ | fail))
  all_goals first | omega | skip
end Go.Proofs.YtkjllcmpjghmkaaGreatDoor
set_option linter.unusedSimpArgs false
set_option linter.unusedVariables false
namespace Go.Proofs.YtkjllcmpjghmkaaGreatDoor
open Go.Eng Go.RowKit
theorem zcP {n : Net} {nd : List SN} {ed : List Edg} (h : bndF n = .inr (nd, ed)) : NetOk n ∧ NodesOk n.init.length nd ∧ nd.length ≤ 4096 := by
 unfold bndF at h
 split at h
 ·cases h
 ·rename_i hE
  have hok := z0K (n := n) (by omega)
  have hS := z9B n hok
  cases hs : z0w n 4096 with
  | err e => rw [hs] at h; cases h
  | pump a b p => rw [hs] at h; cases h
  | cont a b =>
   rw [hs] at h
   cases h
   exact ⟨hok, hS.2 _ _ hs⟩
def z1Q (n : Net) : List SN → Nat → Int
 | [], _ => -1
 | x :: l, k => if (ableL n x.m n.trs.length).length = 0 then k else z1Q n l (k + 1)
theorem ziY {l : List SN} {k : Nat} (h : k < l.length) : l.drop k = l.getD k SN.no :: l.drop (k + 1) := by
 rw [List.drop_eq_getElem_cons h, List.getD, List.getElem?_eq_getElem h]; rfl
def dlR (n : Net) : Sum Int (List SN × List Edg) → AV
 | .inl e => .tup [.one (.list []), .one (.bool false), .one (.int .i64 e)]
 | .inr (nodes, _) => if 0 ≤ z1Q n nodes 0 then .tup [.one (.list (ints (pathF nodes (z1Q n nodes 0)))), .one (.bool true), .one (.int .i64 0)] else .tup [.one (.list []), .one (.bool false), .one (.int .i64 0)]
set_option maxHeartbeats 8000000 in
theorem zeg (n : Net) (hf : n.Fits) (h0 : n.init ≠ []) : ACalls Tryz.prog 89 [.agg n.d] (dlR n (bndF n)) [] := by
 have h1 := z7d n hf h0
 have hne := fun e => zaH (n := n) (e := e)
 have hok := fun nd ed => zcP (n := n) (nd := nd) (ed := ed)
 generalize bndF n = B at *
 cases B with
 | inl e =>
  have hne := hne e rfl
  simp only [Net.d, bndR] at h1
  simp only [dlR]
  (refine ACalls.of_body Ty_ok mixed Tryz.func89 rfl (by kernel_rfl) Tryz.ntmps89 (by simp) (congrArg Array.toList Tryz.results89) ?_)
  simp only [z00, Net.d]
  (repeat' (first | (with_reducible (refine aS 8 [20, 19, 21] ?_; intro K hK)) | ((with_reducible refine aGo ?_); simp only [go_sem]) | ((with_reducible refine aCd ?_ ?_ (fun hb => ?_) (fun hb => ?_)); (iterate 2 simp only [go_sem]); all_goals (simp only [go_sem] at hb; try simp only [bls] at hb)) | ((iterate 6 try ((fail_if_success with_reducible refine hK _ ?_ ?_ ?_); clear hK K)); with_reducible refine hK _ ?_ ?_ ?_; rotate_left; (focus (simp only [go_sem]; exact rfl)); clear hK K) | ((with_reducible refine xA ?_); simp only [go_sem]) | exact aZ | fail))
  all_goals first | omega | skip
 | inr r =>
  obtain ⟨nd, ed⟩ := r
  obtain ⟨hn, hN, hl⟩ := hok nd ed rfl
  simp only [Net.d, bndR] at h1
  simp only [dlR]
  generalize hR : (if 0 ≤ z1Q n nd 0 then AV.tup [.one (.list (ints (pathF nd (z1Q n nd 0)))), .one (.bool true), .one (.int .i64 0)] else .tup [.one (.list []), .one (.bool false), .one (.int .i64 0)]) = R
  (refine ACalls.of_body Ty_ok mixed Tryz.func89 rfl (by kernel_rfl) Tryz.ntmps89 (by simp) (congrArg Array.toList Tryz.results89) ?_)
  simp only [z00, Net.d]
  (repeat' (first | (with_reducible first | refine aBl ?_ | (refine aS 8 [20, 19, 21] ?_; intro K hK)) | ((with_reducible refine aGo ?_); simp only [go_sem]) | ((with_reducible refine aCd ?_ ?_ (fun hb => ?_) (fun hb => ?_)); (iterate 2 simp only [go_sem]); all_goals (simp only [go_sem] at hb; try simp only [bls] at hb)) | ((iterate 6 try ((fail_if_success with_reducible refine hK _ ?_ ?_ ?_); clear hK K)); with_reducible refine hK _ ?_ ?_ ?_; rotate_left; (focus (simp only [go_sem]; exact rfl)); clear hK K) | ((with_reducible refine xA ?_); simp only [go_sem]) | fail))
  all_goals first | omega | skip
  refine z02 _ (by simp only [go_sem]; rfl) Nat (fun k => k ≤ nd.length ∧ z1Q n nd 0 = z1Q n (nd.drop k) k) (fun k => [(21, .one (.int .i64 k))]) (fun _ H => H) (fun k => nd.length - k) 0 ⟨by omega, by rw [List.drop_zero]⟩ ?_ ?_
  ·(simp only [SubF, go_sem]; (try simp only [go_sem]); repeat' (first | exact True.intro | with_reducible refine And.intro ?_ ?_ | rfl | omega))
  rintro k ⟨hk, hd⟩ L hL
  have hq : ((k : Nat) : Int).toNat = k := by omega
  by_cases hlk : k < nd.length
  ·have a1 := z1X (l := nd) hlk [.nil, .int .i64 0, .int .i64 0]
   have a2 := z1X (l := nd) hlk []
   rw [ziY hlk, z1Q] at hd
   have hA := ACalls.frozen (zge n (nd.getD k SN.no).m hn (hN.len _ (z01 nd k SN.no hlk)))
   have hP := ACalls.frozen (zeH n.init.length nd (edgsD ed) (-1) k (by omega) hN (by omega) (by omega))
   simp only [Net.d] at hA
   by_cases hz : (ableL n (nd.getD k SN.no).m n.trs.length).length = 0
   ·rw [if_pos hz] at hd
    rw [hd, if_pos (by omega)] at hR
    subst hR
    (simp only [go_sem] at hL ⊢)
    (repeat' (first | (with_reducible first | refine And.intro ?_ ?_ | refine aBl ?_ | (refine aS 8 [20, 19, 21] ?_; intro K hK)) | ((with_reducible refine aGo ?_); simp only [hq, a1, a2, go_sem]) | ((with_reducible refine aCd ?_ ?_ (fun hb => ?_) (fun hb => ?_)); (iterate 2 simp only [hq, a1, a2, go_sem]); all_goals (simp only [hq, a1, a2, go_sem] at hb; try simp only [bls] at hb)) | ((iterate 6 try ((fail_if_success with_reducible refine hK _ ?_ ?_ ?_); clear hK K)); with_reducible refine hK _ ?_ ?_ ?_; rotate_left; (focus (simp only [hq, a1, a2, go_sem]; exact rfl)); clear hK K) | ((with_reducible refine xA ?_); simp only [hq, a1, a2, go_sem]) | exact aZ | fail))
    all_goals first | omega | skip
   ·rw [if_neg hz] at hd
    (simp only [go_sem] at hL ⊢)
    (repeat' (first | (with_reducible first | refine And.intro ?_ ?_ | refine aBl ?_ | (refine aS 8 [20, 19, 21] ?_; intro K hK)) | ((with_reducible refine aGo ?_); simp only [hq, a1, a2, go_sem]) | ((with_reducible refine aCd ?_ ?_ (fun hb => ?_) (fun hb => ?_)); (iterate 2 simp only [hq, a1, a2, go_sem]); all_goals (simp only [hq, a1, a2, go_sem] at hb; try simp only [bls] at hb)) | ((iterate 6 try ((fail_if_success with_reducible refine hK _ ?_ ?_ ?_); clear hK K)); with_reducible refine hK _ ?_ ?_ ?_; rotate_left; (focus (simp only [hq, a1, a2, go_sem]; exact rfl)); clear hK K) | ((with_reducible refine xA ?_); simp only [hq, a1, a2, go_sem]) | exact aZ | fail))
    all_goals first | omega | skip
    exact hL _ (k + 1) ⟨by omega, hd⟩ (by (simp only [SubF, go_sem]; (try simp only [go_sem]); repeat' (first | exact True.intro | with_reducible refine And.intro ?_ ?_ | rfl | omega))) (by omega)
  ·have hkl : k = nd.length := by omega
   subst hkl
   rw [List.drop_length, z1Q] at hd
   rw [hd, if_neg (by omega)] at hR
   subst hR
   (simp only [go_sem] at hL ⊢)
   (repeat' (first | (with_reducible first | refine And.intro ?_ ?_ | refine aBl ?_ | (refine aS 8 [20, 19, 21] ?_; intro K hK)) | ((with_reducible refine aGo ?_); simp only [go_sem]) | ((with_reducible refine aCd ?_ ?_ (fun hb => ?_) (fun hb => ?_)); (iterate 2 simp only [go_sem]); all_goals (simp only [go_sem] at hb; try simp only [bls] at hb)) | ((iterate 6 try ((fail_if_success with_reducible refine hK _ ?_ ?_ ?_); clear hK K)); with_reducible refine hK _ ?_ ?_ ?_; rotate_left; (focus (simp only [go_sem]; exact rfl)); clear hK K) | exact aZ | fail))
   all_goals first | omega | skip
end Go.Proofs.YtkjllcmpjghmkaaGreatDoor
