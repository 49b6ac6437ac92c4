/-
 Contracts: Bounded, Deadlock.
-/
import Derived.Test.YtljpfdehnjemlaaDoorS5
import Derived.Test.YtljpfdehnjemlaaDoorS4
set_option linter.unusedSimpArgs false
set_option linter.unusedVariables false
namespace Go.Proofs.YtljpfdehnjemlaaDoor
open Go.Eng Go.RowKit
theorem outer_ok (n : Net) (hn : NetOk n) (lim : Nat) (hl : lim ≤ 4096) : ∀ (f i : Nat) (nodes : List SN) (edges : List Edg), NodesOk n.init.length nodes → nodes.length ≤ lim →
  (∀ nd ed p, outerF n lim f i nodes edges = .pump nd ed p → NodesOk n.init.length nd ∧ nd.length ≤ lim + 1 ∧ p = pumpsF nd ∧ nd ≠ []) ∧ ∀ nd ed, outerF n lim f i nodes edges = .cont nd ed → NodesOk n.init.length nd ∧ nd.length ≤ lim := by
 have step : ∀ (i : Nat) (t : Int) (nodes : List SN) (edges : List Edg), NodesOk n.init.length nodes → nodes.length ≤ lim → i < nodes.length → t ∈ ableL n (nodes.getD i SN.no).m n.trs.length →
   (∀ nd ed p, stepF n lim i t nodes edges = .pump nd ed p → NodesOk n.init.length nd ∧ nd.length ≤ lim + 1 ∧ p = pumpsF nd ∧ nd ≠ []) ∧ ∀ nd ed, stepF n lim i t nodes edges = .cont nd ed → NodesOk n.init.length nd ∧ nd.length ≤ lim ∧ nodes.length ≤ nd.length ∧ nd.getD i SN.no = nodes.getD i SN.no := by
  intro i t nodes edges hN hlen hi ht
  obtain ⟨t0, t1, t2⟩ := able_mem ht
  have hfl := firedL_length (n.trs.getD t.toNat Tr.no) (nodes.getD i SN.no).m
  have hml := hN.len _ (getD_mem nodes i SN.no hi)
  unfold stepF
  simp only
  generalize firedL (n.trs.getD t.toNat Tr.no) (nodes.getD i SN.no).m = m at *
  split
  ·exact ⟨fun nd ed p h => (nomatch h), fun nd ed h => (nomatch h)⟩
  ·rename_i hbad
   have hok : ∀ y ∈ m, 0 ≤ y ∧ y ≤ 65536 := fun y hy => by
    have : tokB y ≠ true := fun hh => hbad (List.any_eq_true.2 ⟨y, hy, hh⟩)
    simp [tokB] at this
    omega
   have hN2 := hN.snoc (m := m) (i := i) (t := t) (by omega) hok hi
   split
   ·exact ⟨fun nd ed p h => (nomatch h), fun nd ed h => by cases h; exact ⟨hN, hlen, Nat.le_refl _, rfl⟩⟩
   ·split
    ·exact ⟨fun nd ed p h => by cases h; exact ⟨hN2, by simp; omega, rfl, by simp⟩, fun nd ed h => (nomatch h)⟩
    ·split
     ·exact ⟨fun nd ed p h => (nomatch h), fun nd ed h => (nomatch h)⟩
     ·exact ⟨fun nd ed p h => (nomatch h), fun nd ed h => by cases h; exact ⟨hN2, by omega, by simp, getD_append_lt _ _ _ _ hi⟩⟩
 have inner : ∀ (i : Nat) (ts : List Int) (nodes : List SN) (edges : List Edg), NodesOk n.init.length nodes → nodes.length ≤ lim → i < nodes.length → (∀ t ∈ ts, t ∈ ableL n (nodes.getD i SN.no).m n.trs.length) →
   (∀ nd ed p, innerF n lim i ts nodes edges = .pump nd ed p → NodesOk n.init.length nd ∧ nd.length ≤ lim + 1 ∧ p = pumpsF nd ∧ nd ≠ []) ∧ ∀ nd ed, innerF n lim i ts nodes edges = .cont nd ed → NodesOk n.init.length nd ∧ nd.length ≤ lim := by
  intro i ts
  induction ts with
  | nil => intro nodes edges hN hlen _ _; exact ⟨fun nd ed p h => (nomatch h), fun nd ed h => by cases h; exact ⟨hN, hlen⟩⟩
  | cons t ts ih =>
   intro nodes edges hN hlen hi hts
   have hs := step i t nodes edges hN hlen hi (hts t (by simp))
   simp only [innerF]
   cases hst : stepF n lim i t nodes edges with
   | err e => exact ⟨fun nd ed p h => (nomatch h), fun nd ed h => (nomatch h)⟩
   | pump nd ed p => exact ⟨fun nd' ed' p' h => by cases h; exact hs.1 _ _ _ hst, fun nd ed h => (nomatch h)⟩
   | cont nd ed =>
    obtain ⟨k1, k2, k3, k4⟩ := hs.2 _ _ hst
    exact ih nd ed k1 k2 (by omega) fun t' ht' => by rw [k4]; exact hts t' (by simp [ht'])
 intro f
 induction f with
 | zero => intro i nodes edges _ _; exact ⟨fun nd ed p h => (nomatch h), fun nd ed h => (nomatch h)⟩
 | succ f ih =>
  intro i nodes edges hN hlen
  simp only [outerF]
  split
  ·rename_i hi
   have hs := inner i (ableL n (nodes.getD i SN.no).m n.trs.length) nodes edges hN hlen hi fun t ht => ht
   cases hst : innerF n lim i (ableL n (nodes.getD i SN.no).m n.trs.length) nodes edges with
   | err e => exact ⟨fun nd ed p h => (nomatch h), fun nd ed h => (nomatch h)⟩
   | pump nd ed p => exact ⟨fun nd' ed' p' h => by cases h; exact hs.1 _ _ _ hst, fun nd ed h => (nomatch h)⟩
   | cont nd ed =>
    obtain ⟨k1, k2⟩ := hs.2 _ _ hst
    exact ih (i + 1) nd ed k1 k2
  ·exact ⟨fun nd ed p h => (nomatch h), fun nd ed h => by cases h; exact ⟨hN, hlen⟩⟩
theorem search_ok (n : Net) (hn : NetOk n) : (∀ nd ed p, searchF n 4096 = .pump nd ed p → NodesOk n.init.length nd ∧ nd.length ≤ 4097 ∧ p = pumpsF nd ∧ nd ≠ []) ∧ ∀ nd ed, searchF n 4096 = .cont nd ed → NodesOk n.init.length nd ∧ nd.length ≤ 4096 :=
 outer_ok n hn 4096 (Nat.le_refl _) 4098 0 [⟨n.init, -1, -1⟩] [] (nodesOk_one hn.tok) (by rw [List.length_singleton]; omega)
theorem step_edges {n : Net} {lim i : Nat} {t : Int} {nodes nd : List SN} {edges ed : List Edg} (h : stepF n lim i t nodes edges = .cont nd ed) : ed.length = edges.length + 1 := by
 unfold stepF at h
 simp only at h
 split at h
 ·cases h
 ·split at h
  ·cases h; simp
  ·split at h
   ·cases h
   ·split at h
    ·cases h
    ·cases h; simp
theorem inner_edges {n : Net} {lim i : Nat} : ∀ (ts : List Int) {nodes nd : List SN} {edges ed : List Edg}, innerF n lim i ts nodes edges = .cont nd ed → ed.length = edges.length + ts.length
 | [], _, _, _, _, h => by simp only [innerF] at h; cases h; rfl
 | t :: ts, nodes, nd, edges, ed, h => by
  simp only [innerF] at h
  cases hst : stepF n lim i t nodes edges with
  | err e => rw [hst] at h; cases h
  | pump nd1 ed1 p => rw [hst] at h; cases h
  | cont nd1 ed1 =>
   rw [hst] at h
   have h1 := step_edges hst
   have h2 := inner_edges ts h
   simp only [List.length_cons]; omega
theorem outer_edges {n : Net} {lim : Nat} : ∀ (f i : Nat) {nodes nd : List SN} {edges ed : List Edg}, outerF n lim f i nodes edges = .cont nd ed → ed.length ≤ edges.length + n.trs.length * f
 | 0, _, _, _, _, _, h => by cases h
 | f + 1, i, nodes, nd, edges, ed, h => by
  simp only [outerF] at h
  split at h
  ·cases hst : innerF n lim i (ableL n (nodes.getD i SN.no).m n.trs.length) nodes edges with
   | err e => rw [hst] at h; cases h
   | pump nd1 ed1 p => rw [hst] at h; cases h
   | cont nd1 ed1 =>
    rw [hst] at h
    have h1 := inner_edges _ hst
    have h2 := outer_edges f (i + 1) h
    have h3 := ableL_length n (nodes.getD i SN.no).m n.trs.length
    rw [Nat.mul_succ]; omega
  ·cases h; omega
end Go.Proofs.YtljpfdehnjemlaaDoor
