/-
 The search of a net, in plain Lean: every node is reached by firing; of a search that ends nothing is left out; what pumps.
-/
import Derived.Test.YtljpfdehnjemlaaDoorSB
import Derived.Test.YtljpfdehnjemlaaDoorSD
import Derived.Test.YtljpfdehnjemlaaDoorS5
set_option linter.unusedSimpArgs false
set_option linter.unusedVariables false
namespace Go.Proofs.YtljpfdehnjemlaaDoor
open Go.Eng Go.RowKit
def Able (n : Net) (m : List Int) (t : Int) : Prop := 0 ≤ t ∧ t < n.trs.length ∧ enB m (n.trs.getD t.toNat Tr.no) = true
def Fires (n : Net) : List Int → List Int → List Int → Prop
 | m, [], m' => m = m'
 | m, t :: ts, m' => Able n m t ∧ Fires n (firedL (n.trs.getD t.toNat Tr.no) m) ts m'
theorem Fires.append {n : Net} : ∀ {us vs : List Int} {m x m' : List Int}, Fires n m us x → Fires n x vs m' → Fires n m (us ++ vs) m'
 | [], vs, m, x, m', h, k => by rw [Fires] at h; subst h; exact k
 | t :: us, vs, m, x, m', h, k => ⟨h.1, Fires.append h.2 k⟩
theorem Fires.split {n : Net} : ∀ {us vs : List Int} {m m' : List Int}, Fires n m (us ++ vs) m' → ∃ x, Fires n m us x ∧ Fires n x vs m'
 | [], vs, m, m', h => ⟨m, rfl, h⟩
 | t :: us, vs, m, m', h => by
  obtain ⟨x, h1, h2⟩ := Fires.split (us := us) h.2
  exact ⟨x, ⟨h.1, h1⟩, h2⟩
theorem Fires.length {n : Net} : ∀ {us : List Int} {m m' : List Int}, Fires n m us m' → m'.length = m.length
 | [], m, m', h => by rw [Fires] at h; rw [h]
 | t :: us, m, m', h => by rw [Fires.length h.2, firedL_length]
theorem Fires.range {n : Net} : ∀ {us : List Int} {m m' : List Int}, Fires n m us m' → ∀ t ∈ us, 0 ≤ t ∧ t < n.trs.length
 | [], _, _, _, t, ht => by cases ht
 | u :: us, m, m', h, t, ht => by
  rcases List.mem_cons.1 ht with rfl | ht
  ·exact ⟨h.1.1, h.1.2.1⟩
  ·exact Fires.range h.2 t ht
theorem Able.mem {n : Net} {m : List Int} {t : Int} (h : t ∈ ableL n m n.trs.length) : Able n m t := able_mem h
theorem able_of {n : Net} {m : List Int} {t : Int} (h : Able n m t) : t ∈ ableL n m n.trs.length := by
 obtain ⟨h1, h2, h3⟩ := h
 simp only [ableL, List.mem_map, List.mem_filter, List.mem_range]
 exact ⟨t.toNat, ⟨by omega, h3⟩, by omega⟩
/-! nodes -/
structure Linked (n : Net) (l : List SN) : Prop where
 ne : 0 < l.length
 first : l.getD 0 SN.no = ⟨n.init, -1, -1⟩
 link : ∀ k, 0 < k → k < l.length → 0 ≤ (l.getD k SN.no).before ∧ (l.getD k SN.no).before < k ∧ Able n (l.getD (l.getD k SN.no).before.toNat SN.no).m (l.getD k SN.no).tr ∧
  (l.getD k SN.no).m = firedL (n.trs.getD (l.getD k SN.no).tr.toNat Tr.no) (l.getD (l.getD k SN.no).before.toNat SN.no).m
 apart : ∀ i k, i < k → k < l.length → (l.getD i SN.no).m ≠ (l.getD k SN.no).m
theorem fndF_none {m : List Int} : ∀ {l : List SN} {i : Nat}, fndF m i l = none → ∀ x ∈ l, x.m ≠ m
 | [], _, _, _, h => by cases h
 | a :: l, i, h, x, hx => by
  simp only [fndF] at h
  split at h
  ·cases h
  ·rename_i e
   rcases List.mem_cons.1 hx with rfl | hx
   ·exact e
   ·exact fndF_none h x hx
theorem linked_one (n : Net) : Linked n [⟨n.init, -1, -1⟩] := by
 refine ⟨by simp, rfl, fun k h1 h2 => ?_, fun i k h1 h2 => ?_⟩
 ·simp at h2; omega
 ·simp at h2; omega
theorem Linked.snoc {n : Net} {l : List SN} (h : Linked n l) {i : Nat} {t : Int} (hi : i < l.length) (ht : Able n (l.getD i SN.no).m t) (hn : fndF (firedL (n.trs.getD t.toNat Tr.no) (l.getD i SN.no).m) 0 l = none) :
  Linked n (l ++ [⟨firedL (n.trs.getD t.toNat Tr.no) (l.getD i SN.no).m, i, t⟩]) := by
 have hlen : (l ++ [(⟨firedL (n.trs.getD t.toNat Tr.no) (l.getD i SN.no).m, i, t⟩ : SN)]).length = l.length + 1 := by simp
 refine ⟨by omega, by rw [getD_append_lt _ _ _ _ h.ne]; exact h.first, fun k h1 h2 => ?_, fun j k h1 h2 => ?_⟩
 ·rw [hlen] at h2
  by_cases e : k < l.length
  ·rw [getD_append_lt _ _ _ _ e]
   obtain ⟨k1, k2, k3, k4⟩ := h.link k h1 e
   rw [getD_append_lt _ _ _ _ (by omega)]
   exact ⟨k1, k2, k3, k4⟩
  ·obtain rfl : k = l.length := by omega
   rw [getD_append_last]
   simp only [Int.toNat_natCast]
   rw [getD_append_lt _ _ _ _ hi]
   exact ⟨by omega, by omega, ht, rfl⟩
 ·rw [hlen] at h2
  rw [getD_append_lt _ _ _ _ (show j < l.length by omega)]
  by_cases e : k < l.length
  ·rw [getD_append_lt _ _ _ _ e]; exact h.apart j k h1 e
  ·obtain rfl : k = l.length := by omega
   rw [getD_append_last]
   exact fndF_none hn _ (getD_mem l j SN.no (by omega))
theorem outer_inv (n : Net) (lim : Nat) (I : List SN → Prop)
  (step : ∀ nodes i t, I nodes → i < nodes.length → Able n (nodes.getD i SN.no).m t → (firedL (n.trs.getD t.toNat Tr.no) (nodes.getD i SN.no).m).any tokB = false → fndF (firedL (n.trs.getD t.toNat Tr.no) (nodes.getD i SN.no).m) 0 nodes = none → I (nodes ++ [⟨firedL (n.trs.getD t.toNat Tr.no) (nodes.getD i SN.no).m, i, t⟩])) :
  ∀ (f i : Nat) (nodes : List SN) (edges : List Edg), I nodes → (∀ nd ed p, outerF n lim f i nodes edges = .pump nd ed p → I nd) ∧ ∀ nd ed, outerF n lim f i nodes edges = .cont nd ed → I nd := by
 have st : ∀ (i : Nat) (t : Int) (nodes : List SN) (edges : List Edg), I nodes → i < nodes.length → Able n (nodes.getD i SN.no).m t →
   (∀ nd ed p, stepF n lim i t nodes edges = .pump nd ed p → I nd) ∧ ∀ nd ed, stepF n lim i t nodes edges = .cont nd ed → I nd ∧ i < nd.length ∧ nd.getD i SN.no = nodes.getD i SN.no := by
  intro i t nodes edges hI hi ht
  have hs := step nodes i t hI hi ht
  unfold stepF
  simp only
  generalize firedL (n.trs.getD t.toNat Tr.no) (nodes.getD i SN.no).m = m at *
  split
  ·exact ⟨fun nd ed p h => (nomatch h), fun nd ed h => (nomatch h)⟩
  ·rename_i hbad
   split
   ·exact ⟨fun nd ed p h => (nomatch h), fun nd ed h => by cases h; exact ⟨hI, hi, rfl⟩⟩
   ·rename_i hnone
    have hs := hs (by simpa using hbad) hnone
    split
    ·exact ⟨fun nd ed p h => by cases h; exact hs, fun nd ed h => (nomatch h)⟩
    ·split
     ·exact ⟨fun nd ed p h => (nomatch h), fun nd ed h => (nomatch h)⟩
     ·exact ⟨fun nd ed p h => (nomatch h), fun nd ed h => by cases h; exact ⟨hs, by simp; omega, getD_append_lt _ _ _ _ hi⟩⟩
 have inner : ∀ (i : Nat) (ts : List Int) (nodes : List SN) (edges : List Edg), I nodes → i < nodes.length → (∀ t ∈ ts, Able n (nodes.getD i SN.no).m t) →
   (∀ nd ed p, innerF n lim i ts nodes edges = .pump nd ed p → I nd) ∧ ∀ nd ed, innerF n lim i ts nodes edges = .cont nd ed → I nd := by
  intro i ts
  induction ts with
  | nil => intro nodes edges hI _ _; exact ⟨fun nd ed p h => (nomatch h), fun nd ed h => by cases h; exact hI⟩
  | cons t ts ih =>
   intro nodes edges hI hi hts
   have hs := st i t nodes edges hI hi (hts t (by simp))
   simp only [innerF]
   cases hst : stepF n lim i t nodes edges with
   | err e => exact ⟨fun nd ed p h => (nomatch h), fun nd ed h => (nomatch h)⟩
   | pump nd ed p => exact ⟨fun nd' ed' p' h => by cases h; exact hs.1 _ _ _ hst, fun nd ed h => (nomatch h)⟩
   | cont nd ed =>
    obtain ⟨k1, k2, k3⟩ := hs.2 _ _ hst
    exact ih nd ed k1 k2 fun t' ht' => by rw [k3]; exact hts t' (by simp [ht'])
 intro f
 induction f with
 | zero => intro i nodes edges _; exact ⟨fun nd ed p h => (nomatch h), fun nd ed h => (nomatch h)⟩
 | succ f ih =>
  intro i nodes edges hI
  simp only [outerF]
  split
  ·rename_i hi
   have hs := inner i (ableL n (nodes.getD i SN.no).m n.trs.length) nodes edges hI hi fun t ht => Able.mem ht
   cases hst : innerF n lim i (ableL n (nodes.getD i SN.no).m n.trs.length) nodes edges with
   | err e => exact ⟨fun nd ed p h => (nomatch h), fun nd ed h => (nomatch h)⟩
   | pump nd ed p => exact ⟨fun nd' ed' p' h => by cases h; exact hs.1 _ _ _ hst, fun nd ed h => (nomatch h)⟩
   | cont nd ed => exact ih (i + 1) nd ed (hs.2 _ _ hst)
  ·exact ⟨fun nd ed p h => (nomatch h), fun nd ed h => by cases h; exact hI⟩
theorem search_linked (n : Net) (lim : Nat) : (∀ nd ed p, searchF n lim = .pump nd ed p → Linked n nd) ∧ ∀ nd ed, searchF n lim = .cont nd ed → Linked n nd :=
 outer_inv n lim (Linked n) (fun _ _ _ h hi ht _ hn => h.snoc hi ht hn) _ 0 _ [] (linked_one n)
/-! nothing is left out -/
def ClosedAt (n : Net) (l : List SN) (i : Nat) : Prop := ∀ t, Able n (l.getD i SN.no).m t → ∃ k, k < l.length ∧ (l.getD k SN.no).m = firedL (n.trs.getD t.toNat Tr.no) (l.getD i SN.no).m
theorem prefix_getD {a b : List SN} (h : a <+: b) {k : Nat} (hk : k < a.length) : b.getD k SN.no = a.getD k SN.no := by
 obtain ⟨c, rfl⟩ := h
 exact getD_append_lt _ _ _ _ hk
theorem ClosedAt.mono {n : Net} {a b : List SN} (h : a <+: b) {i : Nat} (hi : i < a.length) (hc : ClosedAt n a i) : ClosedAt n b i := by
 intro t ht
 rw [prefix_getD h hi] at ht ⊢
 obtain ⟨k, h1, h2⟩ := hc t ht
 exact ⟨k, Nat.lt_of_lt_of_le h1 h.length_le, by rw [prefix_getD h h1]; exact h2⟩
/-! the greatest -/
/-! the way to a node -/
/-! firing with more tokens -/
theorem Fires.more {n : Net} (hn : NetOk n) : ∀ {ts m m' a : List Int}, Fires n m ts m' → m.length = n.init.length → a.length = m.length → (∀ p, m.getD p 0 ≤ a.getD p 0) → ∃ a', Fires n a ts a' ∧ a'.length = m.length ∧ ∀ p, a'.getD p 0 = a.getD p 0 + m'.getD p 0 - m.getD p 0
 | [], m, m', a, h, _, hal, _ => by
  rw [Fires] at h; subst h
  exact ⟨a, rfl, hal, fun p => by omega⟩
 | t :: ts, m, m', a, h, hm, hal, hle => by
  obtain ⟨⟨h1, h2, h3⟩, h4⟩ := h
  have hmem := getD_mem n.trs t.toNat Tr.no (by omega)
  have hi := hn.inn _ hmem
  have ho := hn.out _ hmem
  have e1 := firedL_length (n.trs.getD t.toNat Tr.no) m
  have e2 := firedL_length (n.trs.getD t.toNat Tr.no) a
  have g1 := fun p => firedL_getD (m := m) (t := n.trs.getD t.toNat Tr.no) (by rw [hm]; exact hi) (by rw [hm]; exact ho) p
  have g2 := fun p => firedL_getD (m := a) (t := n.trs.getD t.toNat Tr.no) (by rw [hal, hm]; exact hi) (by rw [hal, hm]; exact ho) p
  obtain ⟨a', k1, k2, k3⟩ := Fires.more hn (a := firedL (n.trs.getD t.toNat Tr.no) a) h4 (by omega) (by omega) fun p => by rw [g1, g2]; have := hle p; omega
  exact ⟨a', ⟨⟨h1, h2, enB_mono hle h3⟩, k1⟩, by omega, fun p => by rw [k3, g1, g2]; omega⟩
/-! the pump again and again -/
end Go.Proofs.YtljpfdehnjemlaaDoor
