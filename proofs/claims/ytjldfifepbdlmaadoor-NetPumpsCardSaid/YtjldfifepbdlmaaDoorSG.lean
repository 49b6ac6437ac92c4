/-
  The search of a net, in plain Lean: every node is reached by firing; of a search that ends nothing is left out; what pumps.
-/
import Derived.Test.YtjldfifepbdlmaaDoorSE
import Derived.Test.YtjldfifepbdlmaaDoorSF
import Derived.Test.YtjldfifepbdlmaaDoorSB
set_option linter.unusedSimpArgs false
set_option linter.unusedVariables false
namespace Go.Proofs.YtjldfifepbdlmaaDoor
open Go.Eng Go.RowKit
/-- a transition that is enabled -/
def Able (n : Net) (m : List Int) (t : Int) : Prop := 0 ≤ t ∧ t < n.trs.length ∧ enB m (n.trs.getD t.toNat Tr.no) = true
def Fires (n : Net) : List Int → List Int → List Int → Prop
  | m, [], m' => m = m'
  | m, t :: ts, m' => Able n m t ∧ Fires n (firedL (n.trs.getD t.toNat Tr.no) m) ts m'
theorem Fires.append {n : Net} : ∀ {us vs : List Int} {m x m' : List Int}, Fires n m us x → Fires n x vs m' → Fires n m (us ++ vs) m'
  | [], vs, m, x, m', h, k => by rw [Fires] at h; subst h; exact k
  | t :: us, vs, m, x, m', h, k => ⟨h.1, Fires.append h.2 k⟩
theorem Fires.split {n : Net} : ∀ {us vs : List Int} {m m' : List Int}, Fires n m (us ++ vs) m' → ∃ x, Fires n m us x ∧ Fires n x vs m'
  | [], vs, m, m', h => ⟨m, rfl, h⟩
  | t :: us, vs, m, m', h => by
    obtain ⟨x, h1, h2⟩ := Fires.split (us := us) h.2
    exact ⟨x, ⟨h.1, h1⟩, h2⟩
theorem Fires.det {n : Net} : ∀ {us : List Int} {m a b : List Int}, Fires n m us a → Fires n m us b → a = b
  | [], m, a, b, h, k => by rw [Fires] at h k; rw [← h, ← k]
  | t :: us, m, a, b, h, k => Fires.det h.2 k.2
theorem Fires.length {n : Net} : ∀ {us : List Int} {m m' : List Int}, Fires n m us m' → m'.length = m.length
  | [], m, m', h => by rw [Fires] at h; rw [h]
  | t :: us, m, m', h => by rw [Fires.length h.2, firedL_length]
theorem Fires.range {n : Net} : ∀ {us : List Int} {m m' : List Int}, Fires n m us m' → ∀ t ∈ us, 0 ≤ t ∧ t < n.trs.length
  | [], _, _, _, t, ht => by cases ht
  | u :: us, m, m', h, t, ht => by
    rcases List.mem_cons.1 ht with rfl | ht
    · exact ⟨h.1.1, h.1.2.1⟩
    · exact Fires.range h.2 t ht
theorem Able.mem {n : Net} {m : List Int} {t : Int} (h : t ∈ ableL n m n.trs.length) : Able n m t := able_mem h
theorem able_of {n : Net} {m : List Int} {t : Int} (h : Able n m t) : t ∈ ableL n m n.trs.length := by
  obtain ⟨h1, h2, h3⟩ := h
  simp only [ableL, List.mem_map, List.mem_filter, List.mem_range]
  exact ⟨t.toNat, ⟨by omega, h3⟩, by omega⟩
/-! nodes -/
structure Linked (n : Net) (l : List SN) : Prop where
  ne : 0 < l.length
  first : l.getD 0 SN.no = ⟨n.init, -1, -1⟩
  link : ∀ k, 0 < k → k < l.length → 0 ≤ (l.getD k SN.no).before ∧ (l.getD k SN.no).before < k ∧ Able n (l.getD (l.getD k SN.no).before.toNat SN.no).m (l.getD k SN.no).tr ∧
    (l.getD k SN.no).m = firedL (n.trs.getD (l.getD k SN.no).tr.toNat Tr.no) (l.getD (l.getD k SN.no).before.toNat SN.no).m
  apart : ∀ i k, i < k → k < l.length → (l.getD i SN.no).m ≠ (l.getD k SN.no).m
theorem fndF_none {m : List Int} : ∀ {l : List SN} {i : Nat}, fndF m i l = none → ∀ x ∈ l, x.m ≠ m
  | [], _, _, _, h => by cases h
  | a :: l, i, h, x, hx => by
    simp only [fndF] at h
    split at h
    · cases h
    · rename_i e
      rcases List.mem_cons.1 hx with rfl | hx
      · exact e
      · exact fndF_none h x hx
theorem fndF_some {m : List Int} : ∀ {l : List SN} {i k : Nat}, fndF m i l = some k → i ≤ k ∧ k < i + l.length ∧ (l.getD (k - i) SN.no).m = m
  | [], _, _, h => by cases h
  | a :: l, i, k, h => by
    simp only [fndF] at h
    split at h
    · rename_i e
      cases h
      exact ⟨Nat.le_refl _, by simp, by simpa using e⟩
    · obtain ⟨h1, h2, h3⟩ := fndF_some h
      refine ⟨by omega, by simp only [List.length_cons]; omega, ?_⟩
      rw [show k - i = (k - (i + 1)) + 1 by omega, List.getD_cons_succ]; exact h3
theorem linked_one (n : Net) : Linked n [⟨n.init, -1, -1⟩] := by
  refine ⟨by simp, rfl, fun k h1 h2 => ?_, fun i k h1 h2 => ?_⟩
  · simp at h2; omega
  · simp at h2; omega
theorem Linked.snoc {n : Net} {l : List SN} (h : Linked n l) {i : Nat} {t : Int} (hi : i < l.length) (ht : Able n (l.getD i SN.no).m t) (hn : fndF (firedL (n.trs.getD t.toNat Tr.no) (l.getD i SN.no).m) 0 l = none) :
    Linked n (l ++ [⟨firedL (n.trs.getD t.toNat Tr.no) (l.getD i SN.no).m, i, t⟩]) := by
  have hlen : (l ++ [(⟨firedL (n.trs.getD t.toNat Tr.no) (l.getD i SN.no).m, i, t⟩ : SN)]).length = l.length + 1 := by simp
  refine ⟨by omega, by rw [getD_append_lt _ _ _ _ h.ne]; exact h.first, fun k h1 h2 => ?_, fun j k h1 h2 => ?_⟩
  · rw [hlen] at h2
    by_cases e : k < l.length
    · rw [getD_append_lt _ _ _ _ e]
      obtain ⟨k1, k2, k3, k4⟩ := h.link k h1 e
      rw [getD_append_lt _ _ _ _ (by omega)]
      exact ⟨k1, k2, k3, k4⟩
    · obtain rfl : k = l.length := by omega
      rw [getD_append_last]
      simp only [Int.toNat_natCast]
      rw [getD_append_lt _ _ _ _ hi]
      exact ⟨by omega, by omega, ht, rfl⟩
  · rw [hlen] at h2
    rw [getD_append_lt _ _ _ _ (show j < l.length by omega)]
    by_cases e : k < l.length
    · rw [getD_append_lt _ _ _ _ e]; exact h.apart j k h1 e
    · obtain rfl : k = l.length := by omega
      rw [getD_append_last]
      exact fndF_none hn _ (getD_mem l j SN.no (by omega))
/-- what holds of one node, and is kept by each that is added, holds at the end -/
theorem outer_inv (n : Net) (lim : Nat) (I : List SN → Prop)
    (step : ∀ nodes i t, I nodes → i < nodes.length → Able n (nodes.getD i SN.no).m t → (firedL (n.trs.getD t.toNat Tr.no) (nodes.getD i SN.no).m).any tokB = false → fndF (firedL (n.trs.getD t.toNat Tr.no) (nodes.getD i SN.no).m) 0 nodes = none → I (nodes ++ [⟨firedL (n.trs.getD t.toNat Tr.no) (nodes.getD i SN.no).m, i, t⟩])) :
    ∀ (f i : Nat) (nodes : List SN) (edges : List Edg), I nodes → (∀ nd ed p, outerF n lim f i nodes edges = .pump nd ed p → I nd) ∧ ∀ nd ed, outerF n lim f i nodes edges = .cont nd ed → I nd := by
  have st : ∀ (i : Nat) (t : Int) (nodes : List SN) (edges : List Edg), I nodes → i < nodes.length → Able n (nodes.getD i SN.no).m t →
      (∀ nd ed p, stepF n lim i t nodes edges = .pump nd ed p → I nd) ∧ ∀ nd ed, stepF n lim i t nodes edges = .cont nd ed → I nd ∧ i < nd.length ∧ nd.getD i SN.no = nodes.getD i SN.no := by
    intro i t nodes edges hI hi ht
    have hs := step nodes i t hI hi ht
    unfold stepF
    simp only
    generalize firedL (n.trs.getD t.toNat Tr.no) (nodes.getD i SN.no).m = m at *
    split
    · exact ⟨fun nd ed p h => (nomatch h), fun nd ed h => (nomatch h)⟩
    · rename_i hbad
      split
      · exact ⟨fun nd ed p h => (nomatch h), fun nd ed h => by cases h; exact ⟨hI, hi, rfl⟩⟩
      · rename_i hnone
        have hs := hs (by simpa using hbad) hnone
        split
        · exact ⟨fun nd ed p h => by cases h; exact hs, fun nd ed h => (nomatch h)⟩
        · split
          · exact ⟨fun nd ed p h => (nomatch h), fun nd ed h => (nomatch h)⟩
          · exact ⟨fun nd ed p h => (nomatch h), fun nd ed h => by cases h; exact ⟨hs, by simp; omega, getD_append_lt _ _ _ _ hi⟩⟩
  have inner : ∀ (i : Nat) (ts : List Int) (nodes : List SN) (edges : List Edg), I nodes → i < nodes.length → (∀ t ∈ ts, Able n (nodes.getD i SN.no).m t) →
      (∀ nd ed p, innerF n lim i ts nodes edges = .pump nd ed p → I nd) ∧ ∀ nd ed, innerF n lim i ts nodes edges = .cont nd ed → I nd := by
    intro i ts
    induction ts with
    | nil => intro nodes edges hI _ _; exact ⟨fun nd ed p h => (nomatch h), fun nd ed h => by cases h; exact hI⟩
    | cons t ts ih =>
      intro nodes edges hI hi hts
      have hs := st i t nodes edges hI hi (hts t (by simp))
      simp only [innerF]
      cases hst : stepF n lim i t nodes edges with
      | err e => exact ⟨fun nd ed p h => (nomatch h), fun nd ed h => (nomatch h)⟩
      | pump nd ed p => exact ⟨fun nd' ed' p' h => by cases h; exact hs.1 _ _ _ hst, fun nd ed h => (nomatch h)⟩
      | cont nd ed =>
        obtain ⟨k1, k2, k3⟩ := hs.2 _ _ hst
        exact ih nd ed k1 k2 fun t' ht' => by rw [k3]; exact hts t' (by simp [ht'])
  intro f
  induction f with
  | zero => intro i nodes edges _; exact ⟨fun nd ed p h => (nomatch h), fun nd ed h => (nomatch h)⟩
  | succ f ih =>
    intro i nodes edges hI
    simp only [outerF]
    split
    · rename_i hi
      have hs := inner i (ableL n (nodes.getD i SN.no).m n.trs.length) nodes edges hI hi fun t ht => Able.mem ht
      cases hst : innerF n lim i (ableL n (nodes.getD i SN.no).m n.trs.length) nodes edges with
      | err e => exact ⟨fun nd ed p h => (nomatch h), fun nd ed h => (nomatch h)⟩
      | pump nd ed p => exact ⟨fun nd' ed' p' h => by cases h; exact hs.1 _ _ _ hst, fun nd ed h => (nomatch h)⟩
      | cont nd ed => exact ih (i + 1) nd ed (hs.2 _ _ hst)
    · exact ⟨fun nd ed p h => (nomatch h), fun nd ed h => by cases h; exact hI⟩
theorem search_linked (n : Net) (lim : Nat) : (∀ nd ed p, searchF n lim = .pump nd ed p → Linked n nd) ∧ ∀ nd ed, searchF n lim = .cont nd ed → Linked n nd :=
  outer_inv n lim (Linked n) (fun _ _ _ h hi ht _ hn => h.snoc hi ht hn) _ 0 _ [] (linked_one n)
/-! nothing is left out -/
def ClosedAt (n : Net) (l : List SN) (i : Nat) : Prop := ∀ t, Able n (l.getD i SN.no).m t → ∃ k, k < l.length ∧ (l.getD k SN.no).m = firedL (n.trs.getD t.toNat Tr.no) (l.getD i SN.no).m
theorem prefix_getD {a b : List SN} (h : a <+: b) {k : Nat} (hk : k < a.length) : b.getD k SN.no = a.getD k SN.no := by
  obtain ⟨c, rfl⟩ := h
  exact getD_append_lt _ _ _ _ hk
theorem ClosedAt.mono {n : Net} {a b : List SN} (h : a <+: b) {i : Nat} (hi : i < a.length) (hc : ClosedAt n a i) : ClosedAt n b i := by
  intro t ht
  rw [prefix_getD h hi] at ht ⊢
  obtain ⟨k, h1, h2⟩ := hc t ht
  exact ⟨k, Nat.lt_of_lt_of_le h1 h.length_le, by rw [prefix_getD h h1]; exact h2⟩
theorem step_closed {n : Net} {lim i : Nat} {t : Int} {nodes nd : List SN} {edges ed : List Edg} (h : stepF n lim i t nodes edges = .cont nd ed) : nodes <+: nd ∧ ∃ k, k < nd.length ∧ (nd.getD k SN.no).m = firedL (n.trs.getD t.toNat Tr.no) (nodes.getD i SN.no).m := by
  unfold stepF at h
  simp only at h
  generalize firedL (n.trs.getD t.toNat Tr.no) (nodes.getD i SN.no).m = m at *
  split at h
  · cases h
  · split at h
    · rename_i k hk
      cases h
      obtain ⟨_, h2, h3⟩ := fndF_some hk
      exact ⟨List.prefix_refl _, k, by omega, h3⟩
    · split at h
      · cases h
      · split at h
        · cases h
        · cases h
          exact ⟨List.prefix_append _ _, nodes.length, by simp, by rw [getD_append_last]⟩
theorem inner_closed {n : Net} {lim i : Nat} : ∀ (ts : List Int) {nodes nd : List SN} {edges ed : List Edg}, innerF n lim i ts nodes edges = .cont nd ed → i < nodes.length → nodes <+: nd ∧ ∀ t ∈ ts, ∃ k, k < nd.length ∧ (nd.getD k SN.no).m = firedL (n.trs.getD t.toNat Tr.no) (nodes.getD i SN.no).m
  | [], nodes, nd, edges, ed, h, _ => by
    simp only [innerF] at h
    cases h
    exact ⟨List.prefix_refl _, fun t ht => by cases ht⟩
  | t :: ts, nodes, nd, edges, ed, h, hi => by
    simp only [innerF] at h
    cases hst : stepF n lim i t nodes edges with
    | err e => rw [hst] at h; cases h
    | pump nd1 ed1 p => rw [hst] at h; cases h
    | cont nd1 ed1 =>
      rw [hst] at h
      obtain ⟨h1, k, h2, h3⟩ := step_closed hst
      obtain ⟨h4, h5⟩ := inner_closed ts h (Nat.lt_of_lt_of_le hi h1.length_le)
      refine ⟨h1.trans h4, fun u hu => ?_⟩
      rcases List.mem_cons.1 hu with rfl | hu
      · exact ⟨k, Nat.lt_of_lt_of_le h2 h4.length_le, by rw [prefix_getD h4 h2]; exact h3⟩
      · rw [← prefix_getD h1 hi]; exact h5 u hu
theorem outer_closed {n : Net} {lim : Nat} : ∀ (f i : Nat) {nodes nd : List SN} {edges ed : List Edg}, outerF n lim f i nodes edges = .cont nd ed → i ≤ nodes.length → (∀ j, j < i → ClosedAt n nodes j) → nodes <+: nd ∧ ∀ j, j < nd.length → ClosedAt n nd j
  | 0, _, _, _, _, _, h, _, _ => by cases h
  | f + 1, i, nodes, nd, edges, ed, h, hle, hc => by
    simp only [outerF] at h
    split at h
    · rename_i hi
      cases hst : innerF n lim i (ableL n (nodes.getD i SN.no).m n.trs.length) nodes edges with
      | err e => rw [hst] at h; cases h
      | pump nd1 ed1 p => rw [hst] at h; cases h
      | cont nd1 ed1 =>
        rw [hst] at h
        obtain ⟨h1, h2⟩ := inner_closed _ hst hi
        have hl := h1.length_le
        obtain ⟨h3, h4⟩ := outer_closed f (i + 1) h (by omega) fun j hj => by
          by_cases e : j = i
          · subst e
            intro t ht
            rw [prefix_getD h1 hi] at ht ⊢
            exact h2 t (able_of ht)
          · exact (hc j (by omega)).mono h1 (by omega)
        exact ⟨h1.trans h3, h4⟩
    · cases h
      exact ⟨List.prefix_refl _, fun j hj => hc j (by omega)⟩
theorem search_closed {n : Net} {lim : Nat} {nd : List SN} {ed : List Edg} (h : searchF n lim = .cont nd ed) : ∀ j, j < nd.length → ClosedAt n nd j := (outer_closed _ 0 h (by simp) fun j hj => by omega).2
/-- a run from a node stays among the nodes -/
theorem run_closed {n : Net} {nd : List SN} {pl : Nat} (hc : ∀ j, j < nd.length → ClosedAt n nd j) (hN : NodesOk pl nd) : ∀ (ts : List Int) (k : Nat) (i : Int), k < nd.length → (∀ t ∈ ts, 0 ≤ t ∧ t < n.trs.length) →
    ∃ k' i', k' < nd.length ∧ runF n ts (nd.getD k SN.no).m i = ((nd.getD k' SN.no).m, i', 0)
  | [], k, i, hk, _ => ⟨k, i, hk, rfl⟩
  | t :: ts, k, i, hk, ht => by
    rw [runF]
    split
    · exact ⟨k, i, hk, rfl⟩
    · rename_i he
      have h1 := ht t (by simp)
      obtain ⟨k2, h2, h3⟩ := hc k hk t ⟨h1.1, h1.2, by simpa using he⟩
      have htok : firedE (n.trs.getD t.toNat Tr.no) (nd.getD k SN.no).m = 0 := by
        rw [firedE, ← h3, any_tok (hN.tok _ (getD_mem nd k2 SN.no h2))]; rfl
      rw [if_neg (by rw [htok]; decide), ← h3]
      exact run_closed hc hN ts k2 (i + 1) h2 fun u hu => ht u (by simp [hu])
/-! the greatest -/
theorem leq_iff : ∀ {a b : List Int}, a.length = b.length → (leqB a b = true ↔ ∀ p, a.getD p 0 ≤ b.getD p 0)
  | [], [], _ => by simp [leqB]
  | x :: a, y :: b, h => by
    rw [leqB, Bool.and_eq_true, decide_eq_true_eq, leq_iff (by simpa using h)]
    constructor
    · rintro ⟨h1, h2⟩ p
      cases p with
      | zero => simpa using h1
      | succ p => simpa using h2 p
    · intro h
      exact ⟨by simpa using h 0, fun p => by simpa using h (p + 1)⟩
theorem bds_from {pl : Nat} : ∀ (l : List SN) (a : List Int), a.length = pl → (∀ x ∈ l, x.m.length = pl) → (l.foldl (fun a x => maxL a x.m) a).length = pl ∧ (∀ p, a.getD p 0 ≤ (l.foldl (fun a x => maxL a x.m) a).getD p 0) ∧ ∀ x ∈ l, ∀ p, x.m.getD p 0 ≤ (l.foldl (fun a x => maxL a x.m) a).getD p 0
  | [], a, ha, _ => ⟨ha, fun p => Int.le_refl _, fun x hx => by cases hx⟩
  | x :: l, a, ha, h => by
    have hx := h x (by simp)
    have hm : (maxL a x.m).length = pl := by rw [maxL_length _ _ (by omega)]; exact ha
    obtain ⟨h1, h2, h3⟩ := bds_from l (maxL a x.m) hm fun y hy => h y (by simp [hy])
    have hg : ∀ p, a.getD p 0 ≤ (maxL a x.m).getD p 0 ∧ x.m.getD p 0 ≤ (maxL a x.m).getD p 0 := fun p => by
      by_cases hp : p < pl
      · rw [maxL_getD _ _ _ (by omega) (by omega)]; omega
      · have z : ∀ l : List Int, l.length = pl → l.getD p 0 = 0 := fun l hl => by rw [List.getD, List.getElem?_eq_none (by omega)]; rfl
        rw [z a ha, z x.m hx, z _ hm]; omega
    refine ⟨h1, fun p => Int.le_trans (hg p).1 (h2 p), fun y hy p => ?_⟩
    rcases List.mem_cons.1 hy with rfl | hy
    · exact Int.le_trans (hg p).2 (h2 p)
    · exact h3 y hy p
/-! the way to a node -/
theorem path_fires {n : Net} {nd : List SN} (hL : Linked n nd) : ∀ (k : Nat), k < nd.length → ∀ f, k < f → Fires n n.init (backF nd f k).reverse (nd.getD k SN.no).m := by
  intro k
  induction k using Nat.strongRecOn with
  | ind k ih =>
    intro hk f hf
    obtain ⟨f, rfl⟩ : ∃ g, f = g + 1 := ⟨f - 1, by omega⟩
    rw [backF, Int.toNat_natCast]
    by_cases h0 : k = 0
    · subst h0
      rw [hL.first, if_neg (show ¬ (0 : Int) ≤ -1 by decide)]
      rfl
    · obtain ⟨h1, h2, h3, h4⟩ := hL.link k (by omega) hk
      rw [if_pos h1, List.reverse_cons]
      have hb : (((nd.getD k SN.no).before.toNat : Nat) : Int) = (nd.getD k SN.no).before := by omega
      have := ih (nd.getD k SN.no).before.toNat (by omega) (by omega) f (by omega)
      rw [hb] at this
      refine this.append ⟨h3, ?_⟩
      rw [Fires]; exact h4.symm
theorem pathF_fires {n : Net} {nd : List SN} (hL : Linked n nd) {k : Int} (h0 : 0 ≤ k) (hk : k < nd.length) : Fires n n.init (pathF nd k) (nd.getD k.toNat SN.no).m := by
  have := path_fires hL k.toNat (by omega) (k.toNat + 1) (by omega)
  rw [show ((k.toNat : Nat) : Int) = k by omega] at this
  exact this
theorem pathF_length (nd : List SN) (k : Int) : (pathF nd k).length ≤ k.toNat + 1 := by
  rw [pathF, List.length_reverse]; exact backF_length _ _ _
theorem pump_leq (l : List SN) (last : List Int) : ∀ (f : Nat) (i first : Int), (first = -1 ∨ leqB (l.getD first.toNat SN.no).m last = true) → pumpF l last f i first = -1 ∨ leqB (l.getD (pumpF l last f i first).toNat SN.no).m last = true
  | 0, _, _, h => h
  | f + 1, i, first, h => by
    rw [pumpF]
    split
    · apply pump_leq
      split
      · rename_i h1; exact .inr h1
      · exact h
    · exact h
/-! firing with more tokens -/
theorem Fires.more {n : Net} (hn : NetOk n) : ∀ {ts m m' a : List Int}, Fires n m ts m' → m.length = n.init.length → a.length = m.length → (∀ p, m.getD p 0 ≤ a.getD p 0) → ∃ a', Fires n a ts a' ∧ a'.length = m.length ∧ ∀ p, a'.getD p 0 = a.getD p 0 + m'.getD p 0 - m.getD p 0
  | [], m, m', a, h, _, hal, _ => by
    rw [Fires] at h; subst h
    exact ⟨a, rfl, hal, fun p => by omega⟩
  | t :: ts, m, m', a, h, hm, hal, hle => by
    obtain ⟨⟨h1, h2, h3⟩, h4⟩ := h
    have hmem := getD_mem n.trs t.toNat Tr.no (by omega)
    have hi := hn.inn _ hmem
    have ho := hn.out _ hmem
    have e1 := firedL_length (n.trs.getD t.toNat Tr.no) m
    have e2 := firedL_length (n.trs.getD t.toNat Tr.no) a
    have g1 := fun p => firedL_getD (m := m) (t := n.trs.getD t.toNat Tr.no) (by rw [hm]; exact hi) (by rw [hm]; exact ho) p
    have g2 := fun p => firedL_getD (m := a) (t := n.trs.getD t.toNat Tr.no) (by rw [hal, hm]; exact hi) (by rw [hal, hm]; exact ho) p
    obtain ⟨a', k1, k2, k3⟩ := Fires.more hn (a := firedL (n.trs.getD t.toNat Tr.no) a) h4 (by omega) (by omega) fun p => by rw [g1, g2]; have := hle p; omega
    exact ⟨a', ⟨⟨h1, h2, enB_mono hle h3⟩, k1⟩, by omega, fun p => by rw [k3, g1, g2]; omega⟩
/-- weights of at most 2 (as in a net of a shape) -/
def Light (n : Net) : Prop := ∀ t ∈ n.trs, ∀ a ∈ t.out, a.weight ≤ 2
theorem firedL_light {n : Net} (hn : NetOk n) (hw : Light n) {m : List Int} {t B : Int} (hm : m.length = n.init.length) (ht : Able n m t) (hb : ∀ x ∈ m, 0 ≤ x ∧ x ≤ B) : ∀ x ∈ firedL (n.trs.getD t.toNat Tr.no) m, 0 ≤ x ∧ x ≤ B + 2 := by
  obtain ⟨h1, h2, h3⟩ := ht
  have hmem := getD_mem n.trs t.toNat Tr.no (by omega)
  have hi := hn.inn _ hmem
  have ho := hn.out _ hmem
  have hw := hw _ hmem
  generalize n.trs.getD t.toNat Tr.no = t at *
  rw [← hm] at hi ho
  intro x hx
  obtain ⟨p, hp, rfl⟩ := mem_getD hx
  rw [firedL_length] at hp
  have hb := hb _ (getD_mem m p 0 hp)
  have e1 := enB_wsum hi h3 p hb.1
  have e2 := wsum_bound (p := p) hi
  have e3 : 0 ≤ wsum t.out p ∧ wsum t.out p ≤ 2 := by
    rcases wsum_arc t.out _ p ho with h1 | ⟨a, ha, _, h2⟩
    · omega
    · have := ho.weight a ha
      have := hw a ha
      omega
  rw [firedL_getD hi ho p]
  omega
theorem run_of_fires {n : Net} (hn : NetOk n) (hw : Light n) : ∀ (ts : List Int) {m m' : List Int} {B : Int} (i : Int), Fires n m ts m' → m.length = n.init.length → (∀ x ∈ m, 0 ≤ x ∧ x ≤ B) → B + 2 * ts.length ≤ 65536 → runF n ts m i = (m', i + ts.length, 0)
  | [], m, m', B, i, h, _, _, _ => by rw [Fires] at h; subst h; simp [runF]
  | t :: ts, m, m', B, i, h, hm, hb, hB => by
    have hl := firedL_light hn hw hm h.1 hb
    simp only [List.length_cons, Int.natCast_add] at hB
    have hE : firedE (n.trs.getD t.toNat Tr.no) m = 0 := by
      rw [firedE, any_tok fun x hx => by have := hl x hx; omega]; rfl
    rw [runF, if_neg (by rw [h.1.2.2]; decide), if_neg (by rw [hE]; decide)]
    rw [run_of_fires hn hw ts (B := B + 2) (i + 1) h.2 (by rw [firedL_length]; exact hm) hl (by omega)]
    simp only [List.length_cons, Int.natCast_add]
    rw [show i + 1 + (ts.length : Int) = i + ((ts.length : Int) + ((1 : Nat) : Int)) by omega]
/-! the pump again and again -/
def againL (m d : List Int) (k : Nat) : List Int := List.zipWith (fun x y => x + k * (y - x)) m d
theorem againL_length {m d : List Int} (h : d.length = m.length) (k : Nat) : (againL m d k).length = m.length := by rw [againL, List.length_zipWith]; omega
theorem againL_getD {m d : List Int} (h : d.length = m.length) (k p : Nat) : (againL m d k).getD p 0 = m.getD p 0 + k * (d.getD p 0 - m.getD p 0) := by
  by_cases hp : p < m.length
  · simp [againL, List.getD, List.getElem?_zipWith, List.getElem?_eq_getElem hp, List.getElem?_eq_getElem (show p < d.length by omega)]
  · have z : ∀ l : List Int, l.length = m.length → l.getD p 0 = 0 := fun l hl => by rw [List.getD, List.getElem?_eq_none (by omega)]; rfl
    rw [z _ (againL_length h k), z m rfl, z d h]; omega
def wordL (pre pump : List Int) : Nat → List Int
  | 0 => pre
  | k + 1 => wordL pre pump k ++ pump
theorem wordL_length (pre pump : List Int) : ∀ k, (wordL pre pump k).length = pre.length + k * pump.length
  | 0 => by simp [wordL]
  | k + 1 => by rw [wordL, List.length_append, wordL_length pre pump k, Nat.succ_mul]; omega
theorem again_fires {n : Net} (hn : NetOk n) {pre pump m d : List Int} (h1 : Fires n n.init pre m) (h2 : Fires n m pump d) (hle : ∀ p, m.getD p 0 ≤ d.getD p 0) : ∀ k, Fires n n.init (wordL pre pump k) (againL m d k)
  | 0 => by
    have hl := h2.length
    have : againL m d 0 = m := ext_getD (againL_length hl 0) fun p _ => by rw [againL_getD hl]; simp
    rw [this]; exact h1
  | k + 1 => by
    have hl := h2.length
    have hm := h1.length
    refine (again_fires hn h1 h2 hle k).append ?_
    obtain ⟨a', k1, k2, k3⟩ := h2.more hn (a := againL m d k) hm (againL_length hl k) fun p => by
      rw [againL_getD hl]
      have h3 := hle p
      have : 0 ≤ (k : Int) * (d.getD p 0 - m.getD p 0) := Int.mul_nonneg (by omega) (by omega)
      omega
    have : a' = againL m d (k + 1) := ext_getD (by rw [k2, againL_length hl]) fun p _ => by
      rw [k3, againL_getD hl, againL_getD hl, Int.natCast_add, Int.add_mul]
      show _ = _ + (_ + 1 * _)
      omega
    rw [← this]; exact k1
end Go.Proofs.YtjldfifepbdlmaaDoor
