/-
 The search of a net, in plain Lean: every node is reached by firing; of a search that ends nothing is left out; what pumps.
-/
import Derived.Test.YtkjllcmpjghmkaaGreatDoorS8
import Derived.Test.YtkjllcmpjghmkaaGreatDoorS5
set_option linter.unusedSimpArgs false
set_option linter.unusedVariables false
namespace Go.Proofs.YtkjllcmpjghmkaaGreatDoor
open Go.Eng Go.RowKit
theorem z4C (places : Nat) : ∀ (l : List Arc) (p : Option Int), ArcsIn places l → (∀ q, p = some q → ∀ a ∈ l, q < a.place) → arcsE places l p = 0
 | [], _, _, _ => rfl
 | a :: l, p, h, hq => by
  have hp := h.place a (by simp)
  have hw := h.weight a (by simp)
  have ho := List.pairwise_cons.1 h.ord
  have ih := z4C places l (some a.place) ⟨fun b hb => h.place b (List.mem_cons_of_mem _ hb), fun b hb => h.weight b (List.mem_cons_of_mem _ hb), ho.2⟩ (fun q e b hb => by cases e; exact ho.1 b hb)
  simp only [arcsE]
  rw [if_neg (by omega)]
  cases p with
  | none => rw [if_neg (by simp), if_neg (by omega)]; exact ih
  | some q =>
   have := hq q rfl a (by simp)
   rw [if_neg (by simp; omega), if_neg (by omega)]; exact ih
theorem zcW (f : Nat → Int) (k places : Nat) (hk : k ≤ places) (hf : ∀ p, f p ≤ 8) : ArcsIn places (arcsL f k) := by
 have hm : ∀ a ∈ arcsL f k, ∃ p : Nat, p < k ∧ 0 < f p ∧ a = ⟨(p : Int), f p⟩ := fun a ha => by
  simp only [arcsL, List.mem_map, List.mem_filter, List.mem_range, decide_eq_true_eq] at ha
  obtain ⟨p, ⟨h1, h2⟩, rfl⟩ := ha
  exact ⟨p, h1, h2, rfl⟩
 refine ⟨fun a ha => ?_, fun a ha => ?_, ?_⟩
 ·obtain ⟨p, h1, h2, rfl⟩ := hm a ha
  simp only; omega
 ·obtain ⟨p, h1, h2, rfl⟩ := hm a ha
  have := hf p
  simp only; omega
 ·unfold arcsL
  rw [List.pairwise_map]
  refine List.Pairwise.filter _ ?_
  refine List.pairwise_lt_range.imp ?_
  intro a b h
  simp only; omega
theorem zhV (i : Int) (l : List Int) (h : ∀ x ∈ l, x ≤ 2) : l.getD i.toNat 0 ≤ 8 := by
 by_cases hk : i.toNat < l.length
 ·have := h _ (z01 l i.toNat 0 hk); omega
 ·rw [List.getD, List.getElem?_eq_none (Nat.le_of_not_lt hk)]; decide
theorem zdz (s : Nat → Int) (hs : Bytes s) : netE (z1h s) = 0 := by
 have h5 : np s ≤ 5 := by unfold np; omega
 have ht5 : nt s ≤ 5 := by unfold nt; omega
 have hi : (z1h s).init.length = np s := z2g s (np s)
 have htl : (z1h s).trs.length = nt s := z65 s (nt s)
 have htok : (z1h s).init.any tokB = false := by
  rw [List.any_eq_false]
  intro x hx
  simp only [z1h, initL, List.mem_map, tok] at hx
  obtain ⟨p, _, rfl⟩ := hx
  simp only [tokB, Bool.or_eq_true, decide_eq_true_eq]
  omega
 have htr : ∀ k, trsE (np s) (trsL s k) = 0 := fun k => by
  have key : ∀ l : List Tr, (∀ t ∈ l, trE (np s) t = 0) → trsE (np s) l = 0 := by
   intro l
   induction l with
   | nil => intro _; rfl
   | cons a l ih =>
    intro h
    rw [trsE, if_neg (by rw [h a (by simp)]; omega)]
    exact ih fun t ht => h t (List.mem_cons_of_mem _ ht)
  refine key _ fun t ht => ?_
  simp only [trsL, List.mem_map] at ht
  obtain ⟨i, _, rfl⟩ := ht
  have h1 : z1L (np s) (trL s i).inn = 0 := z4C (np s) _ none (zcW _ _ _ (Nat.le_refl _) fun p => zhV _ _ (by decide)) (fun q e => by cases e)
  have h2 : z1L (np s) (trL s i).out = 0 := z4C (np s) _ none (zcW _ _ _ (Nat.le_refl _) fun p => zhV _ _ (by decide)) (fun q e => by cases e)
  rw [trE, if_neg (by simp only [trL]; omega), if_neg (by omega)]
  exact h2
 rw [netE, if_neg (by omega), if_neg (by rw [htok]; decide), if_neg (by omega), hi]
 exact htr (nt s)
theorem NetOk.fits {n : Net} (h : NetOk n) : n.Fits := by
 have h1 := h.init
 have h2 := h.trs
 refine ⟨by omega, by omega, fun t ht => ?_, fun t ht => ?_⟩
 ·have := z1R _ _ (h.inn t ht); omega
 ·have := z1R _ _ (h.out t ht); omega
theorem zeo (places : Int) : ∀ l : List Tr, (∀ t ∈ l, trE places t = 0) → trsE places l = 0
 | [], _ => rfl
 | a :: l, h => by
  rw [trsE, if_neg (by rw [h a (by simp)]; omega)]
  exact zeo places l fun t ht => h t (by simp [ht])
theorem zd6 {x : Int} (h : 0 ≤ x ∧ x ≤ 65536) : tokB x = false := by
 simp only [tokB, Bool.or_eq_false_iff, decide_eq_false_iff_not]; omega
theorem zbP {l : List Int} (h : ∀ x ∈ l, 0 ≤ x ∧ x ≤ 65536) : l.any tokB = false := by
 rw [List.any_eq_false]
 intro x hx
 rw [zd6 (h x hx)]; decide
theorem z8M {n : Net} (h : NetOk n) : netE n = 0 := by
 have h1 := h.init
 have h2 := h.trs
 rw [netE, if_neg (by omega), if_neg (by rw [zbP h.tok]; decide), if_neg (by omega)]
 refine zeo _ _ fun t ht => ?_
 have e1 : z1L n.init.length t.inn = 0 := z4C _ _ none (h.inn t ht) (fun q e => by cases e)
 have e2 : z1L n.init.length t.out = 0 := z4C _ _ none (h.out t ht) (fun q e => by cases e)
 have h3 := h.ev t ht
 rw [trE, if_neg (by omega), if_neg (by omega)]
 exact e2
theorem zh7 {n : Net} {m : List Int} (h : NetOk n) (hl : m.length = n.init.length) (hm : ∀ x ∈ m, 0 ≤ x ∧ x ≤ 65536) : markE n m = 0 := by
 rw [markE, if_neg (by rw [z8M h]; decide), if_neg (by omega), if_neg (by rw [zbP hm]; decide)]
theorem zhw {a b : List Int} {t : Tr} (h : ∀ p, a.getD p 0 ≤ b.getD p 0) (he : enB a t = true) : enB b t = true := by
 rw [enB, Bool.not_eq_true', List.any_eq_false] at he ⊢
 intro x hx
 have := he x hx
 have hp := h x.place.toNat
 simp only [z34, decide_eq_true_eq] at this ⊢
 omega
end Go.Proofs.YtkjllcmpjghmkaaGreatDoor
set_option linter.unusedSimpArgs false
set_option linter.unusedVariables false
namespace Go.Proofs.YtkjllcmpjghmkaaGreatDoor
open Go.Eng Go.RowKit
def Able (n : Net) (m : List Int) (t : Int) : Prop := 0 ≤ t ∧ t < n.trs.length ∧ enB m (n.trs.getD t.toNat Tr.no) = true
def Fires (n : Net) : List Int → List Int → List Int → Prop
 | m, [], m' => m = m'
 | m, t :: ts, m' => Able n m t ∧ Fires n (z05 (n.trs.getD t.toNat Tr.no) m) ts m'
theorem Fires.append {n : Net} : ∀ {us vs : List Int} {m x m' : List Int}, Fires n m us x → Fires n x vs m' → Fires n m (us ++ vs) m'
 | [], vs, m, x, m', h, k => by rw [Fires] at h; subst h; exact k
 | t :: us, vs, m, x, m', h, k => ⟨h.1, Fires.append h.2 k⟩
theorem Fires.split {n : Net} : ∀ {us vs : List Int} {m m' : List Int}, Fires n m (us ++ vs) m' → ∃ x, Fires n m us x ∧ Fires n x vs m'
 | [], vs, m, m', h => ⟨m, rfl, h⟩
 | t :: us, vs, m, m', h => by
  obtain ⟨x, h1, h2⟩ := Fires.split (us := us) h.2
  exact ⟨x, ⟨h.1, h1⟩, h2⟩
theorem Fires.det {n : Net} : ∀ {us : List Int} {m a b : List Int}, Fires n m us a → Fires n m us b → a = b
 | [], m, a, b, h, k => by rw [Fires] at h k; rw [← h, ← k]
 | t :: us, m, a, b, h, k => Fires.det h.2 k.2
theorem Fires.length {n : Net} : ∀ {us : List Int} {m m' : List Int}, Fires n m us m' → m'.length = m.length
 | [], m, m', h => by rw [Fires] at h; rw [h]
 | t :: us, m, m', h => by rw [Fires.length h.2, z0y]
theorem Fires.range {n : Net} : ∀ {us : List Int} {m m' : List Int}, Fires n m us m' → ∀ t ∈ us, 0 ≤ t ∧ t < n.trs.length
 | [], _, _, _, t, ht => by cases ht
 | u :: us, m, m', h, t, ht => by
  rcases List.mem_cons.1 ht with rfl | ht
  ·exact ⟨h.1.1, h.1.2.1⟩
  ·exact Fires.range h.2 t ht
theorem Able.mem {n : Net} {m : List Int} {t : Int} (h : t ∈ ableL n m n.trs.length) : Able n m t := z4G h
theorem z7s {n : Net} {m : List Int} {t : Int} (h : Able n m t) : t ∈ ableL n m n.trs.length := by
 obtain ⟨h1, h2, h3⟩ := h
 simp only [ableL, List.mem_map, List.mem_filter, List.mem_range]
 exact ⟨t.toNat, ⟨by omega, h3⟩, by omega⟩
structure Linked (n : Net) (l : List SN) : Prop where
 ne : 0 < l.length
 first : l.getD 0 SN.no = ⟨n.init, -1, -1⟩
 link : ∀ k, 0 < k → k < l.length → 0 ≤ (l.getD k SN.no).before ∧ (l.getD k SN.no).before < k ∧ Able n (l.getD (l.getD k SN.no).before.toNat SN.no).m (l.getD k SN.no).tr ∧
  (l.getD k SN.no).m = z05 (n.trs.getD (l.getD k SN.no).tr.toNat Tr.no) (l.getD (l.getD k SN.no).before.toNat SN.no).m
 apart : ∀ i k, i < k → k < l.length → (l.getD i SN.no).m ≠ (l.getD k SN.no).m
theorem z6R {m : List Int} : ∀ {l : List SN} {i : Nat}, fndF m i l = none → ∀ x ∈ l, x.m ≠ m
 | [], _, _, _, h => by cases h
 | a :: l, i, h, x, hx => by
  simp only [fndF] at h
  split at h
  ·cases h
  ·rename_i e
   rcases List.mem_cons.1 hx with rfl | hx
   ·exact e
   ·exact z6R h x hx
theorem z6Q {m : List Int} : ∀ {l : List SN} {i k : Nat}, fndF m i l = some k → i ≤ k ∧ k < i + l.length ∧ (l.getD (k - i) SN.no).m = m
 | [], _, _, h => by cases h
 | a :: l, i, k, h => by
  simp only [fndF] at h
  split at h
  ·rename_i e
   cases h
   exact ⟨Nat.le_refl _, by simp, by simpa using e⟩
  ·obtain ⟨h1, h2, h3⟩ := z6Q h
   refine ⟨by omega, by simp only [List.length_cons]; omega, ?_⟩
   rw [show k - i = (k - (i + 1)) + 1 by omega, List.getD_cons_succ]; exact h3
theorem z84 (n : Net) : Linked n [⟨n.init, -1, -1⟩] := by
 refine ⟨by simp, rfl, fun k h1 h2 => ?_, fun i k h1 h2 => ?_⟩
 ·simp at h2; omega
 ·simp at h2; omega
theorem Linked.snoc {n : Net} {l : List SN} (h : Linked n l) {i : Nat} {t : Int} (hi : i < l.length) (ht : Able n (l.getD i SN.no).m t) (hn : fndF (z05 (n.trs.getD t.toNat Tr.no) (l.getD i SN.no).m) 0 l = none) :
  Linked n (l ++ [⟨z05 (n.trs.getD t.toNat Tr.no) (l.getD i SN.no).m, i, t⟩]) := by
 have hlen : (l ++ [(⟨z05 (n.trs.getD t.toNat Tr.no) (l.getD i SN.no).m, i, t⟩ : SN)]).length = l.length + 1 := by simp
 refine ⟨by omega, by rw [z08 _ _ _ _ h.ne]; exact h.first, fun k h1 h2 => ?_, fun j k h1 h2 => ?_⟩
 ·rw [hlen] at h2
  by_cases e : k < l.length
  ·rw [z08 _ _ _ _ e]
   obtain ⟨k1, k2, k3, k4⟩ := h.link k h1 e
   rw [z08 _ _ _ _ (by omega)]
   exact ⟨k1, k2, k3, k4⟩
  ·obtain rfl : k = l.length := by omega
   rw [z15]
   simp only [Int.toNat_natCast]
   rw [z08 _ _ _ _ hi]
   exact ⟨by omega, by omega, ht, rfl⟩
 ·rw [hlen] at h2
  rw [z08 _ _ _ _ (show j < l.length by omega)]
  by_cases e : k < l.length
  ·rw [z08 _ _ _ _ e]; exact h.apart j k h1 e
  ·obtain rfl : k = l.length := by omega
   rw [z15]
   exact z6R hn _ (z01 l j SN.no (by omega))
theorem zeM (n : Net) (lim : Nat) (I : List SN → Prop)
  (step : ∀ nodes i t, I nodes → i < nodes.length → Able n (nodes.getD i SN.no).m t → (z05 (n.trs.getD t.toNat Tr.no) (nodes.getD i SN.no).m).any tokB = false → fndF (z05 (n.trs.getD t.toNat Tr.no) (nodes.getD i SN.no).m) 0 nodes = none → I (nodes ++ [⟨z05 (n.trs.getD t.toNat Tr.no) (nodes.getD i SN.no).m, i, t⟩])) :
  ∀ (f i : Nat) (nodes : List SN) (edges : List Edg), I nodes → (∀ nd ed p, z0x n lim f i nodes edges = .pump nd ed p → I nd) ∧ ∀ nd ed, z0x n lim f i nodes edges = .cont nd ed → I nd := by
 have st : ∀ (i : Nat) (t : Int) (nodes : List SN) (edges : List Edg), I nodes → i < nodes.length → Able n (nodes.getD i SN.no).m t →
   (∀ nd ed p, stepF n lim i t nodes edges = .pump nd ed p → I nd) ∧ ∀ nd ed, stepF n lim i t nodes edges = .cont nd ed → I nd ∧ i < nd.length ∧ nd.getD i SN.no = nodes.getD i SN.no := by
  intro i t nodes edges hI hi ht
  have hs := step nodes i t hI hi ht
  unfold stepF
  simp only
  generalize z05 (n.trs.getD t.toNat Tr.no) (nodes.getD i SN.no).m = m at *
  split
  ·exact ⟨fun nd ed p h => (nomatch h), fun nd ed h => (nomatch h)⟩
  ·rename_i hbad
   split
   ·exact ⟨fun nd ed p h => (nomatch h), fun nd ed h => by cases h; exact ⟨hI, hi, rfl⟩⟩
   ·rename_i hnone
    have hs := hs (by simpa using hbad) hnone
    split
    ·exact ⟨fun nd ed p h => by cases h; exact hs, fun nd ed h => (nomatch h)⟩
    ·split
     ·exact ⟨fun nd ed p h => (nomatch h), fun nd ed h => (nomatch h)⟩
     ·exact ⟨fun nd ed p h => (nomatch h), fun nd ed h => by cases h; exact ⟨hs, by simp; omega, z08 _ _ _ _ hi⟩⟩
 have inner : ∀ (i : Nat) (ts : List Int) (nodes : List SN) (edges : List Edg), I nodes → i < nodes.length → (∀ t ∈ ts, Able n (nodes.getD i SN.no).m t) →
   (∀ nd ed p, z0t n lim i ts nodes edges = .pump nd ed p → I nd) ∧ ∀ nd ed, z0t n lim i ts nodes edges = .cont nd ed → I nd := by
  intro i ts
  induction ts with
  | nil => intro nodes edges hI _ _; exact ⟨fun nd ed p h => (nomatch h), fun nd ed h => by cases h; exact hI⟩
  | cons t ts ih =>
   intro nodes edges hI hi hts
   have hs := st i t nodes edges hI hi (hts t (by simp))
   simp only [z0t]
   cases hst : stepF n lim i t nodes edges with
   | err e => exact ⟨fun nd ed p h => (nomatch h), fun nd ed h => (nomatch h)⟩
   | pump nd ed p => exact ⟨fun nd' ed' p' h => by cases h; exact hs.1 _ _ _ hst, fun nd ed h => (nomatch h)⟩
   | cont nd ed =>
    obtain ⟨k1, k2, k3⟩ := hs.2 _ _ hst
    exact ih nd ed k1 k2 fun t' ht' => by rw [k3]; exact hts t' (by simp [ht'])
 intro f
 induction f with
 | zero => intro i nodes edges _; exact ⟨fun nd ed p h => (nomatch h), fun nd ed h => (nomatch h)⟩
 | succ f ih =>
  intro i nodes edges hI
  simp only [z0x]
  split
  ·rename_i hi
   have hs := inner i (ableL n (nodes.getD i SN.no).m n.trs.length) nodes edges hI hi fun t ht => Able.mem ht
   cases hst : z0t n lim i (ableL n (nodes.getD i SN.no).m n.trs.length) nodes edges with
   | err e => exact ⟨fun nd ed p h => (nomatch h), fun nd ed h => (nomatch h)⟩
   | pump nd ed p => exact ⟨fun nd' ed' p' h => by cases h; exact hs.1 _ _ _ hst, fun nd ed h => (nomatch h)⟩
   | cont nd ed => exact ih (i + 1) nd ed (hs.2 _ _ hst)
  ·exact ⟨fun nd ed p h => (nomatch h), fun nd ed h => by cases h; exact hI⟩
theorem z8D (n : Net) (lim : Nat) : (∀ nd ed p, z0w n lim = .pump nd ed p → Linked n nd) ∧ ∀ nd ed, z0w n lim = .cont nd ed → Linked n nd :=
 zeM n lim (Linked n) (fun _ _ _ h hi ht _ hn => h.snoc hi ht hn) _ 0 _ [] (z84 n)
def ClosedAt (n : Net) (l : List SN) (i : Nat) : Prop := ∀ t, Able n (l.getD i SN.no).m t → ∃ k, k < l.length ∧ (l.getD k SN.no).m = z05 (n.trs.getD t.toNat Tr.no) (l.getD i SN.no).m
theorem z18 {a b : List SN} (h : a <+: b) {k : Nat} (hk : k < a.length) : b.getD k SN.no = a.getD k SN.no := by
 obtain ⟨c, rfl⟩ := h
 exact z08 _ _ _ _ hk
theorem ClosedAt.mono {n : Net} {a b : List SN} (h : a <+: b) {i : Nat} (hi : i < a.length) (hc : ClosedAt n a i) : ClosedAt n b i := by
 intro t ht
 rw [z18 h hi] at ht ⊢
 obtain ⟨k, h1, h2⟩ := hc t ht
 exact ⟨k, Nat.lt_of_lt_of_le h1 h.length_le, by rw [z18 h h1]; exact h2⟩
theorem zaZ {n : Net} {lim i : Nat} {t : Int} {nodes nd : List SN} {edges ed : List Edg} (h : stepF n lim i t nodes edges = .cont nd ed) : nodes <+: nd ∧ ∃ k, k < nd.length ∧ (nd.getD k SN.no).m = z05 (n.trs.getD t.toNat Tr.no) (nodes.getD i SN.no).m := by
 unfold stepF at h
 simp only at h
 generalize z05 (n.trs.getD t.toNat Tr.no) (nodes.getD i SN.no).m = m at *
 split at h
 ·cases h
 ·split at h
  ·rename_i k hk
   cases h
   obtain ⟨_, h2, h3⟩ := z6Q hk
   exact ⟨List.prefix_refl _, k, by omega, h3⟩
  ·split at h
   ·cases h
   ·split at h
    ·cases h
    ·cases h
     exact ⟨List.prefix_append _ _, nodes.length, by simp, by rw [z15]⟩
theorem z1G {n : Net} {lim i : Nat} : ∀ (ts : List Int) {nodes nd : List SN} {edges ed : List Edg}, z0t n lim i ts nodes edges = .cont nd ed → i < nodes.length → nodes <+: nd ∧ ∀ t ∈ ts, ∃ k, k < nd.length ∧ (nd.getD k SN.no).m = z05 (n.trs.getD t.toNat Tr.no) (nodes.getD i SN.no).m
 | [], nodes, nd, edges, ed, h, _ => by
  simp only [z0t] at h
  cases h
  exact ⟨List.prefix_refl _, fun t ht => by cases ht⟩
 | t :: ts, nodes, nd, edges, ed, h, hi => by
  simp only [z0t] at h
  cases hst : stepF n lim i t nodes edges with
  | err e => rw [hst] at h; cases h
  | pump nd1 ed1 p => rw [hst] at h; cases h
  | cont nd1 ed1 =>
   rw [hst] at h
   obtain ⟨h1, k, h2, h3⟩ := zaZ hst
   obtain ⟨h4, h5⟩ := z1G ts h (Nat.lt_of_lt_of_le hi h1.length_le)
   refine ⟨h1.trans h4, fun u hu => ?_⟩
   rcases List.mem_cons.1 hu with rfl | hu
   ·exact ⟨k, Nat.lt_of_lt_of_le h2 h4.length_le, by rw [z18 h4 h2]; exact h3⟩
   ·rw [← z18 h1 hi]; exact h5 u hu
theorem z5r {n : Net} {lim : Nat} : ∀ (f i : Nat) {nodes nd : List SN} {edges ed : List Edg}, z0x n lim f i nodes edges = .cont nd ed → i ≤ nodes.length → (∀ j, j < i → ClosedAt n nodes j) → nodes <+: nd ∧ ∀ j, j < nd.length → ClosedAt n nd j
 | 0, _, _, _, _, _, h, _, _ => by cases h
 | f + 1, i, nodes, nd, edges, ed, h, hle, hc => by
  simp only [z0x] at h
  split at h
  ·rename_i hi
   cases hst : z0t n lim i (ableL n (nodes.getD i SN.no).m n.trs.length) nodes edges with
   | err e => rw [hst] at h; cases h
   | pump nd1 ed1 p => rw [hst] at h; cases h
   | cont nd1 ed1 =>
    rw [hst] at h
    obtain ⟨h1, h2⟩ := z1G _ hst hi
    have hl := h1.length_le
    obtain ⟨h3, h4⟩ := z5r f (i + 1) h (by omega) fun j hj => by
     by_cases e : j = i
     ·subst e
      intro t ht
      rw [z18 h1 hi] at ht ⊢
      exact h2 t (z7s ht)
     ·exact (hc j (by omega)).mono h1 (by omega)
    exact ⟨h1.trans h3, h4⟩
  ·cases h
   exact ⟨List.prefix_refl _, fun j hj => hc j (by omega)⟩
theorem z8E {n : Net} {lim : Nat} {nd : List SN} {ed : List Edg} (h : z0w n lim = .cont nd ed) : ∀ j, j < nd.length → ClosedAt n nd j := (z5r _ 0 h (by simp) fun j hj => by omega).2
theorem zfb : ∀ {a b : List Int}, a.length = b.length → (leqB a b = true ↔ ∀ p, a.getD p 0 ≤ b.getD p 0)
 | [], [], _ => by simp [leqB]
 | x :: a, y :: b, h => by
  rw [leqB, Bool.and_eq_true, decide_eq_true_eq, zfb (by simpa using h)]
  constructor
  ·rintro ⟨h1, h2⟩ p
   cases p with
   | zero => simpa using h1
   | succ p => simpa using h2 p
  ·intro h
   exact ⟨by simpa using h 0, fun p => by simpa using h (p + 1)⟩
theorem z7U {n : Net} {nd : List SN} (hL : Linked n nd) : ∀ (k : Nat), k < nd.length → ∀ f, k < f → Fires n n.init (backF nd f k).reverse (nd.getD k SN.no).m := by
 intro k
 induction k using Nat.strongRecOn with
 | ind k ih =>
  intro hk f hf
  obtain ⟨f, rfl⟩ : ∃ g, f = g + 1 := ⟨f - 1, by omega⟩
  rw [backF, Int.toNat_natCast]
  by_cases h0 : k = 0
  ·subst h0
   rw [hL.first, if_neg (show ¬ (0 : Int) ≤ -1 by decide)]
   rfl
  ·obtain ⟨h1, h2, h3, h4⟩ := hL.link k (by omega) hk
   rw [if_pos h1, List.reverse_cons]
   have hb : (((nd.getD k SN.no).before.toNat : Nat) : Int) = (nd.getD k SN.no).before := by omega
   have := ih (nd.getD k SN.no).before.toNat (by omega) (by omega) f (by omega)
   rw [hb] at this
   refine this.append ⟨h3, ?_⟩
   rw [Fires]; exact h4.symm
theorem z6y {n : Net} {nd : List SN} (hL : Linked n nd) {k : Int} (h0 : 0 ≤ k) (hk : k < nd.length) : Fires n n.init (pathF nd k) (nd.getD k.toNat SN.no).m := by
 have := z7U hL k.toNat (by omega) (k.toNat + 1) (by omega)
 rw [show ((k.toNat : Nat) : Int) = k by omega] at this
 exact this
theorem zch (l : List SN) (last : List Int) : ∀ (f : Nat) (i first : Int), (first = -1 ∨ leqB (l.getD first.toNat SN.no).m last = true) → pumpF l last f i first = -1 ∨ leqB (l.getD (pumpF l last f i first).toNat SN.no).m last = true
 | 0, _, _, h => h
 | f + 1, i, first, h => by
  rw [pumpF]
  split
  ·apply zch
   split
   ·rename_i h1; exact .inr h1
   ·exact h
  ·exact h
theorem Fires.more {n : Net} (hn : NetOk n) : ∀ {ts m m' a : List Int}, Fires n m ts m' → m.length = n.init.length → a.length = m.length → (∀ p, m.getD p 0 ≤ a.getD p 0) → ∃ a', Fires n a ts a' ∧ a'.length = m.length ∧ ∀ p, a'.getD p 0 = a.getD p 0 + m'.getD p 0 - m.getD p 0
 | [], m, m', a, h, _, hal, _ => by
  rw [Fires] at h; subst h
  exact ⟨a, rfl, hal, fun p => by omega⟩
 | t :: ts, m, m', a, h, hm, hal, hle => by
  obtain ⟨⟨h1, h2, h3⟩, h4⟩ := h
  have hmem := z01 n.trs t.toNat Tr.no (by omega)
  have hi := hn.inn _ hmem
  have ho := hn.out _ hmem
  have e1 := z0y (n.trs.getD t.toNat Tr.no) m
  have e2 := z0y (n.trs.getD t.toNat Tr.no) a
  have g1 := fun p => z3Z (m := m) (t := n.trs.getD t.toNat Tr.no) (by rw [hm]; exact hi) (by rw [hm]; exact ho) p
  have g2 := fun p => z3Z (m := a) (t := n.trs.getD t.toNat Tr.no) (by rw [hal, hm]; exact hi) (by rw [hal, hm]; exact ho) p
  obtain ⟨a', k1, k2, k3⟩ := Fires.more hn (a := z05 (n.trs.getD t.toNat Tr.no) a) h4 (by omega) (by omega) fun p => by rw [g1, g2]; have := hle p; omega
  exact ⟨a', ⟨⟨h1, h2, zhw hle h3⟩, k1⟩, by omega, fun p => by rw [k3, g1, g2]; omega⟩
def z3N (m d : List Int) (k : Nat) : List Int := List.zipWith (fun x y => x + k * (y - x)) m d
theorem z1m {m d : List Int} (h : d.length = m.length) (k : Nat) : (z3N m d k).length = m.length := by rw [z3N, List.length_zipWith]; omega
theorem z2c {m d : List Int} (h : d.length = m.length) (k p : Nat) : (z3N m d k).getD p 0 = m.getD p 0 + k * (d.getD p 0 - m.getD p 0) := by
 by_cases hp : p < m.length
 ·simp [z3N, List.getD, List.getElem?_zipWith, List.getElem?_eq_getElem hp, List.getElem?_eq_getElem (show p < d.length by omega)]
 ·have z : ∀ l : List Int, l.length = m.length → l.getD p 0 = 0 := fun l hl => by rw [List.getD, List.getElem?_eq_none (by omega)]; rfl
  rw [z _ (z1m h k), z m rfl, z d h]; omega
def wordL (pre pump : List Int) : Nat → List Int
 | 0 => pre
 | k + 1 => wordL pre pump k ++ pump
theorem z7r {n : Net} (hn : NetOk n) {pre pump m d : List Int} (h1 : Fires n n.init pre m) (h2 : Fires n m pump d) (hle : ∀ p, m.getD p 0 ≤ d.getD p 0) : ∀ k, Fires n n.init (wordL pre pump k) (z3N m d k)
 | 0 => by
  have hl := h2.length
  have : z3N m d 0 = m := z5U (z1m hl 0) fun p _ => by rw [z2c hl]; simp
  rw [this]; exact h1
 | k + 1 => by
  have hl := h2.length
  have hm := h1.length
  refine (z7r hn h1 h2 hle k).append ?_
  obtain ⟨a', k1, k2, k3⟩ := h2.more hn (a := z3N m d k) hm (z1m hl k) fun p => by
   rw [z2c hl]
   have h3 := hle p
   have : 0 ≤ (k : Int) * (d.getD p 0 - m.getD p 0) := Int.mul_nonneg (by omega) (by omega)
   omega
  have : a' = z3N m d (k + 1) := z5U (by rw [k2, z1m hl]) fun p _ => by
   rw [k3, z2c hl, z2c hl, Int.natCast_add, Int.add_mul]
   show _ = _ + (_ + 1 * _)
   omega
  rw [← this]; exact k1
end Go.Proofs.YtkjllcmpjghmkaaGreatDoor
