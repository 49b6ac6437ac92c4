/-
 The automaton of a net, in plain Lean: it has all markings, it is right and canonical.
-/
import Derived.Test.YtljpfdehnjemlaaGreatDoorMB
import Derived.Test.YtljpfdehnjemlaaGreatDoorME
set_option linter.unusedSimpArgs false
set_option linter.unusedVariables false
namespace Go.Proofs.YtljpfdehnjemlaaGreatDoor
open Go.Eng Go.RowKit
theorem ixF_pre {x : Int} {a b : List Int} (h : a <+: b) {k : Nat} (hk : ixF x 0 a = some k) : ixF x 0 b = some k := by
 obtain ⟨c, rfl⟩ := h; exact ixF_append hk c
theorem bfs_pre (succ : Int → List (Int × Int)) : ∀ (f i : Nat) (o : List Int) (es : List Edg), o <+: (bfs succ f i o es).1
 | 0, _, _, _ => List.prefix_refl _
 | f + 1, i, o, es => by
  simp only [bfs]
  split
  ·exact (bfsI_pre _ _ _ _).trans (bfs_pre succ f (i + 1) _ _)
  ·exact List.prefix_refl _
def edgB (O : List Int) (i : Nat) (p : Int × Int) : Edg := ⟨i, p.1, ((ixF p.2 0 O).getD 0 : Nat)⟩
theorem bfsI_edge {O : List Int} (i : Nat) : ∀ (l : List (Int × Int)) (o : List Int) (es : List Edg), (bfsI i l o es).1 <+: O → (bfsI i l o es).2 = es ++ l.map (edgB O i)
 | [], o, es, _ => by simp [bfsI]
 | (e, x) :: r, o, es, h => by
  simp only [bfsI] at h ⊢
  cases hx : ixF x 0 o with
  | some k =>
   rw [hx] at h
   simp only at h ⊢
   have h1 := ixF_pre ((bfsI_pre _ _ _ _).trans h) hx
   rw [bfsI_edge i r _ _ h, List.map_cons, edgB, h1]
   simp
  | none =>
   rw [hx] at h
   simp only at h ⊢
   have h1 := ixF_pre ((bfsI_pre _ _ _ _).trans h) (ixF_snoc (ixF_none.1 hx) 0)
   rw [bfsI_edge i r _ _ h, List.map_cons, edgB, h1]
   simp
theorem bfsI_mem (i : Int) : ∀ (l : List (Int × Int)) (o : List Int) (es : List Edg), ∀ p ∈ l, p.2 ∈ (bfsI i l o es).1
 | [], _, _, p, hp => by simp at hp
 | (e, x) :: r, o, es, p, hp => by
  simp only [bfsI]
  cases hx : ixF x 0 o with
  | some k =>
   rcases List.mem_cons.1 hp with rfl | hp
   ·have : x ∈ o := Classical.byContradiction fun h => by rw [ixF_none.2 h] at hx; cases hx
    exact (bfsI_pre _ _ _ _).subset this
   ·exact bfsI_mem i r _ _ p hp
  | none =>
   rcases List.mem_cons.1 hp with rfl | hp
   ·exact (bfsI_pre _ _ _ _).subset (by simp)
   ·exact bfsI_mem i r _ _ p hp
theorem getD_pre {a b : List Int} (h : a <+: b) {k : Nat} (hk : k < a.length) : b.getD k 0 = a.getD k 0 := by
 obtain ⟨c, rfl⟩ := h
 simp [List.getD, List.getElem?_append_left hk]
def bfsE (succ : Int → List (Int × Int)) (O : List Int) (i n : Nat) : List Edg := (List.range' i n).flatMap fun j => (succ (O.getD j 0)).map (edgB O j)
theorem bfs_edge {N : Nat} {succ : Int → List (Int × Int)} (hs : ∀ s : Int, 0 ≤ s → s < N → ∀ x ∈ succ s, 0 ≤ x.2 ∧ x.2 < N) : ∀ (f i : Nat) (o : List Int) (es : List Edg), OrdOk N o → N < f + i → i ≤ o.length →
  (bfs succ f i o es).2 = es ++ bfsE succ (bfs succ f i o es).1 i ((bfs succ f i o es).1.length - i) ∧ ∀ j, i ≤ j → j < (bfs succ f i o es).1.length → ∀ p ∈ succ ((bfs succ f i o es).1.getD j 0), p.2 ∈ (bfs succ f i o es).1
 | 0, i, o, es, h, h1, h2 => by have := h.le; omega
 | f + 1, i, o, es, h, h1, h2 => by
  simp only [bfs]
  split
  ·rename_i hi
   have hm := h.rng _ (getD_mem o i 0 hi)
   have ho2 := bfsI_ok (i : Int) (succ (o.getD i 0)) o es h (hs _ hm.1 hm.2)
   have hp1 := bfsI_pre (i : Int) (succ (o.getD i 0)) o es
   have hp2 := bfs_pre succ f (i + 1) (bfsI i (succ (o.getD i 0)) o es).1 (bfsI i (succ (o.getD i 0)) o es).2
   have hl1 := hp1.length_le
   have hl2 := hp2.length_le
   obtain ⟨e1, e2⟩ := bfs_edge hs f (i + 1) (bfsI i (succ (o.getD i 0)) o es).1 (bfsI i (succ (o.getD i 0)) o es).2 ho2 (by omega) (by omega)
   have hmem := bfsI_mem (i : Int) (succ (o.getD i 0)) o es
   have hed := bfsI_edge i (succ (o.getD i 0)) o es hp2
   have hg := getD_pre (hp1.trans hp2) hi
   generalize bfs succ f (i + 1) (bfsI i (succ (o.getD i 0)) o es).1 (bfsI i (succ (o.getD i 0)) o es).2 = R at *
   refine ⟨?_, fun j hj1 hj2 p hp => ?_⟩
   ·rw [e1, hed, bfsE, bfsE, show R.1.length - i = (R.1.length - (i + 1)) + 1 by omega, List.range'_succ, List.flatMap_cons, hg, List.append_assoc]
   ·by_cases hji : j = i
    ·subst hji
     rw [hg] at hp
     exact hp2.subset (hmem p hp)
    ·exact e2 j (by omega) hj2 p hp
  ·rename_i hi
   refine ⟨?_, fun j hj1 hj2 => by simp only at hj2; omega⟩
   simp only
   rw [show o.length - i = 0 by omega]
   simp [bfsE]
structure Numb (N : Nat) (succ : Int → List (Int × Int)) (O : List Int) (ES : List Edg) : Prop where
 ok : OrdOk N O
 first : 0 < O.length ∧ O.getD 0 0 = 0
 edges : ES = bfsE succ O 0 O.length
 closed : ∀ s ∈ O, ∀ p ∈ succ s, p.2 ∈ O
theorem numb_of {N : Nat} (hN : 0 < N) {succ : Int → List (Int × Int)} (hs : ∀ s : Int, 0 ≤ s → s < N → ∀ x ∈ succ s, 0 ≤ x.2 ∧ x.2 < N) {f : Nat} (hf : N < f) : Numb N succ (bfs succ f 0 [0] []).1 (bfs succ f 0 [0] []).2 := by
 have h0 : OrdOk N [0] := ⟨List.pairwise_singleton _ _, fun x hx => by rw [List.mem_singleton] at hx; subst hx; omega⟩
 obtain ⟨e1, e2⟩ := bfs_edge hs f 0 [0] [] h0 (by omega) (by simp)
 have hp := bfs_pre succ f 0 [0] []
 have hl := hp.length_le
 refine ⟨bfs_ok hs f 0 [0] [] h0, ⟨by simp at hl; omega, by rw [getD_pre hp (by simp)]; rfl⟩, by simpa using e1, fun s hs' p hp' => ?_⟩
 obtain ⟨j, hj, e⟩ := List.getElem_of_mem hs'
 refine e2 j (by omega) hj p ?_
 rw [List.getD, List.getElem?_eq_getElem hj, e]; exact hp'
theorem Numb.ix {N : Nat} {succ : Int → List (Int × Int)} {O : List Int} {ES : List Edg} (h : Numb N succ O ES) {x : Int} (hx : x ∈ O) : ∃ k, k < O.length ∧ ixF x 0 O = some k ∧ O.getD k 0 = x := by
 obtain ⟨k, hk, e⟩ := List.getElem_of_mem hx
 have e2 : O.getD k 0 = x := by rw [List.getD, List.getElem?_eq_getElem hk, e]; rfl
 refine ⟨k, hk, ?_, e2⟩
 rw [← e2]; exact ixF_at h.ok.nodup hk
theorem mem_bfsE {succ : Int → List (Int × Int)} {O : List Int} {x : Edg} : x ∈ bfsE succ O 0 O.length ↔ ∃ j, j < O.length ∧ ∃ p ∈ succ (O.getD j 0), x = edgB O j p := by
 rw [bfsE, List.mem_flatMap]
 constructor
 ·rintro ⟨j, hj, hx⟩
  rw [List.mem_range'_1] at hj
  obtain ⟨p, hp, rfl⟩ := List.mem_map.1 hx
  exact ⟨j, by omega, p, hp, rfl⟩
 ·rintro ⟨j, hj, p, hp, rfl⟩
  exact ⟨j, by rw [List.mem_range'_1]; omega, List.mem_map.2 ⟨p, hp, rfl⟩⟩
end Go.Proofs.YtljpfdehnjemlaaGreatDoor
set_option linter.unusedSimpArgs false
set_option linter.unusedVariables false
namespace Go.Proofs.YtljpfdehnjemlaaGreatDoor
open Go.Eng Go.RowKit
theorem Aut.Ok.fits {a : Aut} (h : a.Ok) (hl : a.edges.length ≤ 1000000) : a.Fits := by
 refine ⟨?_, ?_, hl⟩
 ·have h1 : a.alph.Nodup := h.alph.2.imp fun h => by omega
  have := (OrdOk.mk (N := 32) h1 fun x hx => h.alph.1 x hx).le
  omega
 ·have h1 : a.marked.Nodup := h.marked.2.imp fun h => by omega
  have h2 := h.states
  have := (OrdOk.mk (N := a.states.toNat) h1 fun x hx => by have := h.marked.1 x hx; omega).le
  omega
end Go.Proofs.YtljpfdehnjemlaaGreatDoor
set_option linter.unusedSimpArgs false
set_option linter.unusedVariables false
namespace Go.Proofs.YtljpfdehnjemlaaGreatDoor
open Go.Eng Go.RowKit
theorem lkE_edge {n : Net} {l : List Edg} (hc : Cons n l) {y : Edg} (hy : y ∈ l) : lkE n y.src (evOf n y.ev) l = some y.dst := by
 cases h : lkE n y.src (evOf n y.ev) l with
 | none => exact absurd rfl (lkE_none h y hy rfl)
 | some x =>
  obtain ⟨z, hz, h1, h2, rfl⟩ := lkE_mem h
  rw [hc z hz y hy h1 h2]
structure AutOk (n : Net) (nd : List SN) : Prop where
 found : Found n nd
 cons : Cons n (grE n nd)
section
variable {n : Net} {nd : List SN}
theorem ev_mem {n : Net} {t : Int} (h : 0 ≤ t ∧ t < n.trs.length) : evOf n t ∈ evsN n := by
 rw [evsN, mem_compI, mem_sort, evL]
 exact List.mem_map_of_mem (getD_mem n.trs t.toNat Tr.no (by omega))
def sucN (n : Net) (nd : List SN) : Int → List (Int × Int) := sucF (fun s e => lkE n s e (grE n nd)) (evsN n)
theorem mem_suc {s e x : Int} : (e, x) ∈ sucN n nd s ↔ e ∈ evsN n ∧ lkE n s e (grE n nd) = some x := by
 rw [sucN, sucF, List.mem_filterMap]
 constructor
 ·rintro ⟨a, ha, h⟩
  cases hk : lkE n s a (grE n nd) with
  | none => rw [hk] at h; cases h
  | some y => rw [hk] at h; cases h; exact ⟨ha, hk⟩
 ·rintro ⟨h1, h2⟩
  exact ⟨e, h1, by rw [h2]; rfl⟩
theorem suc_of (h : AutOk n nd) {y : Edg} (hy : y ∈ grE n nd) : (evOf n y.ev, y.dst) ∈ sucN n nd y.src :=
 mem_suc.2 ⟨ev_mem (grE_ok h.found y hy).2.1, lkE_edge h.cons hy⟩
theorem suc_edge {s e x : Int} (h : (e, x) ∈ sucN n nd s) : ∃ y ∈ grE n nd, y.src = s ∧ evOf n y.ev = e ∧ y.dst = x := lkE_mem (mem_suc.1 h).2
theorem autO_numb (h : Found n nd) : Numb nd.length (sucN n nd) (autO n nd).1 (autO n nd).2 := numb_of (found_pos h) (fun s _ _ => suc_rng h _ s) (Nat.lt_succ_self _)
/-! the successors come in the order of events -/
theorem suc_sorted (evs : List Int) (hs : evs.Pairwise (· < ·)) (lk : Int → Int → Option Int) (s : Int) : (sucF lk evs s).Pairwise (fun p q => p.1 < q.1) := by
 induction evs with
 | nil => exact .nil
 | cons e r ih =>
  have hs' := List.pairwise_cons.1 hs
  rw [suc_cons]
  cases lk s e with
  | none => exact ih hs'.2
  | some x =>
   refine List.pairwise_cons.2 ⟨fun q hq => ?_, ih hs'.2⟩
   rw [sucF, List.mem_filterMap] at hq
   obtain ⟨a, ha, hq⟩ := hq
   have := hs'.1 a ha
   cases hk : lk s a with
   | none => rw [hk] at hq; cases hq
   | some y => rw [hk] at hq; cases hq; exact this
theorem bfsE_sorted {succ : Int → List (Int × Int)} {O : List Int} (hs : ∀ s, (succ s).Pairwise fun p q => p.1 < q.1) : ∀ (i k : Nat), (bfsE succ O i k).Pairwise dLt := by
 intro i k
 rw [bfsE]
 refine List.pairwise_flatMap.2 ⟨fun j _ => ?_, ?_⟩
 ·rw [List.pairwise_map]
  exact (hs _).imp fun h => .inr ⟨rfl, h⟩
 ·refine (List.pairwise_lt_range' (s := i) (n := k)).imp fun {a b} hab x hx y hy => ?_
  obtain ⟨p, _, rfl⟩ := List.mem_map.1 hx
  obtain ⟨q, _, rfl⟩ := List.mem_map.1 hy
  exact .inl (by simp only [edgB]; omega)
theorem evsN_sorted (n : Net) : (evsN n).Pairwise (· < ·) := compI_inc (sortI_le _)
theorem mkL_sorted (mk : List (List Int)) (o : List Int) (k : Nat) : (mkL nd mk o k).Pairwise (· < ·) := by
 rw [mkL, List.pairwise_map]
 exact (List.Pairwise.filter _ List.pairwise_lt_range).imp fun h => Int.ofNat_lt.2 h
theorem mem_mkL {mk : List (List Int)} {o : List Int} {k : Nat} {x : Int} : x ∈ mkL nd mk o k ↔ ∃ j : Nat, j < k ∧ x = j ∧ atM nd (o.getD j 0) ∈ mk := by
 rw [mkL, List.mem_map]
 constructor
 ·rintro ⟨j, hj, rfl⟩
  rw [List.mem_filter, List.mem_range, decide_eq_true_eq] at hj
  exact ⟨j, hj.1, rfl, hj.2⟩
 ·rintro ⟨j, hj, rfl, h⟩
  exact ⟨j, by rw [List.mem_filter, List.mem_range, decide_eq_true_eq]; exact ⟨hj, h⟩, rfl⟩
theorem evs_rng (h : NetOk n) : ∀ x ∈ evsN n, 0 ≤ x ∧ x < 32 := fun x hx => by
 rw [evsN, mem_compI, mem_sort, evL, List.mem_map] at hx
 obtain ⟨t, ht, rfl⟩ := hx
 exact h.ev t ht
theorem numb_edge {N : Nat} {succ : Int → List (Int × Int)} {O : List Int} {ES : List Edg} (h : Numb N succ O ES) {x : Edg} (hx : x ∈ ES) : ∃ j k : Nat, j < O.length ∧ k < O.length ∧ x.src = j ∧ x.dst = k ∧ (x.ev, O.getD k 0) ∈ succ (O.getD j 0) := by
 rw [h.edges] at hx
 obtain ⟨j, hj, p, hp, rfl⟩ := mem_bfsE.1 hx
 obtain ⟨k, hk, h1, h2⟩ := h.ix (h.closed _ (getD_mem O j 0 hj) p hp)
 exact ⟨j, k, hj, hk, rfl, by simp only [edgB, h1, Option.getD_some], by rw [h2]; exact hp⟩
theorem autA_ok (h : Found n nd) (mk : List (List Int)) : (autA n nd mk).Ok := by
 have hb := autO_numb h
 have hle := hb.ok.le
 have h4 := h.le
 refine ⟨⟨evs_rng h.ok, evsN_sorted n⟩, ⟨by simp only [autA]; omega, by simp only [autA]; omega⟩, ⟨fun x hx => ?_, mkL_sorted _ _ _⟩, fun x hx => ?_, ?_⟩
 ·obtain ⟨j, hj, rfl, _⟩ := mem_mkL.1 hx
  simp only [autA]; omega
 ·obtain ⟨j, k, hj, hk, e1, e2, hp⟩ := numb_edge hb hx
  exact ⟨⟨⟨by omega, by simp only [autA]; omega⟩, by omega, by simp only [autA]; omega⟩, (mem_suc.1 hp).1⟩
 ·rw [show (autA n nd mk).edges = (autO n nd).2 from rfl, hb.edges]
  exact bfsE_sorted (fun s => suc_sorted _ (evsN_sorted n) _ s) _ _
/-! the canonical form -/
end
end Go.Proofs.YtljpfdehnjemlaaGreatDoor
