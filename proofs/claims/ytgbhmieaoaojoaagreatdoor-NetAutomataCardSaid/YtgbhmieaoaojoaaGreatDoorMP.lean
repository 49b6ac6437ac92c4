/-
 The automaton of a net, in plain Lean: it has all markings, it is right and canonical.
-/
import Derived.Test.YtgbhmieaoaojoaaGreatDoorMI
set_option linter.unusedSimpArgs false
set_option linter.unusedVariables false
namespace Go.Proofs.YtgbhmieaoaojoaaGreatDoor
open Go.Eng Go.RowKit
theorem lkE_edge {n : Net} {l : List Edg} (hc : Cons n l) {y : Edg} (hy : y ∈ l) : lkE n y.src (evOf n y.ev) l = some y.dst := by
 cases h : lkE n y.src (evOf n y.ev) l with
 | none => exact absurd rfl (lkE_none h y hy rfl)
 | some x =>
  obtain ⟨z, hz, h1, h2, rfl⟩ := lkE_mem h
  rw [hc z hz y hy h1 h2]
theorem ixM_at {n : Net} {nd : List SN} (h : Found n nd) {i : Nat} (hi : i < nd.length) : ixM nd (nd.getD i SN.no).m = i := by
 obtain ⟨h1, h2⟩ := ixM_ok (m := (nd.getD i SN.no).m) (l := nd) ⟨i, hi, rfl⟩
 rcases Nat.lt_trichotomy (ixM nd (nd.getD i SN.no).m) i with h3 | h3 | h3
 ·exact absurd h2 (h.linked.apart _ _ h3 hi)
 ·exact h3
 ·exact absurd h2.symm (h.linked.apart _ _ h3 h1)
structure AutOk (n : Net) (nd : List SN) : Prop where
 found : Found n nd
 cons : Cons n (grE n nd)
section
variable {n : Net} {nd : List SN}
theorem ev_mem {n : Net} {t : Int} (h : 0 ≤ t ∧ t < n.trs.length) : evOf n t ∈ evsN n := by
 rw [evsN, mem_compI, mem_sort, evL]
 exact List.mem_map_of_mem (getD_mem n.trs t.toNat Tr.no (by omega))
def sucN (n : Net) (nd : List SN) : Int → List (Int × Int) := sucF (fun s e => lkE n s e (grE n nd)) (evsN n)
theorem mem_suc {s e x : Int} : (e, x) ∈ sucN n nd s ↔ e ∈ evsN n ∧ lkE n s e (grE n nd) = some x := by
 rw [sucN, sucF, List.mem_filterMap]
 constructor
 ·rintro ⟨a, ha, h⟩
  cases hk : lkE n s a (grE n nd) with
  | none => rw [hk] at h; cases h
  | some y => rw [hk] at h; cases h; exact ⟨ha, hk⟩
 ·rintro ⟨h1, h2⟩
  exact ⟨e, h1, by rw [h2]; rfl⟩
theorem suc_of (h : AutOk n nd) {y : Edg} (hy : y ∈ grE n nd) : (evOf n y.ev, y.dst) ∈ sucN n nd y.src :=
 mem_suc.2 ⟨ev_mem (grE_ok h.found y hy).2.1, lkE_edge h.cons hy⟩
theorem suc_edge {s e x : Int} (h : (e, x) ∈ sucN n nd s) : ∃ y ∈ grE n nd, y.src = s ∧ evOf n y.ev = e ∧ y.dst = x := lkE_mem (mem_suc.1 h).2
theorem autO_numb (h : Found n nd) : Numb nd.length (sucN n nd) (autO n nd).1 (autO n nd).2 := numb_of (found_pos h) (fun s _ _ => suc_rng h _ s) (Nat.lt_succ_self _)
theorem autO_all (h : AutOk n nd) : ∀ i : Nat, i < nd.length → (i : Int) ∈ (autO n nd).1 := by
 have hb := autO_numb h.found
 intro i
 induction i using Nat.strongRecOn with
 | _ i ih =>
  intro hi
  by_cases h0 : i = 0
  ·subst h0
   have := getD_mem (autO n nd).1 0 0 hb.first.1
   rw [hb.first.2] at this
   exact this
  ·obtain ⟨l1, l2, l3, l4⟩ := h.found.linked.link i (by omega) hi
   have hj : (nd.getD i SN.no).before.toNat < nd.length := by omega
   have hin := ih _ (show (nd.getD i SN.no).before.toNat < i by omega) hj
   have hy : edgT n nd (nd.getD i SN.no).before.toNat (nd.getD i SN.no).tr ∈ grE n nd := mem_grE.2 ⟨_, _, hj, l3, rfl⟩
   have hd : (edgT n nd (nd.getD i SN.no).before.toNat (nd.getD i SN.no).tr).dst = i := by
    simp only [edgT]
    rw [← l4, ixM_at h.found hi]
   have := hb.closed _ hin _ (suc_of h hy)
   rw [hd] at this
   exact this
theorem autO_len (h : AutOk n nd) : (autO n nd).1.length = nd.length := by
 have h1 := (autO_ok h.found).le
 have h2 : (List.range nd.length).map Int.ofNat ⊆ (autO n nd).1 := fun x hx => by
  obtain ⟨i, hi, rfl⟩ := List.mem_map.1 hx
  exact autO_all h i (List.mem_range.1 hi)
 have h3 : ((List.range nd.length).map Int.ofNat).Nodup := by
  rw [List.Nodup, List.pairwise_map]
  exact List.nodup_range.imp fun h e => h (Int.ofNat.inj e)
 have := List.Nodup.length_le_of_subset h3 h2
 simp at this
 omega
/-! the successors come in the order of events -/
theorem suc_sorted (evs : List Int) (hs : evs.Pairwise (· < ·)) (lk : Int → Int → Option Int) (s : Int) : (sucF lk evs s).Pairwise (fun p q => p.1 < q.1) := by
 induction evs with
 | nil => exact .nil
 | cons e r ih =>
  have hs' := List.pairwise_cons.1 hs
  rw [suc_cons]
  cases lk s e with
  | none => exact ih hs'.2
  | some x =>
   refine List.pairwise_cons.2 ⟨fun q hq => ?_, ih hs'.2⟩
   rw [sucF, List.mem_filterMap] at hq
   obtain ⟨a, ha, hq⟩ := hq
   have := hs'.1 a ha
   cases hk : lk s a with
   | none => rw [hk] at hq; cases hq
   | some y => rw [hk] at hq; cases hq; exact this
theorem bfsE_sorted {succ : Int → List (Int × Int)} {O : List Int} (hs : ∀ s, (succ s).Pairwise fun p q => p.1 < q.1) : ∀ (i k : Nat), (bfsE succ O i k).Pairwise dLt := by
 intro i k
 rw [bfsE]
 refine List.pairwise_flatMap.2 ⟨fun j _ => ?_, ?_⟩
 ·rw [List.pairwise_map]
  exact (hs _).imp fun h => .inr ⟨rfl, h⟩
 ·refine (List.pairwise_lt_range' (s := i) (n := k)).imp fun {a b} hab x hx y hy => ?_
  obtain ⟨p, _, rfl⟩ := List.mem_map.1 hx
  obtain ⟨q, _, rfl⟩ := List.mem_map.1 hy
  exact .inl (by simp only [edgB]; omega)
theorem evsN_sorted (n : Net) : (evsN n).Pairwise (· < ·) := compI_inc (sortI_le _)
theorem mkL_sorted (mk : List (List Int)) (o : List Int) (k : Nat) : (mkL nd mk o k).Pairwise (· < ·) := by
 rw [mkL, List.pairwise_map]
 exact (List.Pairwise.filter _ List.pairwise_lt_range).imp fun h => Int.ofNat_lt.2 h
theorem mem_mkL {mk : List (List Int)} {o : List Int} {k : Nat} {x : Int} : x ∈ mkL nd mk o k ↔ ∃ j : Nat, j < k ∧ x = j ∧ atM nd (o.getD j 0) ∈ mk := by
 rw [mkL, List.mem_map]
 constructor
 ·rintro ⟨j, hj, rfl⟩
  rw [List.mem_filter, List.mem_range, decide_eq_true_eq] at hj
  exact ⟨j, hj.1, rfl, hj.2⟩
 ·rintro ⟨j, hj, rfl, h⟩
  exact ⟨j, by rw [List.mem_filter, List.mem_range, decide_eq_true_eq]; exact ⟨hj, h⟩, rfl⟩
theorem evs_rng (h : NetOk n) : ∀ x ∈ evsN n, 0 ≤ x ∧ x < 32 := fun x hx => by
 rw [evsN, mem_compI, mem_sort, evL, List.mem_map] at hx
 obtain ⟨t, ht, rfl⟩ := hx
 exact h.ev t ht
theorem numb_edge {N : Nat} {succ : Int → List (Int × Int)} {O : List Int} {ES : List Edg} (h : Numb N succ O ES) {x : Edg} (hx : x ∈ ES) : ∃ j k : Nat, j < O.length ∧ k < O.length ∧ x.src = j ∧ x.dst = k ∧ (x.ev, O.getD k 0) ∈ succ (O.getD j 0) := by
 rw [h.edges] at hx
 obtain ⟨j, hj, p, hp, rfl⟩ := mem_bfsE.1 hx
 obtain ⟨k, hk, h1, h2⟩ := h.ix (h.closed _ (getD_mem O j 0 hj) p hp)
 exact ⟨j, k, hj, hk, rfl, by simp only [edgB, h1, Option.getD_some], by rw [h2]; exact hp⟩
theorem autA_ok (h : Found n nd) (mk : List (List Int)) : (autA n nd mk).Ok := by
 have hb := autO_numb h
 have hle := hb.ok.le
 have h4 := h.le
 refine ⟨⟨evs_rng h.ok, evsN_sorted n⟩, ⟨by simp only [autA]; omega, by simp only [autA]; omega⟩, ⟨fun x hx => ?_, mkL_sorted _ _ _⟩, fun x hx => ?_, ?_⟩
 ·obtain ⟨j, hj, rfl, _⟩ := mem_mkL.1 hx
  simp only [autA]; omega
 ·obtain ⟨j, k, hj, hk, e1, e2, hp⟩ := numb_edge hb hx
  exact ⟨⟨⟨by omega, by simp only [autA]; omega⟩, by omega, by simp only [autA]; omega⟩, (mem_suc.1 hp).1⟩
 ·rw [show (autA n nd mk).edges = (autO n nd).2 from rfl, hb.edges]
  exact bfsE_sorted (fun s => suc_sorted _ (evsN_sorted n) _ s) _ _
/-! the canonical form -/
theorem outL_bfsE {succ : Int → List (Int × Int)} {O : List Int} {k : Nat} : ∀ (i m : Nat), outL (bfsE succ O i m) (k : Int) = if i ≤ k ∧ k < i + m then (succ (O.getD k 0)).map (edgB O k) else []
 | i, 0 => by rw [if_neg (by omega)]; rfl
 | i, m + 1 => by
  have ih := outL_bfsE (succ := succ) (O := O) (k := k) (i + 1) m
  have e : bfsE succ O i (m + 1) = (succ (O.getD i 0)).map (edgB O i) ++ bfsE succ O (i + 1) m := by rw [bfsE, List.range'_succ, List.flatMap_cons, bfsE]
  have e2 : outL (bfsE succ O i (m + 1)) k = outL ((succ (O.getD i 0)).map (edgB O i)) k ++ outL (bfsE succ O (i + 1) m) k := by rw [e, outL, List.filter_append]; rfl
  rw [e2, ih]
  by_cases hik : i = k
  ·subst hik
   rw [if_neg (show ¬ (i + 1 ≤ i ∧ i < i + 1 + m) by omega), if_pos (show i ≤ i ∧ i < i + (m + 1) by omega), List.append_nil, outL]
   refine List.filter_eq_self.2 fun x hx => ?_
   obtain ⟨p, _, rfl⟩ := List.mem_map.1 hx
   simp [edgB]
  ·have e3 : outL ((succ (O.getD i 0)).map (edgB O i)) k = [] := by
    rw [outL, List.filter_eq_nil_iff]
    intro x hx
    obtain ⟨p, _, rfl⟩ := List.mem_map.1 hx
    intro hcc
    have hcd : (i : Int) = (k : Int) := of_decide_eq_true hcc
    omega
   rw [e3, List.nil_append]
   by_cases h : i ≤ k ∧ k < i + (m + 1)
   ·rw [if_pos h, if_pos (show i + 1 ≤ k ∧ k < i + 1 + m by omega)]
   ·rw [if_neg h, if_neg (show ¬ (i + 1 ≤ k ∧ k < i + 1 + m) by omega)]
theorem numb_can {N : Nat} {succ : Int → List (Int × Int)} {O : List Int} {ES : List Edg} (h : Numb N succ O ES) {al mk : List Int} (hN : O.length = N) (hO : (bfs succ (N + 1) 0 [0] []) = (O, ES)) (hm : ∀ x ∈ mk, 0 ≤ x ∧ x < N) (hs : mk.Pairwise (· < ·)) :
  canA ⟨al, O.length, mk, ES⟩ = ⟨al, O.length, mk, ES⟩ := by
 let R : Int → Int → Prop := fun x y => 0 ≤ x ∧ x < O.length ∧ O.getD x.toNat 0 = y
 have hR : OneOne R := by
  refine ⟨fun {x y z} h1 h2 => h1.2.2.symm.trans h2.2.2, fun {x y z} h1 h2 => ?_⟩
  have e := h1.2.2.trans h2.2.2.symm
  have k1 : x.toNat < O.length := by have := h1.1; have := h1.2.1; omega
  have k2 : y.toNat < O.length := by have := h2.1; have := h2.2.1; omega
  simp only [List.getD, List.getElem?_eq_getElem k1, List.getElem?_eq_getElem k2, Option.getD_some] at e
  have := (List.getElem_inj h.ok.nodup).1 e
  have := h1.1; have := h2.1; omega
 have hal : ∀ x y, R x y → Alike R (sucC ⟨al, O.length, mk, ES⟩ x) (succ y) := by
  intro x y ⟨h0, h1, h2⟩
  have hx : x = ((x.toNat : Nat) : Int) := by omega
  have e : sucC ⟨al, O.length, mk, ES⟩ x = (succ (O.getD x.toNat 0)).map fun p => (p.1, (((ixF p.2 0 O).getD 0 : Nat) : Int)) := by
   rw [sucC]
   simp only
   rw [h.edges, hx, outL_bfsE, if_pos (by omega), List.map_map]
   rfl
  rw [e, h2]
  have hc := h.closed y (by rw [← h2]; exact getD_mem O x.toNat 0 (by omega))
  generalize succ y = l at hc
  induction l with
  | nil => trivial
  | cons p l ih =>
   obtain ⟨k, k1, k2, k3⟩ := h.ix (hc p (by simp))
   refine ⟨rfl, ?_, ih fun q hq => hc q (by simp [hq])⟩
   simp only [k2, Option.getD_some]
   exact ⟨by omega, by omega, by rw [Int.toNat_natCast]; exact k3⟩
 have hc0 := h.first
 obtain ⟨s1, s2⟩ := bfs_side hR hal (N + 1) 0 [0] [0] [] ⟨⟨by omega, by omega, hc0.2⟩, trivial⟩
 rw [hO] at s1 s2
 simp only at s1 s2
 have hst : (canO ⟨al, O.length, mk, ES⟩) = bfs (sucC ⟨al, O.length, mk, ES⟩) (N + 1) 0 [0] [] := by rw [canO]; simp only [Int.toNat_natCast, hN]
 rw [canA, hst]
 generalize bfs (sucC ⟨al, O.length, mk, ES⟩) (N + 1) 0 [0] [] = C at *
 have hlen := s1.length
 have hid : ∀ k, k < O.length → C.1.getD k 0 = k := fun k hk => by
  obtain ⟨r1, r2, r3⟩ := s1.at (show k < C.1.length by omega)
  have k1 : (C.1.getD k 0).toNat < O.length := by omega
  generalize C.1.getD k 0 = c at *
  simp only [List.getD, List.getElem?_eq_getElem k1, List.getElem?_eq_getElem hk, Option.getD_some] at r3
  have := (List.getElem_inj h.ok.nodup).1 r3
  omega
 have hmk : mkC mk C.1 C.1.length = mk := by
  refine int_ext ?_ hs fun z => ?_
  ·rw [mkC, List.pairwise_map]
   exact (List.Pairwise.filter _ List.pairwise_lt_range).imp fun h => Int.ofNat_lt.2 h
  ·rw [mkC, List.mem_map]
   constructor
   ·rintro ⟨j, hj, rfl⟩
    rw [List.mem_filter, List.mem_range, decide_eq_true_eq] at hj
    rw [hid j (by omega)] at hj
    exact hj.2
   ·intro hz
    have hz2 := hm z hz
    refine ⟨z.toNat, ?_, by simp; omega⟩
    rw [List.mem_filter, List.mem_range, decide_eq_true_eq, hid _ (by omega), show ((z.toNat : Nat) : Int) = z by omega]
    exact ⟨by omega, hz⟩
 simp only
 rw [hmk, hlen, s2]
theorem autA_can (h : AutOk n nd) (mk : List (List Int)) : canA (autA n nd mk) = autA n nd mk := by
 have hb := autO_numb h.found
 have hl := autO_len h
 have hok := (autA_ok h.found mk).marked
 refine numb_can hb hl rfl (fun x hx => ?_) hok.2
 have := hok.1 x hx
 simp only [autA] at this
 omega
end
end Go.Proofs.YtgbhmieaoaojoaaGreatDoor
