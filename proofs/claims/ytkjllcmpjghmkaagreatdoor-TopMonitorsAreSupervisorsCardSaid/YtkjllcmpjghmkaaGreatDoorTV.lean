/-
 Plain: a net with a control place is bounded if the net is (its markings are among the net's); chapter 50's constraints.
-/
import Derived.Test.YtkjllcmpjghmkaaGreatDoorQL
import Derived.Test.YtkjllcmpjghmkaaGreatDoorMB
set_option linter.unusedSimpArgs false
set_option linter.unusedVariables false
namespace Go.Proofs.YtkjllcmpjghmkaaGreatDoor
open Go.Eng Go.RowKit
structure Goes (n : Net) (lim : Nat) (I : List SN → Prop) : Prop where
 tok : ∀ nodes i t, I nodes → i < nodes.length → Able n (nodes.getD i SN.no).m t → (z05 (n.trs.getD t.toNat Tr.no) (nodes.getD i SN.no).m).any tokB = false
 new : ∀ nodes i t, I nodes → i < nodes.length → Able n (nodes.getD i SN.no).m t → fndF (z05 (n.trs.getD t.toNat Tr.no) (nodes.getD i SN.no).m) 0 nodes = none → I (nodes ++ [⟨z05 (n.trs.getD t.toNat Tr.no) (nodes.getD i SN.no).m, i, t⟩])
 few : ∀ nodes, I nodes → nodes.length ≤ lim ∧ z0D nodes < 0
theorem Goes.step {n : Net} {lim : Nat} {I : List SN → Prop} (G : Goes n lim I) {i : Nat} {t : Int} {nodes : List SN} (edges : List Edg) (hI : I nodes) (hi : i < nodes.length) (ht : Able n (nodes.getD i SN.no).m t) :
  ∃ nd ed, stepF n lim i t nodes edges = .cont nd ed ∧ I nd ∧ i < nd.length ∧ nd.getD i SN.no = nodes.getD i SN.no := by
 have h1 := G.tok nodes i t hI hi ht
 have h2 := G.new nodes i t hI hi ht
 unfold stepF
 simp only
 generalize z05 (n.trs.getD t.toNat Tr.no) (nodes.getD i SN.no).m = m at *
 rw [if_neg (by rw [h1]; decide)]
 cases hf : fndF m 0 nodes with
 | some k => exact ⟨_, _, rfl, hI, hi, rfl⟩
 | none =>
  have h3 := h2 hf
  obtain ⟨h4, h5⟩ := G.few _ h3
  simp only
  rw [if_neg (by omega), if_neg (by omega)]
  exact ⟨_, _, rfl, h3, by simp; omega, z08 _ _ _ _ hi⟩
theorem Goes.inner {n : Net} {lim : Nat} {I : List SN → Prop} (G : Goes n lim I) {i : Nat} : ∀ (ts : List Int) (nodes : List SN) (edges : List Edg), I nodes → i < nodes.length → (∀ t ∈ ts, Able n (nodes.getD i SN.no).m t) →
  ∃ nd ed, z0t n lim i ts nodes edges = .cont nd ed ∧ I nd ∧ i < nd.length
 | [], nodes, edges, hI, hi, _ => ⟨nodes, edges, rfl, hI, hi⟩
 | t :: ts, nodes, edges, hI, hi, h => by
  obtain ⟨nd, ed, e, h1, h2, h3⟩ := G.step edges hI hi (h t (by simp))
  rw [z0t, e]
  exact G.inner ts nd ed h1 h2 fun t' ht' => by rw [h3]; exact h t' (by simp [ht'])
theorem Goes.outer {n : Net} {lim : Nat} {I : List SN → Prop} (G : Goes n lim I) : ∀ (f i : Nat) (nodes : List SN) (edges : List Edg), I nodes → i ≤ nodes.length → lim < f + i → ∃ nd ed, z0x n lim f i nodes edges = .cont nd ed
 | 0, i, nodes, edges, hI, hi, h => by
  have := (G.few _ hI).1
  omega
 | f + 1, i, nodes, edges, hI, hi, h => by
  rw [z0x]
  split
  ·rename_i hlt
   obtain ⟨nd, ed, e, h1, h2⟩ := G.inner (ableL n (nodes.getD i SN.no).m n.trs.length) nodes edges hI hlt fun t ht => Able.mem ht
   rw [e]
   exact G.outer f (i + 1) nd ed h1 (by omega) (by omega)
  ·exact ⟨_, _, rfl⟩
theorem z8G {n : Net} {nd : List SN} (hF : Found n nd) : ∀ (us : List Int) (k : Nat) (x : List Int), k < nd.length → Fires n (nd.getD k SN.no).m us x → ∃ j, j < nd.length ∧ (nd.getD j SN.no).m = x
 | [], k, x, hk, h => ⟨k, hk, h.symm ▸ rfl⟩
 | t :: us, k, x, hk, h => by
  obtain ⟨h1, h2⟩ := h
  obtain ⟨j, hj, e⟩ := hF.closed k hk t h1
  rw [← e] at h2
  exact z8G hF us j x hj h2
theorem zeV {n : Net} {nd : List SN} (hF : Found n nd) {us vs a b : List Int} (h1 : Fires n n.init us a) (h2 : Fires n a vs b) (hle : ∀ p, a.getD p 0 ≤ b.getD p 0) : a = b := by
 have hla : a.length = n.init.length := h1.length
 have hlb : b.length = a.length := h2.length
 refine z5U hlb.symm fun p hp => ?_
 rcases Int.lt_or_le (a.getD p 0) (b.getD p 0) with hlt | hge
 ·exfalso
  obtain ⟨K, hK⟩ : ∃ K : Nat, (65536 : Int) < K := ⟨65537, by decide⟩
  have h3 := z7r hF.ok h1 h2 hle K
  have h4 : ∃ j, j < nd.length ∧ (nd.getD j SN.no).m = z3N a b K := by
   have h0 := hF.linked.first
   exact z8G hF _ 0 _ hF.linked.ne (by rw [h0]; exact h3)
  obtain ⟨j, hj, e⟩ := h4
  have hg := z2c hlb K p
  have hl := z1m hlb K
  have hmem := z01 nd j SN.no hj
  have htk := hF.nodes.tok _ hmem
  have hln := hF.nodes.len _ hmem
  rw [e] at htk hln
  have h5 := htk _ (z01 (z3N a b K) p 0 (by omega))
  rw [hg] at h5
  have h0 : 0 ≤ a.getD p 0 := by
   obtain ⟨i, hi, ei⟩ := z8G hF _ 0 _ hF.linked.ne (by rw [hF.linked.first]; exact h1)
   have := hF.nodes.tok _ (z01 nd i SN.no hi)
   rw [ei] at this
   exact (this _ (z01 a p 0 hp)).1
  have h6 : (K : Int) * 1 ≤ K * (b.getD p 0 - a.getD p 0) := Int.mul_le_mul_of_nonneg_left (by omega) (by omega)
  omega
 ·have := hle p; omega
def upP (c : Con) (a : List Int) : List Int := a ++ [c.bound - dot c.fac a]
structure UpOk (n : Net) (c : Con) (nd l : List SN) : Prop where
 linked : Linked (z04 n c) l
 nodes : NodesOk (n.init.length + 1) l
 up : ∀ x ∈ l, ∃ k, k < nd.length ∧ x.m = upP c (nd.getD k SN.no).m ∧ 0 ≤ c.bound - dot c.fac (nd.getD k SN.no).m
theorem zic {c : Con} {a b : List Int} (hl : a.length = b.length) (h : upP c a = upP c b) : a = b := (List.append_inj h hl).1
theorem zib (c : Con) (a : List Int) : (upP c a).length = a.length + 1 := by simp [upP]
theorem z3q {n : Net} {c : Con} (h : MonOk n c) {nd : List SN} (hF : Found n nd) {k : Nat} (hk : k < nd.length) (h0 : 0 ≤ c.bound - dot c.fac (nd.getD k SN.no).m) {t : Int} (ht : Able (z04 n c) (upP c (nd.getD k SN.no).m) t) :
  Able n (nd.getD k SN.no).m t ∧ ∃ j, j < nd.length ∧ (nd.getD j SN.no).m = z05 (n.trs.getD t.toNat Tr.no) (nd.getD k SN.no).m ∧ z05 ((z04 n c).trs.getD t.toNat Tr.no) (upP c (nd.getD k SN.no).m) = upP c (nd.getD j SN.no).m ∧ 0 ≤ c.bound - dot c.fac (nd.getD j SN.no).m := by
 have hmem := z01 nd k SN.no hk
 have hl := hF.nodes.len _ hmem
 have htk := hF.nodes.tok _ hmem
 have ht2 := z7s ht
 rw [z4R] at ht2
 obtain ⟨r1, r2, r3, r4, r5⟩ := zgX h hl h0 htk ht2
 obtain ⟨t0, t1, _⟩ := ht
 rw [z4R] at t1
 have ha : Able n (nd.getD k SN.no).m t := ⟨t0, t1, r5⟩
 obtain ⟨j, hj, e⟩ := hF.closed k hk t ha
 refine ⟨ha, j, hj, e, ?_, by rw [e]; exact r3⟩
 rw [upP, r1, ← e]; rfl
theorem z8Q {n : Net} {c : Con} (h : MonOk n c) {nd : List SN} (hF : Found n nd) : ∀ (us : List Int) (k : Nat) (x : List Int), k < nd.length → 0 ≤ c.bound - dot c.fac (nd.getD k SN.no).m → Fires (z04 n c) (upP c (nd.getD k SN.no).m) us x →
  ∃ j, j < nd.length ∧ x = upP c (nd.getD j SN.no).m ∧ 0 ≤ c.bound - dot c.fac (nd.getD j SN.no).m ∧ Fires n (nd.getD k SN.no).m us (nd.getD j SN.no).m
 | [], k, x, hk, h0, h1 => ⟨k, hk, h1.symm ▸ rfl, h0, rfl⟩
 | t :: us, k, x, hk, h0, h1 => by
  obtain ⟨h2, h3⟩ := h1
  obtain ⟨r1, j, hj, e1, e2, r2⟩ := z3q h hF hk h0 h2
  rw [e2] at h3
  obtain ⟨i, hi, s1, s2, s3⟩ := z8Q h hF us j x hj r2 h3
  exact ⟨i, hi, s1, s2, r1, e1 ▸ s3⟩
theorem zek {n : Net} {c : Con} (h : MonOk n c) {nd : List SN} (hF : Found n nd) (hr : c.bound - dot c.fac n.init ≤ 1000) : Goes (z04 n c) 4096 (UpOk n c nd) := by
 have hctl := zdV h hF.linked hF.nodes
 have hle := hF.le
 have htok : ∀ k, k < nd.length → 0 ≤ c.bound - dot c.fac (nd.getD k SN.no).m → ∀ y ∈ upP c (nd.getD k SN.no).m, 0 ≤ y ∧ y ≤ 65536 := fun k hk h0 y hy => by
  rcases List.mem_append.1 hy with hy | hy
  ·exact hF.nodes.tok _ (z01 nd k SN.no hk) y hy
  ·rw [List.mem_singleton.1 hy]
   have := hctl k hk
   omega
 have hstep : ∀ nodes i t, UpOk n c nd nodes → i < nodes.length → Able (z04 n c) (nodes.getD i SN.no).m t → ∃ j, j < nd.length ∧ z05 ((z04 n c).trs.getD t.toNat Tr.no) (nodes.getD i SN.no).m = upP c (nd.getD j SN.no).m ∧ 0 ≤ c.bound - dot c.fac (nd.getD j SN.no).m := fun nodes i t hU hi ht => by
  obtain ⟨k, hk, e, h0⟩ := hU.up _ (z01 nodes i SN.no hi)
  rw [e] at ht ⊢
  obtain ⟨_, j, hj, _, e2, h2⟩ := z3q h hF hk h0 ht
  exact ⟨j, hj, e2, h2⟩
 refine ⟨fun nodes i t hU hi ht => ?_, fun nodes i t hU hi ht hn => ?_, fun nodes hU => ⟨?_, ?_⟩⟩
 ·obtain ⟨j, hj, e, h0⟩ := hstep nodes i t hU hi ht
  rw [e]
  exact zbP (htok j hj h0)
 ·obtain ⟨j, hj, e, h0⟩ := hstep nodes i t hU hi ht
  have hl := hF.nodes.len _ (z01 nd j SN.no hj)
  refine ⟨hU.linked.snoc hi ht hn, hU.nodes.snoc (by rw [e, zib, hl]) (by rw [e]; exact htok j hj h0) hi, fun x hx => ?_⟩
  rcases List.mem_append.1 hx with hx | hx
  ·exact hU.up x hx
  ·rw [List.mem_singleton.1 hx]
   exact ⟨j, hj, e, h0⟩
 ·have hnd : (nodes.map SN.m).Nodup := by
   rw [List.Nodup, List.pairwise_map, List.pairwise_iff_getElem]
   intro i j hi hj hij
   have := hU.linked.apart i j hij hj
   rwa [List.getD, List.getElem?_eq_getElem hi, List.getD, List.getElem?_eq_getElem hj] at this
  have hsub : nodes.map SN.m ⊆ nd.map fun x => upP c x.m := fun m hm => by
   obtain ⟨x, hx, rfl⟩ := List.mem_map.1 hm
   obtain ⟨k, hk, e, _⟩ := hU.up x hx
   rw [e]
   exact List.mem_map.2 ⟨_, z01 nd k SN.no hk, rfl⟩
  have := List.Nodup.length_le_of_subset hnd hsub
  simp only [List.length_map] at this
  omega
 ·rcases Int.lt_or_le (z0D nodes) 0 with hp | hp
  ·exact hp
  exfalso
  have hne := List.length_pos_iff.1 hU.linked.ne
  obtain ⟨p1, rest, hr0, hpath⟩ := z9N hU.nodes hne hp
  have hlast : (nodes.length : Int) - 1 = ((nodes.length - 1 : Nat) : Int) := by have := hU.linked.ne; omega
  have f1 := z6y hU.linked hp p1
  have f2 := z6y hU.linked (k := (nodes.length : Int) - 1) (by have := hU.linked.ne; omega) (by omega)
  rw [hpath] at f2
  obtain ⟨x, q1, q2⟩ := f2.split
  rw [q1.det f1] at q2
  have hleq := zch nodes (nodes.getD (nodes.length - 1) SN.no).m (nodes.length + 1) (nodes.getD (nodes.length - 1) SN.no).before (-1) (.inl rfl)
  rw [show pumpF nodes (nodes.getD (nodes.length - 1) SN.no).m (nodes.length + 1) (nodes.getD (nodes.length - 1) SN.no).before (-1) = z0D nodes from rfl] at hleq
  have hleq2 := hleq.resolve_left (by omega)
  have hini : (z04 n c).init = upP c (nd.getD 0 SN.no).m := by rw [hF.linked.first]; rfl
  have hr0' : 0 ≤ c.bound - dot c.fac (nd.getD 0 SN.no).m := by rw [hF.linked.first]; exact h.rest.1
  rw [hini] at f1
  obtain ⟨i, hi, a1, a2, a3⟩ := z8Q h hF _ 0 _ hF.linked.ne hr0' f1
  rw [a1] at q2 hleq2
  obtain ⟨j, hj, b1, b2, b3⟩ := z8Q h hF _ i _ hi a2 q2
  have b1' : (nodes.getD (nodes.length - 1) SN.no).m = upP c (nd.getD j SN.no).m := by rw [← b1, hlast, Int.toNat_natCast]
  rw [b1'] at hleq2
  have hli := hF.nodes.len _ (z01 nd i SN.no hi)
  have hlj := hF.nodes.len _ (z01 nd j SN.no hj)
  have hl3 := za2 _ _ _ _ (by rw [hli, hlj]) hleq2
  rw [hF.linked.first] at a3
  have heq := zeV hF a3 b3 ((zfb (by rw [hli, hlj])).1 hl3)
  have hpl : (z0D nodes).toNat < nodes.length - 1 := by
   rcases Nat.lt_or_ge (z0D nodes).toNat (nodes.length - 1) with h1 | h1
   ·exact h1
   ·exfalso
    rw [show z0D nodes = (nodes.length : Int) - 1 by omega] at hpath
    exact hr0 (List.self_eq_append_right.1 hpath)
  exact hU.linked.apart _ _ hpl (by omega) (by rw [a1, b1', heq])
theorem zg0 {n : Net} {c : Con} {nd : List SN} {ed : List Edg} (h : MonOk n c) (hb : bndF n = .inr (nd, ed)) (hr : c.bound - dot c.fac n.init ≤ 1000) : ∃ ndm edm, bndF (z04 n c) = .inr (ndm, edm) := by
 have hF := (z2x hb).1
 have G := zek h hF hr
 have h1 : UpOk n c nd [⟨(z04 n c).init, -1, -1⟩] := by
  refine ⟨z84 _, ?_, fun x hx => ?_⟩
  ·have := z3U (m := (z04 n c).init) (zcp h).tok
   rwa [z2F] at this
  ·rw [List.mem_singleton.1 hx]
   refine ⟨0, hF.linked.ne, ?_, ?_⟩
   ·rw [hF.linked.first]; rfl
   ·rw [hF.linked.first]; exact h.rest.1
 obtain ⟨ndm, edm, e⟩ := G.outer 4098 0 [⟨(z04 n c).init, -1, -1⟩] [] h1 (by omega) (by omega)
 refine ⟨ndm, edm, ?_⟩
 have hs : z0w (z04 n c) 4096 = .cont ndm edm := e
 rw [bndF, if_neg (by rw [z8M (zcp h)]; decide), hs]
end Go.Proofs.YtkjllcmpjghmkaaGreatDoor
