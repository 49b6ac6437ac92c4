/-
 The supervisor in plain Lean; where all is controllable it is the automaton of the net with the control place.
-/
import Derived.Test.YtkjllcmpjghmkaaGreatDoorTN
set_option linter.unusedSimpArgs false
set_option linter.unusedVariables false
namespace Go.Proofs.YtkjllcmpjghmkaaGreatDoor
open Go.Eng Go.RowKit
def leftB (left : List Bool) (s : Int) : Bool := left.getD s.toNat false
def sucL (a : Aut) (left : List Bool) (s : Int) : List (Int × Int) := ((outL a.edges s).filter fun x => leftB left x.dst).map fun x => (x.ev, x.dst)
def supO (a : Aut) (left : List Bool) : List Int × List Edg := if a.states = 0 ∨ leftB left 0 = false then ([], []) else bfs (sucL a left) (a.states.toNat + 1) 0 [0] []
def supA (a : Aut) (left : List Bool) : Aut := ⟨a.alph, (supO a left).1.length, mkC a.marked (supO a left).1 (supO a left).1.length, (supO a left).2⟩
theorem zaQ {R : Int → Int → Prop} {f g : Int → Option Int} : ∀ {evs : List Int}, (∀ e ∈ evs, match f e, g e with
   | some x, some y => R x y
   | none, none => True
   | _, _ => False) → Alike R (evs.filterMap fun e => (f e).map fun x => (e, x)) (evs.filterMap fun e => (g e).map fun x => (e, x))
 | [], _ => trivial
 | e :: r, h => by
  have h1 := h e (by simp)
  have h2 := zaQ (evs := r) fun e' he => h e' (by simp [he])
  rw [List.filterMap_cons, List.filterMap_cons]
  cases hf : f e <;> cases hg : g e <;> simp only [hf, hg, Option.map_none, Option.map_some] at h1 ⊢
  ·exact h2
  ·exact ⟨rfl, h1, h2⟩
def lkL (n : Net) (nd : List SN) (left : List Bool) (s e : Int) : Option Int := match lkE n ((autO n nd).1.getD s.toNat 0) e (grE n nd) with
 | none => none
 | some z => if leftB left ((ixF z 0 (autO n nd).1).getD 0 : Nat) = true then some ((ixF z 0 (autO n nd).1).getD 0 : Nat) else none
theorem zgE {n : Net} {nd : List SN} (h : Found n nd) (left : List Bool) {s : Int} (hs : 0 ≤ s ∧ s.toNat < (autO n nd).1.length) :
  sucL (autA n nd []) left s = (evsN n).filterMap fun e => (lkL n nd left s e).map fun x => (e, x) := by
 have hb := z1J h
 have ho := z9Q (succ := sucN n nd) (O := (autO n nd).1) (k := s.toNat) 0 (autO n nd).1.length
 rw [← hb.edges, if_pos (by omega), show ((s.toNat : Nat) : Int) = s by omega] at ho
 rw [sucL, show (autA n nd []).edges = (autO n nd).2 from rfl, ho, sucN, sucF]
 simp only [lkL]
 generalize (autO n nd).1 = O at *
 induction evsN n with
 | nil => rfl
 | cons e r ih =>
  rw [List.filterMap_cons, List.filterMap_cons]
  cases hk : lkE n (O.getD s.toNat 0) e (grE n nd) with
  | none => simpa only [Option.map_none] using ih
  | some z =>
   simp only [Option.map_some, List.map_cons, List.filter_cons, edgB]
   by_cases hl : leftB left ((ixF z 0 O).getD 0 : Nat) = true
   ·rw [if_pos hl, if_pos hl, Option.map_some, List.map_cons]
    exact congrArg _ ih
   ·rw [if_neg hl, if_neg hl, Option.map_none]
    exact ih
theorem zbi {n : Net} {nd : List SN} (h : AutOk n nd) (hnu : Numd n) {s e : Int} (hs : 0 ≤ s ∧ s.toNat < nd.length) (ha : Able n (atM nd s) e) : lkE n s e (grE n nd) = some (ixM nd (z05 (n.trs.getD e.toNat Tr.no) (atM nd s)) : Nat) := by
 have hg : edgT n nd s.toNat e ∈ grE n nd := mem_grE.2 ⟨_, e, hs.2, ha, rfl⟩
 have h1 := zcy h.cons hg
 have he : evOf n e = e := by
  obtain ⟨e0, e1, _⟩ := ha
  rw [evOf, hnu e.toNat (by omega)]; omega
 simp only [edgT] at h1
 rw [he, show ((s.toNat : Nat) : Int) = s by omega] at h1
 exact h1
theorem zf9 {n : Net} {nd : List SN} (hnu : Numd n) {s e z : Int} (hk : lkE n s e (grE n nd) = some z) : (0 ≤ s ∧ s.toNat < nd.length) ∧ Able n (atM nd s) e := by
 obtain ⟨y, hy, h1, h2, h3⟩ := z4S hk
 obtain ⟨i, t, hi, ht, rfl⟩ := mem_grE.1 hy
 simp only [edgT] at h1 h2 h3
 have ⟨t0, t1, _⟩ := ht
 have e1 : t = e := by
  have := hnu t.toNat (by omega)
  rw [evOf, this] at h2; omega
 subst e1
 refine ⟨by omega, ?_⟩
 rw [← h1, atM, Int.toNat_natCast]; exact ht
theorem zg9 {n : Net} {nd : List SN} (h : Found n nd) {x y : Int} (hx : 0 ≤ x ∧ x.toNat < nd.length) (hy : 0 ≤ y ∧ y.toNat < nd.length) (e : atM nd x = atM nd y) : x = y := by
 rcases Nat.lt_trichotomy x.toNat y.toNat with h1 | h1 | h1
 ·exact absurd e (h.linked.apart _ _ h1 hy.2)
 ·omega
 ·exact absurd e.symm (h.linked.apart _ _ h1 hx.2)
theorem zhJ {n : Net} {nd : List SN} (h : Found n nd) {i j : Nat} (hi : i < (autO n nd).1.length) (hj : j < (autO n nd).1.length) (e : (autM n nd).getD i [] = (autM n nd).getD j []) : i = j := by
 rw [z0B hi, z0B hj] at e
 have h1 := zg9 h (z3j h hi) (z3j h hj) e
 have h2 := zfj (z7m h).nodup hi
 rw [h1, zfj (z7m h).nodup hj] at h2
 exact (Option.some.inj h2).symm
theorem z4m {n : Net} {c : Con} (h : Numd n) : Numd (z04 n c) := fun k hk => by
 rw [z4R] at hk
 rw [z9V k hk]; exact h k hk
theorem zf0 (n : Net) (c : Con) : evsN (z04 n c) = evsN n := by
 have : evL (z04 n c) = evL n := by
  simp only [evL, z04, z1F, List.take_length, List.map_map]; rfl
 rw [evsN, evsN, this]
structure MonR (n : Net) (c : Con) (nd ndm : List SN) (x y : Int) : Prop where
 px : 0 ≤ x ∧ x.toNat < (autO n nd).1.length
 py : 0 ≤ y ∧ y.toNat < ndm.length
 m : atM ndm y = upP c ((autM n nd).getD x.toNat [])
 room : 0 ≤ c.bound - dot c.fac ((autM n nd).getD x.toNat [])
theorem zh0 {n : Net} {c : Con} {nd ndm : List SN} (hn : Found n nd) (hm : Found (z04 n c) ndm) : OneOne (MonR n c nd ndm) := by
 refine ⟨fun h1 h2 => zg9 hm h1.py h2.py (h1.m.trans h2.m.symm), fun {x y z} h1 h2 => ?_⟩
 have hl : ∀ x : Int, 0 ≤ x ∧ x.toNat < (autO n nd).1.length → ((autM n nd).getD x.toNat []).length = n.init.length := fun x hx => by
  rw [z0B hx.2]
  exact hn.nodes.len _ (z01 nd _ SN.no (z3j hn hx.2).2)
 have e := zic (by rw [hl x h1.px, hl y h2.px]) (h1.m.symm.trans h2.m)
 have := zhJ hn h1.px.2 h2.px.2 e
 have := h1.px; have := h2.px
 omega
theorem zds {n : Net} {c : Con} {nd ndm : List SN} (h : MonOk n c) (hn : AutOk n nd) (hm : AutOk (z04 n c) ndm) (hnu : Numd n) {left : List Bool}
  (hleft : ∀ k : Nat, k < (autO n nd).1.length → leftB left k = decide (dot c.fac ((autM n nd).getD k []) ≤ c.bound)) {x y : Int} (hR : MonR n c nd ndm x y) :
  Alike (MonR n c nd ndm) (sucL (autA n nd []) left x) (sucN (z04 n c) ndm y) := by
 rw [zgE hn.found left hR.px, sucN, sucF, zf0]
 refine zaQ fun e _ => ?_
 obtain ⟨hx, hy, hM, hroom⟩ := hR
 obtain ⟨s0, s1⟩ := z3j hn.found hx.2
 rw [z0B hx.2] at hM hroom
 simp only [lkL]
 generalize hs : (autO n nd).1.getD x.toNat 0 = s at *
 have hsn : s ∈ (autO n nd).1 := by rw [← hs]; exact z01 _ _ 0 hx.2
 have hml : (atM nd s).length = n.init.length := hn.found.nodes.len _ (z01 nd s.toNat SN.no s1)
 have mon1 : ∀ z, lkE (z04 n c) y e (grE (z04 n c) ndm) = some z → Able n (atM nd s) e ∧ 0 ≤ c.bound - dot c.fac (z05 (n.trs.getD e.toNat Tr.no) (atM nd s)) := fun z hz => by
  obtain ⟨_, ha⟩ := zf9 (z4m hnu) hz
  rw [hM] at ha
  obtain ⟨r1, j, hj, r2, r3, r4⟩ := z3q h hn.found (k := s.toNat) s1 hroom ha
  rw [r2] at r4
  exact ⟨r1, r4⟩
 cases hk : lkE n s e (grE n nd) with
 | none =>
  cases hk2 : lkE (z04 n c) y e (grE (z04 n c) ndm) with
  | none => trivial
  | some z =>
   have := zbi hn hnu ⟨s0, s1⟩ (mon1 z hk2).1
   rw [hk] at this; cases this
 | some z =>
  obtain ⟨_, ha⟩ := zf9 hnu hk
  have hz := zbi hn hnu ⟨s0, s1⟩ ha
  rw [hk] at hz
  have hz := Option.some.inj hz
  obtain ⟨w1, w2⟩ := za6 (hn.found.closed s.toNat s1 e ha)
  have hb := z1J hn.found
  have hsu : (e, z) ∈ sucN n nd s := mem_suc.2 ⟨by
   obtain ⟨e0, e1, _⟩ := ha
   have h1 := zi8 (n := n) ⟨e0, e1⟩
   have : evOf n e = e := by rw [evOf, hnu e.toNat (by omega)]; omega
   rwa [this] at h1, hk⟩
  obtain ⟨k, k1, k2, k3⟩ := hb.ix (hb.closed s hsn _ hsu)
  simp only at k2 k3
  have hmk : (autM n nd).getD k [] = z05 (n.trs.getD e.toNat Tr.no) (atM nd s) := by
   rw [z0B k1, k3, hz, atM, Int.toNat_natCast]
   exact w2
  have hlk := hleft k k1
  rw [hmk] at hlk
  simp only [k2, Option.getD_some]
  by_cases hd : dot c.fac (z05 (n.trs.getD e.toNat Tr.no) (atM nd s)) ≤ c.bound
  ·rw [decide_eq_true hd] at hlk
   rw [if_pos hlk]
   have ham : Able (z04 n c) (atM ndm y) e := by
    rw [hM]
    refine Able.mem ?_
    rw [z4R, upP, ← zd0 h hml hroom]
    have hae := z7s ha
    obtain ⟨e0, e1, _⟩ := ha
    have he : e.toNat < n.trs.length := by omega
    have hin := h.ok.inn _ (z01 n.trs e.toNat Tr.no he)
    have hout := h.ok.out _ (z01 n.trs e.toNat Tr.no he)
    rw [← hml] at hin hout
    have hdf := z71 (f := c.fac) hin hout (by rw [h.len, hml])
    refine List.mem_filter.2 ⟨hae, ?_⟩
    rw [roomB, decide_eq_true_eq, z95 n c _ he]
    have hroom' : 0 ≤ c.bound - dot c.fac (atM nd s) := hroom
    show dot c.fac (atM nd s) + _ ≤ _
    omega
   rw [zbi hm (z4m hnu) hy ham]
   obtain ⟨v1, v2⟩ := za6 (hm.found.closed y.toNat hy.2 e ham)
   rw [hM] at ham
   obtain ⟨_, j, _, r2, r3, _⟩ := z3q h hn.found (k := s.toNat) s1 hroom ham
   refine ⟨⟨by omega, by rw [Int.toNat_natCast]; exact k1⟩, ⟨by omega, by rw [Int.toNat_natCast]; exact v1⟩, ?_, ?_⟩
   ·rw [Int.toNat_natCast, hmk, atM, Int.toNat_natCast]
    refine v2.trans ?_
    show z05 _ (atM ndm y) = _
    rw [hM]
    exact r3.trans (by rw [r2]; rfl)
   ·rw [Int.toNat_natCast, hmk]; omega
  ·rw [decide_eq_false hd] at hlk
   rw [if_neg (by rw [hlk]; decide)]
   cases hk2 : lkE (z04 n c) y e (grE (z04 n c) ndm) with
   | none => trivial
   | some z' =>
    have := (mon1 z' hk2).2
    omega
theorem zig {n : Net} {c : Con} {nd ndm : List SN} (h : MonOk n c) (hn : AutOk n nd) (hm : AutOk (z04 n c) ndm) (hnu : Numd n) {left : List Bool}
  (hleft : ∀ k : Nat, k < (autO n nd).1.length → leftB left k = decide (dot c.fac ((autM n nd).getD k []) ≤ c.bound)) : supA (autA n nd []) left = autA (z04 n c) ndm [] := by
 obtain ⟨f1, f2⟩ := z4x hn.found
 have h0 := hleft 0 f1
 have hr := h.rest.1
 rw [f2, decide_eq_true (by omega)] at h0
 have hst : (autA n nd []).states = (autO n nd).1.length := rfl
 have hss : supO (autA n nd []) left = bfs (sucL (autA n nd []) left) ((autO n nd).1.length + 1) 0 [0] [] := by
  rw [supO, if_neg (by rw [hst]; rintro (h1 | h1); omega; rw [show leftB left 0 = leftB left ((0 : Nat) : Int) from rfl, h0] at h1; cases h1), hst, Int.toNat_natCast]
 have hrg : ∀ s : Int, 0 ≤ s → s < ((autO n nd).1.length : Nat) → ∀ x ∈ sucL (autA n nd []) left s, 0 ≤ x.2 ∧ x.2 < ((autO n nd).1.length : Nat) := fun s _ _ x hx => by
  rw [sucL] at hx
  obtain ⟨y, hy, rfl⟩ := List.mem_map.1 hx
  have hy2 := (List.mem_filter.1 (List.mem_filter.1 hy).1).1
  have := ((z44 hn.found []).edges.1 y hy2).1.2
  exact this
 have e1 := z9b hrg ((autO n nd).1.length + 1) ((autO n nd).1.length + ndm.length + 1) 0 [0] [] (z8K f1) (by omega) (by omega)
 have e2 := z9b (fun s _ _ => z8v hm.found (evsN (z04 n c)) s) (ndm.length + 1) ((autO n nd).1.length + ndm.length + 1) 0 [0] [] (z8K (z3d hm.found)) (by omega) (by omega)
 have hR0 : MonR n c nd ndm 0 0 := by
  refine ⟨⟨by omega, f1⟩, ⟨by omega, z3d hm.found⟩, ?_, ?_⟩
  ·rw [show (0 : Int).toNat = 0 from rfl, f2, atM, show (0 : Int).toNat = 0 from rfl, hm.found.linked.first]; rfl
  ·rw [show (0 : Int).toNat = 0 from rfl, f2]; exact hr
 have hS := zcS (zh0 hn.found hm.found) (fun x y hxy => zds h hn hm hnu hleft hxy) ((autO n nd).1.length + ndm.length + 1) 0 [0] [0] [] ⟨hR0, trivial⟩
 rw [← e1, ← hss] at hS
 have ho : autO (z04 n c) ndm = bfs (sucN (z04 n c) ndm) ((autO n nd).1.length + ndm.length + 1) 0 [0] [] := e2
 rw [← ho] at hS
 have hl := hS.1.length
 have hmk : ∀ (o : List Int) (k : Nat), mkC [] o k = [] := fun o k => by simp [mkC]
 have hmk2 : ∀ (o : List Int) (k : Nat), mkL ndm [] o k = [] := fun o k => by simp [mkL]
 have hmk3 : (autA n nd []).marked = [] := by simp [autA, mkL]
 simp only [supA, hmk3, hmk, hS.2, hl]
 simp only [autA, hmk2, zf0]
end Go.Proofs.YtkjllcmpjghmkaaGreatDoor
