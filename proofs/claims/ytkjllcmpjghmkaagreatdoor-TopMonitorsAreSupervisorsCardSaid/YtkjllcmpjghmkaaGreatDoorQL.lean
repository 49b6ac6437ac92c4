/-
 Chapter 50 in plain Lean: a constraint that all markings keep: the net with the control place is searched alike.
-/
import Derived.Test.YtkjllcmpjghmkaaGreatDoorSG
import Derived.Test.YtkjllcmpjghmkaaGreatDoorN7
set_option linter.unusedSimpArgs false
set_option linter.unusedVariables false
namespace Go.Proofs.YtkjllcmpjghmkaaGreatDoor
open Go.Eng Go.RowKit
theorem z7n {p : Nat} {l : List Arc} {E : Int} (h : ArcsIn p l) (hE : 1 ≤ E ∧ E ≤ 8) : ArcsIn (p + 1) (l ++ [⟨p, E⟩]) := by
 refine ⟨fun a ha => ?_, fun a ha => ?_, List.pairwise_append.2 ⟨h.ord, List.pairwise_singleton _ _, fun a ha b hb => ?_⟩⟩
 ·rcases List.mem_append.1 ha with ha | ha
  ·have := h.place a ha; omega
  ·simp at ha; subst ha; simp only; omega
 ·rcases List.mem_append.1 ha with ha | ha
  ·exact h.weight a ha
  ·simp at ha; subst ha; exact hE
 ·simp at hb; subst hb
  have := h.place a ha
  simp only; omega
theorem zaL {p : Nat} {l : List Arc} (h : ArcsIn p l) : ArcsIn (p + 1) l := ⟨fun a ha => by have := h.place a ha; omega, h.weight, h.ord⟩
structure MonOk (n : Net) (c : Con) : Prop where
 ok : NetOk n
 len : c.fac.length = n.init.length
 sm : Sm 16 c.fac
 few : n.init.length < 10
 rest : 0 ≤ c.bound - dot c.fac n.init ∧ c.bound - dot c.fac n.init ≤ 65536
 eff : ∀ t ∈ n.trs, -8 ≤ effT c.fac t ∧ effT c.fac t ≤ 8
theorem z8S {n : Net} {c : Con} (h : monE n c = 0) : MonOk n c ∧ conE n c = 0 ∧ monL n c = z04 n c := by
 have h0 := h
 unfold monE at h
 split at h
 ·rename_i h1; exact absurd h h1
 rename_i h1
 split at h
 ·cases h
 rename_i h2
 split at h
 ·cases h
 rename_i h3
 have hc : conE n c = 0 := by omega
 obtain ⟨q1, q2, q3, q4, q5⟩ := z1v hc
 have hn := z0K q1
 have hi := hn.init
 refine ⟨⟨hn, q2, q3, by omega, ⟨by omega, by omega⟩, fun t ht => ?_⟩, hc, by rw [monL, if_pos h0]⟩
 have h4 : ¬ (effL n c).any (z1j 8) = true := fun e => h3 (.inr (.inr e))
 rw [Bool.not_eq_true, List.any_eq_false] at h4
 have := h4 (effT c.fac t) (List.mem_map.2 ⟨t, ht, rfl⟩)
 simp [z1j] at this
 omega
section
variable {n : Net} {c : Con}
theorem z4R : (z04 n c).trs.length = n.trs.length := by simp [z04, z1F]
theorem z2F : (z04 n c).init.length = n.init.length + 1 := by simp [z04]
theorem z9V (k : Nat) (hk : k < n.trs.length) : (z04 n c).trs.getD k Tr.no = monT n.init.length (effT c.fac (n.trs.getD k Tr.no)) (n.trs.getD k Tr.no) := by
 simp [z04, z1F, List.getD, List.getElem?_map, List.getElem?_eq_getElem hk]
theorem zgZ {p : Nat} {E : Int} {t : Tr} (h : ArcsIn p t.inn) (hE : -8 ≤ E ∧ E ≤ 8) : ArcsIn (p + 1) (monT p E t).inn := by
 by_cases h0 : 0 < E
 ·simp only [monT, if_pos h0]; exact z7n h ⟨by omega, hE.2⟩
 ·simp only [monT, if_neg h0, List.append_nil]; exact zaL h
theorem zgY {p : Nat} {E : Int} {t : Tr} (h : ArcsIn p t.out) (hE : -8 ≤ E ∧ E ≤ 8) : ArcsIn (p + 1) (monT p E t).out := by
 by_cases h0 : E < 0
 ·simp only [monT, if_pos h0]; exact z7n h ⟨by omega, by omega⟩
 ·simp only [monT, if_neg h0, List.append_nil]; exact zaL h
theorem zcp (h : MonOk n c) : NetOk (z04 n c) := by
 have h1 := h.few
 have h2 := h.ok.trs
 have hT : ∀ t ∈ (z04 n c).trs, ∃ x ∈ n.trs, t = monT n.init.length (effT c.fac x) x := fun t ht => by
  simp only [z04, z1F, List.mem_map] at ht
  obtain ⟨x, hx, rfl⟩ := ht
  exact ⟨x, List.mem_of_mem_take hx, rfl⟩
 refine ⟨by rw [z2F]; omega, fun x hx => ?_, by rw [z4R]; exact h2, fun t ht => ?_, fun t ht => ?_, fun t ht => ?_⟩
 ·simp only [z04, List.mem_append, List.mem_singleton] at hx
  rcases hx with hx | rfl
  ·exact h.ok.tok x hx
  ·exact h.rest
 ·obtain ⟨x, hx, rfl⟩ := hT t ht
  exact h.ok.ev x hx
 ·obtain ⟨x, hx, rfl⟩ := hT t ht
  rw [z2F]
  exact zgZ (h.ok.inn x hx) (h.eff x hx)
 ·obtain ⟨x, hx, rfl⟩ := hT t ht
  rw [z2F]
  exact zgY (h.ok.out x hx) (h.eff x hx)
theorem zaO {α : Type} {p q : α → Bool} : ∀ {l : List α}, (∀ a ∈ l, p a = q a) → l.any p = l.any q
 | [], _ => rfl
 | a :: l, h => by rw [List.any_cons, List.any_cons, h a (by simp), zaO fun b hb => h b (by simp [hb])]
theorem z5x (a : List Int) (x : Int) (p : Nat) (h : p < a.length) : (a ++ [x]).getD p 0 = a.getD p 0 := by
 simp [List.getD, List.getElem?_append_left h]
theorem z3c (a : List Int) (x : Int) : (a ++ [x]).getD a.length 0 = x := by simp [List.getD]
theorem z86 {a : List Int} {x : Int} {l : List Arc} (h : ArcsIn a.length l) : l.any (z34 (a ++ [x])) = l.any (z34 a) :=
 zaO fun b hb => by
  have := h.place b hb
  rw [z34, z34, z5x a x _ (by omega)]
theorem zfG {a : List Int} {x E : Int} {t : Tr} (h : ArcsIn a.length t.inn) (hx : 0 ≤ x) : enB (a ++ [x]) (monT a.length E t) = (enB a t && decide (max E 0 ≤ x)) := by
 by_cases h0 : 0 < E
 ·have hd : z34 (a ++ [x]) ⟨(a.length : Int), E⟩ = decide (x < E) := by
   rw [z34]
   simp only [Int.toNat_natCast, z3c]
  simp only [enB, monT, if_pos h0, List.any_append, z86 h, List.any_cons, List.any_nil, Bool.or_false, hd, Bool.not_or]
  congr 1
  rw [Bool.eq_iff_iff]
  simp only [Bool.not_eq_true', decide_eq_false_iff_not, decide_eq_true_eq]
  omega
 ·have hd : decide (max E 0 ≤ x) = true := decide_eq_true (by omega)
  simp only [enB, monT, if_neg h0, List.append_nil, z86 h, hd, Bool.and_true]
theorem zb2 (a : List Int) (x y : Int) (p : Nat) (h : p < a.length) : (a ++ [x]).set p y = a.set p y ++ [x] := List.set_append_left _ _ h
theorem z6m (a : List Int) (x y : Int) : (a ++ [x]).set a.length y = a ++ [y] := by
 rw [List.set_append_right _ _ (Nat.le_refl _), Nat.sub_self]; rfl
theorem z1a (s x : Int) : ∀ (l : List Arc) (a : List Int), ArcsIn a.length l → z09 s (a ++ [x]) l = z09 s a l ++ [x]
 | [], a, _ => rfl
 | b :: l, a, h => by
  have hb := h.place b (by simp)
  rw [z09, z09, z5x a x _ (by omega), zb2 _ _ _ _ (by omega)]
  exact z1a s x l _ (by rw [List.length_set]; exact ⟨fun d hd => h.place d (by simp [hd]), fun d hd => h.weight d (by simp [hd]), (List.pairwise_cons.1 h.ord).2⟩)
theorem zdN {a : List Int} {x E : Int} {t : Tr} (h1 : ArcsIn a.length t.inn) (h2 : ArcsIn a.length t.out) : z05 (monT a.length E t) (a ++ [x]) = z05 t a ++ [x - E] := by
 have hl1 := z0g (-1) t.inn a
 have hl2 := z0g 1 t.out (z09 (-1) a t.inn)
 have h2' : ArcsIn (z09 (-1) a t.inn).length t.out := by rw [hl1]; exact h2
 by_cases h0 : 0 < E
 ·simp only [z05, monT, if_pos h0, if_neg (show ¬ E < 0 by omega), List.append_nil]
  rw [z1S, z1a _ _ _ _ h1]
  simp only [z09, Int.toNat_natCast]
  rw [← hl1, z3c, z6m, z1a _ _ _ _ h2']
  congr 2; omega
 ·by_cases h3 : E < 0
  ·simp only [z05, monT, if_pos h3, if_neg h0, List.append_nil]
   rw [z1S, z1a _ _ _ _ h1, z1a _ _ _ _ h2']
   simp only [z09, Int.toNat_natCast]
   rw [show a.length = (z09 1 (z09 (-1) a t.inn) t.out).length by omega, z3c, z6m]
   congr 2; omega
  ·simp only [z05, monT, if_neg h3, if_neg h0, List.append_nil]
   rw [z1a _ _ _ _ h1, z1a _ _ _ _ h2']
   congr 2; omega
theorem z4t {α : Type} {p q : α → Bool} : ∀ {l : List α}, (∀ a ∈ l, p a = q a) → l.filter p = l.filter q
 | [], _ => rfl
 | a :: l, h => by
  rw [List.filter_cons, List.filter_cons, h a (by simp), z4t fun b hb => h b (by simp [hb])]
def roomB (n : Net) (c : Con) (v : Int) (t : Int) : Bool := decide (v + max ((effL n c).getD t.toNat 0) 0 ≤ c.bound)
theorem zd0 (h : MonOk n c) {a : List Int} (hl : a.length = n.init.length) (hx : 0 ≤ c.bound - dot c.fac a) :
  (ableL n a n.trs.length).filter (roomB n c (dot c.fac a)) = ableL (z04 n c) (a ++ [c.bound - dot c.fac a]) n.trs.length := by
 simp only [ableL, List.filter_map, List.filter_filter]
 congr 1
 refine z4t fun i hi => ?_
 have hi' : i < n.trs.length := List.mem_range.1 hi
 have hin := h.ok.inn _ (z01 n.trs i Tr.no hi')
 rw [← hl] at hin
 rw [z9V i hi', ← hl, zfG hin hx, Bool.and_comm]
 congr 1
 simp only [Function.comp, roomB, Int.toNat_natCast, z95 n c i hi']
 rw [Bool.eq_iff_iff, decide_eq_true_eq, decide_eq_true_eq]
 omega
theorem zgX (h : MonOk n c) {a : List Int} {t B : Int} (hl : a.length = n.init.length) (hx : 0 ≤ c.bound - dot c.fac a) (ha : ∀ x ∈ a, 0 ≤ x ∧ x ≤ B) (ht : t ∈ ableL (z04 n c) (a ++ [c.bound - dot c.fac a]) n.trs.length) :
  z05 ((z04 n c).trs.getD t.toNat Tr.no) (a ++ [c.bound - dot c.fac a]) = z05 (n.trs.getD t.toNat Tr.no) a ++ [c.bound - dot c.fac (z05 (n.trs.getD t.toNat Tr.no) a)] ∧
  (z05 (n.trs.getD t.toNat Tr.no) a).length = n.init.length ∧ 0 ≤ c.bound - dot c.fac (z05 (n.trs.getD t.toNat Tr.no) a) ∧ (∀ x ∈ z05 (n.trs.getD t.toNat Tr.no) a, 0 ≤ x ∧ x ≤ B + 8) ∧ enB a (n.trs.getD t.toNat Tr.no) = true := by
 obtain ⟨h0, h1, h2⟩ := z4G ht
 have hk : t.toNat < n.trs.length := by omega
 have hin := h.ok.inn _ (z01 n.trs t.toNat Tr.no hk)
 have hout := h.ok.out _ (z01 n.trs t.toNat Tr.no hk)
 rw [← hl] at hin hout
 rw [z9V _ hk, ← hl, zfG hin hx, Bool.and_eq_true, decide_eq_true_eq] at h2
 have hd := z71 (f := c.fac) hin hout (by rw [h.len, hl])
 refine ⟨?_, by rw [z0y, hl], ?_, zag hin hout h2.1 ha, h2.1⟩
 ·rw [z9V _ hk, ← hl, zdN hin hout, hd]
  congr 2; omega
 ·rw [hd]; omega
end
end Go.Proofs.YtkjllcmpjghmkaaGreatDoor
set_option linter.unusedSimpArgs false
set_option linter.unusedVariables false
namespace Go.Proofs.YtkjllcmpjghmkaaGreatDoor
open Go.Eng Go.RowKit
theorem za2 : ∀ (a b : List Int) (x y : Int), a.length = b.length → leqB (a ++ [x]) (b ++ [y]) = true → leqB a b = true
 | [], [], _, _, _, _ => rfl
 | p :: a, q :: b, x, y, h, hl => by
  simp only [List.cons_append, leqB, Bool.and_eq_true] at hl ⊢
  exact ⟨hl.1, za2 a b x y (by simpa using h) hl.2⟩
section
variable {n : Net} {c : Con} {nd : List SN}
structure KeptOk (n : Net) (c : Con) (nd : List SN) : Prop where
 mon : MonOk n c
 len : ∀ x ∈ nd, x.m.length = n.init.length
 tok : ∀ x ∈ nd, ∀ y ∈ x.m, 0 ≤ y ∧ y ≤ 65536
 keep : ∀ x ∈ nd, 0 ≤ c.bound - dot c.fac x.m ∧ c.bound - dot c.fac x.m ≤ 65536
 back : ∀ k, k < nd.length → (nd.getD k SN.no).before < (k : Int)
end
theorem zdV {n : Net} {c : Con} {nd : List SN} (h : MonOk n c) (hL : Linked n nd) (hN : NodesOk n.init.length nd) : ∀ k, k < nd.length → c.bound - dot c.fac (nd.getD k SN.no).m ≤ c.bound - dot c.fac n.init + 8 * k := by
 intro k
 induction k using Nat.strongRecOn with
 | _ k ih =>
  intro hk
  by_cases h0 : k = 0
  ·subst h0
   rw [hL.first]; simp
  ·obtain ⟨l1, l2, l3, l4⟩ := hL.link k (by omega) hk
   have hb := ih (nd.getD k SN.no).before.toNat (by omega) (by omega)
   obtain ⟨a1, a2, a3⟩ := l3
   have ht : (nd.getD k SN.no).tr.toNat < n.trs.length := by omega
   have hmem := z01 n.trs _ Tr.no ht
   have hlen := hN.len _ (z01 nd (nd.getD k SN.no).before.toNat SN.no (by omega))
   have hin := h.ok.inn _ hmem
   have hout := h.ok.out _ hmem
   rw [← hlen] at hin hout
   have hd := z71 (f := c.fac) hin hout (by rw [h.len, hlen])
   rw [← l4] at hd
   have he := h.eff _ hmem
   omega
end Go.Proofs.YtkjllcmpjghmkaaGreatDoor
