/-
 Chapter 05, plain: words: the deterministic automaton reaches what the automaton reaches.
-/
import Derived.Test.YtgagpbbnbonnlaaDoorYE
set_option linter.unusedSimpArgs false
set_option linter.unusedVariables false
namespace Go.Proofs.YtgagpbbnbonnlaaDoor
section
variable {n : Nat} {lead : Int → List Int} {s : List Int}
theorem mem_closN_quiet (hq : ∀ x, lead x = []) (hs : ∀ x ∈ s, 0 ≤ x ∧ x < n) {z : Int} : z ∈ closN n lead s ↔ z ∈ s := by
 rw [mem_closN hs (fun x _ _ y hy => by rw [hq] at hy; cases hy)]
 constructor
 ·intro h
  cases h with
  | base h => exact h
  | step _ h => rw [hq] at h; cases h
 ·exact .base
theorem no_reach {x : Int} (h : Reach lead [] x) : False := by
 induction h with
 | base h => cases h
 | step _ _ ih => exact ih
theorem closN_nil : closN n lead [] = [] := List.eq_nil_iff_forall_not_mem.2 fun _ hz => no_reach (iterR_sound n hz)
theorem stepN_nil {es : List Ed} {sil x : Int} : stepN n es sil [] x = [] := by
 rw [stepN, closN_nil, List.flatMap_nil, closN_nil]
end
def aftN (n : Nat) (es : List Ed) (sil : Int) (w s : List Int) : List Int := w.foldl (fun s x => stepN n es sil s x) s
def Stands (sets : List (List Int)) (S T : List Int) : Prop := (S = [] ∧ T = []) ∨ ∃ k : Nat, k < sets.length ∧ sets.getD k [] = S ∧ S ≠ [] ∧ T = [(k : Int)]
theorem nodup_getD {l : List (List Int)} (h : l.Nodup) {a b : Nat} (ha : a < l.length) (hb : b < l.length) (e : l.getD a [] = l.getD b []) : a = b := by
 simp only [List.getD, List.getElem?_eq_getElem ha, List.getElem?_eq_getElem hb, Option.getD_some] at e
 have h1 := List.pairwise_iff_getElem.1 h
 rcases Nat.lt_trichotomy a b with hab | hab | hab
 ·exact absurd e (h1 a b ha hb hab)
 ·exact hab
 ·exact absurd e.symm (h1 b a hb ha hab)
section
variable {st : List Int → Int → List Int} {mt : List Int → Bool} {al : List Int} {sets : List (List Int)} {mk : List Int} {es : List Ed}
theorem stands_step (h : DetInv st mt al sets.length sets mk es) (hn : sets.Nodup) (hst : ∀ x, st [] x = []) {sil : Int} (hsil : sil ∉ al) {S T : List Int} {x : Int} (hx : x ∈ al) (hr : Stands sets S T) : Stands sets (st S x) (stepN sets.length es sil T x) := by
 have hq : ∀ y, leadE es sil y = [] := fun y => List.eq_nil_iff_forall_not_mem.2 fun z hz => by
  obtain ⟨e, he, _, h2, _⟩ := mem_nextL.1 hz
  obtain ⟨j, k, _, _, _, h3, _⟩ := h.bwd e he
  rw [h2] at h3
  exact hsil h3
 rcases hr with ⟨rfl, rfl⟩ | ⟨k, hk, rfl, hne, rfl⟩
 ·exact .inl ⟨hst x, stepN_nil⟩
 have hone : closN sets.length (leadE es sil) [(k : Int)] = [(k : Int)] := inc_ext closN_inc (List.pairwise_singleton _ _) fun z => mem_closN_quiet hq fun y hy => by
  rw [List.mem_singleton] at hy; subst hy; omega
 have hto : ∀ z, z ∈ nextL es k x ↔ ∃ k2 : Nat, k2 < sets.length ∧ z = k2 ∧ st (sets.getD k []) x ≠ [] ∧ sets.getD k2 [] = st (sets.getD k []) x := fun z => by
  rw [mem_nextL]
  constructor
  ·rintro ⟨e, he, h1, h2, rfl⟩
   obtain ⟨j, k2, h3, h4, h5, h6, h7, h8⟩ := h.bwd e he
   have e1 : e.src = j := by rw [h5]
   have e2 : e.dst = k2 := by rw [h5]
   have e3 : j = k := by omega
   subst e3
   rw [h2] at h7 h8
   exact ⟨k2, h4, e2, h7, h8⟩
  ·rintro ⟨k2, h1, rfl, h2, h3⟩
   obtain ⟨k3, h4, h5, h6⟩ := h.fwd k hk x hx h2
   have : k3 = k2 := nodup_getD hn h4 h1 (by rw [h5, h3])
   subst this
   exact ⟨_, h6, rfl, rfl, rfl⟩
 have hrng : ∀ z ∈ nextL es k x, 0 ≤ z ∧ z < sets.length := fun z hz => by
  obtain ⟨k2, h1, rfl, _⟩ := (hto z).1 hz
  omega
 have hstep : stepN sets.length es sil [(k : Int)] x = closN sets.length (leadE es sil) (nextL es k x) := by
  rw [stepN, hone, List.flatMap_cons, List.flatMap_nil, List.append_nil]
 rw [hstep]
 by_cases hs : st (sets.getD k []) x = []
 ·refine .inl ⟨hs, ?_⟩
  have : nextL es k x = [] := List.eq_nil_iff_forall_not_mem.2 fun z hz => by
   obtain ⟨_, _, _, h2, _⟩ := (hto z).1 hz
   exact h2 hs
  rw [this, closN_nil]
 ·obtain ⟨k2, h4, h5, _⟩ := h.fwd k hk x hx hs
  refine .inr ⟨k2, h4, h5, hs, inc_ext closN_inc (List.pairwise_singleton _ _) fun z => ?_⟩
  rw [mem_closN_quiet hq hrng, hto, List.mem_singleton]
  constructor
  ·rintro ⟨k3, h6, rfl, _, h7⟩
   rw [nodup_getD hn h6 h4 (by rw [h7, h5])]
  ·rintro rfl
   exact ⟨k2, h4, rfl, hs, h5⟩
theorem stands_word (h : DetInv st mt al sets.length sets mk es) (hn : sets.Nodup) (hst : ∀ x, st [] x = []) {sil : Int} (hsil : sil ∉ al) : ∀ (w : List Int), (∀ x ∈ w, x ∈ al) → ∀ {S T : List Int}, Stands sets S T → Stands sets (w.foldl st S) (aftN sets.length es sil w T)
 | [], _, S, T, hr => hr
 | x :: w, hw, S, T, hr => stands_word h hn hst hsil w (fun y hy => hw y (by simp [hy])) (stands_step h hn hst hsil (hw x (by simp)) hr)
theorem stands_len {S T : List Int} (hr : Stands sets S T) : T = [] ↔ S = [] := by
 rcases hr with ⟨rfl, rfl⟩ | ⟨k, _, rfl, hne, rfl⟩
 ·exact ⟨fun h => h, fun h => h⟩
 ·exact ⟨fun h => absurd h (by simp), fun h => absurd h hne⟩
theorem stands_met (h : DetInv st mt al sets.length sets mk es) (hm : mt [] = false) {S T : List Int} (hr : Stands sets S T) : metL T mk = mt S := by
 rcases hr with ⟨rfl, rfl⟩ | ⟨k, hk, rfl, hne, rfl⟩
 ·rw [hm]; rfl
 ·rw [Bool.eq_iff_iff, h.mrk]
  simp only [metL, List.any_cons, List.any_nil, Bool.or_false, decide_eq_true_eq, List.mem_map, List.mem_filter, List.mem_range]
  constructor
  ·rintro ⟨j, ⟨_, h1⟩, e⟩
   have : j = k := by omega
   subst this
   exact h1
  ·intro h1
   exact ⟨k, ⟨hk, h1⟩, rfl⟩
end
end Go.Proofs.YtgagpbbnbonnlaaDoor
