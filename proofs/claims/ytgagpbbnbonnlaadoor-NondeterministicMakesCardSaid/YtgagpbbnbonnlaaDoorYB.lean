/-
 Chapter 05, plain: edges in order; what the reference does; the sets of a deterministic automaton.
-/
import Derived.Test.YtgagpbbnbonnlaaDoorYA
set_option linter.unusedSimpArgs false
set_option linter.unusedVariables false
namespace Go.Proofs.YtgagpbbnbonnlaaDoor
/-! edges in order -/
def edLt (x y : Ed) : Prop := x.src < y.src ∨ x.src = y.src ∧ (x.ev < y.ev ∨ x.ev = y.ev ∧ x.dst < y.dst)
instance (x y : Ed) : Decidable (edLt x y) := by unfold edLt; infer_instance
theorem edLt_trans {x y z : Ed} (h1 : edLt x y) (h2 : edLt y z) : edLt x z := by unfold edLt at *; omega
theorem edLt_irrefl (x : Ed) : ¬ edLt x x := by unfold edLt; omega
def cmpI (a b : Int) : Int := if a < b then -1 else if b < a then 1 else 0
def cmpE (x y : Ed) : Int := if cmpI x.src y.src ≠ 0 then cmpI x.src y.src else if cmpI x.ev y.ev ≠ 0 then cmpI x.ev y.ev else cmpI x.dst y.dst
theorem cmpE_neg {x y : Ed} : cmpE x y < 0 ↔ edLt x y := by
 unfold cmpE cmpI edLt
 constructor <;> intro h <;> (repeat' split at *) <;> omega
def Ed.no : Ed := ⟨0, 0, 0⟩
def EdInc (es : List Ed) : Prop := es.Pairwise edLt
def isE (s e : Int) (x : Ed) : Bool := decide (x.src = s ∧ x.ev = e)
def nextL (es : List Ed) (s e : Int) : List Int := (es.filter (isE s e)).map Ed.dst
theorem mem_nextL {es : List Ed} {s e y : Int} : y ∈ nextL es s e ↔ ∃ x ∈ es, x.src = s ∧ x.ev = e ∧ x.dst = y := by
 simp only [nextL, List.mem_map, List.mem_filter, isE, decide_eq_true_eq]
 constructor
 ·rintro ⟨x, ⟨h1, h2, h3⟩, h4⟩; exact ⟨x, h1, h2, h3, h4⟩
 ·rintro ⟨x, h1, h2, h3, h4⟩; exact ⟨x, ⟨h1, h2, h3⟩, h4⟩
theorem nextL_length (es : List Ed) (s e : Int) : (nextL es s e).length ≤ es.length := by
 rw [nextL, List.length_map]; exact List.length_filter_le _ _
theorem filter_of_ge (s e : Int) : ∀ l : List Ed, EdInc l → (∀ x ∈ l, ¬ edLt x ⟨s, e, -1⟩) → l.filter (isE s e) = l.takeWhile (isE s e)
 | [], _, _ => rfl
 | x :: l, ho, hg => by
  have ho' := List.pairwise_cons.1 ho
  by_cases hx : isE s e x = true
  ·rw [List.filter_cons_of_pos hx, List.takeWhile_cons_of_pos hx, filter_of_ge s e l ho'.2 fun y hy => hg y (by simp [hy])]
  ·rw [List.filter_cons_of_neg hx, List.takeWhile_cons_of_neg hx, List.filter_eq_nil_iff]
   intro y hy hyp
   have h1 := hg x (by simp)
   have h2 := ho'.1 y hy
   simp only [isE, decide_eq_true_eq] at hx hyp
   unfold edLt at h1 h2
   simp only at h1
   omega
theorem filter_of_lt (s e : Int) (l : List Ed) (hl : ∀ x ∈ l, edLt x ⟨s, e, -1⟩) (hd : ∀ x ∈ l, 0 ≤ x.dst) : l.filter (isE s e) = [] := by
 rw [List.filter_eq_nil_iff]
 intro y hy hyp
 have h1 := hl y hy
 have h2 := hd y hy
 simp only [isE, decide_eq_true_eq] at hyp
 unfold edLt at h1
 simp only at h1
 omega
structure BsInv (es : List Ed) (t : Ed) (i j : Nat) : Prop where
 le : i ≤ j
 len : j ≤ es.length
 lo : ∀ k, k < i → edLt (es.getD k Ed.no) t
 hi : ∀ k, j ≤ k → k < es.length → ¬ edLt (es.getD k Ed.no) t
theorem ed_getD {es : List Ed} (ho : EdInc es) {a b : Nat} (hab : a < b) (hb : b < es.length) : edLt (es.getD a Ed.no) (es.getD b Ed.no) := by
 have h := (List.pairwise_iff_getElem.1 ho) a b (by omega) hb hab
 simpa [List.getD, List.getElem?_eq_getElem hb, List.getElem?_eq_getElem (show a < es.length by omega)] using h
theorem BsInv.zero (es : List Ed) (t : Ed) : BsInv es t 0 es.length := ⟨by omega, by omega, fun k h => by omega, fun k h1 h2 => by omega⟩
theorem BsInv.up {es : List Ed} {t : Ed} {i j h : Nat} (ho : EdInc es) (H : BsInv es t i j) (h2 : h < j) (hc : edLt (es.getD h Ed.no) t) : BsInv es t (h + 1) j := by
 refine ⟨by omega, H.len, fun k hk => ?_, H.hi⟩
 by_cases e : k = h
 ·rw [e]; exact hc
 ·exact edLt_trans (ed_getD ho (by omega) (by have := H.len; omega)) hc
theorem BsInv.down {es : List Ed} {t : Ed} {i j h : Nat} (ho : EdInc es) (H : BsInv es t i j) (h1 : i ≤ h) (h2 : h < j) (hc : ¬ edLt (es.getD h Ed.no) t) : BsInv es t i h := by
 refine ⟨h1, by have := H.len; omega, H.lo, fun k hk hl hlt => ?_⟩
 by_cases e : k = h
 ·rw [e] at hlt; exact hc hlt
 ·exact hc (edLt_trans (ed_getD ho (by omega) hl) hlt)
theorem nextL_at {es : List Ed} {s e : Int} {i : Nat} (ho : EdInc es) (hd : ∀ x ∈ es, 0 ≤ x.dst) (H : BsInv es ⟨s, e, -1⟩ i i) : nextL es s e = ((es.drop i).takeWhile (isE s e)).map Ed.dst := by
 have h1 : (es.take i).filter (isE s e) = [] := filter_of_lt s e _ (fun x hx => by
  obtain ⟨k, hk, rfl⟩ := List.mem_iff_getElem.1 hx
  have hk' : k < i ∧ k < es.length := by rw [List.length_take] at hk; omega
  have := H.lo k hk'.1
  simpa [List.getD, List.getElem?_eq_getElem hk'.2] using this) fun x hx => hd x (List.mem_of_mem_take hx)
 have h2 : (es.drop i).filter (isE s e) = (es.drop i).takeWhile (isE s e) := filter_of_ge s e _ (List.Pairwise.sublist (List.drop_sublist i es) ho) fun x hx => by
  obtain ⟨k, hk, rfl⟩ := List.mem_iff_getElem.1 hx
  have hk' : k < es.length - i := by simpa using hk
  have := H.hi (i + k) (by omega) (by omega)
  rw [List.getD, List.getElem?_eq_getElem (show i + k < es.length by omega)] at this
  simpa using this
 rw [nextL]
 conv => lhs; rw [← List.take_append_drop i es, List.filter_append, h1, h2, List.nil_append]
/-! the reference: what is reached by an event; its rounds -/
structure EdOk (n : Nat) (es : List Ed) : Prop where
 inc : EdInc es
 src : ∀ x ∈ es, 0 ≤ x.src ∧ x.src < n
 dst : ∀ x ∈ es, 0 ≤ x.dst ∧ x.dst < n
def leadE (es : List Ed) (e : Int) (x : Int) : List Int := nextL es x e
section
variable {n : Nat} {es : List Ed} {u : List Int → List Int → List Int}
theorem leadE_rng (h : EdOk n es) (e : Int) : ∀ x : Int, 0 ≤ x → x < n → ∀ y ∈ leadE es e x, 0 ≤ y ∧ y < n := fun x _ _ y hy => by
 obtain ⟨x, hx, _, _, rfl⟩ := mem_nextL.1 hy
 exact h.dst x hx
def stepN (n : Nat) (es : List Ed) (sil : Int) (s : List Int) (e : Int) : List Int := closN n (leadE es sil) ((closN n (leadE es sil) s).flatMap fun x => nextL es x e)
theorem flat_rng (h : EdOk n es) (l : List Int) (e : Int) : ∀ x ∈ l.flatMap fun x => nextL es x e, 0 ≤ x ∧ x < n := fun x hx => by
 obtain ⟨y, _, hy⟩ := List.mem_flatMap.1 hx
 obtain ⟨z, hz, _, _, rfl⟩ := mem_nextL.1 hy
 exact h.dst z hz
end
/-! sets of states: how many -/
theorem nodup_le {α : Type} [DecidableEq α] : ∀ {l m : List α}, l.Nodup → (∀ x ∈ l, x ∈ m) → l.length ≤ m.length
 | [], _, _, _ => by simp
 | x :: l, m, hn, h => by
  have hn' := List.nodup_cons.1 hn
  have hx := h x (by simp)
  have := nodup_le (l := l) (m := m.erase x) hn'.2 fun y hy => (List.mem_erase_of_ne (fun e => hn'.1 (by rw [← e]; exact hy))).2 (h y (by simp [hy]))
  rw [List.length_erase_of_mem hx] at this
  have : 0 < m.length := List.length_pos_of_mem hx
  simp only [List.length_cons]
  omega
def subsI : Nat → List (List Int)
 | 0 => [[]]
 | n + 1 => subsI n ++ (subsI n).map fun l => l ++ [(n : Int)]
theorem subsI_length : ∀ n, (subsI n).length = 2 ^ n
 | 0 => rfl
 | n + 1 => by rw [subsI, List.length_append, List.length_map, subsI_length n, Nat.pow_succ]; omega
theorem selI_subs (p : Int → Bool) : ∀ n, selI n p ∈ subsI n
 | 0 => by simp [subsI, selI_zero]
 | n + 1 => by
  rw [selI_succ, subsI, List.mem_append]
  split
  ·exact .inr (List.mem_map.2 ⟨_, selI_subs p n, rfl⟩)
  ·rw [List.append_nil]; exact .inl (selI_subs p n)
theorem sets_le {n : Nat} {l : List (List Int)} (hn : l.Nodup) (h : ∀ s ∈ l, IncI s ∧ ∀ x ∈ s, 0 ≤ x ∧ x < n) : l.length ≤ 2 ^ n := by
 rw [← subsI_length n]
 refine nodup_le hn fun s hs => ?_
 obtain ⟨h1, h2⟩ := h s hs
 have e : s = selI n fun x => decide (x ∈ s) := selI_of h1 fun z => ⟨fun hz => ⟨h2 z hz, by simpa using hz⟩, fun hz => by simpa using hz.2⟩
 rw [e]
 exact selI_subs _ n
end Go.Proofs.YtgagpbbnbonnlaaDoor
