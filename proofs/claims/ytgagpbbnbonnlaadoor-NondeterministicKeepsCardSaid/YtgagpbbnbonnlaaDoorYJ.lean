/-
 Chapter 05, plain: the deterministic automaton is right; it generates and accepts the same words.
-/
import Derived.Test.YtgagpbbnbonnlaaDoorYI
set_option linter.unusedSimpArgs false
set_option linter.unusedVariables false
namespace Go.Proofs.YtgagpbbnbonnlaaDoor
def dLt (x y : Ed) : Prop := x.src < y.src ∨ x.src = y.src ∧ x.ev < y.ev
theorem dLt_edLt {x y : Ed} (h : dLt x y) : edLt x y := by unfold dLt at h; unfold edLt; omega
theorem dLt_snoc {es : List Ed} (h : es.Pairwise dLt) {i : Nat} {x t : Int} (hb : ∀ e ∈ es, e.src < (i : Int) ∨ e.src = i ∧ e.ev < x) : (es ++ [(⟨i, x, t⟩ : Ed)]).Pairwise dLt := by
 rw [List.pairwise_append]
 refine ⟨h, List.pairwise_singleton _ _, fun a ha b hb2 => ?_⟩
 rw [List.mem_singleton] at hb2
 subst hb2
 exact hb a ha
theorem detIn_inc (st : List Int → Int → List Int) (i : Nat) (s : List Int) : ∀ (al : List Int) (sets : List (List Int)) (es : List Ed), IncI al → es.Pairwise dLt → (∀ e ∈ es, e.src ≤ (i : Int)) → (∀ e ∈ es, ∀ x ∈ al, e.src < (i : Int) ∨ e.src = i ∧ e.ev < x) → (detIn st i s al sets es).2.Pairwise dLt ∧ ∀ e ∈ (detIn st i s al sets es).2, e.src ≤ (i : Int)
 | [], sets, es, _, h1, h2, _ => ⟨h1, h2⟩
 | x :: al, sets, es, ha, h1, h2, h3 => by
  have ha' := List.pairwise_cons.1 ha
  have hx : ∀ e ∈ es, e.src < (i : Int) ∨ e.src = i ∧ e.ev < x := fun e he => h3 e he x (by simp)
  have key : ∀ (t : Int) (sets2 : List (List Int)), (detIn st i s al sets2 (es ++ [⟨i, x, t⟩])).2.Pairwise dLt ∧ ∀ e ∈ (detIn st i s al sets2 (es ++ [⟨i, x, t⟩])).2, e.src ≤ (i : Int) := fun t sets2 => by
   refine detIn_inc st i s al sets2 _ ha'.2 (dLt_snoc h1 hx) (fun e he => ?_) fun e he y hy => ?_
   ·rcases List.mem_append.1 he with he | he
    ·exact h2 e he
    ·rw [List.mem_singleton] at he; subst he; simp
   ·have hxy := ha'.1 y hy
    rcases List.mem_append.1 he with he | he
    ·have := hx e he; omega
    ·rw [List.mem_singleton] at he; subst he; exact .inr ⟨rfl, hxy⟩
  rw [detIn]
  split
  ·exact detIn_inc st i s al sets es ha'.2 h1 h2 fun e he y hy => h3 e he y (by simp [hy])
  ·split
   ·exact key _ _
   ·exact key _ _
section
variable {st : List Int → Int → List Int} {mt : List Int → Bool} {al : List Int}
theorem det_inc (ha : IncI al) {lim : Nat} : ∀ (f i : Nat) (sets : List (List Int)) (mk : List Int) (es : List Ed) {r : List (List Int) × List Int × List Ed}, es.Pairwise dLt → (∀ e ∈ es, e.src < (i : Int)) → detOut st mt al lim f i sets mk es = some r → r.2.2.Pairwise dLt
 | 0, i, sets, mk, es, r, _, _, hr => by cases hr
 | f + 1, i, sets, mk, es, r, h1, h2, hr => by
  rw [detOut] at hr
  by_cases hi : i < sets.length
  ·rw [if_pos hi] at hr
   by_cases hl : lim < sets.length
   ·rw [if_pos hl] at hr; cases hr
   ·rw [if_neg hl] at hr
    obtain ⟨h3, h4⟩ := detIn_inc st i (sets.getD i []) al sets es ha h1 (fun e he => by have := h2 e he; omega) fun e he x _ => .inl (h2 e he)
    exact det_inc ha f (i + 1) _ _ _ h3 (fun e he => by have := h4 e he; omega) hr
  ·rw [if_neg hi] at hr
   cases hr
   exact h1
theorem DetInv.mk_inc {n : Nat} {sets : List (List Int)} {mk : List Int} {es : List Ed} (h : DetInv st mt al n sets mk es) : IncI mk ∧ ∀ x ∈ mk, 0 ≤ x ∧ x < (n : Int) := by
 rw [h.mrk]
 refine ⟨List.pairwise_map.2 ((List.Pairwise.sublist List.filter_sublist List.pairwise_lt_range).imp fun h => by omega), fun x hx => ?_⟩
 obtain ⟨j, hj, rfl⟩ := List.mem_map.1 hx
 have := List.mem_range.1 (List.mem_filter.1 hj).1
 omega
theorem DetInv.ed_ok {sets : List (List Int)} {mk : List Int} {es : List Ed} (h : DetInv st mt al sets.length sets mk es) (hp : es.Pairwise dLt) : EdOk sets.length es := by
 refine ⟨hp.imp dLt_edLt, fun e he => ?_, fun e he => ?_⟩
 ·obtain ⟨j, k, h1, h2, h3, _⟩ := h.bwd e he
  have : e.src = j := by rw [h3]
  omega
 ·obtain ⟨j, k, h1, h2, h3, _⟩ := h.bwd e he
  have : e.dst = k := by rw [h3]
  omega
theorem DetInv.ev_in {n : Nat} {sets : List (List Int)} {mk : List Int} {es : List Ed} (h : DetInv st mt al n sets mk es) : ∀ e ∈ es, e.ev ∈ al := fun e he => by
 obtain ⟨_, _, _, _, _, h3, _⟩ := h.bwd e he
 exact h3
end
def detNA (a : NA) (r : List (List Int) × List Int × List Ed) : NA := ⟨a.alpha, r.1.length, if r.1 = [] then [] else [0], r.2.1, r.2.2⟩
theorem det_na {a : NA} {sil : Int} (h : NaOk a) (h12 : a.states ≤ 12) {r : List (List Int) × List Int × List Ed} (hr : detN a sil = some r) : DetInv (stepN a.states.toNat a.edges sil) (fun s => metL s a.marked) a.alpha r.1.length r.1 r.2.1 r.2.2 ∧ DetOk a.states.toNat r.1 ∧ r.1.length ≤ 4096 ∧ (a.init = [] → r.1 = []) ∧ (a.init ≠ [] → ∃ x, r.1 = closN a.states.toNat (leadE a.edges sil) a.init :: x) ∧ NaOk (detNA a r) ∧ r.2.2.Pairwise dLt := by
 obtain ⟨r2, hr2, hok⟩ := detN_some h sil h12
 rw [hr] at hr2
 cases hr2
 have hs : (if a.init = [] then [] else [closN a.states.toNat (leadE a.edges sil) a.init]).length ≤ 4096 := by split <;> simp
 obtain ⟨h1, h2, ⟨x, h3⟩, _⟩ := det_closed hs hr
 have h4 := det_inc h.alpha _ _ _ _ _ .nil (fun e he => by cases he) hr
 have h5 : a.init = [] → r.1 = [] := fun e => by
  have hr' := hr
  rw [detN, if_pos e, detOut, if_neg (by simp)] at hr'
  cases hr'
  rfl
 refine ⟨h1, hok, h2, h5, fun e => ⟨x, by rw [h3, if_neg e]; rfl⟩, ⟨by simp only [detNA]; omega, h.alpha, ?_, ?_, ?_⟩, h4⟩
 ·simp only [detNA]
  split
  ·exact ⟨.nil, fun x hx => by cases hx⟩
  ·rename_i hne
   have := List.length_pos_iff.2 hne
   exact ⟨List.pairwise_singleton _ _, fun x hx => by rw [List.mem_singleton] at hx; omega⟩
 ·exact h1.mk_inc
 ·simp only [detNA, Int.toNat_natCast]
  exact h1.ed_ok h4
def aftA (a : NA) (sil : Int) (w : List Int) : List Int := aftN a.states.toNat a.edges sil w (closN a.states.toNat (leadE a.edges sil) a.init)
theorem det_stands {a : NA} {sil : Int} (h : NaOk a) (h12 : a.states ≤ 12) (hsil : sil ∉ a.alpha) {r : List (List Int) × List Int × List Ed} (hr : detN a sil = some r) {w : List Int} (hw : ∀ x ∈ w, x ∈ a.alpha) : Stands r.1 (aftA a sil w) (aftA (detNA a r) sil w) := by
 obtain ⟨h1, h2, _, h4, h5, h6, _⟩ := det_na h h12 hr
 have e : (detNA a r).states.toNat = r.1.length := by simp [detNA]
 rw [aftA, aftA, e]
 refine stands_word h1 h2.nod (fun x => stepN_nil) hsil w hw ?_
 by_cases hi : a.init = []
 ·have hnil := h4 hi
  refine .inl ⟨by rw [hi]; exact closN_nil, ?_⟩
  rw [show (detNA a r).init = [] by simp only [detNA, if_pos hnil]]
  exact closN_nil
 ·obtain ⟨x, hx⟩ := h5 hi
  have hne : r.1 ≠ [] := by rw [hx]; simp
  have hq : ∀ y, leadE (detNA a r).edges sil y = [] := fun y => List.eq_nil_iff_forall_not_mem.2 fun z hz => by
   obtain ⟨e, he, _, h7, _⟩ := mem_nextL.1 hz
   have := h1.ev_in e he
   rw [h7] at this
   exact hsil this
  refine .inr ⟨0, by rw [hx]; simp, by rw [hx]; rfl, ?_, ?_⟩
  ·exact (h2.set _ (by rw [hx]; simp)).1
  ·rw [show (detNA a r).init = [0] by simp only [detNA, if_neg hne]]
   refine inc_ext closN_inc (List.pairwise_singleton _ _) fun z => mem_closN_quiet hq fun y hy => ?_
   have := List.length_pos_iff.2 hne
   rw [List.mem_singleton] at hy
   omega
theorem det_keeps {a : NA} {sil : Int} (h : NaOk a) (h12 : a.states ≤ 12) (hsil : sil ∉ a.alpha) {r : List (List Int) × List Int × List Ed} (hr : detN a sil = some r) {w : List Int} (hw : ∀ x ∈ w, x ∈ a.alpha) : (aftA (detNA a r) sil w = [] ↔ aftA a sil w = []) ∧ metL (aftA (detNA a r) sil w) (detNA a r).marked = metL (aftA a sil w) a.marked :=
 ⟨stands_len (det_stands h h12 hsil hr hw), stands_met (det_na h h12 hr).1 rfl (det_stands h h12 hsil hr hw)⟩
theorem met_iff {s m : List Int} : metL s m = true ↔ ∃ x ∈ s, x ∈ m := by simp [metL]
theorem rev_keeps {a : NA} {sil : Int} (h : NaOk a) (w : List Int) : metL (aftA ⟨a.alpha, a.states, a.marked, a.init, sortE (revE a.edges)⟩ sil w.reverse) a.init = metL (aftA a sil w) a.marked := by
 have hp := h.pos
 have hi : ∀ x ∈ a.init, 0 ≤ x ∧ x < (a.states.toNat : Int) := fun x hx => by have := h.init.2 x hx; omega
 have hm : ∀ x ∈ a.marked, 0 ≤ x ∧ x < (a.states.toNat : Int) := fun x hx => by have := h.marked.2 x hx; omega
 rw [Bool.eq_iff_iff, met_iff, met_iff]
 constructor
 ·rintro ⟨x, hx, hx2⟩
  obtain ⟨p, hp1, hp2⟩ := (mem_aftN (revE_ok h.edges) _ _ hm).1 hx
  exact ⟨p, (mem_aftN h.edges _ _ hi).2 ⟨x, hx2, (path_rev fun e => mem_sortE).1 hp2⟩, hp1⟩
 ·rintro ⟨x, hx, hx2⟩
  obtain ⟨p, hp1, hp2⟩ := (mem_aftN h.edges _ _ hi).1 hx
  exact ⟨p, (mem_aftN (revE_ok h.edges) _ _ hm).2 ⟨x, hx2, (path_rev fun e => mem_sortE).2 hp2⟩, hp1⟩
end Go.Proofs.YtgagpbbnbonnlaaDoor
