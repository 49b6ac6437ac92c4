/-
 Chapter 05, plain: two automata side by side generate and accept what one of both does.
-/
import Derived.Test.YtgagpbbnbonnlaaDoorYJ
set_option linter.unusedSimpArgs false
set_option linter.unusedVariables false
namespace Go.Proofs.YtgagpbbnbonnlaaDoor
def sideI (n : Int) (l m : List Int) : List Int := l ++ m.map fun x => n + x
def sideNA (al : List Int) (a b : NA) : NA := ⟨al, a.states + b.states, sideI a.states a.init b.init, sideI a.states a.marked b.marked, a.edges ++ shE a.states b.edges⟩
theorem mem_sideI {n x : Int} {l m : List Int} (hl : ∀ y ∈ l, y < n) (hm : ∀ y ∈ m, 0 ≤ y) : x ∈ sideI n l m ↔ (x < n ∧ x ∈ l) ∨ (n ≤ x ∧ x - n ∈ m) := by
 rw [sideI, List.mem_append, List.mem_map]
 constructor
 ·rintro (h | ⟨y, hy, rfl⟩)
  ·exact .inl ⟨hl x h, h⟩
  ·have := hm y hy
   exact .inr ⟨by omega, by rwa [show n + y - n = y by omega]⟩
 ·rintro (⟨_, h⟩ | ⟨_, h⟩)
  ·exact .inl h
  ·exact .inr ⟨x - n, h, by omega⟩
theorem sideI_inc {n : Int} {l m : List Int} (h1 : IncI l) (h2 : IncI m) (hl : ∀ y ∈ l, y < n) (hm : ∀ y ∈ m, 0 ≤ y) : IncI (sideI n l m) := by
 rw [sideI, IncI, List.pairwise_append]
 refine ⟨h1, List.pairwise_map.2 (h2.imp fun h => by omega), fun a ha b hb => ?_⟩
 obtain ⟨y, hy, rfl⟩ := List.mem_map.1 hb
 have := hl a ha
 have := hm y hy
 omega
section
variable {a b : NA} {al : List Int} {sil : Int}
theorem side_na (h1 : NaOk a) (h2 : NaOk b) (hal : IncI al) : NaOk (sideNA al a b) := by
 have p1 := h1.pos
 have p2 := h2.pos
 have hr : ∀ {l m : List Int}, (∀ x ∈ l, 0 ≤ x ∧ x < a.states) → (∀ x ∈ m, 0 ≤ x ∧ x < b.states) → ∀ x ∈ sideI a.states l m, 0 ≤ x ∧ x < a.states + b.states := fun hl hm x hx => by
  rcases (mem_sideI (fun y hy => (hl y hy).2) (fun y hy => (hm y hy).1)).1 hx with ⟨_, h⟩ | ⟨_, h⟩
  ·have := hl x h; omega
  ·have := hm _ h; omega
 refine ⟨by simp only [sideNA]; omega, hal, ⟨?_, hr h1.init.2 h2.init.2⟩, ⟨?_, hr h1.marked.2 h2.marked.2⟩, ?_⟩
 ·exact sideI_inc h1.init.1 h2.init.1 (fun y hy => (h1.init.2 y hy).2) fun y hy => (h2.init.2 y hy).1
 ·exact sideI_inc h1.marked.1 h2.marked.1 (fun y hy => (h1.marked.2 y hy).2) fun y hy => (h2.marked.2 y hy).1
 ·have := side_ok h1.edges h2.edges
  simp only [sideNA]
  rw [show (a.states + b.states).toNat = a.states.toNat + b.states.toNat by omega]
  rwa [show ((a.states.toNat : Nat) : Int) = a.states by omega] at this
theorem mem_side (h1 : NaOk a) (h2 : NaOk b) (hal : IncI al) (w : List Int) {z : Int} : z ∈ aftA (sideNA al a b) sil w ↔ (z < a.states ∧ z ∈ aftA a sil w) ∨ (a.states ≤ z ∧ z - a.states ∈ aftA b sil w) := by
 have p1 := h1.pos
 have p2 := h2.pos
 have e1 : ((a.states.toNat : Nat) : Int) = a.states := by omega
 have hs := side_na h1 h2 hal
 have r0 : ∀ {c : NA}, NaOk c → ∀ x ∈ c.init, 0 ≤ x ∧ x < (c.states.toNat : Int) := fun {c} h x hx => by
  have := h.init.2 x hx
  have := h.pos
  omega
 have hin : ∀ x, x ∈ (sideNA al a b).init ↔ (x < a.states ∧ x ∈ a.init) ∨ (a.states ≤ x ∧ x - a.states ∈ b.init) := fun x => mem_sideI (fun y hy => (h1.init.2 y hy).2) fun y hy => (h2.init.2 y hy).1
 rw [aftA, mem_aftN hs.edges _ _ (r0 hs), aftA, mem_aftN h1.edges _ _ (r0 h1), aftA, mem_aftN h2.edges _ _ (r0 h2)]
 have hE : (sideNA al a b).edges = a.edges ++ shE (a.states.toNat : Nat) b.edges := by rw [e1]; rfl
 rw [hE]
 have stay : ∀ {p q : Int} {w : List Int}, Path a.edges sil p w q → p < a.states → q < a.states := fun hp => by
  induction hp with
  | nil => exact fun h => h
  | quiet h _ ih =>
   obtain ⟨e, he, _, _, rfl⟩ := h
   have := h1.edges.dst e he
   exact fun _ => ih (by omega)
  | step h _ ih =>
   obtain ⟨e, he, _, _, rfl⟩ := h
   have := h1.edges.dst e he
   exact fun _ => ih (by omega)
 constructor
 ·rintro ⟨p, hp, h⟩
  rcases (hin p).1 hp with ⟨h3, h4⟩ | ⟨h3, h4⟩
  ·have h5 := path_left h1.edges h2.edges h (by omega)
   exact .inl ⟨stay h5 h3, p, h4, h5⟩
  ·obtain ⟨h5, h6⟩ := path_right h1.edges h2.edges h (by omega)
   rw [e1] at h5 h6
   exact .inr ⟨h5, _, h4, h6⟩
 ·rintro (⟨h3, p, hp, h⟩ | ⟨h3, p, hp, h⟩)
  ·exact ⟨p, (hin p).2 (.inl ⟨by have := h1.init.2 p hp; omega, hp⟩), h.congr fun e he => List.mem_append.2 (.inl he)⟩
  ·have h5 := h.shift (a.states.toNat : Nat)
   rw [e1, show a.states + (z - a.states) = z by omega] at h5
   refine ⟨a.states + p, (hin _).2 (.inr ⟨by have := h2.init.2 p hp; omega, by rwa [show a.states + p - a.states = p by omega]⟩), ?_⟩
   rw [e1]
   exact h5.congr fun e he => List.mem_append.2 (.inr he)
theorem side_gen (h1 : NaOk a) (h2 : NaOk b) (hal : IncI al) (w : List Int) : aftA (sideNA al a b) sil w ≠ [] ↔ aftA a sil w ≠ [] ∨ aftA b sil w ≠ [] := by
 have ne : ∀ l : List Int, l ≠ [] ↔ ∃ z, z ∈ l := fun l => ⟨fun h => List.exists_mem_of_ne_nil l h, fun ⟨z, hz⟩ => List.ne_nil_of_mem hz⟩
 rw [ne, ne, ne]
 have p2 := h2.pos
 have lt : ∀ z ∈ aftA a sil w, z < a.states := fun z hz => by
  have := h1.pos
  have : ∀ (w s : List Int), (∀ x ∈ s, x < a.states) → ∀ x ∈ aftN a.states.toNat a.edges sil w s, x < a.states := by
   intro w
   induction w with
   | nil => intro s hs x hx; exact hs x hx
   | cons y w ih =>
    intro s hs x hx
    refine ih _ (fun q hq => ?_) x hx
    have := closN_rng hq
    omega
  exact this w _ (fun x hx => by have := closN_rng hx; omega) z hz
 have ge : ∀ z ∈ aftA b sil w, 0 ≤ z := fun z hz => by
  have : ∀ (w s : List Int), (∀ x ∈ s, 0 ≤ x) → ∀ x ∈ aftN b.states.toNat b.edges sil w s, 0 ≤ x := by
   intro w
   induction w with
   | nil => intro s hs x hx; exact hs x hx
   | cons y w ih =>
    intro s hs x hx
    exact ih _ (fun q hq => (closN_rng hq).1) x hx
  exact this w _ (fun x hx => (closN_rng hx).1) z hz
 constructor
 ·rintro ⟨z, hz⟩
  rcases (mem_side h1 h2 hal w).1 hz with ⟨_, h⟩ | ⟨_, h⟩
  ·exact .inl ⟨_, h⟩
  ·exact .inr ⟨_, h⟩
 ·rintro (⟨z, hz⟩ | ⟨z, hz⟩)
  ·exact ⟨z, (mem_side h1 h2 hal w).2 (.inl ⟨lt z hz, hz⟩)⟩
  ·have := ge z hz
   exact ⟨a.states + z, (mem_side h1 h2 hal w).2 (.inr ⟨by omega, by rwa [show a.states + z - a.states = z by omega]⟩)⟩
theorem side_acc (h1 : NaOk a) (h2 : NaOk b) (hal : IncI al) (w : List Int) : metL (aftA (sideNA al a b) sil w) (sideNA al a b).marked = (metL (aftA a sil w) a.marked || metL (aftA b sil w) b.marked) := by
 have hm : ∀ x, x ∈ (sideNA al a b).marked ↔ (x < a.states ∧ x ∈ a.marked) ∨ (a.states ≤ x ∧ x - a.states ∈ b.marked) := fun x => mem_sideI (fun y hy => (h1.marked.2 y hy).2) fun y hy => (h2.marked.2 y hy).1
 rw [Bool.eq_iff_iff, Bool.or_eq_true, met_iff, met_iff, met_iff]
 constructor
 ·rintro ⟨z, hz, hz2⟩
  rcases (mem_side h1 h2 hal w).1 hz with ⟨h3, h⟩ | ⟨h3, h⟩
  ·rcases (hm z).1 hz2 with ⟨_, h4⟩ | ⟨h4, _⟩
   ·exact .inl ⟨z, h, h4⟩
   ·omega
  ·rcases (hm z).1 hz2 with ⟨h4, _⟩ | ⟨_, h4⟩
   ·omega
   ·exact .inr ⟨_, h, h4⟩
 ·rintro (⟨z, hz, hz2⟩ | ⟨z, hz, hz2⟩)
  ·have := (h1.marked.2 z hz2).2
   exact ⟨z, (mem_side h1 h2 hal w).2 (.inl ⟨this, hz⟩), (hm z).2 (.inl ⟨this, hz2⟩)⟩
  ·have := (h2.marked.2 z hz2).1
   have e : a.states + z - a.states = z := by omega
   exact ⟨a.states + z, (mem_side h1 h2 hal w).2 (.inr ⟨by omega, by rwa [e]⟩), (hm _).2 (.inr ⟨by omega, by rwa [e]⟩)⟩
theorem aft_unknown (h : NaOk a) (he : ∀ e ∈ a.edges, e.ev = sil ∨ e.ev ∈ a.alpha) {w : List Int} (hw : ∀ x ∈ w, x ≠ sil) (hx : ∃ x ∈ w, x ∉ a.alpha) : aftA a sil w = [] := by
 refine List.eq_nil_iff_forall_not_mem.2 fun z hz => ?_
 obtain ⟨p, _, hp⟩ := (mem_aftN h.edges w _ (fun x hx => by have := h.init.2 x hx; have := h.pos; omega)).1 hz
 obtain ⟨x, h1, h2⟩ := hx
 exact h2 (hp.events he hw x h1)
end
end Go.Proofs.YtgagpbbnbonnlaaDoor
