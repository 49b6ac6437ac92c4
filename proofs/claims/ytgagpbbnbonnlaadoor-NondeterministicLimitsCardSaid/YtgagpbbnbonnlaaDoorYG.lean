/-
 Chapter 05, plain: the automaton that guesses and counts: how many sets it has.
-/
import Derived.Test.YtgagpbbnbonnlaaDoorYF
set_option linter.unusedSimpArgs false
set_option linter.unusedVariables false
namespace Go.Proofs.YtgagpbbnbonnlaaDoor
/-! the search of sets within a class of sets -/
theorem detIn_in {st : List Int → Int → List Int} {Q : List Int → Prop} {al0 : List Int} (hq : ∀ s x, x ∈ al0 → Q s → Q (st s x)) (i : Nat) (s : List Int) (hs : Q s) : ∀ (al : List Int) (sets : List (List Int)) (es : List Ed), (∀ x ∈ al, x ∈ al0) → sets.Nodup → (∀ t ∈ sets, Q t) → (detIn st i s al sets es).1.Nodup ∧ ∀ t ∈ (detIn st i s al sets es).1, Q t
 | [], sets, es, _, h1, h2 => ⟨h1, h2⟩
 | x :: al, sets, es, ha, h1, h2 => by
  rw [detIn]
  split
  ·exact detIn_in hq i s hs al sets es (fun y hy => ha y (by simp [hy])) h1 h2
  ·split
   ·exact detIn_in hq i s hs al sets _ (fun y hy => ha y (by simp [hy])) h1 h2
   ·rename_i hf
    refine detIn_in hq i s hs al _ _ (fun y hy => ha y (by simp [hy])) ?_ fun t ht => ?_
    ·rw [List.nodup_append]
     refine ⟨h1, by simp, fun a ha b hb => ?_⟩
     rw [List.mem_singleton] at hb
     subst hb
     exact fun e => fndS_none.1 hf (by rw [← e]; exact ha)
    ·rcases List.mem_append.1 ht with ht | ht
     ·exact h2 t ht
     ·rw [List.mem_singleton] at ht; subst ht; exact hq s x (ha x (by simp)) hs
theorem det_in {st : List Int → Int → List Int} {Q : List Int → Prop} {al : List Int} (hq : ∀ s x, x ∈ al → Q s → Q (st s x)) (mt : List Int → Bool) {lim : Nat} (hb : ∀ l : List (List Int), l.Nodup → (∀ t ∈ l, Q t) → l.length ≤ lim) : ∀ (f i : Nat) (sets : List (List Int)) (mk : List Int) (es : List Ed), sets.Nodup → (∀ t ∈ sets, Q t) → i ≤ sets.length → lim + 1 ≤ f + i → ∃ r, detOut st mt al lim f i sets mk es = some r ∧ r.1.Nodup ∧ ∀ t ∈ r.1, Q t
 | 0, i, sets, mk, es, h1, h2, hi, hf => by have := hb sets h1 h2; omega
 | f + 1, i, sets, mk, es, h1, h2, hi, hf => by
  have hle := hb sets h1 h2
  rw [detOut]
  by_cases hlt : i < sets.length
  ·rw [if_pos hlt, if_neg (by omega)]
   obtain ⟨⟨r, hr⟩, _⟩ := detIn_prefix st i (sets.getD i []) al sets es
   have hsi : Q (sets.getD i []) := h2 _ (by simp only [List.getD, List.getElem?_eq_getElem hlt, Option.getD_some]; exact List.getElem_mem hlt)
   obtain ⟨h3, h4⟩ := detIn_in hq i (sets.getD i []) hsi al sets es (fun _ h => h) h1 h2
   exact det_in hq mt hb f (i + 1) _ _ _ h3 h4 (by rw [hr, List.length_append]; omega) (by omega)
  ·rw [if_neg hlt]
   exact ⟨_, rfl, h1, h2⟩
/-! the class: the sets below k + 2 with 0 -/
def FamP (k : Nat) (s : List Int) : Prop := IncI s ∧ (∀ x ∈ s, 0 ≤ x ∧ x < (k : Int) + 2) ∧ (0 : Int) ∈ s
def famL (k : Nat) : List (List Int) := (subsI (k + 1)).map fun l => 0 :: l.map (· + 1)
theorem subsI_mem : ∀ {n : Nat} {l : List Int}, l ∈ subsI n → IncI l ∧ ∀ x ∈ l, 0 ≤ x ∧ x < n
 | 0, l, h => by
  simp only [subsI, List.mem_singleton] at h
  subst h
  exact ⟨.nil, fun x hx => by cases hx⟩
 | n + 1, l, h => by
  rcases List.mem_append.1 h with h | h
  ·obtain ⟨h1, h2⟩ := subsI_mem h
   exact ⟨h1, fun x hx => by have := h2 x hx; omega⟩
  ·obtain ⟨m, hm, rfl⟩ := List.mem_map.1 h
   obtain ⟨h1, h2⟩ := subsI_mem hm
   refine ⟨?_, fun x hx => ?_⟩
   ·rw [IncI, List.pairwise_append]
    refine ⟨h1, List.pairwise_singleton _ _, fun a ha b hb => ?_⟩
    rw [List.mem_singleton] at hb
    have := h2 a ha
    omega
   ·rcases List.mem_append.1 hx with hx | hx
    ·have := h2 x hx; omega
    ·rw [List.mem_singleton] at hx; omega
theorem subsI_nodup : ∀ n, (subsI n).Nodup
 | 0 => by simp [subsI]
 | n + 1 => by
  rw [subsI, List.nodup_append]
  refine ⟨subsI_nodup n, ?_, fun a ha b hb e => ?_⟩
  ·refine List.pairwise_map.2 ((subsI_nodup n).imp fun h e => h ?_)
   exact List.append_cancel_right e
  ·obtain ⟨m, hm, rfl⟩ := List.mem_map.1 hb
   have := (subsI_mem ha).2 n (by rw [e]; simp)
   omega
theorem famL_length (k : Nat) : (famL k).length = 2 ^ (k + 1) := by rw [famL, List.length_map, subsI_length]
theorem famL_nodup (k : Nat) : (famL k).Nodup := by
 refine List.pairwise_map.2 ((subsI_nodup (k + 1)).imp fun {a b} h e => h ?_)
 have e2 : a.map (fun x : Int => x + 1) = b.map (fun x : Int => x + 1) := List.tail_eq_of_cons_eq e
 have : ∀ (a b : List Int), a.map (fun x : Int => x + 1) = b.map (fun x : Int => x + 1) → a = b := by
  intro a
  induction a with
  | nil => intro b h; cases b with
   | nil => rfl
   | cons y b => cases h
  | cons x a ih => intro b h; cases b with
   | nil => cases h
   | cons y b =>
    rw [List.map_cons, List.map_cons] at h
    injection h with h1 h2
    rw [ih b h2, show x = y by omega]
 exact this a b e2
theorem famL_mem {k : Nat} {s : List Int} : s ∈ famL k ↔ FamP k s := by
 constructor
 ·intro h
  obtain ⟨l, hl, rfl⟩ := List.mem_map.1 h
  obtain ⟨h1, h2⟩ := subsI_mem hl
  refine ⟨?_, fun x hx => ?_, by simp⟩
  ·rw [IncI, List.pairwise_cons]
   refine ⟨fun y hy => ?_, List.pairwise_map.2 (h1.imp fun h => by omega)⟩
   obtain ⟨z, hz, rfl⟩ := List.mem_map.1 hy
   have := h2 z hz
   omega
  ·rcases List.mem_cons.1 hx with e | hx
   ·omega
   ·obtain ⟨z, hz, rfl⟩ := List.mem_map.1 hx
    have := h2 z hz
    omega
 ·rintro ⟨h1, h2, h0⟩
  refine List.mem_map.2 ⟨selI (k + 1) fun x => decide (x + 1 ∈ s), selI_subs _ _, ?_⟩
  refine inc_ext ?_ h1 fun z => ?_
  ·rw [IncI, List.pairwise_cons]
   refine ⟨fun y hy => ?_, List.pairwise_map.2 ((selI_inc _ _).imp fun h => by omega)⟩
   obtain ⟨z, hz, rfl⟩ := List.mem_map.1 hy
   have := (mem_selI.1 hz).1
   omega
  ·rw [List.mem_cons, List.mem_map]
   constructor
   ·rintro (rfl | ⟨y, hy, rfl⟩)
    ·exact h0
    ·simpa using (mem_selI.1 hy).2
   ·intro hz
    by_cases e : z = 0
    ·exact .inl e
    ·have := h2 z hz
     exact .inr ⟨z - 1, mem_selI.2 ⟨by omega, by simpa using hz⟩, by omega⟩
theorem fam_le {k : Nat} {l : List (List Int)} (hn : l.Nodup) (h : ∀ t ∈ l, FamP k t) : l.length ≤ 2 ^ (k + 1) := by
 rw [← famL_length k]
 exact nodup_le hn fun s hs => famL_mem.2 (h s hs)
theorem fam_ge {k : Nat} {l : List (List Int)} (h : ∀ t, FamP k t → t ∈ l) : 2 ^ (k + 1) ≤ l.length := by
 rw [← famL_length k]
 exact nodup_le (famL_nodup k) fun s hs => h s (famL_mem.1 hs)
/-! the automaton: its edges, its steps -/
def cntE (k : Nat) : Nat → List Ed
 | 0 => [⟨0, 0, 0⟩, ⟨0, 1, 0⟩, ⟨0, 1, 1⟩]
 | i + 1 => cntE k i ++ [⟨(i : Int) + 1, 0, (i : Int) + 2⟩, ⟨(i : Int) + 1, 1, (i : Int) + 2⟩]
theorem cntE_mem {k : Nat} : ∀ {m : Nat} {x : Ed}, x ∈ cntE k m ↔ x = ⟨0, 0, 0⟩ ∨ x = ⟨0, 1, 0⟩ ∨ x = ⟨0, 1, 1⟩ ∨ ∃ i : Nat, 1 ≤ i ∧ i ≤ m ∧ (x = ⟨i, 0, (i : Int) + 1⟩ ∨ x = ⟨i, 1, (i : Int) + 1⟩)
 | 0, x => by
  simp only [cntE, List.mem_cons, List.not_mem_nil, or_false]
  constructor
  ·rintro (h | h | h)
   ·exact .inl h
   ·exact .inr (.inl h)
   ·exact .inr (.inr (.inl h))
  ·rintro (h | h | h | ⟨i, h1, h2, _⟩)
   ·exact .inl h
   ·exact .inr (.inl h)
   ·exact .inr (.inr h)
   ·omega
 | m + 1, x => by
  rw [cntE, List.mem_append, cntE_mem]
  simp only [List.mem_cons, List.not_mem_nil, or_false]
  constructor
  ·rintro ((h | h | h | ⟨i, h1, h2, h3⟩) | h)
   ·exact .inl h
   ·exact .inr (.inl h)
   ·exact .inr (.inr (.inl h))
   ·exact .inr (.inr (.inr ⟨i, h1, by omega, h3⟩))
   ·refine .inr (.inr (.inr ⟨m + 1, by omega, by omega, ?_⟩))
    rcases h with h | h
    ·exact .inl (by rw [h, Ed.mk.injEq]; omega)
    ·exact .inr (by rw [h, Ed.mk.injEq]; omega)
  ·rintro (h | h | h | ⟨i, h1, h2, h3⟩)
   ·exact .inl (.inl h)
   ·exact .inl (.inr (.inl h))
   ·exact .inl (.inr (.inr (.inl h)))
   ·by_cases hi : i ≤ m
    ·exact .inl (.inr (.inr (.inr ⟨i, h1, hi, h3⟩)))
    ·have e : i = m + 1 := by omega
     subst e
     refine .inr ?_
     rcases h3 with h | h
     ·exact .inl (by rw [h, Ed.mk.injEq]; omega)
     ·exact .inr (by rw [h, Ed.mk.injEq]; omega)
theorem cntE_ok (k : Nat) : ∀ x ∈ cntE k k, (x.ev = 0 ∨ x.ev = 1) ∧ (0 ≤ x.dst ∧ x.dst < ((k + 2 : Nat) : Int)) ∧ 0 ≤ x.src ∧ x.src < ((k + 2 : Nat) : Int) := fun x hx => by
 rcases cntE_mem.1 hx with rfl | rfl | rfl | ⟨i, h1, h2, rfl | rfl⟩ <;> refine ⟨?_, ⟨?_, ?_⟩, ?_, ?_⟩ <;> first | (simp only; omega) | simp
theorem cnt_quiet (k : Nat) (y : Int) : leadE (cntE k k) (-1) y = [] := List.eq_nil_iff_forall_not_mem.2 fun z hz => by
 obtain ⟨e, he, _, h2, _⟩ := mem_nextL.1 hz
 have := (cntE_ok k e he).1
 omega
theorem cnt_step {k : Nat} {s : List Int} (hs : FamP k s) {x : Int} (hx : x = 0 ∨ x = 1) {z : Int} : z ∈ stepN (k + 2) (cntE k k) (-1) s x ↔ z = 0 ∨ (z = 1 ∧ x = 1) ∨ ∃ y ∈ s, 1 ≤ y ∧ y ≤ k ∧ z = y + 1 := by
 have hr : ∀ y ∈ s, 0 ≤ y ∧ y < ((k + 2 : Nat) : Int) := fun y hy => by have := hs.2.1 y hy; omega
 have hf : ∀ y ∈ (closN (k + 2) (leadE (cntE k k) (-1)) s).flatMap fun y => nextL (cntE k k) y x, 0 ≤ y ∧ y < ((k + 2 : Nat) : Int) := fun y hy => by
  obtain ⟨w, _, hw⟩ := List.mem_flatMap.1 hy
  obtain ⟨e, he, _, _, rfl⟩ := mem_nextL.1 hw
  exact (cntE_ok k e he).2.1
 rw [stepN, mem_closN_quiet (cnt_quiet k) hf, List.mem_flatMap]
 constructor
 ·rintro ⟨y, hy, hz⟩
  rw [mem_closN_quiet (cnt_quiet k) hr] at hy
  obtain ⟨e, he, h1, h2, h3⟩ := mem_nextL.1 hz
  rcases cntE_mem.1 he with rfl | rfl | rfl | ⟨i, h4, h5, rfl | rfl⟩
  ·exact .inl h3.symm
  ·exact .inl h3.symm
  ·exact .inr (.inl ⟨h3.symm, h2.symm⟩)
  ·exact .inr (.inr ⟨y, hy, by simp only at h1; omega, by simp only at h1; omega, by simp only at h1 h3; omega⟩)
  ·exact .inr (.inr ⟨y, hy, by simp only at h1; omega, by simp only at h1; omega, by simp only at h1 h3; omega⟩)
 ·have h0 := (mem_closN_quiet (cnt_quiet k) hr).2 hs.2.2
  rintro (rfl | ⟨rfl, rfl⟩ | ⟨y, hy, h1, h2, rfl⟩)
  ·rcases hx with rfl | rfl
   ·exact ⟨0, h0, mem_nextL.2 ⟨⟨0, 0, 0⟩, cntE_mem.2 (.inl rfl), rfl, rfl, rfl⟩⟩
   ·exact ⟨0, h0, mem_nextL.2 ⟨⟨0, 1, 0⟩, cntE_mem.2 (.inr (.inl rfl)), rfl, rfl, rfl⟩⟩
  ·exact ⟨0, h0, mem_nextL.2 ⟨⟨0, 1, 1⟩, cntE_mem.2 (.inr (.inr (.inl rfl))), rfl, rfl, rfl⟩⟩
  ·refine ⟨y, (mem_closN_quiet (cnt_quiet k) hr).2 hy, ?_⟩
   have e : ((y.toNat : Nat) : Int) = y := by omega
   rcases hx with rfl | rfl
   ·exact mem_nextL.2 ⟨⟨y, 0, y + 1⟩, cntE_mem.2 (.inr (.inr (.inr ⟨y.toNat, by omega, by omega, .inl (by rw [e])⟩))), rfl, rfl, rfl⟩
   ·exact mem_nextL.2 ⟨⟨y, 1, y + 1⟩, cntE_mem.2 (.inr (.inr (.inr ⟨y.toNat, by omega, by omega, .inr (by rw [e])⟩))), rfl, rfl, rfl⟩
theorem cnt_fam {k : Nat} {s : List Int} (hs : FamP k s) {x : Int} (hx : x = 0 ∨ x = 1) : FamP k (stepN (k + 2) (cntE k k) (-1) s x) := by
 refine ⟨closN_inc, fun z hz => ?_, (cnt_step hs hx).2 (.inl rfl)⟩
 have := closN_rng hz
 omega
theorem zero_fam (k : Nat) : FamP k [0] := ⟨List.pairwise_singleton _ _, fun x hx => by rw [List.mem_singleton] at hx; omega, by simp⟩
def tailS (k : Nat) (s : List Int) (m : Nat) : List Int := selI (k + 2) fun z => decide (z = 0 ∨ (1 ≤ z ∧ z ≤ m ∧ z + ((k : Int) + 1 - m) ∈ s))
theorem mem_tailS {k m : Nat} {s : List Int} {z : Int} (hm : m ≤ k + 1) : z ∈ tailS k s m ↔ z = 0 ∨ (1 ≤ z ∧ z ≤ m ∧ z + ((k : Int) + 1 - m) ∈ s) := by
 rw [tailS, mem_selI, decide_eq_true_eq]
 constructor
 ·exact fun h => h.2
 ·intro h
  refine ⟨?_, h⟩
  rcases h with h | h <;> omega
theorem tail_fam {k m : Nat} {s : List Int} (hm : m ≤ k + 1) : FamP k (tailS k s m) := by
 refine ⟨selI_inc _ _, fun z hz => ?_, (mem_tailS hm).2 (.inl rfl)⟩
 have := (mem_selI.1 hz).1
 omega
theorem tail_zero (k : Nat) (s : List Int) : tailS k s 0 = [0] := inc_ext (selI_inc _ _) (List.pairwise_singleton _ _) fun z => by
 rw [List.mem_singleton, mem_tailS (by omega)]
 constructor
 ·rintro (h | h)
  ·exact h
  ·omega
 ·exact .inl
theorem tail_succ {k m : Nat} {s : List Int} (hm : m < k + 1) : tailS k s (m + 1) = stepN (k + 2) (cntE k k) (-1) (tailS k s m) (if ((k : Int) + 1 - m) ∈ s then 1 else 0) := by
 have hx : (if ((k : Int) + 1 - m) ∈ s then (1 : Int) else 0) = 0 ∨ (if ((k : Int) + 1 - m) ∈ s then (1 : Int) else 0) = 1 := by split <;> omega
 refine inc_ext (selI_inc _ _) closN_inc fun z => ?_
 rw [mem_tailS (by omega)]
 rw [cnt_step (tail_fam (s := s) (show m ≤ k + 1 by omega)) hx]
 constructor
 ·rintro (h | ⟨h1, h2, h3⟩)
  ·exact .inl h
  ·by_cases e : z = 1
   ·subst e
    rw [show (1 : Int) + ((k : Int) + 1 - ((m + 1 : Nat) : Int)) = (k : Int) + 1 - m by omega] at h3
    exact .inr (.inl ⟨rfl, if_pos h3⟩)
   ·refine .inr (.inr ⟨z - 1, (mem_tailS (by omega)).2 (.inr ⟨by omega, by omega, ?_⟩), by omega, by omega, by omega⟩)
    rwa [show z - 1 + ((k : Int) + 1 - m) = z + ((k : Int) + 1 - ((m + 1 : Nat) : Int)) by omega]
 ·rintro (h | ⟨rfl, h⟩ | ⟨y, hy, h1, h2, rfl⟩)
  ·exact .inl h
  ·have h3 : ((k : Int) + 1 - m) ∈ s := by
    by_cases h3 : ((k : Int) + 1 - m) ∈ s
    ·exact h3
    ·rw [if_neg h3] at h; omega
   refine .inr ⟨by omega, by omega, ?_⟩
   rwa [show (1 : Int) + ((k : Int) + 1 - ((m + 1 : Nat) : Int)) = (k : Int) + 1 - m by omega]
  ·rcases (mem_tailS (by omega)).1 hy with h | ⟨h3, h4, h5⟩
   ·omega
   ·refine .inr ⟨by omega, by omega, ?_⟩
    rwa [show y + 1 + ((k : Int) + 1 - ((m + 1 : Nat) : Int)) = y + ((k : Int) + 1 - m) by omega]
theorem tail_all {k : Nat} {s : List Int} (hs : FamP k s) : tailS k s (k + 1) = s := inc_ext (selI_inc _ _) hs.1 fun z => by
 rw [mem_tailS (by omega)]
 have e : z + ((k : Int) + 1 - ((k + 1 : Nat) : Int)) = z := by omega
 rw [e]
 constructor
 ·rintro (rfl | h)
  ·exact hs.2.2
  ·exact h.2.2
 ·intro h
  have := hs.2.1 z h
  by_cases hz : z = 0
  ·exact .inl hz
  ·exact .inr ⟨by omega, by omega, h⟩
theorem cnt_det (k : Nat) (mt : List Int → Bool) : if 2 ^ (k + 1) ≤ 4096 then ∃ r, detOut (stepN (k + 2) (cntE k k) (-1)) mt [0, 1] 4096 4098 0 [[0]] [] [] = some r ∧ r.1.length = 2 ^ (k + 1) else detOut (stepN (k + 2) (cntE k k) (-1)) mt [0, 1] 4096 4098 0 [[0]] [] [] = none := by
 have hal : ∀ x ∈ [(0 : Int), 1], x = 0 ∨ x = 1 := fun x hx => by simpa using hx
 have all : ∀ r, detOut (stepN (k + 2) (cntE k k) (-1)) mt [0, 1] 4096 4098 0 [[0]] [] [] = some r → 2 ^ (k + 1) ≤ r.1.length ∧ r.1.length ≤ 4096 := fun r hr => by
  obtain ⟨_, h2, ⟨y, h3⟩, h4⟩ := det_closed (by simp) hr
  refine ⟨fam_ge fun t ht => ?_, h2⟩
  have step : ∀ m, m ≤ k + 1 → tailS k t m ∈ r.1 := fun m => by
   induction m with
   | zero => intro _; rw [tail_zero, h3]; simp
   | succ m ih =>
    intro hm
    rw [tail_succ (by omega)]
    refine h4 _ (ih (by omega)) _ (by split <;> simp) fun e => ?_
    have := (tail_fam (s := t) hm).2.2
    rw [tail_succ (by omega), e] at this
    cases this
  have := step (k + 1) (by omega)
  rwa [tail_all ht] at this
 split
 ·rename_i hle
  obtain ⟨r, hr, h1, h2⟩ := det_in (Q := FamP k) (st := stepN (k + 2) (cntE k k) (-1)) (al := [0, 1]) (lim := 4096) (fun s x hx hs => cnt_fam hs (hal x hx)) mt (fun l hn hl => Nat.le_trans (fam_le hn hl) hle) 4098 0 [[0]] [] [] (by simp) (fun t ht => by rw [List.mem_singleton] at ht; subst ht; exact zero_fam k) (by omega) (by omega)
  exact ⟨r, hr, Nat.le_antisymm (fam_le h1 h2) (all r hr).1⟩
 ·rename_i hgt
  cases hd : detOut (stepN (k + 2) (cntE k k) (-1)) mt [0, 1] 4096 4098 0 [[0]] [] [] with
  | none => rfl
  | some r => have := all r hd; omega
end Go.Proofs.YtgagpbbnbonnlaaDoor
