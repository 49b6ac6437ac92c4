/-
 Chapter 05, plain: the deterministic automaton.
-/
import Derived.Test.YtgagpbbnbonnlaaDoorYB
set_option linter.unusedSimpArgs false
set_option linter.unusedVariables false
namespace Go.Proofs.YtgagpbbnbonnlaaDoor
def fndS (s : List Int) : Nat → List (List Int) → Option Nat
 | _, [] => none
 | i, x :: r => if x = s then some i else fndS s (i + 1) r
theorem fndS_none {s : List Int} : ∀ {l : List (List Int)} {i : Nat}, fndS s i l = none ↔ s ∉ l
 | [], i => by simp [fndS]
 | x :: r, i => by
  rw [fndS]
  by_cases e : x = s
  ·simp [e]
  ·rw [if_neg e, fndS_none, List.mem_cons, not_or]
   exact ⟨fun h => ⟨fun h' => e h'.symm, h⟩, fun h => h.2⟩
theorem fndS_some {s : List Int} : ∀ {l : List (List Int)} {i k : Nat}, fndS s i l = some k → i ≤ k ∧ k - i < l.length ∧ l.getD (k - i) [] = s
 | [], i, k, h => by cases h
 | x :: r, i, k, h => by
  rw [fndS] at h
  by_cases e : x = s
  ·rw [if_pos e] at h
   cases h
   simp [e]
  ·rw [if_neg e] at h
   obtain ⟨h1, h2, h3⟩ := fndS_some h
   refine ⟨by omega, by simp only [List.length_cons]; omega, ?_⟩
   rw [show k - i = (k - (i + 1)) + 1 by omega, List.getD_cons_succ]
   exact h3
def detIn (st : List Int → Int → List Int) (i : Nat) (s : List Int) : List Int → List (List Int) → List Ed → List (List Int) × List Ed
 | [], sets, es => (sets, es)
 | x :: r, sets, es => if st s x = [] then detIn st i s r sets es else match fndS (st s x) 0 sets with
  | some k => detIn st i s r sets (es ++ [⟨i, x, k⟩])
  | none => detIn st i s r (sets ++ [st s x]) (es ++ [⟨i, x, sets.length⟩])
def detOut (st : List Int → Int → List Int) (mt : List Int → Bool) (al : List Int) (lim : Nat) : Nat → Nat → List (List Int) → List Int → List Ed → Option (List (List Int) × List Int × List Ed)
 | 0, _, _, _, _ => none
 | f + 1, i, sets, mk, es => if i < sets.length then
   if lim < sets.length then none
   else detOut st mt al lim f (i + 1) (detIn st i (sets.getD i []) al sets es).1 (if mt (sets.getD i []) = true then mk ++ [(i : Int)] else mk) (detIn st i (sets.getD i []) al sets es).2
  else some (sets, mk, es)
structure DetOk (n : Nat) (l : List (List Int)) : Prop where
 nod : l.Nodup
 set : ∀ s ∈ l, s ≠ [] ∧ IncI s ∧ ∀ x ∈ s, 0 ≤ x ∧ x < n
theorem DetOk.le {n : Nat} {l : List (List Int)} (h : DetOk n l) : l.length ≤ 2 ^ n := sets_le h.nod fun s hs => (h.set s hs).2
theorem detIn_prefix (st : List Int → Int → List Int) (i : Nat) (s : List Int) : ∀ (al : List Int) (sets : List (List Int)) (es : List Ed), (∃ r, (detIn st i s al sets es).1 = sets ++ r) ∧ ∃ r, (detIn st i s al sets es).2 = es ++ r
 | [], sets, es => ⟨⟨[], by simp [detIn]⟩, ⟨[], by simp [detIn]⟩⟩
 | x :: al, sets, es => by
  rw [detIn]
  split
  ·exact detIn_prefix st i s al sets es
  ·split
   ·obtain ⟨h1, r, h2⟩ := detIn_prefix st i s al sets (es ++ [⟨i, x, _⟩])
    exact ⟨h1, ⟨_, by rw [h2, List.append_assoc]⟩⟩
   ·obtain ⟨⟨r1, h1⟩, r, h2⟩ := detIn_prefix st i s al (sets ++ [st s x]) (es ++ [⟨i, x, _⟩])
    exact ⟨⟨_, by rw [h1, List.append_assoc]⟩, ⟨_, by rw [h2, List.append_assoc]⟩⟩
theorem DetOk.snoc {n : Nat} {l : List (List Int)} (h : DetOk n l) {s : List Int} (h0 : s ≠ []) (h1 : IncI s) (h2 : ∀ x ∈ s, 0 ≤ x ∧ x < n) (h3 : s ∉ l) : DetOk n (l ++ [s]) := by
 refine ⟨?_, fun t ht => ?_⟩
 ·rw [List.nodup_append]
  refine ⟨h.nod, by simp, fun a ha b hb => ?_⟩
  rw [List.mem_singleton] at hb
  subst hb
  exact fun e => h3 (by rw [← e]; exact ha)
 ·rcases List.mem_append.1 ht with ht | ht
  ·exact h.set t ht
  ·rw [List.mem_singleton] at ht; subst ht; exact ⟨h0, h1, h2⟩
def metL (a b : List Int) : Bool := a.any fun x => decide (x ∈ b)
def detN (a : NA) (sil : Int) : Option (List (List Int) × List Int × List Ed) :=
 detOut (stepN a.states.toNat a.edges sil) (fun s => metL s a.marked) a.alpha 4096 4098 0 (if a.init = [] then [] else [closN a.states.toNat (leadE a.edges sil) a.init]) [] []
theorem stepN_ok {n : Nat} (es : List Ed) (sil : Int) (s : List Int) (x : Int) : IncI (stepN n es sil s x) ∧ ∀ y ∈ stepN n es sil s x, 0 ≤ y ∧ y < n := ⟨closN_inc, fun _ h => closN_rng h⟩
structure NaOk (a : NA) : Prop where
 pos : 0 ≤ a.states
 alpha : IncI a.alpha
 init : IncI a.init ∧ ∀ x ∈ a.init, 0 ≤ x ∧ x < a.states
 marked : IncI a.marked ∧ ∀ x ∈ a.marked, 0 ≤ x ∧ x < a.states
 edges : EdOk a.states.toNat a.edges
theorem start_ok {a : NA} (h : NaOk a) (sil : Int) : DetOk a.states.toNat (if a.init = [] then [] else [closN a.states.toNat (leadE a.edges sil) a.init]) := by
 by_cases hi : a.init = []
 ·rw [if_pos hi]; exact ⟨.nil, fun s hs => by cases hs⟩
 ·rw [if_neg hi]
  have hp := h.pos
  refine ⟨by simp, fun s hs => ?_⟩
  rw [List.mem_singleton] at hs
  subst hs
  refine ⟨?_, closN_inc, fun x hx => closN_rng hx⟩
  obtain ⟨x, hx⟩ := List.exists_mem_of_ne_nil _ hi
  have := (mem_closN (n := a.states.toNat) (lead := leadE a.edges sil) (fun y hy => by have := h.init.2 y hy; omega) (leadE_rng h.edges sil)).2 (.base hx)
  exact List.ne_nil_of_mem this
end Go.Proofs.YtgagpbbnbonnlaaDoor
