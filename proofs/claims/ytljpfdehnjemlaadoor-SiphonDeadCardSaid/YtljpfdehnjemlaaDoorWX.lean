/-
 The made net, its inner lists told apart: each of them a block of its own (by hand, over segments of the engine).
-/
import Derived.Test.YtljpfdehnjemlaaDoorN3
import Derived.Test.YtljpfdehnjemlaaDoorE9
set_option linter.unusedSimpArgs false
set_option linter.unusedVariables false
namespace Go.Proofs.YtljpfdehnjemlaaDoor
open Go.Eng Go.RowKit
def InnAt (w : World) (v : Value) (l : List Arc) : Prop := ObjRep w (fun _ => False) [] (.row 36 2 (arcsD l)) v
theorem arcs_flat9 (l : List Arc) : ∀ r ∈ arcsD l, r.all D.flat = true := fun r hr => by
 obtain ⟨x, _, rfl⟩ := List.mem_map.1 hr; rfl
theorem InnAt.to {w w' : World} {M : Nat → Prop} {β : List Value} {v : Value} {l : List Arc} (h : InnAt w v l) (hb : ∀ g, hblk v = some g → w'.heap[g]? = w.heap[g]?) : ObjRep w' M β (.row 36 2 (arcsD l)) v := row_flat (arcs_flat9 l) hb h
theorem InnAt.of {w : World} {M : Nat → Prop} {β : List Value} {v : Value} {l : List Arc} (h : ObjRep w M β (.row 36 2 (arcsD l)) v) : InnAt w v l := row_flat (arcs_flat9 l) (fun _ _ => rfl) h
def flatP (p : List (Value × Value)) : List Value := p.flatMap fun x => [x.1, x.2]
theorem flatP_snoc (p : List (Value × Value)) (x : Value × Value) : flatP (p ++ [x]) = flatP p ++ [x.1, x.2] := by simp [flatP]
def inBk (l : List Value) (g : Nat) : Prop := ∃ x ∈ l, hblk x = some g
def ApartL (l : List Value) : Prop := ∀ (i j : Nat) (x y : Value) (g : Nat), l[i]? = some x → l[j]? = some y → hblk x = some g → hblk y = some g → i = j
theorem ApartL.snoc {l : List Value} (h : ApartL l) {v : Value} (hv : ∀ g, hblk v = some g → ¬ inBk l g) : ApartL (l ++ [v]) := by
 intro i j x y g hi hj hx hy
 have cs : ∀ {k : Nat} {z : Value}, (l ++ [v])[k]? = some z → l[k]? = some z ∨ (k = l.length ∧ z = v) := fun {k z} hk => by
  rcases Nat.lt_or_ge k l.length with h1 | h1
  ·rw [List.getElem?_append_left h1] at hk; exact .inl hk
  ·rw [List.getElem?_append_right h1] at hk
   have : k - l.length = 0 := by
    rcases Nat.eq_zero_or_pos (k - l.length) with h2 | h2
    ·exact h2
    ·rw [List.getElem?_eq_none (by simp; omega)] at hk; cases hk
   rw [this] at hk
   simp at hk
   exact .inr ⟨by omega, hk.symm⟩
 rcases cs hi with h1 | ⟨h1, rfl⟩ <;> rcases cs hj with h2 | ⟨h2, rfl⟩
 ·exact h i j x y g h1 h2 hx hy
 ·exact absurd ⟨x, List.mem_of_getElem? h1, hx⟩ (hv g hy)
 ·exact absurd ⟨y, List.mem_of_getElem? h2, hy⟩ (hv g hx)
 ·omega
def rawT (s : Nat → Int) : Nat → List (Value × Value) → List (List D)
 | _, [] => []
 | j, p :: r => [.int .i64 (s (7 + j) % 5), .raw p.1, .raw p.2] :: rawT s (j + 1) r
theorem rawT_length (s : Nat → Int) : ∀ (l : List (Value × Value)) (j : Nat), (rawT s j l).length = l.length
 | [], _ => rfl
 | p :: r, j => by rw [rawT, List.length_cons, rawT_length s r, List.length_cons]
theorem rawT_snoc (s : Nat → Int) (p : Value × Value) : ∀ (l : List (Value × Value)) (j : Nat), rawT s j l ++ [[D.int .i64 (s (7 + (j + l.length)) % 5), .raw p.1, .raw p.2]] = rawT s j (l ++ [p])
 | [], j => rfl
 | q :: r, j => by
  rw [rawT, List.cons_append, List.cons_append, rawT, ← rawT_snoc s p r (j + 1), List.length_cons, show j + (r.length + 1) = j + 1 + r.length by omega]
theorem rawT_sz (s : Nat → Int) : ∀ (l : List (Value × Value)) (j : Nat), ∀ r : List D, r ∈ rawT s j l → r.length = 3
 | [], _, r, h => by cases h
 | p :: q, j, r, h => by
  rcases List.mem_cons.1 h with rfl | h
  ·rfl
  ·exact rawT_sz s q _ r h
theorem rawT_flat (s : Nat → Int) : ∀ (l : List (Value × Value)) (j : Nat), ∀ r : List D, r ∈ rawT s j l → r.all D.flat = true
 | [], _, r, h => by cases h
 | p :: q, j, r, h => by
  rcases List.mem_cons.1 h with rfl | h
  ·rfl
  ·exact rawT_flat s q _ r h
theorem rawT_sz' (s : Nat → Int) (l : List (Value × Value)) (j : Nat) : (∀ r : List D, r ∈ rawT s j l → r.length = 3) ↔ True := ⟨fun _ => trivial, fun _ => rawT_sz s l j⟩
attribute [go_sem] rawT_length rawT_sz'
theorem inBk_snoc {l : List Value} {x y : Value} {g : Nat} : inBk (l ++ [x, y]) g ↔ (inBk l g ∨ hblk x = some g) ∨ hblk y = some g := by
 constructor
 ·rintro ⟨z, hz, h⟩
  rcases List.mem_append.1 hz with h1 | h1
  ·exact .inl (.inl ⟨z, h1, h⟩)
  ·rcases List.mem_cons.1 h1 with rfl | h1
   ·exact .inl (.inr h)
   ·rw [List.mem_singleton.1 h1] at h; exact .inr h
 ·rintro ((⟨z, hz, h⟩ | h) | h)
  ·exact ⟨z, List.mem_append.2 (.inl hz), h⟩
  ·exact ⟨x, by simp, h⟩
  ·exact ⟨y, by simp, h⟩
theorem bytesD_rt (n : Nat) (s : Nat → Int) (t : Nat) (x : Value) : (bytesD n s).map (D.rt t x) = bytesD n s := by
 simp only [bytesD, List.map_map]; exact List.map_congr_left fun i _ => rfl
def mkH (s : Nat → Int) (p : List (Value × Value)) : List AObj := [.var 25 (bytesD 37 s), .var 30 [.nil, .nil], .var 30 [.own 3, .own 4], .row 3 1 (ints (initL s (np s))), .row 34 3 (rawT s 0 p)]
def mkS (t : Nat) : List (Nat × AV) := [(5, .one (.int .i64 t)), (3, .one (.vp 2 0)), (2, .one (.vp 1 0)), (1, .one (.vp 0 0))]
structure HeadAt (w0 : World) (M0 : Nat → Prop) (s : Nat → Int) (p : List (Value × Value)) (a : Act) (w : World) (β : List Value) : Prop where
 sim : Sim w (fun g => M0 g ∨ inBk (flatP p) g) β ⟨104, mkS p.length, mkH s p, 0⟩ a w β
 below : Eng.Below w0.heap.size w0 w
 inn : ∀ (j : Nat) (x : Value × Value), p[j]? = some x → InnAt w x.1 (arcsL (inW s j) (np s)) ∧ InnAt w x.2 (arcsL (outW s j) (np s))
 apart : ApartL (flatP p)
 fresh : ∀ g, inBk (flatP p) g → w0.heap.size ≤ g
 freshB : ∀ g, owned β g → w0.heap.size ≤ g
structure MadeAt (w0 w : World) (s : Nat → Int) (p : List (Value × Value)) (h1 h2 : Value) : Prop where
 below : Eng.Below w0.heap.size w0 w
 len : p.length = nt s
 rowI : ObjRep w (fun _ => False) [] (.row 3 1 (ints (initL s (np s)))) h1
 rowT : ObjRep w (fun _ => False) [] (.row 34 3 (rawT s 0 p)) h2
 inn : ∀ (j : Nat) (x : Value × Value), p[j]? = some x → InnAt w x.1 (arcsL (inW s j) (np s)) ∧ InnAt w x.2 (arcsL (outW s j) (np s))
 apart : ApartL (flatP p ++ [h1, h2])
 fresh : ∀ g, inBk (flatP p ++ [h1, h2]) g → w0.heap.size ≤ g ∧ g < w.heap.size
end Go.Proofs.YtljpfdehnjemlaaDoor
