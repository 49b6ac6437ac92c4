/-
  An abstract machine over data: what a Go function computes, told without addresses, worlds and draws. This text: data, and what it says of cells.
-/
import Derived.WalkKit
import Derived.WalkSpells
import Derived.WalkLawsBesides
set_option linter.unusedSimpArgs false
set_option linter.unusedVariables false

namespace Go.Eng
open Go.RowKit

inductive D where
  | unk
  | int (k : IntKind) (z : Int)
  | bool (b : Bool)
  | str (s : List UInt8)
  | raw (v : Value)
  | nil
  | list (rows : List (List D))
  | ref (row : List D)
  | clo (f : FuncId) (caps : List D)
  | own (t : Nat)
  | vp (t off : Nat)
  | rp (t i sz sub : Nat)
  | mp (t : Nat)
  deriving Inhabited

theorem block_add (a : Addr) (n : Nat) : (a.add n).block = a.block := by unfold Addr.add; split <;> rfl
theorem add_add (a : Addr) (i j : Nat) : (a.add i).add j = a.add (i + j) := by
  unfold Addr.add
  by_cases hi : i = 0 <;> by_cases hj : j = 0 <;> simp [hi, hj, Nat.add_assoc]
theorem add_zero (a : Addr) : a.add 0 = a := by simp [Addr.add]
theorem add_lit (g o n : Nat) : (⟨g, o, none⟩ : Addr).add n = ⟨g, o + n, none⟩ := by unfold Addr.add; split <;> simp_all

/-- the cells from offset 'o' behind 'ad' on read as 'vs' -/
def reads (w : World) (ad : Addr) (o : Nat) (vs : List Value) : Prop := ∀ j u, vs[j]? = some u → w.cell? (ad.add (o + j)) = some u

mutual
/-- what a cell holds, told without tags: memory that nobody writes (blocks below the heap's end, not in 'M') -/
def RepD (w : World) (M : Nat → Prop) : D → Value → Prop
  | .unk, v => v.oneCell' = true
  | .int k z, v => v = .int k z
  | .bool b, v => v = .bool b
  | .str s, v => v = .string ⟨⟨s⟩⟩
  | .raw u, v => v = u ∧ u.oneCell' = true
  | .nil, v => ∃ A, v = .slice A 0 0
  | .list rows, v => ∃ A c, v = .slice A rows.length c ∧ rows.length ≤ c ∧ c ≤ maxLen ∧ (rows = [] ∨ ∃ ad sz, A = some ad ∧ ad.block < w.heap.size ∧ ¬ M ad.block ∧ RepRows w M ad sz 0 rows)
  | .ref row, v => ∃ ad, v = .pointer (some ad) ∧ ad.block < w.heap.size ∧ ¬ M ad.block ∧ ∃ vs, reads w ad 0 vs ∧ RepL w M row vs
  | .clo f caps, v => ∃ vs, v = .func (.func f) #[] ⟨vs⟩ ∧ RepL w M caps vs
  | .own _, _ => False
  | .vp _ _, _ => False
  | .rp _ _ _ _, _ => False
  | .mp _, _ => False
def RepL (w : World) (M : Nat → Prop) : List D → List Value → Prop
  | [], vs => vs = []
  | d :: ds, vs => ∃ v rest, vs = v :: rest ∧ RepD w M d v ∧ RepL w M ds rest
def RepRows (w : World) (M : Nat → Prop) (ad : Addr) (sz : Nat) : Nat → List (List D) → Prop
  | _, [] => True
  | o, r :: rs => (∃ vs, vs.length = sz ∧ reads w ad o vs ∧ RepL w M r vs) ∧ RepRows w M ad sz (o + sz) rs
end

structure Keeps (w : World) (M : Nat → Prop) (w' : World) (M' : Nat → Prop) : Prop where
  size : w.heap.size ≤ w'.heap.size
  block : ∀ g, g < w.heap.size → ¬ M g → w'.heap[g]? = w.heap[g]?
  out : ∀ g, g < w.heap.size → ¬ M g → ¬ M' g

theorem Keeps.refl (w : World) (M : Nat → Prop) : Keeps w M w M := ⟨Nat.le_refl _, fun _ _ _ => rfl, fun _ _ h => h⟩

section
variable {w w' : World} {M M' : Nat → Prop}
theorem reads_keep (hk : Keeps w M w' M') {ad : Addr} {o : Nat} {vs : List Value} (hb : ad.block < w.heap.size) (hm : ¬ M ad.block) (h : reads w ad o vs) : reads w' ad o vs := by
  intro j u hu
  rw [World.cell?_of_block (w := w) (by rw [block_add]; exact hk.block _ hb hm)]
  exact h j u hu

mutual
theorem RepD.keep (hk : Keeps w M w' M') : ∀ (d : D) (v : Value), RepD w M d v → RepD w' M' d v
  | .unk, _, h => by simpa only [RepD] using h
  | .int .., _, h => by simpa only [RepD] using h
  | .bool .., _, h => by simpa only [RepD] using h
  | .str .., _, h => by simpa only [RepD] using h
  | .raw .., _, h => by simpa only [RepD] using h
  | .nil, _, h => by simpa only [RepD] using h
  | .list rows, v, h => by
    simp only [RepD] at h ⊢
    obtain ⟨A, c, hv, h1, h2, h3⟩ := h
    refine ⟨A, c, hv, h1, h2, ?_⟩
    rcases h3 with h3 | ⟨ad, sz, hA, hb, hm, hr⟩
    · exact .inl h3
    · exact .inr ⟨ad, sz, hA, Nat.lt_of_lt_of_le hb hk.size, hk.out _ hb hm, RepRows.keep hk hb hm rows 0 hr⟩
  | .ref row, v, h => by
    simp only [RepD] at h ⊢
    obtain ⟨ad, hv, hb, hm, vs, hr, hl⟩ := h
    exact ⟨ad, hv, Nat.lt_of_lt_of_le hb hk.size, hk.out _ hb hm, vs, reads_keep hk hb hm hr, RepL.keep hk row vs hl⟩
  | .clo f caps, v, h => by
    simp only [RepD] at h ⊢
    obtain ⟨vs, hv, hl⟩ := h
    exact ⟨vs, hv, RepL.keep hk caps vs hl⟩
  | .own _, _, h => by simp only [RepD] at h
  | .vp .., _, h => by simp only [RepD] at h
  | .rp .., _, h => by simp only [RepD] at h
  | .mp _, _, h => by simp only [RepD] at h
theorem RepL.keep (hk : Keeps w M w' M') : ∀ (ds : List D) (vs : List Value), RepL w M ds vs → RepL w' M' ds vs
  | [], vs, h => by simpa only [RepL] using h
  | d :: ds, vs, h => by
    simp only [RepL] at h ⊢
    obtain ⟨v, rest, hv, hd, hl⟩ := h
    exact ⟨v, rest, hv, RepD.keep hk d v hd, RepL.keep hk ds rest hl⟩
theorem RepRows.keep (hk : Keeps w M w' M') {ad : Addr} {sz : Nat} (hb : ad.block < w.heap.size) (hm : ¬ M ad.block) : ∀ (rows : List (List D)) (o : Nat), RepRows w M ad sz o rows → RepRows w' M' ad sz o rows
  | [], _, _ => by simp only [RepRows]
  | r :: rs, o, h => by
    simp only [RepRows] at h ⊢
    obtain ⟨⟨vs, h1, h2, h3⟩, h4⟩ := h
    exact ⟨⟨vs, h1, reads_keep hk hb hm h2, RepL.keep hk r vs h3⟩, RepRows.keep hk hb hm rs _ h4⟩
end
end

/-! ### rows, one by one -/
section
variable {w : World} {M : Nat → Prop}
theorem RepL.length_eq : ∀ (ds : List D) (vs : List Value), RepL w M ds vs → ds.length = vs.length
  | [], vs, h => by simp only [RepL] at h; simp [h]
  | d :: ds, vs, h => by
    simp only [RepL] at h
    obtain ⟨v, rest, rfl, _, hl⟩ := h
    simp [RepL.length_eq ds rest hl]
theorem RepL.get : ∀ (ds : List D) (vs : List Value), RepL w M ds vs → ∀ (i : Nat) (d : D), ds[i]? = some d → ∃ v, vs[i]? = some v ∧ RepD w M d v
  | [], vs, h, i, d, hd => by simp at hd
  | d :: ds, vs, h, i, e, hd => by
    simp only [RepL] at h
    obtain ⟨v, rest, rfl, h1, hl⟩ := h
    cases i with
    | zero => simp at hd; subst hd; exact ⟨v, rfl, h1⟩
    | succ i => simpa using RepL.get ds rest hl i e (by simpa using hd)
theorem RepL.drop : ∀ (ds : List D) (vs : List Value) (k : Nat), RepL w M ds vs → RepL w M (ds.drop k) (vs.drop k)
  | [], vs, k, h => by simp only [RepL] at h; subst h; simp [RepL]
  | d :: ds, vs, k, h => by
    cases k with
    | zero => exact h
    | succ k =>
      simp only [RepL] at h
      obtain ⟨v, rest, rfl, h1, hl⟩ := h
      simpa using RepL.drop ds rest k hl
theorem RepL.take : ∀ (ds : List D) (vs : List Value) (k : Nat), RepL w M ds vs → RepL w M (ds.take k) (vs.take k)
  | [], vs, k, h => by simp only [RepL] at h; subst h; simp [RepL]
  | d :: ds, vs, k, h => by
    cases k with
    | zero => simp [RepL]
    | succ k =>
      simp only [RepL] at h
      obtain ⟨v, rest, rfl, h1, hl⟩ := h
      simp only [List.take_succ_cons, RepL]
      exact ⟨v, _, rfl, h1, RepL.take ds rest k hl⟩
theorem RepL.append : ∀ (ds es : List D) (vs us : List Value), RepL w M ds vs → RepL w M es us → RepL w M (ds ++ es) (vs ++ us)
  | [], es, vs, us, h, k => by simp only [RepL] at h; subst h; simpa using k
  | d :: ds, es, vs, us, h, k => by
    simp only [RepL] at h
    obtain ⟨v, rest, rfl, h1, hl⟩ := h
    simp only [List.cons_append, RepL]
    exact ⟨v, _, rfl, h1, RepL.append ds es rest us hl k⟩
theorem RepRows.get {ad : Addr} {sz : Nat} : ∀ (rows : List (List D)) (o : Nat), RepRows w M ad sz o rows → ∀ (i : Nat) (r : List D), rows[i]? = some r → ∃ vs, vs.length = sz ∧ reads w ad (o + i * sz) vs ∧ RepL w M r vs
  | [], o, h, i, r, hr => by simp at hr
  | r :: rs, o, h, i, q, hq => by
    simp only [RepRows] at h
    obtain ⟨h1, h2⟩ := h
    cases i with
    | zero => simp at hq; subst hq; simpa using h1
    | succ i =>
      have := RepRows.get rs (o + sz) h2 i q (by simpa using hq)
      rwa [show o + sz + i * sz = o + (i + 1) * sz by rw [Nat.succ_mul]; omega] at this
theorem RepRows.of_get {ad : Addr} {sz : Nat} : ∀ (rows : List (List D)) (o : Nat), (∀ (i : Nat) (r : List D), rows[i]? = some r → ∃ vs, vs.length = sz ∧ reads w ad (o + i * sz) vs ∧ RepL w M r vs) → RepRows w M ad sz o rows
  | [], o, h => by simp only [RepRows]
  | r :: rs, o, h => by
    simp only [RepRows]
    refine ⟨by simpa using h 0 r rfl, RepRows.of_get rs (o + sz) fun i q hq => ?_⟩
    have := h (i + 1) q (by simpa using hq)
    rwa [show o + (i + 1) * sz = o + sz + i * sz by rw [Nat.succ_mul]; omega] at this
theorem RepRows.rowlen {ad : Addr} {sz : Nat} {rows : List (List D)} {o : Nat} (h : RepRows w M ad sz o rows) {i : Nat} {r : List D} (hr : rows[i]? = some r) : r.length = sz := by
  obtain ⟨vs, h1, _, h3⟩ := RepRows.get rows o h i r hr
  rw [RepL.length_eq _ _ h3, h1]
theorem reads_shift {ad : Addr} {o k : Nat} {vs : List Value} (h : reads w ad o vs) : reads w ad (o + k) (vs.drop k) := by
  intro j u hu
  rw [Nat.add_assoc]
  exact h (k + j) u (by rw [← hu, List.getElem?_drop])
theorem reads_rebase {ad : Addr} {o k : Nat} {vs : List Value} (h : reads w ad (o + k) vs) : reads w (ad.add o) k vs := by
  intro j u hu
  rw [add_add, ← Nat.add_assoc]
  exact h j u hu
theorem RepD.one_cell : ∀ (d : D) (v : Value), RepD w M d v → v.oneCell' = true
  | .unk, v, h => by simpa only [RepD] using h
  | .int .., v, h => by simp only [RepD] at h; subst h; rfl
  | .bool .., v, h => by simp only [RepD] at h; subst h; rfl
  | .str .., v, h => by simp only [RepD] at h; subst h; rfl
  | .raw .., v, h => by simp only [RepD] at h; rw [h.1]; exact h.2
  | .nil, v, h => by simp only [RepD] at h; obtain ⟨_, rfl⟩ := h; rfl
  | .list .., v, h => by simp only [RepD] at h; obtain ⟨_, _, rfl, _⟩ := h; rfl
  | .ref .., v, h => by simp only [RepD] at h; obtain ⟨_, rfl, _⟩ := h; rfl
  | .clo .., v, h => by simp only [RepD] at h; obtain ⟨_, rfl, _⟩ := h; rfl
  | .own _, v, h => by simp only [RepD] at h
  | .vp .., v, h => by simp only [RepD] at h
  | .rp .., v, h => by simp only [RepD] at h
  | .mp _, v, h => by simp only [RepD] at h
end
end Go.Eng
