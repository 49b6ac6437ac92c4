/-
  Sets that are merged; what the transform finds.
-/
import Derived.Test.YtehhccdkdcgmkaaN20
set_option linter.unusedSimpArgs false
set_option linter.unusedVariables false
namespace Go.Proofs.Ytehhccdkdcgmkaa
open Go.Eng Go.RowKit
theorem mergeB_sub (keep : Bool → Bool → Bool) (a b : List Int) : ∀ x ∈ mergeB keep a b, x ∈ a ∨ x ∈ b := by
  fun_induction mergeB keep a b
  · intro x hx; simp at hx
  · rename_i x a ih
    intro y hy
    rcases List.mem_append.1 hy with hy | hy
    · split at hy <;> simp at hy; subst hy; simp
    · have := ih y hy; simp at this ⊢; exact .inr this
  · rename_i x b ih
    intro y hy
    rcases List.mem_append.1 hy with hy | hy
    · split at hy <;> simp at hy; subst hy; simp
    · have := ih y hy; simp at this ⊢; exact .inr this
  · rename_i x a y b h ih
    intro z hz
    rcases List.mem_append.1 hz with hz | hz
    · split at hz <;> simp at hz; subst hz; simp
    · have := ih z hz; rcases this with h1 | h1
      · exact .inl (by simp [h1])
      · exact .inr h1
  · rename_i x a y b h h' ih
    intro z hz
    rcases List.mem_append.1 hz with hz | hz
    · split at hz <;> simp at hz; subst hz; simp
    · have := ih z hz; rcases this with h1 | h1
      · exact .inl h1
      · exact .inr (by simp [h1])
  · rename_i x a y b h h' ih
    intro z hz
    rcases List.mem_append.1 hz with hz | hz
    · split at hz <;> simp at hz; subst hz; simp
    · have := ih z hz; rcases this with h1 | h1
      · exact .inl (by simp [h1])
      · exact .inr (by simp [h1])
theorem pair_opt {x : Int} {c : Prop} [Decidable c] {l : List Int} (h : l.Pairwise (· < ·)) (hx : ∀ y ∈ l, x < y) : ((if c then [x] else []) ++ l).Pairwise (· < ·) := by
  split
  · exact List.pairwise_cons.2 ⟨hx, h⟩
  · exact h
theorem mergeB_sorted (keep : Bool → Bool → Bool) (a b : List Int) (ha : a.Pairwise (· < ·)) (hb : b.Pairwise (· < ·)) : (mergeB keep a b).Pairwise (· < ·) := by
  fun_induction mergeB keep a b
  · exact .nil
  · rename_i x a ih
    rw [List.pairwise_cons] at ha
    exact pair_opt (ih ha.2 hb) fun y hy => by rcases mergeB_sub _ _ _ y hy with h | h; exact ha.1 y h; simp at h
  · rename_i x b ih
    rw [List.pairwise_cons] at hb
    exact pair_opt (ih ha hb.2) fun y hy => by rcases mergeB_sub _ _ _ y hy with h | h; simp at h; exact hb.1 y h
  · rename_i x a y b h ih
    rw [List.pairwise_cons] at ha
    have hb' := List.pairwise_cons.1 hb
    refine pair_opt (ih ha.2 hb) fun z hz => ?_
    rcases mergeB_sub _ _ _ z hz with h1 | h1
    · exact ha.1 z h1
    · rcases List.mem_cons.1 h1 with rfl | h1
      · exact h
      · have := hb'.1 z h1; omega
  · rename_i x a y b h h' ih
    have ha' := List.pairwise_cons.1 ha
    rw [List.pairwise_cons] at hb
    refine pair_opt (ih ha hb.2) fun z hz => ?_
    rcases mergeB_sub _ _ _ z hz with h1 | h1
    · rcases List.mem_cons.1 h1 with rfl | h1
      · exact h'
      · have := ha'.1 z h1; omega
    · exact hb.1 z h1
  · rename_i x a y b h h' ih
    have : x = y := by omega
    subst this
    rw [List.pairwise_cons] at ha hb
    refine pair_opt (ih ha.2 hb.2) fun z hz => ?_
    rcases mergeB_sub _ _ _ z hz with h1 | h1
    · exact ha.1 z h1
    · exact hb.1 z h1
theorem mem_opt {x z : Int} {b : Bool} {l : List Int} (h : z ∈ (if b = true then [x] else []) ++ l) : (z = x ∧ b = true) ∨ z ∈ l := by
  rcases List.mem_append.1 h with h | h
  · split at h
    · simp at h; exact .inl ⟨h, by assumption⟩
    · simp at h
  · exact .inr h
theorem mergeB_mem (keep : Bool → Bool → Bool) (a b : List Int) (ha : a.Pairwise (· < ·)) (hb : b.Pairwise (· < ·)) : ∀ z ∈ mergeB keep a b, (z ∈ a ∧ z ∈ b ∧ keep true true = true) ∨ (z ∈ a ∧ z ∉ b ∧ keep true false = true) ∨ (z ∉ a ∧ z ∈ b ∧ keep false true = true) := by
  fun_induction mergeB keep a b
  · intro z hz; simp at hz
  · rename_i x a ih
    intro z hz
    rw [List.pairwise_cons] at ha
    rcases mem_opt hz with ⟨rfl, hk⟩ | hz
    · exact .inr (.inl ⟨by simp, by simp, hk⟩)
    · rcases ih ha.2 hb z hz with h | h | h
      · simp at h
      · exact .inr (.inl ⟨by simp [h.1], by simp, h.2.2⟩)
      · simp at h
  · rename_i y b ih
    intro z hz
    rw [List.pairwise_cons] at hb
    rcases mem_opt hz with ⟨rfl, hk⟩ | hz
    · exact .inr (.inr ⟨by simp, by simp, hk⟩)
    · rcases ih ha hb.2 z hz with h | h | h
      · simp at h
      · simp at h
      · exact .inr (.inr ⟨by simp, by simp [h.2.1], h.2.2⟩)
  · rename_i x a y b h ih
    intro z hz
    rw [List.pairwise_cons] at ha
    have hb' := List.pairwise_cons.1 hb
    rcases mem_opt hz with ⟨rfl, hk⟩ | hz
    · refine .inr (.inl ⟨by simp, ?_, hk⟩)
      intro hm
      rcases List.mem_cons.1 hm with rfl | hm
      · omega
      · have := hb'.1 z hm; omega
    · rcases ih ha.2 hb z hz with h1 | h1 | h1
      · exact .inl ⟨by simp [h1.1], h1.2⟩
      · exact .inr (.inl ⟨by simp [h1.1], h1.2⟩)
      · refine .inr (.inr ⟨?_, h1.2⟩)
        intro hm
        rcases List.mem_cons.1 hm with rfl | hm
        · rcases List.mem_cons.1 h1.2.1 with rfl | h2
          · omega
          · have := hb'.1 z h2; omega
        · exact h1.1 hm
  · rename_i x a y b h h' ih
    intro z hz
    have ha' := List.pairwise_cons.1 ha
    rw [List.pairwise_cons] at hb
    rcases mem_opt hz with ⟨rfl, hk⟩ | hz
    · refine .inr (.inr ⟨?_, by simp, hk⟩)
      intro hm
      rcases List.mem_cons.1 hm with rfl | hm
      · omega
      · have := ha'.1 z hm; omega
    · rcases ih ha hb.2 z hz with h1 | h1 | h1
      · exact .inl ⟨h1.1, by simp [h1.2.1], h1.2.2⟩
      · refine .inr (.inl ⟨h1.1, ?_, h1.2.2⟩)
        intro hm
        rcases List.mem_cons.1 hm with rfl | hm
        · rcases List.mem_cons.1 h1.1 with rfl | h2
          · omega
          · have := ha'.1 z h2; omega
        · exact h1.2.1 hm
      · exact .inr (.inr ⟨h1.1, by simp [h1.2.1], h1.2.2⟩)
  · rename_i x a y b h h' ih
    intro z hz
    have : x = y := by omega
    subst this
    rw [List.pairwise_cons] at ha hb
    rcases mem_opt hz with ⟨rfl, hk⟩ | hz
    · exact .inl ⟨by simp, by simp, hk⟩
    · rcases ih ha.2 hb.2 z hz with h1 | h1 | h1
      · exact .inl ⟨by simp [h1.1], by simp [h1.2.1], h1.2.2⟩
      · refine .inr (.inl ⟨by simp [h1.1], ?_, h1.2.2⟩)
        intro hm
        rcases List.mem_cons.1 hm with rfl | hm
        · have := ha.1 z h1.1; omega
        · exact h1.2.1 hm
      · refine .inr (.inr ⟨?_, by simp [h1.2.1], h1.2.2⟩)
        intro hm
        rcases List.mem_cons.1 hm with rfl | hm
        · have := hb.1 z h1.2.1; omega
        · exact h1.1 hm
theorem subset_inter {a b c : List Int} (ha : a.Pairwise (· < ·)) (hb : b.Pairwise (· < ·)) (hc : c.Pairwise (· < ·)) (h : ∀ x ∈ a, x ∈ b → x ∈ c) : minusB (interB a b) c = [] := by
  refine List.eq_nil_iff_forall_not_mem.2 fun z hz => ?_
  rcases mergeB_mem _ _ _ (mergeB_sorted _ _ _ ha hb) hc z hz with h1 | h1 | h1
  · simp at h1
  · rcases mergeB_mem _ _ _ ha hb z h1.1 with h2 | h2 | h2
    · exact h1.2.1 (h z h2.1 h2.2.1)
    · simp at h2
    · simp at h2
  · simp at h1
theorem cast_sorted (p : Nat → Bool) (k : Nat) : (((List.range k).filter p).map fun (i : Nat) => (i : Int)).Pairwise (· < ·) := by
  rw [List.pairwise_map]
  refine List.Pairwise.filter _ ?_
  refine List.pairwise_lt_range.imp ?_
  intro a b h
  omega
theorem able_sorted (n : Net) (m : List Int) (k : Nat) : (ableL n m k).Pairwise (· < ·) := cast_sorted _ k
theorem csFrom_zero (m : Int) : ∀ (l : List Int) (p : Option Int), (∀ x ∈ l, 0 ≤ x ∧ x < m) → l.Pairwise (· < ·) → (∀ q, p = some q → ∀ x ∈ l, q < x) → csFrom m l p = 0
  | [], _, _, _, _ => rfl
  | x :: l, p, h1, h2, h3 => by
    have hx := h1 x (by simp)
    rw [List.pairwise_cons] at h2
    rw [csFrom, if_neg (by omega), if_neg]
    · exact csFrom_zero m l (some x) (fun y hy => h1 y (by simp [hy])) h2.2 fun q e y hy => by cases e; exact h2.1 y hy
    · cases p with
      | none => simp
      | some q => have := h3 q rfl x (by simp); simp; omega
theorem checkSet_zero {m : Int} {l : List Int} (h1 : ∀ x ∈ l, 0 ≤ x ∧ x < m) (h2 : l.Pairwise (· < ·)) : checkSet l m = 0 := csFrom_zero m l none h1 h2 (fun q e => by cases e)
/-! what the transform finds -/
theorem firstK_in {α : Type} {step : Nat → Option α} : ∀ {r k : Nat} {a : α}, firstK step k r = some a → ∃ j, j < k + r ∧ step j = some a
  | 0, _, _, h => by cases h
  | r + 1, k, a, h => by
    simp only [firstK] at h
    cases hs : step k with
    | some b => rw [hs] at h; exact ⟨k, by omega, by rw [hs]; exact h⟩
    | none =>
      rw [hs] at h
      obtain ⟨j, hj, e⟩ := firstK_in h
      exact ⟨j, by omega, e⟩
theorem foundF_good (adm : List Int → Bool) : ∀ (r : Nat) (fac : List Int) (place s : Nat) (f : List Int), foundF adm r fac place s = some f → (∀ p, fac.getD p 0 ≤ f.getD p 0) ∧ (Sm 16 fac → Sm 16 f) ∧ adm f = true
  | 0, fac, place, s, f, h => by
    simp only [foundF] at h
    split at h
    · split at h
      · cases h; exact ⟨fun p => Int.le_refl _, fun h => h, by assumption⟩
      · cases h
    · cases h
  | r + 1, fac, place, s, f, h => by
    obtain ⟨j, hj, e⟩ := firstK_in h
    obtain ⟨h1, h2, h3⟩ := foundF_good adm r _ _ _ f e
    refine ⟨fun p => Int.le_trans ?_ (h1 p), fun hs => h2 (hs.set _ _ ?_), h3⟩
    · by_cases hp : place < fac.length
      · rw [set_getD' _ _ _ _ hp]
        split
        · rename_i e; subst e; omega
        · exact Int.le_refl _
      · rw [List.set_eq_of_length_le (by omega)]; exact Int.le_refl _
    · have := hs.get (by omega) place
      unfold rounds at hj
      omega
theorem trF_good {n : Net} {c : Con} {u g : List Int} (h : trF n c u = some g) : g.length = c.fac.length ∧ (∀ p, c.fac.getD p 0 ≤ g.getD p 0) ∧ (Sm 16 c.fac → Sm 16 g) ∧ raisingL n ⟨g, c.bound⟩ u < 0 := by
  obtain ⟨j, _, hj⟩ := firstK_in h
  obtain ⟨h1, h2, h3⟩ := foundF_good _ _ _ _ _ _ hj
  exact ⟨foundF_length _ _ _ _ _ _ hj, h1, h2, by simpa [admF] using h3⟩
theorem ixFrom_neg {α : Type} (p : α → Bool) : ∀ (l : List α) (k : Nat), ixFrom p k l < 0 → ∀ x ∈ l, p x = false
  | [], _, _, x, hx => by simp at hx
  | e :: l, k, h, x, hx => by
    rw [ixFrom] at h
    split at h
    · omega
    · rename_i hp
      rcases List.mem_cons.1 hx with rfl | hx
      · simpa using hp
      · exact ixFrom_neg p l (k + 1) h x hx
theorem raising_neg {n : Net} {c : Con} {u : List Int} (hu : ∀ x ∈ u, 0 ≤ x) (h : raisingL n c u < 0) : ∀ t ∈ u, (effL n c).getD t.toNat 0 ≤ 0 := by
  intro t ht
  unfold raisingL at h
  split at h
  · rename_i h1
    have := ixFrom_neg _ _ _ h1 t ht
    simpa [risesB] using this
  · rename_i h1
    have h2 := ixFrom_lt (risesB (effL n c)) u 0 (by omega)
    have := hu _ (getD_mem u (ixFrom (risesB (effL n c)) 0 u).toNat 0 (by omega))
    omega
theorem dot_mono : ∀ (f g m : List Int), f.length = g.length → (∀ p, f.getD p 0 ≤ g.getD p 0) → (∀ x ∈ m, 0 ≤ x) → dot f m ≤ dot g m
  | [], [], m, _, _, _ => Int.le_refl _
  | [], _ :: _, _, h, _, _ => by simp at h
  | _ :: _, [], _, h, _, _ => by simp at h
  | a :: f, b :: g, [], _, _, _ => by simp [dot]
  | a :: f, b :: g, x :: m, hl, h1, h2 => by
    have ih := dot_mono f g m (by simpa using hl) (fun p => by simpa using h1 (p + 1)) fun y hy => h2 y (by simp [hy])
    have hab : a ≤ b := by simpa using h1 0
    have hx := h2 x (by simp)
    have := Int.mul_le_mul_of_nonneg_right hab hx
    simp only [dot]
    omega
end Go.Proofs.Ytehhccdkdcgmkaa
