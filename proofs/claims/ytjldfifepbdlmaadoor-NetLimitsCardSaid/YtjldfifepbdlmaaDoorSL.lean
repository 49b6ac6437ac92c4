/-
  The search of a net with one place and a transition that takes a token away, in plain Lean.
-/
import Derived.Test.YtjldfifepbdlmaaDoorSG
set_option linter.unusedSimpArgs false
set_option linter.unusedVariables false
namespace Go.Proofs.YtjldfifepbdlmaaDoor
open Go.Eng Go.RowKit
def downT : Tr := ⟨0, [⟨0, 1⟩], []⟩
def downN (n : Nat) : Net := ⟨[(n : Int)], [downT]⟩
def downS (n k : Nat) : SN := if k = 0 then ⟨[(n : Int)], -1, -1⟩ else ⟨[(n : Int) - k], (k : Int) - 1, 0⟩
def downL (n k : Nat) : List SN := (List.range k).map (downS n)
def downE (k : Nat) : List Edg := (List.range k).map fun (i : Nat) => (⟨(i : Int), 0, (i : Int) + 1⟩ : Edg)
theorem downL_length (n k : Nat) : (downL n k).length = k := by simp [downL]
theorem downE_length (k : Nat) : (downE k).length = k := by simp [downE]
theorem downL_succ (n k : Nat) : downL n (k + 1) = downL n k ++ [downS n k] := by simp [downL, List.range_succ]
theorem downE_succ (k : Nat) : downE (k + 1) = downE k ++ [⟨(k : Int), 0, (k : Int) + 1⟩] := by simp [downE, List.range_succ]
theorem downL_getD (n k i : Nat) (h : i < k) : (downL n k).getD i SN.no = downS n i := by simp [downL, List.getD, List.getElem?_range h]
theorem downS_m (n k : Nat) : (downS n k).m = [(n : Int) - k] := by
  unfold downS
  split
  · rename_i h; subst h; simp
  · rfl
theorem down_fired (x : Int) : firedL downT [x] = [x - 1] := by
  simp [firedL, downT, applyA]; omega
theorem down_en (x : Int) : enB [x] downT = decide (1 ≤ x) := by
  simp only [enB, downT, lacksB, List.any_cons, List.any_nil, Bool.or_false]
  rw [Bool.eq_iff_iff, Bool.not_eq_true', decide_eq_false_iff_not, decide_eq_true_eq]
  show ¬ x < 1 ↔ 1 ≤ x
  omega
theorem down_able (n k : Nat) : ableL (downN n) [(n : Int) - k] 1 = if k < n then [0] else [] := by
  rw [ableL_succ, show ableL (downN n) [(n : Int) - k] 0 = [] from rfl, List.nil_append]
  show (if enB [(n : Int) - k] downT = true then _ else _) = _
  rw [down_en]
  by_cases h : k < n
  · rw [if_pos h, if_pos (by simp; omega)]; rfl
  · rw [if_neg h, if_neg (by simp; omega)]
theorem down_fnd (n k : Nat) : ∀ (j s : Nat), fndF [(n : Int) - k] s (downL n j) = none ∨ j > k
  | 0, _ => .inl rfl
  | j + 1, s => by
    by_cases h : j + 1 > k
    · exact .inr h
    · refine .inl ?_
      have app : ∀ (l l' : List SN) (m : List Int) (i : Nat), fndF m i l = none → (∀ x ∈ l', x.m ≠ m) → fndF m i (l ++ l') = none := by
        intro l
        induction l with
        | nil =>
          intro l' m i _ hl'
          show fndF m i l' = none
          induction l' generalizing i with
          | nil => rfl
          | cons a l' ih => rw [fndF, if_neg (hl' a (by simp))]; exact ih _ rfl fun x hx => hl' x (by simp [hx])
        | cons a l ih =>
          intro l' m i h hl'
          rw [List.cons_append, fndF] at *
          split at h
          · cases h
          · rename_i e; rw [if_neg e]; exact ih l' m _ h hl'
      rw [downL_succ]
      refine app _ _ _ _ ((down_fnd n k j s).resolve_right (by omega)) fun x hx => ?_
      rw [List.mem_singleton] at hx
      subst hx
      rw [downS_m]
      intro e
      simp at e
      omega
theorem down_pumpF (n k : Nat) (l : List SN) (hl : ∀ i, i < l.length → (l.getD i SN.no).m = [(n : Int) - i]) : ∀ (f : Nat) (i : Int), (i < k ∧ i < l.length) → (∀ j : Nat, j < l.length → (l.getD j SN.no).before < j) → pumpF l [(n : Int) - k] f i (-1) = -1
  | 0, _, _, _ => rfl
  | f + 1, i, h, hb => by
    rw [pumpF]
    split
    · rename_i h0
      rw [hl i.toNat (by omega)]
      have : leqB [(n : Int) - (i.toNat : Nat)] [(n : Int) - k] = false := by
        simp [leqB]; omega
      rw [this, if_neg (by decide)]
      have := hb i.toNat (by omega)
      exact down_pumpF n k l hl f _ ⟨by omega, by omega⟩ hb
    · rfl
theorem down_pumps (n k : Nat) (hk : 0 < k) : pumpsF (downL n (k + 1)) = -1 := by
  have hm : ∀ i, i < (downL n (k + 1)).length → ((downL n (k + 1)).getD i SN.no).m = [(n : Int) - i] := fun i hi => by
    rw [downL_length] at hi
    rw [downL_getD _ _ _ hi, downS_m]
  have hb : ∀ j : Nat, j < (downL n (k + 1)).length → ((downL n (k + 1)).getD j SN.no).before < j := fun j hj => by
    rw [downL_length] at hj
    rw [downL_getD _ _ _ hj]
    unfold downS
    split <;> simp only <;> omega
  rw [pumpsF, downL_length, Nat.add_sub_cancel, downL_getD _ _ _ (by omega), downS_m]
  refine down_pumpF n k _ hm _ _ ⟨?_, ?_⟩ hb
  · unfold downS; rw [if_neg (by omega)]; simp only; omega
  · rw [downL_length]; unfold downS; rw [if_neg (by omega)]; simp only; omega
theorem down_step (n lim i : Nat) (h : i < n) (hn : n ≤ 65536) : stepF (downN n) lim i 0 (downL n (i + 1)) (downE i) = if lim < i + 2 then .err 3 else .cont (downL n (i + 2)) (downE (i + 1)) := by
  unfold stepF
  simp only
  rw [downL_getD _ _ _ (Nat.lt_succ_self i), downS_m]
  have e1 : firedL ((downN n).trs.getD (0 : Int).toNat Tr.no) [(n : Int) - i] = [(n : Int) - ((i + 1 : Nat) : Int)] := by
    show firedL downT _ = _
    rw [down_fired]; congr 1; omega
  rw [e1, if_neg (by simp [tokB]; omega)]
  rw [(down_fnd n (i + 1) (i + 1) 0).resolve_right (by omega)]
  simp only
  have e2 : downL n (i + 1) ++ [⟨[(n : Int) - ((i + 1 : Nat) : Int)], (i : Int), 0⟩] = downL n (i + 2) := by
    rw [downL_succ n (i + 1)]
    congr 2
    unfold downS
    rw [if_neg (by omega)]
    simp
  rw [e2, down_pumps n (i + 1) (by omega), if_neg (by decide), downL_length, downL_length, downE_succ]
  split
  · rfl
  · congr 2
theorem down_outer (n lim : Nat) (hn : n ≤ 65536) : ∀ (f i : Nat), i ≤ n → i + 1 ≤ lim → i + f = lim + 2 → outerF (downN n) lim f i (downL n (i + 1)) (downE i) = if lim < n + 1 then .err 3 else .cont (downL n (n + 1)) (downE n)
  | 0, i, h1, h2, h3 => by omega
  | f + 1, i, h1, h2, h3 => by
    rw [outerF, downL_length, if_pos (by omega), downL_getD _ _ _ (Nat.lt_succ_self i), downS_m, show (downN n).trs.length = 1 from rfl, down_able]
    by_cases h : i < n
    · rw [if_pos h]
      simp only [innerF]
      rw [down_step n lim i h hn]
      by_cases hl : lim < i + 2
      · rw [if_pos hl]
        simp only
        rw [if_pos (by omega)]
      · rw [if_neg hl]
        simp only
        exact down_outer n lim hn f (i + 1) (by omega) (by omega) (by omega)
    · rw [if_neg h]
      simp only [innerF]
      obtain ⟨f, rfl⟩ : ∃ g, f = g + 1 := ⟨f - 1, by omega⟩
      rw [outerF, downL_length, if_neg (by omega), if_neg (by omega)]
      have : i = n := by omega
      subst this
      rfl
theorem down_search (n : Nat) (hn : n ≤ 65536) : searchF (downN n) 4096 = if 4096 < n + 1 then .err 3 else .cont (downL n (n + 1)) (downE n) := down_outer n 4096 hn 4098 0 (Nat.zero_le _) (by omega) (by omega)
theorem down_net (n : Nat) (hn : n ≤ 65536) : netE (downN n) = 0 := by
  have : ([(n : Int)].any tokB) = false := any_tok fun x hx => by rw [List.mem_singleton] at hx; omega
  rw [netE, if_neg (by simp [downN]), show (downN n).init = [(n : Int)] from rfl, this, if_neg (by decide), if_neg (by simp [downN])]
  rfl
theorem down_bnd (n : Nat) (hn : n ≤ 65536) : bndF (downN n) = if 4096 < n + 1 then .inl 3 else .inr (downL n (n + 1), downE n) := by
  rw [bndF, if_neg (by rw [down_net n hn]; decide), down_search n hn]
  by_cases h : 4096 < n + 1
  · rw [if_pos h, if_pos h]
  · rw [if_neg h, if_neg h]
theorem down_bds (n : Nat) : ∀ k, bdsL (downN n) (downL n k) = [(n : Int)]
  | 0 => rfl
  | k + 1 => by
    have := down_bds n k
    rw [bdsL] at this ⊢
    rw [downL_succ, List.foldl_append, this]
    simp only [List.foldl_cons, List.foldl_nil, downS_m, maxL, List.zipWith_cons_cons, List.zipWith_nil_left]
    congr 1; omega
end Go.Proofs.YtjldfifepbdlmaaDoor
