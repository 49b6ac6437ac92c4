/-
 Contracts: the minimal sets of a kind; Commoner's condition.
-/
import Derived.Test.YtljpfdehnjemlaaDoorWG
set_option linter.unusedSimpArgs false
set_option linter.unusedVariables false
namespace Go.Proofs.YtljpfdehnjemlaaDoor
open Go.Eng Go.RowKit
/-! all sets of places that are not empty, sorted -/
def setsL (p : Nat) : List (List Int) := (List.range (2 ^ p - 1)).map fun m => bitsL (m + 1) p
def setsY (p : Nat) : List (List Int) := (setsL p).mergeSort fun a b => !ltLL b a
theorem ltLL_total (a b : List Int) : (!ltLL b a || !ltLL a b) = true := by
 cases h : ltLL b a with
 | false => rfl
 | true =>
  cases h2 : ltLL a b with
  | false => rfl
  | true => have := ltLL_swo.trans _ _ _ h h2; rw [ltLL_swo.irrefl] at this; cases this
theorem ltLL_ntrans (a b c : List Int) (h : (!ltLL b a) = true) (k : (!ltLL c b) = true) : (!ltLL c a) = true := by
 simp only [Bool.not_eq_true'] at *
 exact ltLL_swo.ntrans _ _ _ k h
theorem lexI_eq : ∀ a b : List Int, a.length = b.length → ¬ lexI a b < 0 → ¬ lexI b a < 0 → a = b
 | [], [], _, _, _ => rfl
 | [], _ :: _, h, _, _ => by simp at h
 | _ :: _, [], h, _, _ => by simp at h
 | x :: a, y :: b, h, h1, h2 => by
  simp only [lexI] at h1 h2
  by_cases e : x < y
  ·rw [if_pos e] at h1; omega
  ·rw [if_neg e] at h1
   by_cases e2 : y < x
   ·rw [if_pos e2] at h2; omega
   ·rw [if_neg e2] at h1 h2
    rw [if_neg e] at h2
    have : x = y := by omega
    subst this
    rw [lexI_eq a b (by simpa using h) h1 h2]
theorem ltLL_anti {a b : List Int} (h1 : ltLL a b = false) (h2 : ltLL b a = false) : a = b := by
 rw [← Bool.not_eq_true] at h1 h2
 simp only [ltLL, Bool.or_eq_true, Bool.and_eq_true, decide_eq_true_eq, beq_iff_eq, not_or, Nat.not_lt, not_and] at h1 h2
 have hl : a.length = b.length := by omega
 exact lexI_eq a b hl (h1.2 hl) (h2.2 hl.symm)
theorem setsY_perm (p : Nat) : (setsY p).Perm (setsL p) := List.mergeSort_perm _ _
theorem mem_bitsL {m p : Nat} {x : Int} : x ∈ bitsL m p ↔ ∃ i : Nat, i < p ∧ x = i ∧ m.testBit i = true := by
 simp only [bitsL, List.mem_map, List.mem_filter, List.mem_range]
 constructor
 ·rintro ⟨i, ⟨h1, h2⟩, rfl⟩
  exact ⟨i, h1, rfl, h2⟩
 ·rintro ⟨i, h1, rfl, h2⟩
  exact ⟨i, ⟨h1, h2⟩, rfl⟩
theorem bitsL_inj {m m' p : Nat} (h : m < 2 ^ p) (h' : m' < 2 ^ p) (e : bitsL m p = bitsL m' p) : m = m' := by
 apply Nat.eq_of_testBit_eq
 intro i
 by_cases hi : i < p
 ·have h1 : ((i : Int) ∈ bitsL m p) ↔ ((i : Int) ∈ bitsL m' p) := by rw [e]
  rw [mem_bitsL, mem_bitsL] at h1
  rw [Bool.eq_iff_iff]
  constructor
  ·intro ht
   obtain ⟨j, _, hj, ht'⟩ := h1.1 ⟨i, hi, rfl, ht⟩
   rwa [show i = j by omega]
  ·intro ht
   obtain ⟨j, _, hj, ht'⟩ := h1.2 ⟨i, hi, rfl, ht⟩
   rwa [show i = j by omega]
 ·have hp : 2 ^ p ≤ 2 ^ i := Nat.pow_le_pow_right (by omega) (by omega)
  rw [Nat.testBit_lt_two_pow (by omega), Nat.testBit_lt_two_pow (by omega)]
theorem setsL_nodup (p : Nat) : (setsL p).Nodup := by
 unfold setsL
 rw [List.nodup_iff_pairwise_ne, List.pairwise_map]
 refine (List.pairwise_lt_range (n := 2 ^ p - 1)).imp_of_mem ?_
 intro a b ha hb hab e
 have h1 := List.mem_range.1 ha
 have h2 := List.mem_range.1 hb
 have := bitsL_inj (by omega) (by omega) e
 omega
theorem setsY_pw (p : Nat) : (setsY p).Pairwise fun a b => ltLL a b = true := by
 have h1 : (setsY p).Pairwise fun a b => (!ltLL b a) = true := List.pairwise_mergeSort (fun a b c => ltLL_ntrans a b c) ltLL_total _
 have h2 : (setsY p).Nodup := (setsY_perm p).nodup_iff.2 (setsL_nodup p)
 rw [List.nodup_iff_pairwise_ne] at h2
 refine (h1.and h2).imp ?_
 rintro a b ⟨h3, h4⟩
 cases h : ltLL a b with
 | true => rfl
 | false => exact absurd (ltLL_anti h (by simpa using h3)) h4
theorem mem_setsY {p : Nat} {s : List Int} : s ∈ setsY p ↔ ∃ m, 1 ≤ m ∧ m < 2 ^ p ∧ s = bitsL m p := by
 rw [(setsY_perm p).mem_iff, setsL, List.mem_map]
 constructor
 ·rintro ⟨m, hm, rfl⟩
  have := List.mem_range.1 hm
  exact ⟨m + 1, by omega, by omega, rfl⟩
 ·rintro ⟨m, h1, h2, rfl⟩
  exact ⟨m - 1, List.mem_range.2 (by omega), by rw [show m - 1 + 1 = m by omega]⟩
theorem bitsL_pw (m p : Nat) : (bitsL m p).Pairwise (· < ·) := range_pw _ p
theorem setsY_el {p : Nat} {s : List Int} (h : s ∈ setsY p) : s.length ≤ p ∧ s.Pairwise (· < ·) ∧ ∀ x ∈ s, 0 ≤ x ∧ x < p := by
 obtain ⟨m, _, _, rfl⟩ := mem_setsY.1 h
 refine ⟨bitsL_length m p, bitsL_pw m p, fun x hx => ?_⟩
 obtain ⟨i, hi, rfl, _⟩ := mem_bitsL.1 hx
 omega
theorem setsY_length (p : Nat) : (setsY p).length = 2 ^ p - 1 := by rw [(setsY_perm p).length_eq]; simp [setsL]
theorem setOf_bitsL {m p : Nat} (hp : p ≤ 32) (hm : m < 2 ^ p) : setOf m = bitsL m p := by
 unfold setOf bitsL
 congr 1
 have e : (32 : Nat) = p + (32 - p) := by omega
 have h0 : ((List.range (32 - p)).map (p + ·)).filter (fun i => m.testBit i) = [] := by
  rw [List.filter_eq_nil_iff]
  intro i hi
  obtain ⟨j, _, rfl⟩ := List.mem_map.1 hi
  have : 2 ^ p ≤ 2 ^ (p + j) := Nat.pow_le_pow_right (by omega) (by omega)
  rw [Nat.testBit_lt_two_pow (by omega)]
  simp
 rw [e, List.range_add, List.filter_append, h0, List.append_nil]
/-! the minimal ones -/
def inB (x s : List Int) : Bool := decide ((minusB x s).length = 0)
def pickL (k : Int) (ts : List Tr) : List (List Int) → List (List Int) → List (List Int)
 | [], out => out
 | s :: l, out => pickL k ts l (if !out.any (fun x => inB x s) && isL k ts s then out ++ [s] else out)
def minL (k : Int) (n : Net) : List (List Int) := pickL k n.trs (setsY n.init.length) []
theorem pickL_sub (k : Int) (ts : List Tr) : ∀ (l out : List (List Int)), ∀ x ∈ pickL k ts l out, x ∈ out ∨ (x ∈ l ∧ isL k ts x = true)
 | [], out, x, hx => .inl hx
 | s :: l, out, x, hx => by
  rw [pickL] at hx
  rcases pickL_sub k ts l _ x hx with h | ⟨h, h2⟩
  ·split at h
   ·rename_i hc
    rcases List.mem_append.1 h with h | h
    ·exact .inl h
    ·simp at h
     subst h
     simp only [Bool.and_eq_true] at hc
     exact .inr ⟨by simp, hc.2⟩
   ·exact .inl h
  ·exact .inr ⟨by simp [h], h2⟩
theorem pickL_len (k : Int) (ts : List Tr) : ∀ (l out : List (List Int)), (pickL k ts l out).length ≤ out.length + l.length
 | [], out => by simp [pickL]
 | s :: l, out => by
  rw [pickL]
  have := pickL_len k ts l (if !out.any (fun x => inB x s) && isL k ts s then out ++ [s] else out)
  split at this <;> split <;> simp_all <;> omega
theorem Min2_c (x s : List Int) (hn : x.length + s.length ≤ 1000000) : ACalls Tryd.prog 27 [.one (.list (ints x)), .one (.ref [.list (ints s)])] (.one (.bool (inB x s))) [] := by
 have h1 := Subset_c x s hn
 (refine ACalls.of_body Ty_ok mixed Tryd.func27 rfl (by kernel_rfl) Tryd.ntmps27 (by simp) (congrArg Array.toList Tryd.results27) ?_)
 simp only [slotsOf]
 (repeat' (first | (with_reducible first | exact True.intro | refine And.intro ?_ ?_ | refine aBl ?_ | (refine aS 4 [] ?_; intro K hK)) | ((with_reducible first | refine aGo ?_); simp only [go_sem]) | ((with_reducible refine aCd ?_ ?_ (fun hb => ?_) (fun hb => ?_)); (iterate 2 simp only [go_sem]); all_goals (simp only [go_sem] at hb; try simp only [bls] at hb)) | ((iterate 6 try ((fail_if_success with_reducible refine hK _ ?_ ?_ ?_); clear hK K)); with_reducible refine hK _ ?_ ?_ ?_; rotate_left; (focus (simp only [go_sem]; exact rfl)); clear hK K) | ((first | (with_reducible first | refine xA ?_ | refine xD ?_ | refine xO ?_ | refine xR ?_ | refine xG ?_ | refine xH ?_ | refine xM ?_) | ((with_reducible refine gA ?_); refine xA ?_) | ((with_reducible refine gD ?_); refine xD ?_) | ((with_reducible refine gG ?_); refine xG ?_)); simp only [go_sem]) | (with_reducible refine aGs (fun hg0 => ?_) (fun hg0 => ?_) <;> first | (with_reducible first | exact aF1 hg0 | exact aF2 hg0) | (simp only [hg0, go_sem])) | (with_reducible refine aNk ?_; intro bnil hnil; try simp only []) | exact aZ | fail))
 rfl
theorem shl_len (p : Nat) (hp : p ≤ 10) : IntKind.u32.wrap (1 * 2 ^ min p 32) = ((2 ^ p : Nat) : Int) := by
 have : p = 0 ∨ p = 1 ∨ p = 2 ∨ p = 3 ∨ p = 4 ∨ p = 5 ∨ p = 6 ∨ p = 7 ∨ p = 8 ∨ p = 9 ∨ p = 10 := by omega
 rcases this with rfl | rfl | rfl | rfl | rfl | rfl | rfl | rfl | rfl | rfl | rfl <;> rfl
def masksL (k : Nat) : List (List Int) := (List.range (k - 1)).map fun m => setOf (m + 1)
theorem masksL_succ (k : Nat) (h : 0 < k) : masksL (k + 1) = masksL k ++ [setOf k] := by
 unfold masksL
 rw [show k + 1 - 1 = (k - 1) + 1 by omega, List.range_succ, List.map_append]
 rw [show [k - 1].map (fun m => setOf (m + 1)) = [setOf (k - 1 + 1)] from rfl, show k - 1 + 1 = k by omega]
theorem masksL_all (p : Nat) (hp : p ≤ 32) : masksL (2 ^ p) = setsL p := by
 unfold masksL setsL
 apply List.map_congr_left
 intro m hm
 have := List.mem_range.1 hm
 exact setOf_bitsL hp (by omega)
set_option maxHeartbeats 16000000 in
theorem Minimal_c (n : Net) (k : Int) (hf : n.Fits) (h0 : siE n [] k = 0 → n.init ≠ []) : ACalls Tryd.prog 10 [.agg n.d, .one (.int .i64 k)] (.tup [.one (.list (wordsD (if siE n [] k = 0 then minL k n else []))), .one (.int .i64 (siE n [] k))]) [] := by
 have h1 : ACalls Tryd.prog 19 [.agg n.d, .one (.list []), .one (.int .i64 k)] (.one (.int .i64 (siE n [] k))) [] := siCheck_c n [] k hf (by simp)
 by_cases he : siE n [] k = 0
 ·rw [if_pos he]
  have hn0 := h0 he
  have hok := netOk_of (siE_ok he).1
  have hp10 : n.init.length ≤ 10 := hok.init
  have hp1 : 1 ≤ n.init.length := by cases hi : n.init with | nil => exact absurd hi hn0 | cons a l => simp
  have hpow : 2 ^ n.init.length ≤ 1024 := Nat.le_trans (Nat.pow_le_pow_right (by omega) hp10) (by decide)
  have hpow1 : 2 ≤ 2 ^ n.init.length := by have := Nat.pow_le_pow_right (n := 2) (by omega) hp1; omega
  have hshl := shl_len n.init.length hp10
  have hsl : (setsL n.init.length).length = 2 ^ n.init.length - 1 := by simp [setsL]
  have hsort := SortLists_c (setsL n.init.length) (setsY n.init.length) 22 cfP ltLL ltLL_swo cfP_lt (setsY_perm _) (setsY_pw _) (by intro e; rw [e] at hsl; simp at hsl; omega) (by omega)
   (fun a b ha hb => MinCmp_c a b (by have := (setsY_el ((setsY_perm _).mem_iff.2 ha)).1; omega) (by have := (setsY_el ((setsY_perm _).mem_iff.2 hb)).1; omega))
  simp only [Net.d] at h1
  (refine ACalls.of_body Ty_ok mixed Tryd.func10 rfl (by kernel_rfl) Tryd.ntmps10 (by simp) (congrArg Array.toList Tryd.results10) ?_)
  simp only [slotsOf, Net.d]
  (repeat' (first | (with_reducible first | exact True.intro | refine And.intro ?_ ?_ | refine aBl ?_ | (refine aS 13 [22, 23, 37, 36, 38] ?_; intro K hK)) | ((with_reducible first | refine aGo ?_ | refine rP Ty_ok mixed 17 [0] [.mid [pe 1, pe 2, pe 3, pe 4, pe 5, ⟨6, 0, true, false, false, [], []⟩, ⟨7, 1, false, false, false, [], []⟩, ⟨8, 1, false, false, false, [0], []⟩, ⟨9, 1, false, false, false, [0], []⟩, ⟨10, 1, false, false, false, [], []⟩, ⟨11, 1, false, false, false, [], []⟩] 1] ?_); simp only [he, hshl, go_sem]) | ((with_reducible refine aCd ?_ ?_ (fun hb => ?_) (fun hb => ?_)); (iterate 2 simp only [he, hshl, go_sem]); all_goals (simp only [he, hshl, go_sem] at hb; try simp only [bls] at hb)) | ((iterate 6 try ((fail_if_success with_reducible refine hK _ ?_ ?_ ?_); clear hK K)); with_reducible refine hK _ ?_ ?_ ?_; rotate_left; (focus (simp only [he, hshl, go_sem]; exact rfl)); clear hK K) | ((first | (with_reducible first | refine xA ?_ | refine xD ?_ | refine xO ?_ | refine xR ?_ | refine xG ?_ | refine xH ?_ | refine xM ?_) | ((with_reducible refine gA ?_); refine xA ?_) | ((with_reducible refine gD ?_); refine xD ?_) | ((with_reducible refine gG ?_); refine xG ?_)); simp only [he, hshl, go_sem]) | (with_reducible refine aGs (fun hg0 => ?_) (fun hg0 => ?_) <;> first | (with_reducible first | exact aF1 hg0 | exact aF2 hg0) | (simp only [hg0, he, hshl, go_sem])) | (with_reducible refine aNk ?_; intro bnil hnil; try simp only []) | exact aZ | fail))
  all_goals first | omega | skip
  refine awp_loop _ (by simp only [go_sem]; rfl) Nat (fun j => j ≤ 2 ^ n.init.length) (fun j => [(7, .one (.own 2)), (23, .one (.int .u32 j))]) (fun j _ => [.var 30 [.list (ints n.init), .list (trsD n.trs)], .row 27 1 [], .row 27 1 (wordsD (masksL j))]) (fun j => 2 ^ n.init.length - j) 0 (by omega) ?_ ?_
  ·have e0 : wordsD (masksL 0) = [] := rfl
   rw [e0]
   (simp only [SubF, go_sem]; (try simp only [go_sem]); repeat' (first | exact True.intro | with_reducible refine And.intro ?_ ?_ | rfl | omega))
  rintro j hj L hL
  have hml : (masksL j).length = j - 1 := by simp [masksL]
  have hset := Set_c j (by omega)
  by_cases hlt : j < 2 ^ n.init.length
  ·(simp only [go_sem] at hL ⊢)
   (repeat' (first | (with_reducible first | exact True.intro | refine And.intro ?_ ?_ | refine aBl ?_ | (refine aS 13 [22, 23, 37, 36, 38] ?_; intro K hK)) | ((with_reducible first | refine aGo ?_ | refine rP Ty_ok mixed 17 [0] [.mid [pe 1, pe 2, pe 3, pe 4, pe 5, ⟨6, 0, true, false, false, [], []⟩, ⟨7, 1, false, false, false, [], []⟩, ⟨8, 1, false, false, false, [0], []⟩, ⟨9, 1, false, false, false, [0], []⟩, ⟨10, 1, false, false, false, [], []⟩, ⟨11, 1, false, false, false, [], []⟩] 1] ?_); simp only [hshl, go_sem]) | ((with_reducible refine aCd ?_ ?_ (fun hb => ?_) (fun hb => ?_)); (iterate 2 simp only [hshl, go_sem]); all_goals (simp only [hshl, go_sem] at hb; try simp only [bls] at hb)) | ((iterate 6 try ((fail_if_success with_reducible refine hK _ ?_ ?_ ?_); clear hK K)); with_reducible refine hK _ ?_ ?_ ?_; rotate_left; (focus (simp only [hshl, go_sem]; exact rfl)); clear hK K) | ((first | (with_reducible first | refine xA ?_ | refine xD ?_ | refine xO ?_ | refine xR ?_ | refine xG ?_ | refine xH ?_ | refine xM ?_) | ((with_reducible refine gA ?_); refine xA ?_) | ((with_reducible refine gD ?_); refine xD ?_) | ((with_reducible refine gG ?_); refine xG ?_)); simp only [hshl, go_sem]) | (with_reducible refine aGs (fun hg0 => ?_) (fun hg0 => ?_) <;> first | (with_reducible first | exact aF1 hg0 | exact aF2 hg0) | (simp only [hg0, hshl, go_sem])) | (with_reducible refine aNk ?_; intro bnil hnil; try simp only []) | exact aZ | fail))
   all_goals first | omega | skip
   ·have hs := masksL_succ j (by omega)
    rw [words_one, words_append, ← hs]
    exact hL _ (j + 1) (by omega) (by (simp only [SubF, go_sem]; (try simp only [go_sem]); repeat' (first | exact True.intro | with_reducible refine And.intro ?_ ?_ | rfl | omega))) (by omega)
   ·have hs : masksL (j + 1) = masksL j := by
     have : j = 0 := by omega
     subst this; rfl
    rw [← hs]
    exact hL _ (j + 1) (by omega) (by (simp only [SubF, go_sem]; (try simp only [go_sem]); repeat' (first | exact True.intro | with_reducible refine And.intro ?_ ?_ | rfl | omega))) (by omega)
  ·have hjp : j = 2 ^ n.init.length := by omega
   subst hjp
   rw [masksL_all n.init.length (by omega)]
   (simp only [go_sem] at hL ⊢)
   (repeat' (first | (with_reducible first | exact True.intro | refine And.intro ?_ ?_ | refine aBl ?_ | (refine aS 13 [22, 23, 37, 36, 38] ?_; intro K hK)) | ((with_reducible first | refine aGo ?_ | refine rP Ty_ok mixed 17 [0] [.mid [pe 1, pe 2, pe 3, pe 4, pe 5, ⟨6, 0, true, false, false, [], []⟩, ⟨7, 1, false, false, false, [], []⟩, ⟨8, 1, false, false, false, [0], []⟩, ⟨9, 1, false, false, false, [0], []⟩, ⟨10, 1, false, false, false, [], []⟩, ⟨11, 1, false, false, false, [], []⟩] 1] ?_); simp only [hshl, go_sem]) | ((with_reducible refine aCd ?_ ?_ (fun hb => ?_) (fun hb => ?_)); (iterate 2 simp only [hshl, go_sem]); all_goals (simp only [hshl, go_sem] at hb; try simp only [bls] at hb)) | ((iterate 6 try ((fail_if_success with_reducible refine hK _ ?_ ?_ ?_); clear hK K)); with_reducible refine hK _ ?_ ?_ ?_; rotate_left; (focus (simp only [hshl, go_sem]; exact rfl)); clear hK K) | ((first | (with_reducible first | refine xA ?_ | refine xD ?_ | refine xO ?_ | refine xR ?_ | refine xG ?_ | refine xH ?_ | refine xM ?_) | ((with_reducible refine gA ?_); refine xA ?_) | ((with_reducible refine gD ?_); refine xD ?_) | ((with_reducible refine gG ?_); refine xG ?_)); simp only [hshl, go_sem]) | (with_reducible refine aGs (fun hg0 => ?_) (fun hg0 => ?_) <;> first | (with_reducible first | exact aF1 hg0 | exact aF2 hg0) | (simp only [hg0, hshl, go_sem])) | (with_reducible refine aNk ?_; intro bnil hnil; try simp only []) | exact aZ | fail))
   all_goals first | omega | skip
   (refine MCallAt_i [] [2] (hsort) ?_ ?_; (focus (simp only [mside, handOk, go_sem]; (first | done | exact (by decide) | exact ⟨by decide, fun t ht => ht.elim⟩ | (refine ⟨by decide, ?_⟩; simp; done)))); simp only [go_sem])
   (repeat' (first | (with_reducible first | exact True.intro | refine And.intro ?_ ?_ | refine aBl ?_ | (refine aS 13 [22, 23, 37, 36, 38] ?_; intro K hK)) | ((with_reducible first | refine aGo ?_ | refine rP Ty_ok mixed 17 [0] [.mid [pe 1, pe 2, pe 3, pe 4, pe 5, ⟨6, 0, true, false, false, [], []⟩, ⟨7, 1, false, false, false, [], []⟩, ⟨8, 1, false, false, false, [0], []⟩, ⟨9, 1, false, false, false, [0], []⟩, ⟨10, 1, false, false, false, [], []⟩, ⟨11, 1, false, false, false, [], []⟩] 1] ?_); simp only [go_sem]) | ((with_reducible refine aCd ?_ ?_ (fun hb => ?_) (fun hb => ?_)); (iterate 2 simp only [go_sem]); all_goals (simp only [go_sem] at hb; try simp only [bls] at hb)) | ((iterate 6 try ((fail_if_success with_reducible refine hK _ ?_ ?_ ?_); clear hK K)); with_reducible refine hK _ ?_ ?_ ?_; rotate_left; (focus (simp only [go_sem]; exact rfl)); clear hK K) | (with_reducible refine aGs (fun hg0 => ?_) (fun hg0 => ?_) <;> first | (with_reducible first | exact aF1 hg0 | exact aF2 hg0) | (simp only [hg0, go_sem])) | (with_reducible refine aNk ?_; intro bnil hnil; try simp only []) | exact aZ | fail))
   clear hL hsort hset hml
   have hyl := setsY_length n.init.length
   refine awp_loop _ (by simp only [go_sem]; rfl) (Nat × List (List Int)) (fun u => u.1 ≤ (setsY n.init.length).length ∧ u.2.length ≤ u.1 ∧ (∀ x ∈ u.2, x.length ≤ 10) ∧ minL k n = pickL k n.trs ((setsY n.init.length).drop u.1) u.2) (fun u => [(9, .one (.own 3)), (38, .one (.int .i64 u.1))]) (fun u _ => [.var 30 [.list (ints n.init), .list (trsD n.trs)], .row 27 1 [], .row 27 1 (wordsD (setsY n.init.length)), .row 27 1 (wordsD u.2)]) (fun u => (setsY n.init.length).length - u.1) (0, []) ⟨Nat.zero_le _, Nat.le_refl _, fun x hx => by simp at hx, rfl⟩ ?_ ?_
   ·(simp only [SubF, go_sem]; (try simp only [go_sem]); repeat' (first | exact True.intro | with_reducible refine And.intro ?_ ?_ | rfl | omega))
   rintro ⟨i, out⟩ ⟨hi, hol, hox, hres⟩ L hL
   simp only at hi hol hox hres
   have hq : ((i : Nat) : Int).toNat = i := by omega
   by_cases hil : i < (setsY n.init.length).length
   ·have hw := words_at (l := setsY n.init.length) hil []
    have hel := setsY_el (getD_mem (setsY n.init.length) i [] hil)
    have hst := drop_getD (setsY n.init.length) i [] hil
    rw [hst, pickL] at hres
    generalize (setsY n.init.length).getD i [] = s at hw hel hres
    have hcf := ContainsFuncWords_c out 27 [.ref [.list (ints s)]] (fun x => inB x s) (by omega) (capsOk_ref1 _) (fun x hx => Min2_c x s (by have := hox x hx; omega))
    have hrd := reduce_c n s k hf (by omega) (hel.2.1.imp fun h => Int.le_of_lt h)
    have hid := redL_id_iff k n.trs s
    simp only [Net.d] at hrd
    (simp only [go_sem] at hL ⊢)
    (repeat' (first | (with_reducible first | exact True.intro | refine And.intro ?_ ?_ | refine aBl ?_ | (refine aS 13 [22, 23, 37, 36, 38] ?_; intro K hK)) | ((with_reducible first | refine aGo ?_ | refine rP Ty_ok mixed 17 [0] [.mid [pe 1, pe 2, pe 3, pe 4, pe 5, ⟨6, 0, true, false, false, [], []⟩, ⟨7, 1, false, false, false, [], []⟩, ⟨8, 1, false, false, false, [0], []⟩, ⟨9, 1, false, false, false, [0], []⟩, ⟨10, 1, false, false, false, [], []⟩, ⟨11, 1, false, false, false, [], []⟩] 1] ?_); simp only [hq, hw, go_sem]) | ((with_reducible refine aCd ?_ ?_ (fun hb => ?_) (fun hb => ?_)); (iterate 2 simp only [hq, hw, go_sem]); all_goals (simp only [hq, hw, go_sem] at hb; try simp only [bls] at hb)) | ((iterate 6 try ((fail_if_success with_reducible refine hK _ ?_ ?_ ?_); clear hK K)); with_reducible refine hK _ ?_ ?_ ?_; rotate_left; (focus (simp only [hq, hw, go_sem]; exact rfl)); clear hK K) | ((first | (with_reducible first | refine xA ?_ | refine xD ?_ | refine xO ?_ | refine xR ?_ | refine xG ?_ | refine xH ?_ | refine xM ?_) | ((with_reducible refine gA ?_); refine xA ?_) | ((with_reducible refine gD ?_); refine xD ?_) | ((with_reducible refine gG ?_); refine xG ?_)); simp only [hq, hw, go_sem]) | (with_reducible refine aGs (fun hg0 => ?_) (fun hg0 => ?_) <;> first | (with_reducible first | exact aF1 hg0 | exact aF2 hg0) | (simp only [hg0, hq, hw, go_sem])) | (with_reducible refine aNk ?_; intro bnil hnil; try simp only []) | exact aZ | fail))
    all_goals first | omega | skip
    ·have hc : (!out.any (fun x => inB x s) && isL k n.trs s) = true := by
      rw [hb.1, hid.1 (by omega)]; rfl
     rw [if_pos hc] at hres
     rw [words_one, words_append]
     exact hL _ (i + 1, out ++ [s]) ⟨by simp only; omega, by simp only [List.length_append, List.length_singleton]; omega, fun x hx => by
      simp only at hx
      rcases List.mem_append.1 hx with hx | hx
      ·exact hox x hx
      ·simp at hx; subst hx; omega, hres⟩ (by (simp only [SubF, go_sem]; (try simp only [go_sem]); repeat' (first | exact True.intro | with_reducible refine And.intro ?_ ?_ | rfl | omega))) (by simp only; omega)
    ·have hc : ¬ (!out.any (fun x => inB x s) && isL k n.trs s) = true := by
      intro hc
      simp only [Bool.and_eq_true, Bool.not_eq_true'] at hc
      have := hid.2 hc.2
      rcases hb with hb | hb
      ·rw [hc.1] at hb; cases hb
      ·omega
     rw [if_neg hc] at hres
     exact hL _ (i + 1, out) ⟨by simp only; omega, by simp only; omega, hox, hres⟩ (by (simp only [SubF, go_sem]; (try simp only [go_sem]); repeat' (first | exact True.intro | with_reducible refine And.intro ?_ ?_ | rfl | omega))) (by simp only; omega)
   ·(simp only [go_sem] at hL ⊢)
    (repeat' (first | (with_reducible first | exact True.intro | refine And.intro ?_ ?_ | refine aBl ?_ | (refine aS 13 [22, 23, 37, 36, 38] ?_; intro K hK)) | ((with_reducible first | refine aGo ?_ | refine rP Ty_ok mixed 17 [0] [.mid [pe 1, pe 2, pe 3, pe 4, pe 5, ⟨6, 0, true, false, false, [], []⟩, ⟨7, 1, false, false, false, [], []⟩, ⟨8, 1, false, false, false, [0], []⟩, ⟨9, 1, false, false, false, [0], []⟩, ⟨10, 1, false, false, false, [], []⟩, ⟨11, 1, false, false, false, [], []⟩] 1] ?_); simp only [go_sem]) | ((with_reducible refine aCd ?_ ?_ (fun hb => ?_) (fun hb => ?_)); (iterate 2 simp only [go_sem]); all_goals (simp only [go_sem] at hb; try simp only [bls] at hb)) | ((iterate 6 try ((fail_if_success with_reducible refine hK _ ?_ ?_ ?_); clear hK K)); with_reducible refine hK _ ?_ ?_ ?_; rotate_left; (focus (simp only [go_sem]; exact rfl)); clear hK K) | (with_reducible refine aGs (fun hg0 => ?_) (fun hg0 => ?_) <;> first | (with_reducible first | exact aF1 hg0 | exact aF2 hg0) | (simp only [hg0, go_sem])) | (with_reducible refine aNk ?_; intro bnil hnil; try simp only []) | exact aZ | fail))
    all_goals first | omega | skip
    rw [hres, drop_end _ i (by omega)]; rfl
 ·rw [if_neg he]
  (refine ACalls.of_body Ty_ok mixed Tryd.func10 rfl (by kernel_rfl) Tryd.ntmps10 (by simp) (congrArg Array.toList Tryd.results10) ?_)
  simp only [slotsOf, Net.d]
  simp only [Net.d] at h1
  (repeat' (first | (with_reducible first | exact True.intro | refine And.intro ?_ ?_ | refine aBl ?_ | (refine aS 13 [22, 23, 37, 36, 38] ?_; intro K hK)) | ((with_reducible first | refine aGo ?_ | refine rP Ty_ok mixed 17 [0] [.mid [pe 1, pe 2, pe 3, pe 4, pe 5, ⟨6, 0, true, false, false, [], []⟩, ⟨7, 1, false, false, false, [], []⟩, ⟨8, 1, false, false, false, [0], []⟩, ⟨9, 1, false, false, false, [0], []⟩, ⟨10, 1, false, false, false, [], []⟩, ⟨11, 1, false, false, false, [], []⟩] 1] ?_); simp only [go_sem]) | ((with_reducible refine aCd ?_ ?_ (fun hb => ?_) (fun hb => ?_)); (iterate 2 simp only [go_sem]); all_goals (simp only [go_sem] at hb; try simp only [bls] at hb)) | ((iterate 6 try ((fail_if_success with_reducible refine hK _ ?_ ?_ ?_); clear hK K)); with_reducible refine hK _ ?_ ?_ ?_; rotate_left; (focus (simp only [go_sem]; exact rfl)); clear hK K) | ((first | (with_reducible first | refine xA ?_ | refine xD ?_ | refine xO ?_ | refine xR ?_ | refine xG ?_ | refine xH ?_ | refine xM ?_) | ((with_reducible refine gA ?_); refine xA ?_) | ((with_reducible refine gD ?_); refine xD ?_) | ((with_reducible refine gG ?_); refine xG ?_)); simp only [go_sem]) | (with_reducible refine aGs (fun hg0 => ?_) (fun hg0 => ?_) <;> first | (with_reducible first | exact aF1 hg0 | exact aF2 hg0) | (simp only [hg0, go_sem])) | (with_reducible refine aNk ?_; intro bnil hnil; try simp only []) | exact aZ | fail))
  all_goals first | omega | rfl | skip
/-! Commoner's condition -/
def comF (n : Net) : List (List Int) → Option (List Int)
 | [] => none
 | s :: l => if sumAt n.init (redL 2 n.trs s) = 0 then some s else comF n l
def comO (n : Net) : Option (List Int) := comF n (minL 1 n)
def comS (n : Net) : List Int := if siE n [] 1 = 0 then (comO n).getD [] else []
def comH (n : Net) : Bool := decide (siE n [] 1 = 0) && (comO n).isNone
theorem minL_el {k : Int} {n : Net} {s : List Int} (h : s ∈ minL k n) : s ∈ setsY n.init.length ∧ isL k n.trs s = true := by
 rcases pickL_sub k n.trs _ _ s h with h | h
 ·simp at h
 ·exact h
theorem minL_length (k : Int) (n : Net) : (minL k n).length ≤ 2 ^ n.init.length - 1 := by
 have := pickL_len k n.trs (setsY n.init.length) []
 rw [setsY_length, List.length_nil, Nat.zero_add] at this
 exact this
set_option maxHeartbeats 16000000 in
theorem Commoner_c (n : Net) (hf : n.Fits) (h0 : siE n [] 1 = 0 → n.init ≠ []) : ACalls Tryd.prog 9 [.agg n.d] (.tup [.one (.list (ints (comS n))), .one (.bool (comH n)), .one (.int .i64 (siE n [] 1))]) [] := by
 have h1 := Minimal_c n 1 hf h0
 by_cases he : siE n [] 1 = 0
 ·have hok := netOk_of (siE_ok he).1
  have hp10 : n.init.length ≤ 10 := hok.init
  have hpow : 2 ^ n.init.length ≤ 1024 := Nat.le_trans (Nat.pow_le_pow_right (by omega) hp10) (by decide)
  have hml := minL_length 1 n
  rw [if_pos he] at h1
  rw [he]
  unfold comS comH
  rw [if_pos he, decide_eq_true he, Bool.true_and]
  simp only [Net.d] at h1
  (refine ACalls.of_body Ty_ok mixed Tryd.func9 rfl (by kernel_rfl) Tryd.ntmps9 (by simp) (congrArg Array.toList Tryd.results9) ?_)
  simp only [slotsOf, Net.d]
  (repeat' (first | (with_reducible first | exact True.intro | refine And.intro ?_ ?_ | refine aBl ?_ | (refine aS 8 [17, 16, 18] ?_; intro K hK)) | ((with_reducible first | refine aGo ?_ | refine rP Ty_ok mixed 7 [0, 3] [.mid [pe 1, pe 2, ⟨4, 0, true, false, false, [], []⟩] 1, .one 5, .one 6] ?_); simp only [he, go_sem]) | ((with_reducible refine aCd ?_ ?_ (fun hb => ?_) (fun hb => ?_)); (iterate 2 simp only [he, go_sem]); all_goals (simp only [he, go_sem] at hb; try simp only [bls] at hb)) | ((iterate 6 try ((fail_if_success with_reducible refine hK _ ?_ ?_ ?_); clear hK K)); with_reducible refine hK _ ?_ ?_ ?_; rotate_left; (focus (simp only [he, go_sem]; exact rfl)); clear hK K) | ((first | (with_reducible first | refine xA ?_ | refine xD ?_ | refine xO ?_ | refine xR ?_ | refine xG ?_ | refine xH ?_ | refine xM ?_) | ((with_reducible refine gA ?_); refine xA ?_) | ((with_reducible refine gD ?_); refine xD ?_) | ((with_reducible refine gG ?_); refine xG ?_)); simp only [he, go_sem]) | (with_reducible refine aGs (fun hg0 => ?_) (fun hg0 => ?_) <;> first | (with_reducible first | exact aF1 hg0 | exact aF2 hg0) | (simp only [hg0, he, go_sem])) | (with_reducible refine aNk ?_; intro bnil hnil; try simp only []) | exact aZ | fail))
  all_goals first | omega | skip
  refine awp_loop _ (by simp only [go_sem]; rfl) Nat (fun i => i ≤ (minL 1 n).length ∧ comO n = comF n ((minL 1 n).drop i)) (fun i => [(18, .one (.int .i64 i))]) (fun _ H => H) (fun i => (minL 1 n).length - i) 0 ⟨Nat.zero_le _, rfl⟩ ?_ ?_
  ·(simp only [SubF, go_sem]; (try simp only [go_sem]); repeat' (first | exact True.intro | with_reducible refine And.intro ?_ ?_ | rfl | omega))
  rintro i ⟨hi, hres⟩ L hL
  have hq : ((i : Nat) : Int).toNat = i := by omega
  by_cases hil : i < (minL 1 n).length
  ·have hw := words_at (l := minL 1 n) hil [.nil]
   have hel := setsY_el (minL_el (getD_mem (minL 1 n) i [] hil)).1
   have hst := drop_getD (minL 1 n) i [] hil
   rw [hst, comF] at hres
   generalize (minL 1 n).getD i [] = s at hw hel hres
   have hrd := reduce_c n s 2 hf (by omega) (hel.2.1.imp fun h => Int.le_of_lt h)
   have hsub := redL_sub 2 n.trs s
   have htk := siTokens_c n.init (redL 2 n.trs s) hok.tok (fun x hx => hel.2.2 x (hsub.subset hx)) (by have := hsub.length_le; omega) (by omega)
   simp only [Net.d] at hrd
   (simp only [go_sem] at hL ⊢)
   (repeat' (first | (with_reducible first | exact True.intro | refine And.intro ?_ ?_ | refine aBl ?_ | (refine aS 8 [17, 16, 18] ?_; intro K hK)) | ((with_reducible first | refine aGo ?_ | refine rP Ty_ok mixed 7 [0, 3] [.mid [pe 1, pe 2, ⟨4, 0, true, false, false, [], []⟩] 1, .one 5, .one 6] ?_); simp only [hq, hw, go_sem]) | ((with_reducible refine aCd ?_ ?_ (fun hb => ?_) (fun hb => ?_)); (iterate 2 simp only [hq, hw, go_sem]); all_goals (simp only [hq, hw, go_sem] at hb; try simp only [bls] at hb)) | ((iterate 6 try ((fail_if_success with_reducible refine hK _ ?_ ?_ ?_); clear hK K)); with_reducible refine hK _ ?_ ?_ ?_; rotate_left; (focus (simp only [hq, hw, go_sem]; exact rfl)); clear hK K) | ((first | (with_reducible first | refine xA ?_ | refine xD ?_ | refine xO ?_ | refine xR ?_ | refine xG ?_ | refine xH ?_ | refine xM ?_) | ((with_reducible refine gA ?_); refine xA ?_) | ((with_reducible refine gD ?_); refine xD ?_) | ((with_reducible refine gG ?_); refine xG ?_)); simp only [hq, hw, go_sem]) | (with_reducible refine aGs (fun hg0 => ?_) (fun hg0 => ?_) <;> first | (with_reducible first | exact aF1 hg0 | exact aF2 hg0) | (simp only [hg0, hq, hw, go_sem])) | (with_reducible refine aNk ?_; intro bnil hnil; try simp only []) | exact aZ | fail))
   all_goals first | omega | skip
   ·rw [hres, if_pos hb]; rfl
   ·rw [hres, if_pos hb]; rfl
   ·rw [if_neg hb] at hres
    exact hL _ (i + 1) ⟨by omega, hres⟩ (by (simp only [SubF, go_sem]; (try simp only [go_sem]); repeat' (first | exact True.intro | with_reducible refine And.intro ?_ ?_ | rfl | omega))) (by omega)
  ·rw [drop_end _ i (by omega)] at hres
   (simp only [go_sem] at hL ⊢)
   (repeat' (first | (with_reducible first | exact True.intro | refine And.intro ?_ ?_ | refine aBl ?_ | (refine aS 8 [17, 16, 18] ?_; intro K hK)) | ((with_reducible first | refine aGo ?_ | refine rP Ty_ok mixed 7 [0, 3] [.mid [pe 1, pe 2, ⟨4, 0, true, false, false, [], []⟩] 1, .one 5, .one 6] ?_); simp only [go_sem]) | ((with_reducible refine aCd ?_ ?_ (fun hb => ?_) (fun hb => ?_)); (iterate 2 simp only [go_sem]); all_goals (simp only [go_sem] at hb; try simp only [bls] at hb)) | ((iterate 6 try ((fail_if_success with_reducible refine hK _ ?_ ?_ ?_); clear hK K)); with_reducible refine hK _ ?_ ?_ ?_; rotate_left; (focus (simp only [go_sem]; exact rfl)); clear hK K) | (with_reducible refine aGs (fun hg0 => ?_) (fun hg0 => ?_) <;> first | (with_reducible first | exact aF1 hg0 | exact aF2 hg0) | (simp only [hg0, go_sem])) | (with_reducible refine aNk ?_; intro bnil hnil; try simp only []) | exact aZ | fail))
   all_goals first | omega | (rw [hres]; rfl)
 ·unfold comS comH
  rw [if_neg he, decide_eq_false he, Bool.false_and]
  rw [if_neg he] at h1
  simp only [Net.d] at h1
  (refine ACalls.of_body Ty_ok mixed Tryd.func9 rfl (by kernel_rfl) Tryd.ntmps9 (by simp) (congrArg Array.toList Tryd.results9) ?_)
  simp only [slotsOf, Net.d]
  (repeat' (first | (with_reducible first | exact True.intro | refine And.intro ?_ ?_ | refine aBl ?_ | (refine aS 8 [17, 16, 18] ?_; intro K hK)) | ((with_reducible first | refine aGo ?_ | refine rP Ty_ok mixed 7 [0, 3] [.mid [pe 1, pe 2, ⟨4, 0, true, false, false, [], []⟩] 1, .one 5, .one 6] ?_); simp only [go_sem]) | ((with_reducible refine aCd ?_ ?_ (fun hb => ?_) (fun hb => ?_)); (iterate 2 simp only [go_sem]); all_goals (simp only [go_sem] at hb; try simp only [bls] at hb)) | ((iterate 6 try ((fail_if_success with_reducible refine hK _ ?_ ?_ ?_); clear hK K)); with_reducible refine hK _ ?_ ?_ ?_; rotate_left; (focus (simp only [go_sem]; exact rfl)); clear hK K) | ((first | (with_reducible first | refine xA ?_ | refine xD ?_ | refine xO ?_ | refine xR ?_ | refine xG ?_ | refine xH ?_ | refine xM ?_) | ((with_reducible refine gA ?_); refine xA ?_) | ((with_reducible refine gD ?_); refine xD ?_) | ((with_reducible refine gG ?_); refine xG ?_)); simp only [go_sem]) | (with_reducible refine aGs (fun hg0 => ?_) (fun hg0 => ?_) <;> first | (with_reducible first | exact aF1 hg0 | exact aF2 hg0) | (simp only [hg0, go_sem])) | (with_reducible refine aNk ?_; intro bnil hnil; try simp only []) | exact aZ | fail))
  all_goals first | omega | rfl | skip
end Go.Proofs.YtljpfdehnjemlaaDoor
