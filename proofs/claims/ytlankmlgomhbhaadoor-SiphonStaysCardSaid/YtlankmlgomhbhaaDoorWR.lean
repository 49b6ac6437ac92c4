/-
 Chapter 49: the law's statement SiphonStays.
-/
import Derived.Test.YtlankmlgomhbhaaDoorWM
import Derived.Test.YtlankmlgomhbhaaDoorSB
set_option linter.unusedSimpArgs false
set_option linter.unusedVariables false
namespace Go.Proofs.YtlankmlgomhbhaaDoor
open Go.Eng Go.RowKit
theorem shape_net (s : Nat → Int) (hs : Bytes s) : (makeNet s).Fits ∧ NetOk (makeNet s) ∧ 1 ≤ (makeNet s).init.length ∧ (makeNet s).init.length ≤ 5 ∧ netE (makeNet s) = 0 ∧ (makeNet s).init ≠ [] := by
 have h := makeNet_ok s hs
 have hok := netOk_of h
 have hl : (makeNet s).init.length = np s := initL_length s (np s)
 have h0 := (hs 0)
 have hl1 : 1 ≤ np s ∧ np s ≤ 5 := by
  unfold np
  omega
 exact ⟨hok.fits, hok, by omega, by omega, h, by intro e; rw [e] at hl; simp at hl; omega⟩
/-! what a transition does to a siphon, and to a trap -/
theorem sumAt_cons (m : List Int) (p : Int) (s : List Int) : sumAt m (p :: s) = m.getD p.toNat 0 + sumAt m s := by
 have key : ∀ (l : List Int) (a : Int), l.foldl (fun a p => a + m.getD p.toNat 0) a = a + l.foldl (fun a p => a + m.getD p.toNat 0) 0 := by
  intro l
  induction l with
  | nil => intro a; simp
  | cons x l ih =>
   intro a
   rw [List.foldl_cons, List.foldl_cons, ih, ih (0 + _)]
   omega
 unfold sumAt
 rw [List.foldl_cons, key]
 omega
theorem sumAt_nonneg {m : List Int} (hm : ∀ x ∈ m, 0 ≤ x) : ∀ s : List Int, 0 ≤ sumAt m s
 | [] => Int.le_refl _
 | p :: s => by
  rw [sumAt_cons]
  have := sumAt_nonneg hm s
  have : 0 ≤ m.getD p.toNat 0 := by
   generalize p.toNat = k
   by_cases hk : k < m.length
   ·exact hm _ (getD_mem m k 0 hk)
   ·simp [List.getD, List.getElem?_eq_none (Nat.le_of_not_lt hk)]
  omega
theorem sumAt_ge {m : List Int} (hm : ∀ x ∈ m, 0 ≤ x) : ∀ {s : List Int} {p : Int}, p ∈ s → m.getD p.toNat 0 ≤ sumAt m s
 | q :: s, p, h => by
  rw [sumAt_cons]
  have h1 := sumAt_nonneg hm s
  rcases List.mem_cons.1 h with rfl | h
  ·omega
  ·have h2 := sumAt_ge hm h
   have : 0 ≤ m.getD q.toNat 0 := by
    generalize q.toNat = k
    by_cases hk : k < m.length
    ·exact hm _ (getD_mem m k 0 hk)
    ·simp [List.getD, List.getElem?_eq_none (Nat.le_of_not_lt hk)]
   omega
theorem sumAt_mono {m k : List Int} : ∀ {s : List Int}, (∀ p ∈ s, m.getD p.toNat 0 ≤ k.getD p.toNat 0) → sumAt m s ≤ sumAt k s
 | [], _ => Int.le_refl _
 | p :: s, h => by
  rw [sumAt_cons, sumAt_cons]
  have := h p (by simp)
  have := sumAt_mono fun q hq => h q (List.mem_cons_of_mem _ hq)
  omega
theorem wsum_free {l : List Arc} {s : List Int} (hl : ∀ a ∈ l, 0 ≤ a.place) (h : touchL l s = false) {p : Int} (hp : p ∈ s) (h0 : 0 ≤ p) : wsum l p.toNat = 0 :=
 wsum_zero l _ fun a ha e => by
  have h1 := hl a ha
  have : a.place = p := by omega
  have : touchL l s = true := (touchL_iff _ _).2 ⟨a, ha, by rw [this]; exact hp⟩
  rw [h] at this
  cases this
theorem siphon_stays {m s : List Int} {t : Tr} (h1 : ArcsIn m.length t.inn) (h2 : ArcsIn m.length t.out) (he : enB m t = true) (hm : ∀ x ∈ m, 0 ≤ x) (hs : ∀ p ∈ s, 0 ≤ p)
  (hk : touchL t.out s = true → touchL t.inn s = true) (hz : sumAt m s = 0) : sumAt (firedL t m) s = 0 := by
 have hin : touchL t.inn s = false := by
  cases h : touchL t.inn s with
  | false => rfl
  | true =>
   obtain ⟨a, ha, hp⟩ := (touchL_iff _ _).1 h
   have hle := sumAt_ge hm hp
   rw [enB, Bool.not_eq_true', List.any_eq_false] at he
   have := he a ha
   have hw := h1.weight a ha
   simp only [lacksB, decide_eq_true_eq] at this
   omega
 have hout : touchL t.out s = false := by
  cases h : touchL t.out s with
  | false => rfl
  | true => rw [hk h] at hin; cases hin
 have hsame : ∀ p ∈ s, (firedL t m).getD p.toNat 0 = m.getD p.toNat 0 := fun p hp => by
  rw [firedL_getD h1 h2, wsum_free (fun a ha => (h1.place a ha).1) hin hp (hs p hp), wsum_free (fun a ha => (h2.place a ha).1) hout hp (hs p hp)]
  omega
 have := sumAt_mono (m := firedL t m) (k := m) fun p hp => Int.le_of_eq (hsame p hp)
 have := sumAt_mono (m := m) (k := firedL t m) fun p hp => Int.le_of_eq (hsame p hp).symm
 omega
theorem trap_stays {m s : List Int} {t : Tr} (h1 : ArcsIn m.length t.inn) (h2 : ArcsIn m.length t.out) (hf : ∀ x ∈ firedL t m, 0 ≤ x) (he : enB m t = true) (hm : ∀ x ∈ m, 0 ≤ x) (hs : ∀ p ∈ s, 0 ≤ p ∧ p < m.length)
  (hk : touchL t.inn s = true → touchL t.out s = true) (hz : 0 < sumAt m s) : 0 < sumAt (firedL t m) s := by
 cases hin : touchL t.inn s with
 | true =>
  obtain ⟨a, ha, hp⟩ := (touchL_iff _ _).1 (hk hin)
  have hle := sumAt_ge hf hp
  have h3 := firedL_getD h1 h2 a.place.toNat
  have h4 := enB_wsum h1 he a.place.toNat (hm _ (getD_mem m _ 0 (by have := hs _ hp; omega)))
  have h5 := wsum_mem (fun b hb => (h2.weight b hb).1) ha
  have h6 := h2.weight a ha
  omega
 | false =>
  have := sumAt_mono (m := m) (k := firedL t m) (s := s) fun p hp => by
   rw [firedL_getD h1 h2, wsum_free (fun a ha => (h1.place a ha).1) hin hp (hs p hp).1]
   have := wsum_nonneg (fun b hb => (h2.weight b hb).1) p.toNat
   omega
  omega
theorem and_u8 (a b : Nat) (ha : a < 256) (hb : b < 256) : bitV .and .u8 (a : Int) (b : Int) = ((a &&& b : Nat) : Int) := by
 have hlt : a &&& b < 256 := Nat.lt_of_le_of_lt Nat.and_le_left ha
 have e : (BitVec.ofInt IntKind.u8.bits (a : Int) &&& BitVec.ofInt IntKind.u8.bits (b : Int)).toNat = a &&& b := by
  rw [ofInt_nat, ofInt_nat, BitVec.toNat_and, BitVec.toNat_ofNat, BitVec.toNat_ofNat]
  show (a % 256) &&& (b % 256) = _
  rw [Nat.mod_eq_of_lt ha, Nat.mod_eq_of_lt hb]
 simp only [bitV, e]
 exact wrap_u8 _ (by omega) (by omega)
theorem bit_u8 (m k : Nat) (hm : m < 256) (hk : k < 8) : bitV .and .u8 ((m : Int).fdiv (2 ^ min k 8)) 1 = 1 ↔ m.testBit k = true := by
 rw [Nat.min_eq_left (by omega), fdiv_nat, show (1 : Int) = ((1 : Nat) : Int) from rfl, and_u8 _ _ (Nat.lt_of_le_of_lt (Nat.div_le_self _ _) hm) (by omega), Nat.testBit_eq_decide_div_mod_eq, decide_eq_true_iff, Nat.and_one_is_mod]
 generalize m / 2 ^ k = q
 omega
def smallK (tk : Nat → Int) (k : Nat) : List Int := (List.range k).map fun p => tk p % 4
theorem smallK_succ (tk : Nat → Int) (k : Nat) : smallK tk (k + 1) = smallK tk k ++ [tk k % 4] := by simp [smallK, List.range_succ]
theorem smallK_length (tk : Nat → Int) (k : Nat) : (smallK tk k).length = k := by simp [smallK]
theorem smallK_in (tk : Nat → Int) (k : Nat) : ∀ x ∈ smallK tk k, 0 ≤ x ∧ x ≤ 3 := by
 intro x hx
 obtain ⟨p, _, rfl⟩ := List.mem_map.1 hx
 omega
set_option maxRecDepth 100000 in
set_option maxHeartbeats 16000000 in
theorem SiphonStays_c (s : Nat → Int) (hs : Bytes s) (tk a : Nat → Int) (htk : Bytes tk) (ha : Bytes a) : ACalls Tryd.prog 4 [.agg (bytesD 37 s), .agg (bytesD 5 tk), .agg (bytesD 2 a)] (.one (.bool true)) [] := by
 obtain ⟨hf, hok, hp1, hp5, hE, hne⟩ := shape_net s hs
 have hmk := Make_c s hs
 have hKn := known_c
 generalize makeNet s = n at *
 simp only [Net.d] at hmk
 by_cases ht0 : n.trs.length = 0
 ·(refine ACalls.of_body Ty_ok mixed Tryd.func4 rfl (by kernel_rfl) Tryd.ntmps4 (by simp) (congrArg Array.toList Tryd.results4) ?_)
  simp only [slotsOf]
  (repeat' (first | (with_reducible first | exact True.intro | refine And.intro ?_ ?_ | refine awp_block ?_ | ((first | refine awp_seq1 22 [32, 33] ?_ | refine awp_seq2 22 [32, 33] ?_ | refine awp_seq3 22 [32, 33] ?_ | refine awp_seq4 22 [32, 33] ?_ | refine awp_seq 22 [32, 33] ?_); intro K hK)) | ((with_reducible first | refine awp_reg ?_ | refine awp_exit ?_ | refine awp_skip ?_ | refine likeK_i ?_ | refine rP Ty_ok mixed 14 [1, 5] [.mid [pe 0, pe 2, pe 3, pe 4, pe 6, pe 7, pe 8] 0, .one 9, .mid [pe 10, pe 11, pe 12, pe 13, pe 14, pe 15, pe 16] 0] ?_); simp only [go_sem]) | (with_reducible refine awp_ret ?_; simp only [retF, retM, retL, resV, resW, retO, resAV, AV.bor, D.bor, D.bor1, D.bor0, AV.flatOwn, D.flatOwn, D.flat, AV.tagged, D.tagged, AObj.plain, go_sem]) | ((with_reducible refine awp_cond' ?_ ?_ (fun hb => ?_) (fun hb => ?_)); (simp only [go_sem]); (simp only [go_sem]); all_goals (simp only [go_sem] at hb; try simp only [bls] at hb)) | ((iterate 6 try ((fail_if_success with_reducible refine hK _ ?_ ?_ ?_); clear hK K)); with_reducible refine hK _ ?_ ?_ ?_; rotate_left; (focus (simp only [go_sem]; exact rfl)); clear hK K) | ((first | (with_reducible first | refine cA hKn ?_ | refine cA hmk ?_ | refine cD hKn ?_ | refine cD hmk ?_ | refine cO hKn ?_ | refine cO hmk ?_ | refine cR hKn ?_ | refine cR hmk ?_ | refine cG (fun hg => hKn) ?_ | refine cG (fun hg => hmk) ?_ | refine cH (fun hg => hKn) ?_ | refine cH (fun hg => hmk) ?_ | refine cM (fun hg => hKn) ?_ | refine cM (fun hg => hmk) ?_) | (guard_target = CallAt _ _ _ _ _ _ _ _ _ _; first | refine cA hKn ?_ | refine cA hmk ?_) | (guard_target = DCallAt _ _ _ _ _ _ _ _; first | refine cD hKn ?_ | refine cD hmk ?_) | (guard_target = GCallAt _ _ _ _ _ _ _ _ _ _ _; first | refine cG (fun hg => hKn) ?_ | refine cG (fun hg => hmk) ?_)); simp only [go_sem]) | (with_reducible refine gsplit_i (fun hg0 => ?_) (fun hg0 => ?_) <;> first | (with_reducible first | exact absurd hg0 Bool.false_ne_true | exact absurd hg0.symm Bool.false_ne_true) | (simp only [hg0, go_sem])) | (with_reducible refine nilK_i ?_; intro bnil hnil; try simp only []) | (omega; done) | (intro hv; (try simp only [bls] at hv); (try simp only [bls]); omega) | (intro hg; (simp only [hg, Bool.true_and, true_and, implies_true]; try (intro hg2; simp only [hg2, Bool.not_false, Bool.not_true])); done)))
  all_goals first | omega | skip
 ·obtain ⟨A, hA⟩ : ∃ A : Nat, a 0 = A := ⟨(a 0).toNat, by have := ha 0; omega⟩
  have hA256 : A < 256 := by have := ha 0; omega
  have b0 : (bytesD 2 a).headD .unk = .int .u8 A := by rw [bytesD_head 2 a (by omega), hA]
  have b1 := bytesD_at 2 a 1 (by omega)
  (refine ACalls.of_body Ty_ok mixed Tryd.func4 rfl (by kernel_rfl) Tryd.ntmps4 (by simp) (congrArg Array.toList Tryd.results4) ?_)
  simp only [slotsOf]
  (repeat' (first | (with_reducible first | exact True.intro | refine And.intro ?_ ?_ | refine awp_block ?_ | ((first | refine awp_seq1 22 [32, 33] ?_ | refine awp_seq2 22 [32, 33] ?_ | refine awp_seq3 22 [32, 33] ?_ | refine awp_seq4 22 [32, 33] ?_ | refine awp_seq 22 [32, 33] ?_); intro K hK)) | ((with_reducible first | refine awp_reg ?_ | refine awp_exit ?_ | refine awp_skip ?_ | refine likeK_i ?_ | refine rP Ty_ok mixed 14 [1, 5] [.mid [pe 0, pe 2, pe 3, pe 4, pe 6, pe 7, pe 8] 0, .one 9, .mid [pe 10, pe 11, pe 12, pe 13, pe 14, pe 15, pe 16] 0] ?_); simp only [go_sem]) | (with_reducible refine awp_ret ?_; simp only [retF, retM, retL, resV, resW, retO, resAV, AV.bor, D.bor, D.bor1, D.bor0, AV.flatOwn, D.flatOwn, D.flat, AV.tagged, D.tagged, AObj.plain, go_sem]) | ((with_reducible refine awp_cond' ?_ ?_ (fun hb => ?_) (fun hb => ?_)); (simp only [go_sem]); (simp only [go_sem]); all_goals (simp only [go_sem] at hb; try simp only [bls] at hb)) | ((iterate 6 try ((fail_if_success with_reducible refine hK _ ?_ ?_ ?_); clear hK K)); with_reducible refine hK _ ?_ ?_ ?_; rotate_left; (focus (simp only [go_sem]; exact rfl)); clear hK K) | ((first | (with_reducible first | refine cA hKn ?_ | refine cA hmk ?_ | refine cD hKn ?_ | refine cD hmk ?_ | refine cO hKn ?_ | refine cO hmk ?_ | refine cR hKn ?_ | refine cR hmk ?_ | refine cG (fun hg => hKn) ?_ | refine cG (fun hg => hmk) ?_ | refine cH (fun hg => hKn) ?_ | refine cH (fun hg => hmk) ?_ | refine cM (fun hg => hKn) ?_ | refine cM (fun hg => hmk) ?_) | (guard_target = CallAt _ _ _ _ _ _ _ _ _ _; first | refine cA hKn ?_ | refine cA hmk ?_) | (guard_target = DCallAt _ _ _ _ _ _ _ _; first | refine cD hKn ?_ | refine cD hmk ?_) | (guard_target = GCallAt _ _ _ _ _ _ _ _ _ _ _; first | refine cG (fun hg => hKn) ?_ | refine cG (fun hg => hmk) ?_)); simp only [go_sem]) | (with_reducible refine gsplit_i (fun hg0 => ?_) (fun hg0 => ?_) <;> first | (with_reducible first | exact absurd hg0 Bool.false_ne_true | exact absurd hg0.symm Bool.false_ne_true) | (simp only [hg0, go_sem])) | (with_reducible refine nilK_i ?_; intro bnil hnil; try simp only []) | (omega; done) | (intro hv; (try simp only [bls] at hv); (try simp only [bls]); omega) | (intro hg; (simp only [hg, Bool.true_and, true_and, implies_true]; try (intro hg2; simp only [hg2, Bool.not_false, Bool.not_true])); done)))
  all_goals first | omega | skip
  refine awp_loop _ (by simp only [go_sem]; rfl) Nat (fun k => k ≤ n.init.length) (fun k => [(8, .one (.own 4)), (9, .one (.own 5)), (33, .one (.int .i64 k))]) (fun k _ => [.var 25 (bytesD 37 s), .var 22 (bytesD 5 tk), .var 50 (bytesD 2 a), .var 30 [.list (ints n.init), .list (trsD n.trs)], .row 3 1 (ints (smallK tk k)), .row 3 1 (ints (bitsL A k))]) (fun k => n.init.length - k) 0 (by omega) ?_ ?_
  ·have e0 : ints (smallK tk 0) = [] := rfl
   have e1 : ints (bitsL A 0) = [] := rfl
   rw [e0, e1]
   (simp only [SubF, go_sem]; (try simp only [go_sem]); repeat' (first | exact True.intro | with_reducible refine And.intro ?_ ?_ | rfl | omega))
  rintro k hk L hL
  have hkl := smallK_length tk k
  have hbl := bitsL_length A k
  by_cases hlt : k < n.init.length
  ·have bk := bytesD_at 5 tk k (by omega)
   have wk := wrap_mod (tk k) 4 (htk k).1 (by omega) (by omega)
   have hbit := bit_u8 A k hA256 (by omega)
   have e1 := smallK_succ tk k
   have e2 := bitsL_succ A k
   (simp only [go_sem] at hL ⊢)
   (repeat' (first | (with_reducible first | exact True.intro | refine And.intro ?_ ?_ | refine awp_block ?_ | ((first | refine awp_seq1 22 [32, 33] ?_ | refine awp_seq2 22 [32, 33] ?_ | refine awp_seq3 22 [32, 33] ?_ | refine awp_seq4 22 [32, 33] ?_ | refine awp_seq 22 [32, 33] ?_); intro K hK)) | ((with_reducible first | refine awp_reg ?_ | refine awp_exit ?_ | refine awp_skip ?_ | refine likeK_i ?_ | refine rP Ty_ok mixed 14 [1, 5] [.mid [pe 0, pe 2, pe 3, pe 4, pe 6, pe 7, pe 8] 0, .one 9, .mid [pe 10, pe 11, pe 12, pe 13, pe 14, pe 15, pe 16] 0] ?_); simp only [b0, bk, wk, Nat.mul_one, go_sem]) | (with_reducible refine awp_ret ?_; simp only [retF, retM, retL, resV, resW, retO, resAV, AV.bor, D.bor, D.bor1, D.bor0, AV.flatOwn, D.flatOwn, D.flat, AV.tagged, D.tagged, AObj.plain, b0, bk, wk, Nat.mul_one, go_sem]) | ((with_reducible refine awp_cond' ?_ ?_ (fun hb => ?_) (fun hb => ?_)); (simp only [b0, bk, wk, Nat.mul_one, go_sem]); (simp only [b0, bk, wk, Nat.mul_one, go_sem]); all_goals (simp only [b0, bk, wk, Nat.mul_one, go_sem] at hb; try simp only [bls] at hb)) | ((iterate 6 try ((fail_if_success with_reducible refine hK _ ?_ ?_ ?_); clear hK K)); with_reducible refine hK _ ?_ ?_ ?_; rotate_left; (focus (simp only [b0, bk, wk, Nat.mul_one, go_sem]; exact rfl)); clear hK K) | (with_reducible refine gsplit_i (fun hg0 => ?_) (fun hg0 => ?_) <;> first | (with_reducible first | exact absurd hg0 Bool.false_ne_true | exact absurd hg0.symm Bool.false_ne_true) | (simp only [hg0, b0, bk, wk, Nat.mul_one, go_sem])) | (with_reducible refine nilK_i ?_; intro bnil hnil; try simp only []) | (omega; done) | (intro hv; (try simp only [bls] at hv); (try simp only [bls]); omega) | (intro hg; (simp only [hg, Bool.true_and, true_and, implies_true]; try (intro hg2; simp only [hg2, Bool.not_false, Bool.not_true])); done)))
   all_goals first | omega | skip
   ·rw [hbit] at hb
    rw [if_pos hb] at e2
    simp only [ints_one, ints_append, ← e1, ← e2]
    exact hL _ (k + 1) (by omega) (by (simp only [SubF, go_sem]; (try simp only [go_sem]); repeat' (first | exact True.intro | with_reducible refine And.intro ?_ ?_ | rfl | omega))) (by omega)
   ·rw [hbit] at hb
    rw [if_neg hb, List.append_nil] at e2
    simp only [ints_one, ints_append, ← e1, ← e2]
    exact hL _ (k + 1) (by omega) (by (simp only [SubF, go_sem]; (try simp only [go_sem]); repeat' (first | exact True.intro | with_reducible refine And.intro ?_ ?_ | rfl | omega))) (by omega)
  ·have hkn : k = n.init.length := by omega
   subst hkn
   obtain ⟨z1, z2, z3⟩ := mod_idx (a 1) n.trs.length (ha 1) (by omega)
   obtain ⟨j, hj⟩ : ∃ j : Nat, (a 1).tmod n.trs.length = j := ⟨((a 1).tmod n.trs.length).toNat, by omega⟩
   have hjl : j < n.trs.length := by omega
   have hsm := smallK_in tk n.init.length
   have hset : checkSet (bitsL A n.init.length) n.init.length = 0 := checkSet_ok (bitsL_pw _ _) fun x hx => by
    obtain ⟨i, hi, rfl, _⟩ := mem_bitsL.1 hx
    omega
   have hmem := getD_mem n.trs j Tr.no hjl
   have hin := hok.inn _ hmem
   have hout := hok.out _ hmem
   have hfx := fire_of hok hkl (fun x hx => by have := hsm x hx; omega) hjl
   have hFi := Fire_c n (smallK tk n.init.length) j hf (by omega)
   have hmE := markE_of hok hkl (fun x hx => by have := hsm x hx; omega)
   have hI1 := Is_c n (bitsL A n.init.length) 1 hf (by omega)
   have hI2 := Is_c n (bitsL A n.init.length) 2 hf (by omega)
   have hse : ∀ q : Int, q = 1 ∨ q = 2 → siE n (bitsL A n.init.length) q = 0 := fun q hq => by rw [siE, if_neg (by omega), if_neg (by omega), if_neg (by omega)]
   rw [hse 1 (.inl rfl), decide_eq_true rfl, Bool.true_and] at hI1
   rw [hse 2 (.inr rfl), decide_eq_true rfl, Bool.true_and] at hI2
   have hT1 := Tokens_c n (smallK tk n.init.length) (bitsL A n.init.length) hf (by omega) (by omega)
   have hte : tkE n (smallK tk n.init.length) (bitsL A n.init.length) = 0 := by rw [tkE, if_neg (by omega)]; exact hset
   rw [tkV, hte, if_pos rfl] at hT1
   rw [← hkl] at hin hout
   have k1 := isL_iff 1 n.trs (bitsL A n.init.length)
   have k2 := isL_iff 2 n.trs (bitsL A n.init.length)
   have hpos : ∀ p ∈ bitsL A n.init.length, 0 ≤ p ∧ p < n.init.length := checkSet_in hset
   generalize bitsL A n.init.length = set at *
   generalize hmm : smallK tk n.init.length = m at *
   generalize n.trs.getD j Tr.no = t at *
   rw [hfx] at hFi
   simp only [Net.d] at hFi hI1 hI2 hT1
   cases hen : enB m t
   ·rw [hen, if_neg (by decide)] at hFi
    (simp only [go_sem] at hL ⊢)
    (repeat' (first | (with_reducible first | exact True.intro | refine And.intro ?_ ?_ | refine awp_block ?_ | ((first | refine awp_seq1 22 [32, 33] ?_ | refine awp_seq2 22 [32, 33] ?_ | refine awp_seq3 22 [32, 33] ?_ | refine awp_seq4 22 [32, 33] ?_ | refine awp_seq 22 [32, 33] ?_); intro K hK)) | ((with_reducible first | refine awp_reg ?_ | refine awp_exit ?_ | refine awp_skip ?_ | refine likeK_i ?_ | refine rP Ty_ok mixed 14 [1, 5] [.mid [pe 0, pe 2, pe 3, pe 4, pe 6, pe 7, pe 8] 0, .one 9, .mid [pe 10, pe 11, pe 12, pe 13, pe 14, pe 15, pe 16] 0] ?_); simp only [b0, b1, z3, hj, go_sem]) | (with_reducible refine awp_ret ?_; simp only [retF, retM, retL, resV, resW, retO, resAV, AV.bor, D.bor, D.bor1, D.bor0, AV.flatOwn, D.flatOwn, D.flat, AV.tagged, D.tagged, AObj.plain, b0, b1, z3, hj, go_sem]) | ((with_reducible refine awp_cond' ?_ ?_ (fun hb => ?_) (fun hb => ?_)); (simp only [b0, b1, z3, hj, go_sem]); (simp only [b0, b1, z3, hj, go_sem]); all_goals (simp only [b0, b1, z3, hj, go_sem] at hb; try simp only [bls] at hb)) | ((iterate 6 try ((fail_if_success with_reducible refine hK _ ?_ ?_ ?_); clear hK K)); with_reducible refine hK _ ?_ ?_ ?_; rotate_left; (focus (simp only [b0, b1, z3, hj, go_sem]; exact rfl)); clear hK K) | ((first | (with_reducible first | refine cA hFi ?_ | refine cD hFi ?_ | refine cO hFi ?_ | refine cR hFi ?_ | refine cG (fun hg => hFi) ?_ | refine cH (fun hg => hFi) ?_ | refine cM (fun hg => hFi) ?_) | (guard_target = CallAt _ _ _ _ _ _ _ _ _ _; refine cA hFi ?_) | (guard_target = DCallAt _ _ _ _ _ _ _ _; refine cD hFi ?_) | (guard_target = GCallAt _ _ _ _ _ _ _ _ _ _ _; refine cG (fun hg => hFi) ?_)); simp only [b0, b1, z3, hj, go_sem]) | (with_reducible refine gsplit_i (fun hg0 => ?_) (fun hg0 => ?_) <;> first | (with_reducible first | exact absurd hg0 Bool.false_ne_true | exact absurd hg0.symm Bool.false_ne_true) | (simp only [hg0, b0, b1, z3, hj, go_sem])) | (with_reducible refine nilK_i ?_; intro bnil hnil; try simp only []) | (omega; done) | (intro hv; (try simp only [bls] at hv); (try simp only [bls]); omega) | (intro hg; (simp only [hg, Bool.true_and, true_and, implies_true]; try (intro hg2; simp only [hg2, Bool.not_false, Bool.not_true])); done)))
    all_goals first | omega | skip
    (refine MCallAt_i [4] [] (calls_toM hFi) ?_ ?_; (focus (simp only [mside, handOk, go_sem]; (first | done | exact (by decide) | exact ⟨by decide, fun t ht => ht.elim⟩ | (refine ⟨by decide, ?_⟩; simp; done)))); simp only [go_sem])
    (repeat' (first | (with_reducible first | exact True.intro | refine And.intro ?_ ?_ | refine awp_block ?_ | ((first | refine awp_seq1 22 [32, 33] ?_ | refine awp_seq2 22 [32, 33] ?_ | refine awp_seq3 22 [32, 33] ?_ | refine awp_seq4 22 [32, 33] ?_ | refine awp_seq 22 [32, 33] ?_); intro K hK)) | ((with_reducible first | refine awp_reg ?_ | refine awp_exit ?_ | refine awp_skip ?_ | refine likeK_i ?_ | refine rP Ty_ok mixed 14 [1, 5] [.mid [pe 0, pe 2, pe 3, pe 4, pe 6, pe 7, pe 8] 0, .one 9, .mid [pe 10, pe 11, pe 12, pe 13, pe 14, pe 15, pe 16] 0] ?_); simp only [go_sem]) | (with_reducible refine awp_ret ?_; simp only [retF, retM, retL, resV, resW, retO, resAV, AV.bor, D.bor, D.bor1, D.bor0, AV.flatOwn, D.flatOwn, D.flat, AV.tagged, D.tagged, AObj.plain, go_sem]) | ((with_reducible refine awp_cond' ?_ ?_ (fun hb => ?_) (fun hb => ?_)); (simp only [go_sem]); (simp only [go_sem]); all_goals (simp only [go_sem] at hb; try simp only [bls] at hb)) | ((iterate 6 try ((fail_if_success with_reducible refine hK _ ?_ ?_ ?_); clear hK K)); with_reducible refine hK _ ?_ ?_ ?_; rotate_left; (focus (simp only [go_sem]; exact rfl)); clear hK K) | ((first | (with_reducible first | refine cA hI1 ?_ | refine cA hI2 ?_ | refine cD hI1 ?_ | refine cD hI2 ?_ | refine cO hI1 ?_ | refine cO hI2 ?_ | refine cR hI1 ?_ | refine cR hI2 ?_ | refine cG (fun hg => hI1) ?_ | refine cG (fun hg => hI2) ?_ | refine cH (fun hg => hI1) ?_ | refine cH (fun hg => hI2) ?_ | refine cM (fun hg => hI1) ?_ | refine cM (fun hg => hI2) ?_) | (guard_target = CallAt _ _ _ _ _ _ _ _ _ _; first | refine cA hI1 ?_ | refine cA hI2 ?_) | (guard_target = DCallAt _ _ _ _ _ _ _ _; first | refine cD hI1 ?_ | refine cD hI2 ?_) | (guard_target = GCallAt _ _ _ _ _ _ _ _ _ _ _; first | refine cG (fun hg => hI1) ?_ | refine cG (fun hg => hI2) ?_)); simp only [go_sem]) | (with_reducible refine gsplit_i (fun hg0 => ?_) (fun hg0 => ?_) <;> first | (with_reducible first | exact absurd hg0 Bool.false_ne_true | exact absurd hg0.symm Bool.false_ne_true) | (simp only [hg0, go_sem])) | (with_reducible refine nilK_i ?_; intro bnil hnil; try simp only []) | (omega; done) | (intro hv; (try simp only [bls] at hv); (try simp only [bls]); omega) | (intro hg; (simp only [hg, Bool.true_and, true_and, implies_true]; try (intro hg2; simp only [hg2, Bool.not_false, Bool.not_true])); done)))
    all_goals first | omega | skip
   ·rw [hen, if_pos rfl] at hFi
    have hb3 := firedL_bound (B := 3) hin hout hen hsm
    have hnl := firedL_length t m
    have hT2 := Tokens_c n (firedL t m) set hf (by omega) (by omega)
    have hme2 := markE_of hok (by rw [hnl]; exact hkl) (fun x hx => by have := hb3 x hx; omega)
    have hte2 : tkE n (firedL t m) set = 0 := by rw [tkE, if_neg (by omega)]; exact hset
    rw [tkV, hte2, if_pos rfl] at hT2
    have q1 : isL 1 n.trs set = true → sumAt m set = 0 → sumAt (firedL t m) set = 0 := fun h hz => siphon_stays hin hout hen (fun x hx => (hsm x hx).1) (fun p hp => (hpos p hp).1) (k1.1 h t hmem) hz
    have q2 : isL 2 n.trs set = true → 0 < sumAt m set → 0 < sumAt (firedL t m) set := fun h hz => trap_stays hin hout (fun x hx => (hb3 x hx).1) hen (fun x hx => (hsm x hx).1) (fun p hp => by rw [hkl]; exact hpos p hp) (k2.1 h t hmem) hz
    have q3 := sumAt_nonneg (fun x hx => (hsm x hx).1) set
    have q4 := sumAt_nonneg (fun x hx => (hb3 x hx).1) set
    simp only [Net.d] at hT2
    generalize sumAt m set = u at *
    generalize firedL t m = m2 at *
    generalize sumAt m2 set = v at *
    generalize isL 1 n.trs set = B1 at *
    generalize isL 2 n.trs set = B2 at *
    (simp only [go_sem] at hL ⊢)
    (repeat' (first | (with_reducible first | exact True.intro | refine And.intro ?_ ?_ | refine awp_block ?_ | ((first | refine awp_seq1 22 [32, 33] ?_ | refine awp_seq2 22 [32, 33] ?_ | refine awp_seq3 22 [32, 33] ?_ | refine awp_seq4 22 [32, 33] ?_ | refine awp_seq 22 [32, 33] ?_); intro K hK)) | ((with_reducible first | refine awp_reg ?_ | refine awp_exit ?_ | refine awp_skip ?_ | refine likeK_i ?_ | refine rP Ty_ok mixed 14 [1, 5] [.mid [pe 0, pe 2, pe 3, pe 4, pe 6, pe 7, pe 8] 0, .one 9, .mid [pe 10, pe 11, pe 12, pe 13, pe 14, pe 15, pe 16] 0] ?_); simp only [b0, b1, z3, hj, go_sem]) | (with_reducible refine awp_ret ?_; simp only [retF, retM, retL, resV, resW, retO, resAV, AV.bor, D.bor, D.bor1, D.bor0, AV.flatOwn, D.flatOwn, D.flat, AV.tagged, D.tagged, AObj.plain, b0, b1, z3, hj, go_sem]) | ((with_reducible refine awp_cond' ?_ ?_ (fun hb => ?_) (fun hb => ?_)); (simp only [b0, b1, z3, hj, go_sem]); (simp only [b0, b1, z3, hj, go_sem]); all_goals (simp only [b0, b1, z3, hj, go_sem] at hb; try simp only [bls] at hb)) | ((iterate 6 try ((fail_if_success with_reducible refine hK _ ?_ ?_ ?_); clear hK K)); with_reducible refine hK _ ?_ ?_ ?_; rotate_left; (focus (simp only [b0, b1, z3, hj, go_sem]; exact rfl)); clear hK K) | ((first | (with_reducible first | refine cA hFi ?_ | refine cD hFi ?_ | refine cO hFi ?_ | refine cR hFi ?_ | refine cG (fun hg => hFi) ?_ | refine cH (fun hg => hFi) ?_ | refine cM (fun hg => hFi) ?_) | (guard_target = CallAt _ _ _ _ _ _ _ _ _ _; refine cA hFi ?_) | (guard_target = DCallAt _ _ _ _ _ _ _ _; refine cD hFi ?_) | (guard_target = GCallAt _ _ _ _ _ _ _ _ _ _ _; refine cG (fun hg => hFi) ?_)); simp only [b0, b1, z3, hj, go_sem]) | (with_reducible refine gsplit_i (fun hg0 => ?_) (fun hg0 => ?_) <;> first | (with_reducible first | exact absurd hg0 Bool.false_ne_true | exact absurd hg0.symm Bool.false_ne_true) | (simp only [hg0, b0, b1, z3, hj, go_sem])) | (with_reducible refine nilK_i ?_; intro bnil hnil; try simp only []) | (omega; done) | (intro hv; (try simp only [bls] at hv); (try simp only [bls]); omega) | (intro hg; (simp only [hg, Bool.true_and, true_and, implies_true]; try (intro hg2; simp only [hg2, Bool.not_false, Bool.not_true])); done)))
    all_goals first | omega | skip
    (refine MCallAt_i [4] [] (calls_toM hFi) ?_ ?_; (focus (simp only [mside, handOk, go_sem]; (first | done | exact (by decide) | exact ⟨by decide, fun t ht => ht.elim⟩ | (refine ⟨by decide, ?_⟩; simp; done)))); simp only [go_sem])
    (repeat' (first | (with_reducible first | exact True.intro | refine And.intro ?_ ?_ | refine awp_block ?_ | ((first | refine awp_seq1 22 [32, 33] ?_ | refine awp_seq2 22 [32, 33] ?_ | refine awp_seq3 22 [32, 33] ?_ | refine awp_seq4 22 [32, 33] ?_ | refine awp_seq 22 [32, 33] ?_); intro K hK)) | ((with_reducible first | refine awp_reg ?_ | refine awp_exit ?_ | refine awp_skip ?_ | refine likeK_i ?_ | refine rP Ty_ok mixed 14 [1, 5] [.mid [pe 0, pe 2, pe 3, pe 4, pe 6, pe 7, pe 8] 0, .one 9, .mid [pe 10, pe 11, pe 12, pe 13, pe 14, pe 15, pe 16] 0] ?_); simp only [go_sem]) | (with_reducible refine awp_ret ?_; simp only [retF, retM, retL, resV, resW, retO, resAV, AV.bor, D.bor, D.bor1, D.bor0, AV.flatOwn, D.flatOwn, D.flat, AV.tagged, D.tagged, AObj.plain, go_sem]) | ((with_reducible refine awp_cond' ?_ ?_ (fun hb => ?_) (fun hb => ?_)); (simp only [go_sem]); (simp only [go_sem]); all_goals (simp only [go_sem] at hb; try simp only [bls] at hb)) | ((iterate 6 try ((fail_if_success with_reducible refine hK _ ?_ ?_ ?_); clear hK K)); with_reducible refine hK _ ?_ ?_ ?_; rotate_left; (focus (simp only [go_sem]; exact rfl)); clear hK K) | ((first | (with_reducible first | refine cA hI1 ?_ | refine cA hI2 ?_ | refine cA hT1 ?_ | refine cA hT2 ?_ | refine cD hI1 ?_ | refine cD hI2 ?_ | refine cD hT1 ?_ | refine cD hT2 ?_ | refine cO hI1 ?_ | refine cO hI2 ?_ | refine cO hT1 ?_ | refine cO hT2 ?_ | refine cR hI1 ?_ | refine cR hI2 ?_ | refine cR hT1 ?_ | refine cR hT2 ?_ | refine cG (fun hg => hI1) ?_ | refine cG (fun hg => hI2) ?_ | refine cG (fun hg => hT1) ?_ | refine cG (fun hg => hT2) ?_ | refine cH (fun hg => hI1) ?_ | refine cH (fun hg => hI2) ?_ | refine cH (fun hg => hT1) ?_ | refine cH (fun hg => hT2) ?_ | refine cM (fun hg => hI1) ?_ | refine cM (fun hg => hI2) ?_ | refine cM (fun hg => hT1) ?_ | refine cM (fun hg => hT2) ?_) | (guard_target = CallAt _ _ _ _ _ _ _ _ _ _; first | refine cA hI1 ?_ | refine cA hI2 ?_ | refine cA hT1 ?_ | refine cA hT2 ?_) | (guard_target = DCallAt _ _ _ _ _ _ _ _; first | refine cD hI1 ?_ | refine cD hI2 ?_ | refine cD hT1 ?_ | refine cD hT2 ?_) | (guard_target = GCallAt _ _ _ _ _ _ _ _ _ _ _; first | refine cG (fun hg => hI1) ?_ | refine cG (fun hg => hI2) ?_ | refine cG (fun hg => hT1) ?_ | refine cG (fun hg => hT2) ?_)); simp only [go_sem]) | (with_reducible refine gsplit_i (fun hg0 => ?_) (fun hg0 => ?_) <;> first | (with_reducible first | exact absurd hg0 Bool.false_ne_true | exact absurd hg0.symm Bool.false_ne_true) | (simp only [hg0, go_sem])) | (with_reducible refine nilK_i ?_; intro bnil hnil; try simp only []) | (omega; done) | (intro hv; (try simp only [bls] at hv); (try simp only [bls]); omega) | (intro hg; (simp only [hg, Bool.true_and, true_and, implies_true]; try (intro hg2; simp only [hg2, Bool.not_false, Bool.not_true])); done)))
    all_goals first | omega | skip
    have a1 : (!B1 || decide (0 < u) || v == 0) = true := by
     cases B1
     ·rfl
     ·by_cases hu : 0 < u
      ·simp [hu]
      ·have := q1 rfl (by omega)
       simp [this]
    have a2 : (!B2 || u == 0 || decide (0 < v)) = true := by
     cases B2
     ·rfl
     ·by_cases hu : 0 < u
      ·have := q2 rfl hu
       simp [this]
      ·have : u = 0 := by omega
       simp [this]
    rw [a1, a2]; rfl
end Go.Proofs.YtlankmlgomhbhaaDoor
