/-
 Make by hand: its contract with all inner lists apart.
-/
import Derived.Test.YtljpfdehnjemlaaDoorWX
set_option linter.unusedSimpArgs false
set_option linter.unusedVariables false
namespace Go.Proofs.YtljpfdehnjemlaaDoor
open Go.Eng Go.RowKit
set_option maxHeartbeats 16000000 in
theorem Make_w (s : Nat → Int) (hs : Bytes s) (w0 : World) (M : Nat → Prop) (vs : List Value) (hM : MOk w0 M []) (hv : RepVL w0 M [] [.agg (bytesD 37 s)] vs) :
  Calls Tryd.prog 5 ⟨vs⟩ w0 fun e w' => ∃ p h1 h2, e = .returned (.agg ⟨[h1, h2]⟩) ∧ MadeAt w0 w' s p h1 h2 := by
 have w5 := wrap_mod (s 0) 5 (hs 0).1 (by omega) (by omega)
 have w6 := wrap_mod (s 1) 6 (hs 1).1 (by omega) (by omega)
 have b0 := bytesD_head 37 s (by omega)
 have b1 := bytesD_at 37 s 1 (by omega)
 have hnp : (np s : Int) = 1 + s 0 % 5 := by unfold np; omega
 have hnp5 : np s ≤ 5 := by unfold np; omega
 have hnt : (nt s : Int) = min (s 1 % 6) 5 := by unfold nt; omega
 refine calls_sem Tryd.func5 rfl Tryd.ntmps5 (by simp) (congrArg Array.toList Tryd.results5) hM hv ?_
 intro a Q h0 hQ
 refine wp_seq (seg Ty_ok mixed (s1 := ⟨104, [(2, .one (.vp 1 0)), (1, .one (.vp 0 0))], [.var 25 (bytesD 37 s), .var 30 [.nil, .nil]], 0⟩) h0 ?_ fun a1 w1 h1 => ?_)
 ·simp only [slotsOf]
  (repeat' (first | (with_reducible first | exact True.intro | refine And.intro ?_ ?_ | refine aBl ?_ | (refine aS 10 [] ?_; intro K hK)) | ((with_reducible first | refine aGo ?_ | refine rP Ty_ok mixed 5 [0, 2, 3] [.mid [pe 1, pe 4, pe 5, pe 6, pe 7, pe 8] 0, .one 9, .one 10, .one 11] ?_ | refine rD (id := 13) ?_); simp only [go_sem]) | ((with_reducible refine aCd ?_ ?_ (fun hb => ?_) (fun hb => ?_)); (iterate 2 simp only [go_sem]); all_goals (simp only [go_sem] at hb; try simp only [bls] at hb)) | ((iterate 6 try ((fail_if_success with_reducible refine hK _ ?_ ?_ ?_); clear hK K)); with_reducible refine hK _ ?_ ?_ ?_; rotate_left; (focus (simp only [go_sem]; exact rfl)); clear hK K) | (with_reducible refine aGs (fun hg0 => ?_) (fun hg0 => ?_) <;> first | (with_reducible first | exact aF1 hg0 | exact aF2 hg0) | (simp only [hg0, go_sem])) | (with_reducible refine aNk ?_; intro bnil hnil; try simp only []) | exact aZ | fail))
  simp only [ends]
  (simp only [SubF, go_sem]; (try simp only [go_sem]); repeat' (first | exact True.intro | with_reducible refine And.intro ?_ ?_ | rfl | omega))
 refine wp_seq (seg Ty_ok mixed (s1 := ⟨104, [(3, .one (.vp 2 0)), (2, .one (.vp 1 0)), (1, .one (.vp 0 0))], [.var 25 (bytesD 37 s), .var 30 [.nil, .nil], .var 30 [.nil, .nil]], 0⟩) h1 ?_ fun a2 w2 h2 => ?_)
 ·(repeat' (first | (with_reducible first | exact True.intro | refine And.intro ?_ ?_ | refine aBl ?_ | (refine aS 10 [] ?_; intro K hK)) | ((with_reducible first | refine aGo ?_ | refine rP Ty_ok mixed 5 [0, 2, 3] [.mid [pe 1, pe 4, pe 5, pe 6, pe 7, pe 8] 0, .one 9, .one 10, .one 11] ?_ | refine rD (id := 13) ?_); simp only [go_sem]) | ((with_reducible refine aCd ?_ ?_ (fun hb => ?_) (fun hb => ?_)); (iterate 2 simp only [go_sem]); all_goals (simp only [go_sem] at hb; try simp only [bls] at hb)) | ((iterate 6 try ((fail_if_success with_reducible refine hK _ ?_ ?_ ?_); clear hK K)); with_reducible refine hK _ ?_ ?_ ?_; rotate_left; (focus (simp only [go_sem]; exact rfl)); clear hK K) | (with_reducible refine aGs (fun hg0 => ?_) (fun hg0 => ?_) <;> first | (with_reducible first | exact aF1 hg0 | exact aF2 hg0) | (simp only [hg0, go_sem])) | (with_reducible refine aNk ?_; intro bnil hnil; try simp only []) | exact aZ | fail))
  simp only [ends]
  (simp only [SubF, go_sem]; (try simp only [go_sem]); repeat' (first | exact True.intro | with_reducible refine And.intro ?_ ?_ | rfl | omega))
 refine wp_seq (seg Ty_ok mixed (s1 := ⟨104, [(3, .one (.vp 2 0)), (2, .one (.vp 1 0)), (1, .one (.vp 0 0))], [.var 25 (bytesD 37 s), .var 30 [.nil, .nil], .var 30 [.own 3, .nil], .row 3 1 (ints (initL s (np s)))], 0⟩) h2 ?_ fun a3 w3 h3 => ?_)
 ·(repeat' (first | (with_reducible first | exact True.intro | refine And.intro ?_ ?_ | refine aBl ?_ | (refine aS 10 [] ?_; intro K hK)) | ((with_reducible first | refine aGo ?_ | refine rP Ty_ok mixed 5 [0, 2, 3] [.mid [pe 1, pe 4, pe 5, pe 6, pe 7, pe 8] 0, .one 9, .one 10, .one 11] ?_ | refine rD (id := 13) ?_); simp only [go_sem]) | ((with_reducible refine aCd ?_ ?_ (fun hb => ?_) (fun hb => ?_)); (iterate 2 simp only [go_sem]); all_goals (simp only [go_sem] at hb; try simp only [bls] at hb)) | ((iterate 6 try ((fail_if_success with_reducible refine hK _ ?_ ?_ ?_); clear hK K)); with_reducible refine hK _ ?_ ?_ ?_; rotate_left; (focus (simp only [go_sem]; exact rfl)); clear hK K) | (with_reducible refine aGs (fun hg0 => ?_) (fun hg0 => ?_) <;> first | (with_reducible first | exact aF1 hg0 | exact aF2 hg0) | (simp only [hg0, go_sem])) | (with_reducible refine aNk ?_; intro bnil hnil; try simp only []) | exact aZ | fail))
  refine awp_loopT [.cell 2 0 3 1] _ (by simp only [go_sem]; rfl) Nat (fun k => k ≤ np s) (fun k => [(4, .one (.int .i64 k))]) (fun k => [.var 25 (bytesD 37 s), .var 30 [.nil, .nil], .var 30 [.own 3, .nil], .row 3 1 (ints (initL s k))]) (fun k => np s - k) 0 (by omega) ?_ ?_
  ·(simp only [SubF, go_sem]; (try simp only [go_sem]); repeat' (first | exact True.intro | with_reducible refine And.intro ?_ ?_ | rfl | omega))
  rintro k hk L hL
  have hl := initL_length s k
  by_cases hk5 : k < np s
  ·have bk := bytesD_at 37 s (2 + k * 1) (by omega)
   have wk := wrap_mod (s (2 + k)) 4 (hs _).1 (by omega) (by omega)
   rw [Nat.mul_one] at bk
   (simp only [go_sem] at hL ⊢)
   (repeat' (first | (with_reducible first | exact True.intro | refine And.intro ?_ ?_ | refine aBl ?_ | (refine aS 10 [] ?_; intro K hK)) | ((with_reducible first | refine aGo ?_ | refine rP Ty_ok mixed 5 [0, 2, 3] [.mid [pe 1, pe 4, pe 5, pe 6, pe 7, pe 8] 0, .one 9, .one 10, .one 11] ?_ | refine rD (id := 13) ?_); simp only [b0, w5, bk, wk, Nat.mul_one, go_sem]) | ((with_reducible refine aCd ?_ ?_ (fun hb => ?_) (fun hb => ?_)); (iterate 2 simp only [b0, w5, bk, wk, Nat.mul_one, go_sem]); all_goals (simp only [b0, w5, bk, wk, Nat.mul_one, go_sem] at hb; try simp only [bls] at hb)) | ((iterate 6 try ((fail_if_success with_reducible refine hK _ ?_ ?_ ?_); clear hK K)); with_reducible refine hK _ ?_ ?_ ?_; rotate_left; (focus (simp only [b0, w5, bk, wk, Nat.mul_one, go_sem]; exact rfl)); clear hK K) | (with_reducible refine aGs (fun hg0 => ?_) (fun hg0 => ?_) <;> first | (with_reducible first | exact aF1 hg0 | exact aF2 hg0) | (simp only [hg0, b0, w5, bk, wk, Nat.mul_one, go_sem])) | (with_reducible refine aNk ?_; intro bnil hnil; try simp only []) | exact aZ | fail))
   ·simp only [ints_one, ints_append]
    rw [show s (2 + k) % 4 = tok s k from rfl, ← initL_succ]
    exact hL _ (k + 1) (by omega) (by (simp only [SubF, go_sem]; (try simp only [go_sem]); repeat' (first | exact True.intro | with_reducible refine And.intro ?_ ?_ | rfl | omega))) (by omega)
   all_goals omega
  ·(simp only [go_sem] at hL ⊢)
   (repeat' (first | (with_reducible first | exact True.intro | refine And.intro ?_ ?_ | refine aBl ?_ | (refine aS 10 [] ?_; intro K hK)) | ((with_reducible first | refine aGo ?_ | refine rP Ty_ok mixed 5 [0, 2, 3] [.mid [pe 1, pe 4, pe 5, pe 6, pe 7, pe 8] 0, .one 9, .one 10, .one 11] ?_ | refine rD (id := 13) ?_); simp only [b0, w5, go_sem]) | ((with_reducible refine aCd ?_ ?_ (fun hb => ?_) (fun hb => ?_)); (iterate 2 simp only [b0, w5, go_sem]); all_goals (simp only [b0, w5, go_sem] at hb; try simp only [bls] at hb)) | ((iterate 6 try ((fail_if_success with_reducible refine hK _ ?_ ?_ ?_); clear hK K)); with_reducible refine hK _ ?_ ?_ ?_; rotate_left; (focus (simp only [b0, w5, go_sem]; exact rfl)); clear hK K) | (with_reducible refine aGs (fun hg0 => ?_) (fun hg0 => ?_) <;> first | (with_reducible first | exact aF1 hg0 | exact aF2 hg0) | (simp only [hg0, b0, w5, go_sem])) | (with_reducible refine aNk ?_; intro bnil hnil; try simp only []) | exact aZ | fail))
   all_goals first | omega | skip
   have hk2 : k = np s := by omega
   subst hk2
   simp only [ends]
   (simp only [SubF, go_sem]; (try simp only [go_sem]); repeat' (first | exact True.intro | with_reducible refine And.intro ?_ ?_ | rfl | omega))
 refine wp_seq (wp_seq (seg Ty_ok mixed (s1 := ⟨104, mkS 0, [.var 25 (bytesD 37 s), .var 30 [.nil, .nil], .var 30 [.own 3, .nil], .row 3 1 (ints (initL s (np s)))], 0⟩) h3 ?_ fun a4 w4 h4 => ?_))
 ·(repeat' (first | (with_reducible first | exact True.intro | refine And.intro ?_ ?_ | refine aBl ?_ | (refine aS 10 [] ?_; intro K hK)) | ((with_reducible first | refine aGo ?_ | refine rP Ty_ok mixed 5 [0, 2, 3] [.mid [pe 1, pe 4, pe 5, pe 6, pe 7, pe 8] 0, .one 9, .one 10, .one 11] ?_ | refine rD (id := 13) ?_); simp only [go_sem]) | ((with_reducible refine aCd ?_ ?_ (fun hb => ?_) (fun hb => ?_)); (iterate 2 simp only [go_sem]); all_goals (simp only [go_sem] at hb; try simp only [bls] at hb)) | ((iterate 6 try ((fail_if_success with_reducible refine hK _ ?_ ?_ ?_); clear hK K)); with_reducible refine hK _ ?_ ?_ ?_; rotate_left; (focus (simp only [go_sem]; exact rfl)); clear hK K) | (with_reducible refine aGs (fun hg0 => ?_) (fun hg0 => ?_) <;> first | (with_reducible first | exact aF1 hg0 | exact aF2 hg0) | (simp only [hg0, go_sem])) | (with_reducible refine aNk ?_; intro bnil hnil; try simp only []) | exact aZ | fail))
  simp only [ends, mkS]
  (simp only [SubF, go_sem]; (try simp only [go_sem]); repeat' (first | exact True.intro | with_reducible refine And.intro ?_ ?_ | rfl | omega))
 have h5 := thaws (σ' := ⟨104, mkS 0, mkH s [], 0⟩) h4 [.cell 2 1 34 3] (by simp only [mkS, mkH, rawT]; (simp only [SubF, go_sem]; (try simp only [go_sem]); repeat' (first | exact True.intro | with_reducible refine And.intro ?_ ?_ | rfl | omega)))
 clear h4 h3 h2 h1
 obtain ⟨β5, h5⟩ := h5
 have hMi : ∀ L : List Value, L = [] → (fun g => M g ∨ inBk L g) = M := fun L e => by
  funext g
  apply propext
  constructor
  ·rintro (h | ⟨x, hx, _⟩)
   ·exact h
   ·rw [e] at hx; cases hx
  ·exact .inl
 have hH : HeadAt w0 M s [] a4 w4 β5 := by
  have h6 := h5.again rfl
  refine ⟨by rw [hMi (flatP []) rfl]; exact h6, h5.below.below fun _ => owned_nil, fun j x hx => (by cases hx), fun i j x y g hi => (by cases hi), fun g hg => ?_, fun g hg => ?_⟩
  ·obtain ⟨x, hx, _⟩ := hg; cases hx
  ·exact (h5.fresh g hg).1.resolve_left owned_nil
 refine wp_block (wp_loop_ghost (fun n a w => ∃ p β, nt s - p.length = n ∧ p.length ≤ nt s ∧ HeadAt w0 M s p a w β) (nt s) ⟨[], β5, rfl, Nat.zero_le _, hH⟩ ?_)
 clear hH h5 hMi β5 a4 w4 a3 w3 a2 w2 a1 w1
 rintro n a w ⟨p, β, rfl, hle, hh⟩
 have hlt := rawT_length s p 0
 by_cases ht5 : p.length < nt s
 ·have bt := bytesD_at 37 s (7 + p.length) (by omega)
  have wt := wrap_mod (s (7 + p.length)) 5 (hs _).1 (by omega) (by omega)
  refine wp_seq (seg Ty_ok mixed (s1 := ⟨104, mkS p.length, mkH s p, 0⟩) ⟨β, hh.sim⟩ ?_ fun a1 w1 h1 => ?_)
  ·simp only [mkS, mkH]
   (repeat' (first | (with_reducible first | exact True.intro | refine And.intro ?_ ?_ | refine aBl ?_ | (refine aS 10 [] ?_; intro K hK)) | ((with_reducible first | refine aGo ?_ | refine rP Ty_ok mixed 5 [0, 2, 3] [.mid [pe 1, pe 4, pe 5, pe 6, pe 7, pe 8] 0, .one 9, .one 10, .one 11] ?_ | refine rD (id := 13) ?_); simp only [b1, w6, go_sem]) | ((with_reducible refine aCd ?_ ?_ (fun hb => ?_) (fun hb => ?_)); (iterate 2 simp only [b1, w6, go_sem]); all_goals (simp only [b1, w6, go_sem] at hb; try simp only [bls] at hb)) | ((iterate 6 try ((fail_if_success with_reducible refine hK _ ?_ ?_ ?_); clear hK K)); with_reducible refine hK _ ?_ ?_ ?_; rotate_left; (focus (simp only [b1, w6, go_sem]; exact rfl)); clear hK K) | (with_reducible refine aGs (fun hg0 => ?_) (fun hg0 => ?_) <;> first | (with_reducible first | exact aF1 hg0 | exact aF2 hg0) | (simp only [hg0, b1, w6, go_sem])) | (with_reducible refine aNk ?_; intro bnil hnil; try simp only []) | exact aZ | fail))
   all_goals first | omega | skip
   simp only [awp, ends]
   (simp only [SubF, go_sem]; (try simp only [go_sem]); repeat' (first | exact True.intro | with_reducible refine And.intro ?_ ?_ | rfl | omega))
  refine wp_seq (wp_block (wp_seq (seg Ty_ok mixed (s1 := ⟨104, (6, .one (.vp 5 0)) :: mkS p.length, mkH s p ++ [.var 34 [.int .i64 (s (7 + p.length) % 5), .nil, .nil]], 0⟩) h1 ?_ fun a2 w2 h2 => ?_)))
  ·simp only [mkS, mkH]
   (repeat' (first | (with_reducible first | exact True.intro | refine And.intro ?_ ?_ | refine aBl ?_ | (refine aS 10 [] ?_; intro K hK)) | ((with_reducible first | refine aGo ?_ | refine rP Ty_ok mixed 5 [0, 2, 3] [.mid [pe 1, pe 4, pe 5, pe 6, pe 7, pe 8] 0, .one 9, .one 10, .one 11] ?_ | refine rD (id := 13) ?_); simp only [b1, w6, bt, wt, Nat.mul_one, go_sem]) | ((with_reducible refine aCd ?_ ?_ (fun hb => ?_) (fun hb => ?_)); (iterate 2 simp only [b1, w6, bt, wt, Nat.mul_one, go_sem]); all_goals (simp only [b1, w6, bt, wt, Nat.mul_one, go_sem] at hb; try simp only [bls] at hb)) | ((iterate 6 try ((fail_if_success with_reducible refine hK _ ?_ ?_ ?_); clear hK K)); with_reducible refine hK _ ?_ ?_ ?_; rotate_left; (focus (simp only [b1, w6, bt, wt, Nat.mul_one, go_sem]; exact rfl)); clear hK K) | (with_reducible refine aGs (fun hg0 => ?_) (fun hg0 => ?_) <;> first | (with_reducible first | exact aF1 hg0 | exact aF2 hg0) | (simp only [hg0, b1, w6, bt, wt, Nat.mul_one, go_sem])) | (with_reducible refine aNk ?_; intro bnil hnil; try simp only []) | exact aZ | fail))
   all_goals first | omega | skip
   simp only [ends]
   (simp only [SubF, go_sem]; (try simp only [go_sem]); repeat' (first | exact True.intro | with_reducible refine And.intro ?_ ?_ | rfl | omega))
  have h3 := thaws (σ' := ⟨104, (6, .one (.vp 5 0)) :: mkS p.length, mkH s p ++ [.var 34 [.int .i64 (s (7 + p.length) % 5), .own 6, .own 7], .row 36 2 [], .row 36 2 []], 0⟩) h2 [.cell 5 1 36 2, .cell 5 2 36 2] (by simp only [mkS, mkH]; (simp only [SubF, go_sem]; (try simp only [go_sem]); repeat' (first | exact True.intro | with_reducible refine And.intro ?_ ?_ | rfl | omega)))
  clear h2 h1
  refine wp_seq (seg Ty_ok mixed (s1 := ⟨104, (6, .one (.vp 5 0)) :: mkS p.length, mkH s p ++ [.var 34 [.int .i64 (s (7 + p.length) % 5), .own 6, .own 7], .row 36 2 (arcsD (arcsL (inW s p.length) (np s))), .row 36 2 (arcsD (arcsL (outW s p.length) (np s)))], 0⟩) h3 ?_ fun a4 w4 h4 => ?_)
  ·simp only [mkS, mkH, List.cons_append, List.nil_append]
   (repeat' (first | (with_reducible first | exact True.intro | refine And.intro ?_ ?_ | refine aBl ?_ | (refine aS 10 [] ?_; intro K hK)) | ((with_reducible first | refine aGo ?_ | refine rP Ty_ok mixed 5 [0, 2, 3] [.mid [pe 1, pe 4, pe 5, pe 6, pe 7, pe 8] 0, .one 9, .one 10, .one 11] ?_ | refine rD (id := 13) ?_); simp only [go_sem]) | ((with_reducible refine aCd ?_ ?_ (fun hb => ?_) (fun hb => ?_)); (iterate 2 simp only [go_sem]); all_goals (simp only [go_sem] at hb; try simp only [bls] at hb)) | ((iterate 6 try ((fail_if_success with_reducible refine hK _ ?_ ?_ ?_); clear hK K)); with_reducible refine hK _ ?_ ?_ ?_; rotate_left; (focus (simp only [go_sem]; exact rfl)); clear hK K) | (with_reducible refine aGs (fun hg0 => ?_) (fun hg0 => ?_) <;> first | (with_reducible first | exact aF1 hg0 | exact aF2 hg0) | (simp only [hg0, go_sem])) | (with_reducible refine aNk ?_; intro bnil hnil; try simp only []) | exact aZ | fail))
   refine awp_loop _ (by simp only [go_sem]; rfl) Nat (fun k => k ≤ np s) (fun k => [(7, .one (.int .i64 k))]) (fun k _ => mkH s p ++ [.var 34 [.int .i64 (s (7 + p.length) % 5), .own 6, .own 7], .row 36 2 (arcsD (arcsL (inW s p.length) k)), .row 36 2 (arcsD (arcsL (outW s p.length) k))]) (fun k => np s - k) 0 (by omega) ?_ ?_
   ·have e0 : ∀ f : Nat → Int, arcsD (arcsL f 0) = [] := fun _ => rfl
    rw [e0, e0]
    simp only [mkH]
    (simp only [SubF, go_sem]; (try simp only [go_sem]); repeat' (first | exact True.intro | with_reducible refine And.intro ?_ ?_ | rfl | omega))
   rintro k hk L2 hL2
   have hli := initL_length s (np s)
   have hla := arcsL_length (inW s p.length) k
   have hlb := arcsL_length (outW s p.length) k
   by_cases hp5 : k < np s
   ·have bp := bytesD_at 37 s (12 + p.length * 5 + k) (by omega)
    have h0 := (hs (12 + p.length * 5 + k)).1
    have h255 := (hs (12 + p.length * 5 + k)).2
    have m1 : (s (12 + p.length * 5 + k)).tmod 6 = s (12 + p.length * 5 + k) % 6 := Int.tmod_eq_emod_of_nonneg h0
    have m2 : (s (12 + p.length * 5 + k)).tdiv 6 = s (12 + p.length * 5 + k) / 6 := Int.tdiv_eq_ediv_of_nonneg h0
    have m3 : (s (12 + p.length * 5 + k) / 6).tmod 6 = s (12 + p.length * 5 + k) / 6 % 6 := Int.tmod_eq_emod_of_nonneg (by omega)
    have t1 : ([[D.int .i64 0], [D.int .i64 0], [D.int .i64 1], [D.int .i64 0], [D.int .i64 1], [D.int .i64 2]].getD (s (12 + p.length * 5 + k) % 6).toNat [D.int .i64 0]) = [D.int .i64 (inW s p.length k)] := tab6 _ _ _ _ _ _ _ (by omega) (by omega) _
    have t2 : ([[D.int .i64 0], [D.int .i64 1], [D.int .i64 0], [D.int .i64 0], [D.int .i64 1], [D.int .i64 2]].getD (s (12 + p.length * 5 + k) / 6 % 6).toNat [D.int .i64 0]) = [D.int .i64 (outW s p.length k)] := tab6 _ _ _ _ _ _ _ (by omega) (by omega) _
    simp only [mkH, List.cons_append, List.nil_append, go_sem] at hL2 ⊢
    (repeat' (first | (with_reducible first | exact True.intro | refine And.intro ?_ ?_ | refine aBl ?_ | (refine aS 10 [] ?_; intro K hK)) | ((with_reducible first | refine aGo ?_ | refine rP Ty_ok mixed 5 [0, 2, 3] [.mid [pe 1, pe 4, pe 5, pe 6, pe 7, pe 8] 0, .one 9, .one 10, .one 11] ?_ | refine rD (id := 13) ?_); simp only [bp, hli, Nat.mul_one, m1, m2, m3, t1, t2, go_sem]) | ((with_reducible refine aCd ?_ ?_ (fun hb => ?_) (fun hb => ?_)); (iterate 2 simp only [bp, hli, Nat.mul_one, m1, m2, m3, t1, t2, go_sem]); all_goals (simp only [bp, hli, Nat.mul_one, m1, m2, m3, t1, t2, go_sem] at hb; try simp only [bls] at hb)) | ((iterate 6 try ((fail_if_success with_reducible refine hK _ ?_ ?_ ?_); clear hK K)); with_reducible refine hK _ ?_ ?_ ?_; rotate_left; (focus (simp only [bp, hli, Nat.mul_one, m1, m2, m3, t1, t2, go_sem]; exact rfl)); clear hK K) | (with_reducible refine aGs (fun hg0 => ?_) (fun hg0 => ?_) <;> first | (with_reducible first | exact aF1 hg0 | exact aF2 hg0) | (simp only [hg0, bp, hli, Nat.mul_one, m1, m2, m3, t1, t2, go_sem])) | (with_reducible refine aNk ?_; intro bnil hnil; try simp only []) | exact aZ | fail))
    all_goals first | omega | skip
    all_goals refine hL2 _ (k + 1) (by omega) ?_ (by omega)
    all_goals simp only [arcsL_succ, arcs_one, arcs_append]
    ·simp only [if_pos ‹0 < inW s p.length k›, if_pos ‹0 < outW s p.length k›]; (simp only [SubF, go_sem]; (try simp only [go_sem]); repeat' (first | exact True.intro | with_reducible refine And.intro ?_ ?_ | rfl | omega))
    ·simp only [if_pos ‹0 < inW s p.length k›, if_neg (Int.not_lt.2 ‹outW s p.length k ≤ 0›), List.append_nil]; (simp only [SubF, go_sem]; (try simp only [go_sem]); repeat' (first | exact True.intro | with_reducible refine And.intro ?_ ?_ | rfl | omega))
    ·simp only [if_neg (Int.not_lt.2 ‹inW s p.length k ≤ 0›), if_pos ‹0 < outW s p.length k›, List.append_nil]; (simp only [SubF, go_sem]; (try simp only [go_sem]); repeat' (first | exact True.intro | with_reducible refine And.intro ?_ ?_ | rfl | omega))
    ·simp only [if_neg (Int.not_lt.2 ‹inW s p.length k ≤ 0›), if_neg (Int.not_lt.2 ‹outW s p.length k ≤ 0›), List.append_nil]; (simp only [SubF, go_sem]; (try simp only [go_sem]); repeat' (first | exact True.intro | with_reducible refine And.intro ?_ ?_ | rfl | omega))
   ·have hp3 : k = np s := by omega
    subst hp3
    simp only [mkH, List.cons_append, List.nil_append, go_sem] at hL2 ⊢
    (repeat' (first | (with_reducible first | exact True.intro | refine And.intro ?_ ?_ | refine aBl ?_ | (refine aS 10 [] ?_; intro K hK)) | ((with_reducible first | refine aGo ?_ | refine rP Ty_ok mixed 5 [0, 2, 3] [.mid [pe 1, pe 4, pe 5, pe 6, pe 7, pe 8] 0, .one 9, .one 10, .one 11] ?_ | refine rD (id := 13) ?_); simp only [hli, hlt, go_sem]) | ((with_reducible refine aCd ?_ ?_ (fun hb => ?_) (fun hb => ?_)); (iterate 2 simp only [hli, hlt, go_sem]); all_goals (simp only [hli, hlt, go_sem] at hb; try simp only [bls] at hb)) | ((iterate 6 try ((fail_if_success with_reducible refine hK _ ?_ ?_ ?_); clear hK K)); with_reducible refine hK _ ?_ ?_ ?_; rotate_left; (focus (simp only [hli, hlt, go_sem]; exact rfl)); clear hK K) | (with_reducible refine aGs (fun hg0 => ?_) (fun hg0 => ?_) <;> first | (with_reducible first | exact aF1 hg0 | exact aF2 hg0) | (simp only [hg0, hli, hlt, go_sem])) | (with_reducible refine aNk ?_; intro bnil hnil; try simp only []) | exact aZ | fail))
    all_goals first | omega | skip
    simp only [ends]
    (simp only [SubF, go_sem]; (try simp only [go_sem]); repeat' (first | exact True.intro | with_reducible refine And.intro ?_ ?_ | rfl | omega))
  obtain ⟨β4, h4⟩ := h4
  obtain ⟨x, hx, hox, h5⟩ := h4.retire rfl (t := 6) (e := 36) (sz := 2) (rows := arcsD (arcsL (inW s p.length) (np s))) rfl
  obtain ⟨y, hy, hoy, h6⟩ := h5.retire rfl (t := 7) (e := 36) (sz := 2) (rows := arcsD (arcsL (outW s p.length) (np s))) rfl
  have hts := rawT_snoc s (x, y) p 0
  simp only [Nat.zero_add] at hts
  refine seg Ty_ok mixed (s1 := ⟨104, mkS p.length, mkH s (p ++ [(x, y)]), 0⟩) ⟨_, h6⟩ ?_ fun a7 w7 h7 => ?_
  ·simp only [mkS, mkH, List.cons_append, List.nil_append, AState.rt, AV.rt, AObj.rt, D.rt, D.rt0, List.map_cons, List.map_nil, bytesD_rt, go_sem, List.set_cons_succ, List.set_cons_zero]
   (repeat' (first | (with_reducible first | exact True.intro | refine And.intro ?_ ?_ | refine aBl ?_ | (refine aS 10 [] ?_; intro K hK)) | ((with_reducible first | refine aGo ?_ | refine rP Ty_ok mixed 5 [0, 2, 3] [.mid [pe 1, pe 4, pe 5, pe 6, pe 7, pe 8] 0, .one 9, .one 10, .one 11] ?_ | refine rD (id := 13) ?_); simp only [hlt, go_sem]) | ((with_reducible refine aCd ?_ ?_ (fun hb => ?_) (fun hb => ?_)); (iterate 2 simp only [hlt, go_sem]); all_goals (simp only [hlt, go_sem] at hb; try simp only [bls] at hb)) | ((iterate 6 try ((fail_if_success with_reducible refine hK _ ?_ ?_ ?_); clear hK K)); with_reducible refine hK _ ?_ ?_ ?_; rotate_left; (focus (simp only [hlt, go_sem]; exact rfl)); clear hK K) | (with_reducible refine aGs (fun hg0 => ?_) (fun hg0 => ?_) <;> first | (with_reducible first | exact aF1 hg0 | exact aF2 hg0) | (simp only [hg0, hlt, go_sem])) | (with_reducible refine aNk ?_; intro bnil hnil; try simp only []) | exact aZ | fail))
   all_goals first | omega | skip
   simp only [ends]
   rw [hts]
   (simp only [SubF, go_sem]; (try simp only [go_sem]); repeat' (first | exact True.intro | with_reducible refine And.intro ?_ ?_ | rfl | omega))
  have hpl : (p ++ [(x, y)]).length = p.length + 1 := by simp
  have hlt2 := rawT_length s (p ++ [(x, y)]) 0
  refine seg Ty_ok mixed (s1 := ⟨104, mkS (p.length + 1), mkH s (p ++ [(x, y)]), 0⟩) h7 ?_ fun a8 w8 h8 => ?_
  ·simp only [mkS, mkH]
   (repeat' (first | (with_reducible first | exact True.intro | refine And.intro ?_ ?_ | refine aBl ?_ | (refine aS 10 [] ?_; intro K hK)) | ((with_reducible first | refine aGo ?_ | refine rP Ty_ok mixed 5 [0, 2, 3] [.mid [pe 1, pe 4, pe 5, pe 6, pe 7, pe 8] 0, .one 9, .one 10, .one 11] ?_ | refine rD (id := 13) ?_); simp only [go_sem]) | ((with_reducible refine aCd ?_ ?_ (fun hb => ?_) (fun hb => ?_)); (iterate 2 simp only [go_sem]); all_goals (simp only [go_sem] at hb; try simp only [bls] at hb)) | ((iterate 6 try ((fail_if_success with_reducible refine hK _ ?_ ?_ ?_); clear hK K)); with_reducible refine hK _ ?_ ?_ ?_; rotate_left; (focus (simp only [go_sem]; exact rfl)); clear hK K) | (with_reducible refine aGs (fun hg0 => ?_) (fun hg0 => ?_) <;> first | (with_reducible first | exact aF1 hg0 | exact aF2 hg0) | (simp only [hg0, go_sem])) | (with_reducible refine aNk ?_; intro bnil hnil; try simp only []) | exact aZ | fail))
   all_goals first | omega | skip
   simp only [ends]
   (simp only [SubF, go_sem]; (try simp only [go_sem]); repeat' (first | exact True.intro | with_reducible refine And.intro ?_ ?_ | rfl | omega))
  obtain ⟨β8, h8⟩ := h8
  have h9 := h8.again rfl
  -- what stays
  have hnew : ∀ g, owned β4 g → w0.heap.size ≤ g := fun g hg => by
   rcases (h4.fresh g hg).1 with h | h
   ·exact hh.freshB g h
   ·exact Nat.le_trans hh.below.size h
  have hxo : ∀ g, hblk x = some g → owned β4 g := fun g hg => ⟨6, x, hx, hg⟩
  have hyo : ∀ g, hblk y = some g → owned β4 g := fun g hg => owned_undead (t := 6) ⟨7, y, hy, hg⟩
  have hin : ∀ g, inBk (flatP p) g → w4.heap[g]? = w.heap[g]? ∧ w8.heap[g]? = w4.heap[g]? := fun g hg => by
   have h1 := hh.sim.m0.1 g (.inr hg)
   refine ⟨h4.below.block g h1 fun ho => (h4.out g ho).1 (.inr hg), h8.below.block g (Nat.lt_of_lt_of_le h1 h4.below.size) fun ho => (h8.out g ho).1 (.inl (.inl (.inr hg)))⟩
  have hinx : ∀ g, hblk x = some g → w8.heap[g]? = w4.heap[g]? := fun g hg => h8.below.block g (h4.fresh g (hxo g hg)).2 fun ho => (h8.out g ho).1 (.inl (.inr hg))
  have hiny : ∀ g, hblk y = some g → w8.heap[g]? = w4.heap[g]? := fun g hg => h8.below.block g (h4.fresh g (hyo g hg)).2 fun ho => (h8.out g ho).1 (.inr hg)
  have hmem : ∀ (j : Nat) (z : Value × Value), p[j]? = some z → (∀ g, hblk z.1 = some g → inBk (flatP p) g) ∧ ∀ g, hblk z.2 = some g → inBk (flatP p) g := fun j z hz => by
   have hz2 := List.mem_of_getElem? hz
   exact ⟨fun g hg => ⟨z.1, List.mem_flatMap.2 ⟨z, hz2, by simp⟩, hg⟩, fun g hg => ⟨z.2, List.mem_flatMap.2 ⟨z, hz2, by simp⟩, hg⟩⟩
  have eM : (fun g => ((M g ∨ inBk (flatP p) g) ∨ hblk x = some g) ∨ hblk y = some g) = fun g => M g ∨ inBk (flatP (p ++ [(x, y)])) g := by
   funext g
   apply propext
   rw [flatP_snoc, inBk_snoc]
   constructor
   ·rintro (((h | h) | h) | h)
    ·exact .inl h
    ·exact .inr (.inl (.inl h))
    ·exact .inr (.inl (.inr h))
    ·exact .inr (.inr h)
   ·rintro (h | ((h | h) | h))
    ·exact .inl (.inl (.inl h))
    ·exact .inl (.inl (.inr h))
    ·exact .inl (.inr h)
    ·exact .inr h
  refine ⟨nt s - (p.length + 1), by omega, p ++ [(x, y)], β8, by rw [hpl], by omega, ?_, ?_, ?_, ?_, ?_, ?_⟩
  ·rw [← eM, hpl]; exact h9
  ·exact below_on (below_on hh.below h4.below fun g hg => hh.freshB g hg) h8.below fun g hg => hnew g (owned_undead (owned_undead hg))
  ·intro j z hz
   rcases Nat.lt_or_ge j p.length with hj | hj
   ·rw [List.getElem?_append_left hj] at hz
    obtain ⟨q1, q2⟩ := hh.inn j z hz
    obtain ⟨m1, m2⟩ := hmem j z hz
    exact ⟨q1.to fun g hg => by have := hin g (m1 g hg); rw [this.2, this.1], q2.to fun g hg => by have := hin g (m2 g hg); rw [this.2, this.1]⟩
   ·rw [List.getElem?_append_right hj] at hz
    have hj2 : j = p.length := by
     rcases Nat.lt_or_ge p.length j with h | h
     ·rw [List.getElem?_eq_none (by simp; omega)] at hz; cases hz
     ·omega
    subst hj2
    rw [Nat.sub_self] at hz
    cases hz
    exact ⟨(InnAt.of hox).to hinx, (InnAt.of hoy).to hiny⟩
  ·rw [flatP_snoc, show flatP p ++ [x, y] = (flatP p ++ [x]) ++ [y] by simp]
   refine (hh.apart.snoc fun g hg hi => h4.disj (hxo g hg) (.inr hi)).snoc fun g hg hi => ?_
   have hd := h5.disj ⟨7, y, hy, hg⟩
   obtain ⟨z, hz, hzg⟩ := hi
   rcases List.mem_append.1 hz with h | h
   ·exact hd (.inl (.inr ⟨z, h, hzg⟩))
   ·rw [List.mem_singleton.1 h] at hzg
    exact hd (.inr hzg)
  ·intro g hg
   rw [flatP_snoc, inBk_snoc] at hg
   rcases hg with (hg | hg) | hg
   ·exact hh.fresh g hg
   ·exact hnew g (hxo g hg)
   ·exact hnew g (hyo g hg)
  ·intro g hg
   rcases (h8.fresh g hg).1 with h | h
   ·exact hnew g (owned_undead (owned_undead h))
   ·exact Nat.le_trans (Nat.le_trans hh.below.size h4.below.size) h
 ·have hpe : p.length = nt s := by omega
  refine wp_seq (segX Ty_ok mixed (s2 := ⟨104, mkS p.length, mkH s p, 0⟩) (k := 2) ⟨β, hh.sim⟩ ?_ fun a1 w1 h1 => ?_)
  ·simp only [mkS, mkH]
   (repeat' (first | (with_reducible first | exact True.intro | refine And.intro ?_ ?_ | refine aBl ?_ | (refine aS 10 [] ?_; intro K hK)) | ((with_reducible first | refine aGo ?_ | refine rP Ty_ok mixed 5 [0, 2, 3] [.mid [pe 1, pe 4, pe 5, pe 6, pe 7, pe 8] 0, .one 9, .one 10, .one 11] ?_ | refine rD (id := 13) ?_); simp only [b1, w6, go_sem]) | ((with_reducible refine aCd ?_ ?_ (fun hb => ?_) (fun hb => ?_)); (iterate 2 simp only [b1, w6, go_sem]); all_goals (simp only [b1, w6, go_sem] at hb; try simp only [bls] at hb)) | ((iterate 6 try ((fail_if_success with_reducible refine hK _ ?_ ?_ ?_); clear hK K)); with_reducible refine hK _ ?_ ?_ ?_; rotate_left; (focus (simp only [b1, w6, go_sem]; exact rfl)); clear hK K) | (with_reducible refine aGs (fun hg0 => ?_) (fun hg0 => ?_) <;> first | (with_reducible first | exact aF1 hg0 | exact aF2 hg0) | (simp only [hg0, b1, w6, go_sem])) | (with_reducible refine aNk ?_; intro bnil hnil; try simp only []) | exact aZ | fail))
   all_goals first | omega | skip
   simp only [awp, endsX]
   (simp only [SubF, go_sem]; (try simp only [go_sem]); repeat' (first | exact True.intro | with_reducible refine And.intro ?_ ?_ | rfl | omega))
  refine segR Ty_ok mixed (s1 := ⟨104, [(2, .one (.vp 1 0))], [.var 25 (bytesD 37 s), .var 30 [.own 3, .own 4], .var 30 [.own 3, .own 4], .row 3 1 (ints (initL s (np s))), .row 34 3 (rawT s 0 p)], 0⟩) h1 ?_ fun a2 w2 h2 => ?_
  ·simp only [mkS, mkH]
   (repeat' (first | (with_reducible first | exact True.intro | refine And.intro ?_ ?_ | refine aBl ?_ | (refine aS 10 [] ?_; intro K hK)) | ((with_reducible first | refine aGo ?_ | refine rP Ty_ok mixed 5 [0, 2, 3] [.mid [pe 1, pe 4, pe 5, pe 6, pe 7, pe 8] 0, .one 9, .one 10, .one 11] ?_ | refine rD (id := 13) ?_); simp only [go_sem]) | ((with_reducible refine aCd ?_ ?_ (fun hb => ?_) (fun hb => ?_)); (iterate 2 simp only [go_sem]); all_goals (simp only [go_sem] at hb; try simp only [bls] at hb)) | ((iterate 6 try ((fail_if_success with_reducible refine hK _ ?_ ?_ ?_); clear hK K)); with_reducible refine hK _ ?_ ?_ ?_; rotate_left; (focus (simp only [go_sem]; exact rfl)); clear hK K) | (with_reducible refine aGs (fun hg0 => ?_) (fun hg0 => ?_) <;> first | (with_reducible first | exact aF1 hg0 | exact aF2 hg0) | (simp only [hg0, go_sem])) | (with_reducible refine aNk ?_; intro bnil hnil; try simp only []) | exact aZ | fail))
   all_goals first | omega | skip
   simp only [awp, endsR]
   (simp only [SubF, go_sem]; (try simp only [go_sem]); repeat' (first | exact True.intro | with_reducible refine And.intro ?_ ?_ | rfl | omega))
  obtain ⟨β2, h2⟩ := h2
  refine hQ a2 w2 h2.defers ?_
  obtain ⟨v, r1, r2⟩ := retL_run (P := Tryd.prog) (congrArg Array.toList Tryd.results5) (r := .agg [.own 3, .own 4]) (fun z hz => resW_run (P := Tryd.prog) Ty_ok h2 hz) (by simp only [retF, retM, retL, resV, resW, retO, resAV, AV.bor, D.bor, D.bor1, D.bor0, AV.flatOwn, D.flatOwn, D.flat, AV.tagged, D.tagged, AObj.plain, go_sem])
  refine ⟨v, r1, ?_⟩
  obtain ⟨us, rfl, hul, huc⟩ := r2
  match us, hul with
  | [x, y], _ =>
  have hx : β2[3]? = some x := own_live (huc 0 (.own 3) x rfl rfl) fun z hz => h2.objs 3 _ z rfl hz
  have hy : β2[4]? = some y := own_live (huc 1 (.own 4) y rfl rfl) fun z hz => h2.objs 4 _ z rfl hz
  have hox := h2.objs 3 _ x rfl hx
  have hoy := h2.objs 4 _ y rfl hy
  have hfr : ∀ g, owned β2 g → w0.heap.size ≤ g ∧ g < w2.heap.size := fun g hg => by
   obtain ⟨q1, q2⟩ := h2.fresh g hg
   refine ⟨?_, q2⟩
   rcases q1 with h | h
   ·exact hh.freshB g h
   ·exact Nat.le_trans hh.below.size h
  have hin : ∀ g, inBk (flatP p) g → g < w.heap.size ∧ w2.heap[g]? = w.heap[g]? := fun g hg => by
   have h1 := hh.sim.m0.1 g (.inr hg)
   exact ⟨h1, h2.below.block g h1 fun ho => (h2.out g ho).1 (.inr hg)⟩
  refine ⟨p, x, y, rfl, below_on hh.below h2.below fun g hg => hh.freshB g hg, hpe, row_flat (fun r hr => by
   obtain ⟨z, _, rfl⟩ := List.mem_map.1 hr; rfl) (fun _ _ => rfl) hox, row_flat (rawT_flat s p 0) (fun _ _ => rfl) hoy, fun j z hz => ?_, ?_, fun g hg => ?_⟩
  ·obtain ⟨q1, q2⟩ := hh.inn j z hz
   have hz2 := List.mem_of_getElem? hz
   exact ⟨q1.to fun g hg => (hin g ⟨z.1, List.mem_flatMap.2 ⟨z, hz2, by simp⟩, hg⟩).2, q2.to fun g hg => (hin g ⟨z.2, List.mem_flatMap.2 ⟨z, hz2, by simp⟩, hg⟩).2⟩
  ·rw [show flatP p ++ [x, y] = (flatP p ++ [x]) ++ [y] by simp]
   refine (hh.apart.snoc fun g hg hi => h2.disj ⟨3, x, hx, hg⟩ (.inr hi)).snoc fun g hg hi => ?_
   obtain ⟨z, hz, hzg⟩ := hi
   rcases List.mem_append.1 hz with h | h
   ·exact h2.disj ⟨4, y, hy, hg⟩ (.inr ⟨z, h, hzg⟩)
   ·rw [List.mem_singleton.1 h] at hzg
    have := h2.dist 3 4 x y g hx hy hzg hg
    omega
  ·rw [inBk_snoc] at hg
   rcases hg with (hg | hg) | hg
   ·obtain ⟨q1, q2⟩ := hin g hg
    exact ⟨hh.fresh g hg, Nat.lt_of_lt_of_le q1 h2.below.size⟩
   ·exact hfr g ⟨3, x, hx, hg⟩
   ·exact hfr g ⟨4, y, hy, hg⟩
end Go.Proofs.YtljpfdehnjemlaaDoor
