/-
 Contracts: nets of a shape.
-/
import Derived.Test.YtkjllcmpjghmkaaGreatDoorN2
set_option linter.unusedSimpArgs false
set_option linter.unusedVariables false
namespace Go.Proofs.YtkjllcmpjghmkaaGreatDoor
open Go.Eng Go.RowKit
def z0Y (n : Nat) (s : Nat → Int) : List D := (List.range n).map fun i => D.int .u8 (s i)
theorem z4w (n : Nat) (s : Nat → Int) : (z0Y n s).length = n := by simp [z0Y]
theorem z3i (n : Nat) (s : Nat → Int) (k : Nat) (hk : k < n) : ((z0Y n s).drop k).headD (.int .u8 0) = .int .u8 (s k) := by
 have hl : k < (z0Y n s).length := by rw [z4w]; exact hk
 rw [List.drop_eq_getElem_cons hl]
 simp [z0Y]
theorem zbD (n : Nat) (s : Nat → Int) (hk : 0 < n) : (z0Y n s).headD (.int .u8 0) = .int .u8 (s 0) := z3i n s 0 hk
theorem zbB (n m : Nat) (s : Nat → Int) : (z0Y n s).all (D.tagsLt m) = true := by
 simp only [z0Y, List.all_map, List.all_eq_true]
 intro i _
 rfl
theorem zbC (n : Nat) (s : Nat → Int) : (z0Y n s).flatMap D.tags = [] := by
 simp only [z0Y, List.flatMap_map, List.flatMap_eq_nil_iff]
 intro i _
 rfl
theorem zfV (n : Nat) (s : Nat → Int) (t : Nat) (o : AObj) : (z0Y n s).map (D.fz t o) = z0Y n s := by
 simp only [z0Y, List.map_map]
 rfl
attribute [go_sem] z4w zfV List.length_drop zbC
attribute [go_sem high] zbB
theorem z5I (x m : Int) (h0 : 0 ≤ x) (hm : 0 < m) (hm2 : m < 256) : IntKind.i64.wrap (x.tmod m) = x % m := by
 rw [Int.tmod_eq_emod_of_nonneg h0]
 have := Int.emod_nonneg x (show m ≠ 0 by omega)
 have := Int.emod_lt_of_pos x hm
 exact z12 ((z3r _).2 ⟨by omega, by omega⟩)
def np (s : Nat → Int) : Nat := 1 + (s 0 % 5).toNat
def nt (s : Nat → Int) : Nat := min (s 1 % 6).toNat 5
def tok (s : Nat → Int) (p : Nat) : Int := s (2 + p) % 4
def initL (s : Nat → Int) (k : Nat) : List Int := (List.range k).map (tok s)
theorem zdH (s : Nat → Int) (k : Nat) : initL s (k + 1) = initL s k ++ [tok s k] := by simp [initL, List.range_succ]
theorem z2g (s : Nat → Int) (k : Nat) : (initL s k).length = k := by simp [initL]
def inW (s : Nat → Int) (t p : Nat) : Int := [0, 0, 1, 0, 1, 2].getD (s (12 + t * 5 + p) % 6).toNat 0
def outW (s : Nat → Int) (t p : Nat) : Int := [0, 1, 0, 0, 1, 2].getD (s (12 + t * 5 + p) / 6 % 6).toNat 0
def arcsL (f : Nat → Int) (k : Nat) : List Arc := ((List.range k).filter fun p => decide (0 < f p)).map fun (p : Nat) => (⟨(p : Int), f p⟩ : Arc)
theorem ze5 (f : Nat → Int) (k : Nat) : arcsL f (k + 1) = arcsL f k ++ if 0 < f k then [⟨k, f k⟩] else [] := by
 simp only [arcsL, List.range_succ, List.filter_append, List.map_append]
 congr 1
 by_cases h : 0 < f k <;> simp [List.filter_cons, h]
theorem tab6 (a b c d e f i : Int) (h0 : 0 ≤ i) (h6 : i < 6) (z : List D) : ([[D.int .i64 a], [D.int .i64 b], [D.int .i64 c], [D.int .i64 d], [D.int .i64 e], [D.int .i64 f]].getD i.toNat z) = [D.int .i64 ([a, b, c, d, e, f].getD i.toNat 0)] := by
 obtain ⟨n, rfl⟩ := Int.eq_ofNat_of_zero_le h0
 match n, h6 with
 | 0, _ => rfl
 | 1, _ => rfl
 | 2, _ => rfl
 | 3, _ => rfl
 | 4, _ => rfl
 | 5, _ => rfl
 | n + 6, h => exact absurd h (by omega)
theorem z5C (f : Nat → Int) (k : Nat) : (arcsL f k).length ≤ k := by
 simp only [arcsL, List.length_map]
 exact Nat.le_trans (List.length_filter_le _ _) (by simp)
def trL (s : Nat → Int) (t : Nat) : Tr := ⟨s (7 + t) % 5, arcsL (inW s t) (np s), arcsL (outW s t) (np s)⟩
def trsL (s : Nat → Int) (k : Nat) : List Tr := (List.range k).map (trL s)
theorem zen (s : Nat → Int) (k : Nat) : trsL s (k + 1) = trsL s k ++ [trL s k] := by simp [trsL, List.range_succ]
theorem z65 (s : Nat → Int) (k : Nat) : (trsL s k).length = k := by simp [trsL]
def z1h (s : Nat → Int) : Net := ⟨initL s (np s), trsL s (nt s)⟩
def Bytes (s : Nat → Int) : Prop := ∀ i, 0 ≤ s i ∧ s i ≤ 255
set_option maxHeartbeats 8000000 in
theorem zkq (s : Nat → Int) (hs : Bytes s) : ACalls Tryz.prog 7 [.agg (z0Y 37 s)] (.agg (z1h s).d) [] := by
 have w5 := z5I (s 0) 5 (hs 0).1 (by omega) (by omega)
 have w6 := z5I (s 1) 6 (hs 1).1 (by omega) (by omega)
 have b0 := zbD 37 s (by omega)
 have b1 := z3i 37 s 1 (by omega)
 have hnp : (np s : Int) = 1 + s 0 % 5 := by unfold np; omega
 have hnp5 : np s ≤ 5 := by unfold np; omega
 have hnt : (nt s : Int) = min (s 1 % 6) 5 := by unfold nt; omega
 (refine ACalls.of_body Ty_ok mixed Tryz.func7 rfl (by kernel_rfl) Tryz.ntmps7 (by simp) (congrArg Array.toList Tryz.results7) ?_)
 simp only [z00]
 (repeat' (first | (with_reducible first | refine aBl ?_ | (refine aS 10 [] ?_; intro K hK)) | ((with_reducible refine aGo ?_); simp only [go_sem]) | ((iterate 6 try ((fail_if_success with_reducible refine hK _ ?_ ?_ ?_); clear hK K)); with_reducible refine hK _ ?_ ?_ ?_; rotate_left; (focus (simp only [go_sem]; exact rfl)); clear hK K) | fail))
 refine z14 [.cell 2 0 3 1] _ (by simp only [go_sem]; rfl) Nat (fun k => k ≤ np s) (fun k => [(4, .one (.int .i64 k))]) (fun k => [.var 25 (z0Y 37 s), .var 32 [.nil, .nil], .var 32 [.own 3, .nil], .row 3 1 (ints (initL s k))]) (fun k => np s - k) 0 (by omega) ?_ ?_
 ·(simp only [SubF, go_sem]; (try simp only [go_sem]); repeat' (first | exact True.intro | with_reducible refine And.intro ?_ ?_ | rfl | omega))
 ·rintro k hk L hL
  have hl := z2g s k
  by_cases hk5 : k < np s
  ·have bk := z3i 37 s (2 + k * 1) (by omega)
   have wk := z5I (s (2 + k)) 4 (hs _).1 (by omega) (by omega)
   rw [Nat.mul_one] at bk
   (simp only [go_sem] at hL ⊢)
   (repeat' (first | (with_reducible first | refine And.intro ?_ ?_ | refine aBl ?_ | (refine aS 10 [] ?_; intro K hK)) | ((with_reducible first | refine aGo ?_ | refine rP Ty_ok mixed 5 [0, 2, 3] [.mid [pe 1, pe 4, pe 5, pe 6, pe 7, pe 8] 0, .one 9, .one 10, .one 11] ?_); simp only [b0, w5, bk, wk, Nat.mul_one, go_sem]) | ((with_reducible refine aCd ?_ ?_ (fun hb => ?_) (fun hb => ?_)); (iterate 2 simp only [b0, w5, bk, wk, Nat.mul_one, go_sem]); all_goals (simp only [b0, w5, bk, wk, Nat.mul_one, go_sem] at hb; try simp only [bls] at hb)) | ((iterate 6 try ((fail_if_success with_reducible refine hK _ ?_ ?_ ?_); clear hK K)); with_reducible refine hK _ ?_ ?_ ?_; rotate_left; (focus (simp only [b0, w5, bk, wk, Nat.mul_one, go_sem]; exact rfl)); clear hK K) | exact aZ | fail))
   ·simp only [z0e, z0f]
    rw [show s (2 + k) % 4 = tok s k from rfl, ← zdH]
    exact hL _ (k + 1) (by omega) (by (simp only [SubF, go_sem]; (try simp only [go_sem]); repeat' (first | exact True.intro | with_reducible refine And.intro ?_ ?_ | rfl | omega))) (by omega)
   all_goals omega
  ·(simp only [go_sem] at hL ⊢)
   (repeat' (first | (with_reducible first | refine And.intro ?_ ?_ | refine aBl ?_ | (refine aS 10 [] ?_; intro K hK)) | ((with_reducible first | refine aGo ?_ | refine rP Ty_ok mixed 5 [0, 2, 3] [.mid [pe 1, pe 4, pe 5, pe 6, pe 7, pe 8] 0, .one 9, .one 10, .one 11] ?_); simp only [b0, w5, go_sem]) | ((with_reducible refine aCd ?_ ?_ (fun hb => ?_) (fun hb => ?_)); (iterate 2 simp only [b0, w5, go_sem]); all_goals (simp only [b0, w5, go_sem] at hb; try simp only [bls] at hb)) | ((iterate 6 try ((fail_if_success with_reducible refine hK _ ?_ ?_ ?_); clear hK K)); with_reducible refine hK _ ?_ ?_ ?_; rotate_left; (focus (simp only [b0, w5, go_sem]; exact rfl)); clear hK K) | exact aZ | fail))
   all_goals first | omega | skip
   have hk2 : k = np s := by omega
   subst hk2
   clear hL L
   refine z14 [.cell 2 1 66 3] _ (by simp only [go_sem]; rfl) Nat (fun k => k ≤ nt s) (fun k => [(5, .one (.int .i64 k))]) (fun k => [.var 25 (z0Y 37 s), .var 32 [.nil, .nil], .var 32 [.own 3, .own 4], .row 3 1 (ints (initL s (np s))), .row 66 3 (trsD (trsL s k))]) (fun k => nt s - k) 0 (by omega) ?_ ?_
   ·(simp only [SubF, go_sem]; (try simp only [go_sem]); repeat' (first | exact True.intro | with_reducible refine And.intro ?_ ?_ | rfl | omega))
   ·rintro t ht L hL
    have hlt := z65 s t
    by_cases ht5 : t < nt s
    ·have bt := z3i 37 s (7 + t) (by omega)
     have wt := z5I (s (7 + t)) 5 (hs _).1 (by omega) (by omega)
     (simp only [go_sem] at hL ⊢)
     (repeat' (first | (with_reducible first | refine And.intro ?_ ?_ | refine aBl ?_ | (refine aS 10 [] ?_; intro K hK)) | ((with_reducible refine aGo ?_); simp only [b1, w6, bt, wt, Nat.mul_one, go_sem]) | ((with_reducible refine aCd ?_ ?_ (fun hb => ?_) (fun hb => ?_)); (iterate 2 simp only [b1, w6, bt, wt, Nat.mul_one, go_sem]); all_goals (simp only [b1, w6, bt, wt, Nat.mul_one, go_sem] at hb; try simp only [bls] at hb)) | ((iterate 6 try ((fail_if_success with_reducible refine hK _ ?_ ?_ ?_); clear hK K)); with_reducible refine hK _ ?_ ?_ ?_; rotate_left; (focus (simp only [b1, w6, bt, wt, Nat.mul_one, go_sem]; exact rfl)); clear hK K) | exact aZ | fail))
     all_goals first | omega | skip
     refine z14 [.cell 5 1 84 2, .cell 5 2 84 2] _ (by simp only [go_sem]; rfl) Nat (fun p => p ≤ np s) (fun p => [(5, .one (.int .i64 t)), (7, .one (.int .i64 p))]) (fun p => [.var 25 (z0Y 37 s), .var 32 [.nil, .nil], .var 32 [.own 3, .own 4], .row 3 1 (ints (initL s (np s))), .row 66 3 (trsD (trsL s t)), .var 66 [.int .i64 (s (7 + t) % 5), .own 6, .own 7], .row 84 2 (arcsD (arcsL (inW s t) p)), .row 84 2 (arcsD (arcsL (outW s t) p))]) (fun p => np s - p) 0 (by omega) ?_ ?_
     ·(simp only [SubF, go_sem]; (try simp only [go_sem]); repeat' (first | exact True.intro | with_reducible refine And.intro ?_ ?_ | rfl | omega))
     ·rintro p hp L2 hL2
      have hli := z2g s (np s)
      have hla := z5C (inW s t) p
      have hlb := z5C (outW s t) p
      by_cases hp5 : p < np s
      ·have bp := z3i 37 s (12 + t * 5 + p) (by omega)
       have h0 := (hs (12 + t * 5 + p)).1
       have h255 := (hs (12 + t * 5 + p)).2
       have m1 : (s (12 + t * 5 + p)).tmod 6 = s (12 + t * 5 + p) % 6 := Int.tmod_eq_emod_of_nonneg h0
       have m2 : (s (12 + t * 5 + p)).tdiv 6 = s (12 + t * 5 + p) / 6 := Int.tdiv_eq_ediv_of_nonneg h0
       have m3 : (s (12 + t * 5 + p) / 6).tmod 6 = s (12 + t * 5 + p) / 6 % 6 := Int.tmod_eq_emod_of_nonneg (by omega)
       have t1 : ([[D.int .i64 0], [D.int .i64 0], [D.int .i64 1], [D.int .i64 0], [D.int .i64 1], [D.int .i64 2]].getD (s (12 + t * 5 + p) % 6).toNat [D.int .i64 0]) = [D.int .i64 (inW s t p)] := tab6 _ _ _ _ _ _ _ (by omega) (by omega) _
       have t2 : ([[D.int .i64 0], [D.int .i64 1], [D.int .i64 0], [D.int .i64 0], [D.int .i64 1], [D.int .i64 2]].getD (s (12 + t * 5 + p) / 6 % 6).toNat [D.int .i64 0]) = [D.int .i64 (outW s t p)] := tab6 _ _ _ _ _ _ _ (by omega) (by omega) _
       (simp only [go_sem] at hL2 ⊢)
       (repeat' (first | (with_reducible first | refine And.intro ?_ ?_ | refine aBl ?_ | (refine aS 10 [] ?_; intro K hK)) | ((with_reducible first | refine aGo ?_ | refine rD (id := 13) ?_); simp only [bp, hli, Nat.mul_one, m1, m2, m3, t1, t2, go_sem]) | ((with_reducible refine aCd ?_ ?_ (fun hb => ?_) (fun hb => ?_)); (iterate 2 simp only [bp, hli, Nat.mul_one, m1, m2, m3, t1, t2, go_sem]); all_goals (simp only [bp, hli, Nat.mul_one, m1, m2, m3, t1, t2, go_sem] at hb; try simp only [bls] at hb)) | ((iterate 6 try ((fail_if_success with_reducible refine hK _ ?_ ?_ ?_); clear hK K)); with_reducible refine hK _ ?_ ?_ ?_; rotate_left; (focus (simp only [bp, hli, Nat.mul_one, m1, m2, m3, t1, t2, go_sem]; exact rfl)); clear hK K) | exact aZ | fail))
       all_goals first | omega | skip
       all_goals refine hL2 _ (p + 1) (by omega) ?_ (by omega)
       all_goals simp only [ze5, zhK, z47]
       ·simp only [if_pos ‹0 < inW s t p›, if_pos ‹0 < outW s t p›]; (simp only [SubF, go_sem]; (try simp only [go_sem]); repeat' (first | exact True.intro | with_reducible refine And.intro ?_ ?_ | rfl | omega))
       ·simp only [if_pos ‹0 < inW s t p›, if_neg (Int.not_lt.2 ‹outW s t p ≤ 0›), List.append_nil]; (simp only [SubF, go_sem]; (try simp only [go_sem]); repeat' (first | exact True.intro | with_reducible refine And.intro ?_ ?_ | rfl | omega))
       ·simp only [if_neg (Int.not_lt.2 ‹inW s t p ≤ 0›), if_pos ‹0 < outW s t p›, List.append_nil]; (simp only [SubF, go_sem]; (try simp only [go_sem]); repeat' (first | exact True.intro | with_reducible refine And.intro ?_ ?_ | rfl | omega))
       ·simp only [if_neg (Int.not_lt.2 ‹inW s t p ≤ 0›), if_neg (Int.not_lt.2 ‹outW s t p ≤ 0›), List.append_nil]; (simp only [SubF, go_sem]; (try simp only [go_sem]); repeat' (first | exact True.intro | with_reducible refine And.intro ?_ ?_ | rfl | omega))
      ·(simp only [go_sem] at hL2 ⊢)
       (repeat' (first | (with_reducible first | refine And.intro ?_ ?_ | refine aBl ?_ | (refine aS 10 [] ?_; intro K hK)) | ((with_reducible first | refine aGo ?_ | refine rD (id := 13) ?_); simp only [hli, hlt, go_sem]) | ((with_reducible refine aCd ?_ ?_ (fun hb => ?_) (fun hb => ?_)); (iterate 2 simp only [hli, hlt, go_sem]); all_goals (simp only [hli, hlt, go_sem] at hb; try simp only [bls] at hb)) | ((iterate 6 try ((fail_if_success with_reducible refine hK _ ?_ ?_ ?_); clear hK K)); with_reducible refine hK _ ?_ ?_ ?_; rotate_left; (focus (simp only [hli, hlt, go_sem]; exact rfl)); clear hK K) | exact aZ | fail))
       all_goals first | omega | skip
       have hp3 : p = np s := by omega
       subst hp3
       have hts : trsD (trsL s (t + 1)) = trsD (trsL s t) ++ [[D.int IntKind.i64 (s (7 + t) % 5), D.list (arcsD (arcsL (inW s t) (np s))), D.list (arcsD (arcsL (outW s t) (np s)))]] := by rw [zen]; exact List.map_append
       rw [← hts]
       exact hL _ (t + 1) (by omega) (by (simp only [SubF, go_sem]; (try simp only [go_sem]); repeat' (first | exact True.intro | with_reducible refine And.intro ?_ ?_ | rfl | omega))) (by omega)
    ·(simp only [go_sem] at hL ⊢)
     (repeat' (first | (with_reducible first | refine And.intro ?_ ?_ | refine aBl ?_ | (refine aS 10 [] ?_; intro K hK)) | ((with_reducible refine aGo ?_); simp only [b1, w6, go_sem]) | ((with_reducible refine aCd ?_ ?_ (fun hb => ?_) (fun hb => ?_)); (iterate 2 simp only [b1, w6, go_sem]); all_goals (simp only [b1, w6, go_sem] at hb; try simp only [bls] at hb)) | ((iterate 6 try ((fail_if_success with_reducible refine hK _ ?_ ?_ ?_); clear hK K)); with_reducible refine hK _ ?_ ?_ ?_; rotate_left; (focus (simp only [b1, w6, go_sem]; exact rfl)); clear hK K) | exact aZ | fail))
     all_goals first | omega | skip
     have : t = nt s := by omega
     subst this
     rfl
end Go.Proofs.YtkjllcmpjghmkaaGreatDoor
