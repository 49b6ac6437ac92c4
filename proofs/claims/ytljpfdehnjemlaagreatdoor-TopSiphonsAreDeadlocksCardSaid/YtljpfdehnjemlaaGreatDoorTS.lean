/-
 Contracts of TopSiphonsAreDeadlocks: single.
-/
import Derived.Test.YtljpfdehnjemlaaGreatDoorN4
import Derived.Test.YtljpfdehnjemlaaGreatDoorE8
import Derived.Test.YtljpfdehnjemlaaGreatDoorQM
set_option linter.unusedSimpArgs false
set_option linter.unusedVariables false
namespace Go.Proofs.YtljpfdehnjemlaaGreatDoor
open Go.Eng Go.RowKit
set_option maxHeartbeats 8000000 in
theorem MakeO_c (s : Nat → Int) (hs : Bytes s) : ACalls Tryz.prog 7 [.agg (bytesD 37 s)] (.agg [.own 0, .own 1]) [.row 3 1 (ints (makeNet s).init), .row 66 3 (trsD (makeNet s).trs)] := by
 have w5 := wrap_mod (s 0) 5 (hs 0).1 (by omega) (by omega)
 have w6 := wrap_mod (s 1) 6 (hs 1).1 (by omega) (by omega)
 have b0 := bytesD_head 37 s (by omega)
 have b1 := bytesD_at 37 s 1 (by omega)
 have hnp : (np s : Int) = 1 + s 0 % 5 := by unfold np; omega
 have hnp5 : np s ≤ 5 := by unfold np; omega
 have hnt : (nt s : Int) = min (s 1 % 6) 5 := by unfold nt; omega
 (refine ACalls.of_body_twoC Ty_ok mixed Tryz.func7 rfl (by kernel_rfl) Tryz.ntmps7 (by simp) (congrArg Array.toList Tryz.results7) ?_)
 simp only [slotsOf]
 (repeat' (first | (with_reducible first | refine aBl ?_ | (refine aS 10 [] ?_; intro K hK)) | ((with_reducible refine aGo ?_); simp only [go_sem]) | ((iterate 6 try ((fail_if_success with_reducible refine hK _ ?_ ?_ ?_); clear hK K)); with_reducible refine hK _ ?_ ?_ ?_; rotate_left; (focus (simp only [go_sem]; exact rfl)); clear hK K) | fail))
 refine awp_loopT [.cell 2 0 3 1] _ (by simp only [go_sem]; rfl) Nat (fun k => k ≤ np s) (fun k => [(4, .one (.int .i64 k))]) (fun k => [.var 25 (bytesD 37 s), .var 32 [.nil, .nil], .var 32 [.own 3, .nil], .row 3 1 (ints (initL s k))]) (fun k => np s - k) 0 (by omega) ?_ ?_
 ·(simp only [SubF, go_sem]; (try simp only [go_sem]); repeat' (first | exact True.intro | with_reducible refine And.intro ?_ ?_ | rfl | omega))
 ·rintro k hk L hL
  have hl := initL_length s k
  by_cases hk5 : k < np s
  ·have bk := bytesD_at 37 s (2 + k * 1) (by omega)
   have wk := wrap_mod (s (2 + k)) 4 (hs _).1 (by omega) (by omega)
   rw [Nat.mul_one] at bk
   (simp only [go_sem] at hL ⊢)
   (repeat' (first | (with_reducible first | refine And.intro ?_ ?_ | refine aBl ?_ | (refine aS 10 [] ?_; intro K hK)) | ((with_reducible first | refine aGo ?_ | refine rP Ty_ok mixed 5 [0, 2, 3] [.mid [pe 1, pe 4, pe 5, pe 6, pe 7, pe 8] 0, .one 9, .one 10, .one 11] ?_); simp only [b0, w5, bk, wk, Nat.mul_one, go_sem]) | ((with_reducible refine aCd ?_ ?_ (fun hb => ?_) (fun hb => ?_)); (iterate 2 simp only [b0, w5, bk, wk, Nat.mul_one, go_sem]); all_goals (simp only [b0, w5, bk, wk, Nat.mul_one, go_sem] at hb; try simp only [bls] at hb)) | ((iterate 6 try ((fail_if_success with_reducible refine hK _ ?_ ?_ ?_); clear hK K)); with_reducible refine hK _ ?_ ?_ ?_; rotate_left; (focus (simp only [b0, w5, bk, wk, Nat.mul_one, go_sem]; exact rfl)); clear hK K) | exact aZ | fail))
   ·simp only [ints_one, ints_append]
    rw [show s (2 + k) % 4 = tok s k from rfl, ← initL_succ]
    exact hL _ (k + 1) (by omega) (by (simp only [SubF, go_sem]; (try simp only [go_sem]); repeat' (first | exact True.intro | with_reducible refine And.intro ?_ ?_ | rfl | omega))) (by omega)
   all_goals omega
  ·(simp only [go_sem] at hL ⊢)
   (repeat' (first | (with_reducible first | refine And.intro ?_ ?_ | refine aBl ?_ | (refine aS 10 [] ?_; intro K hK)) | ((with_reducible first | refine aGo ?_ | refine rP Ty_ok mixed 5 [0, 2, 3] [.mid [pe 1, pe 4, pe 5, pe 6, pe 7, pe 8] 0, .one 9, .one 10, .one 11] ?_); simp only [b0, w5, go_sem]) | ((with_reducible refine aCd ?_ ?_ (fun hb => ?_) (fun hb => ?_)); (iterate 2 simp only [b0, w5, go_sem]); all_goals (simp only [b0, w5, go_sem] at hb; try simp only [bls] at hb)) | ((iterate 6 try ((fail_if_success with_reducible refine hK _ ?_ ?_ ?_); clear hK K)); with_reducible refine hK _ ?_ ?_ ?_; rotate_left; (focus (simp only [b0, w5, go_sem]; exact rfl)); clear hK K) | exact aZ | fail))
   all_goals first | omega | skip
   have hk2 : k = np s := by omega
   subst hk2
   clear hL L
   refine awp_loopT [.cell 2 1 66 3] _ (by simp only [go_sem]; rfl) Nat (fun k => k ≤ nt s) (fun k => [(5, .one (.int .i64 k))]) (fun k => [.var 25 (bytesD 37 s), .var 32 [.nil, .nil], .var 32 [.own 3, .own 4], .row 3 1 (ints (initL s (np s))), .row 66 3 (trsD (trsL s k))]) (fun k => nt s - k) 0 (by omega) ?_ ?_
   ·(simp only [SubF, go_sem]; (try simp only [go_sem]); repeat' (first | exact True.intro | with_reducible refine And.intro ?_ ?_ | rfl | omega))
   ·rintro t ht L hL
    have hlt := trsL_length s t
    by_cases ht5 : t < nt s
    ·have bt := bytesD_at 37 s (7 + t) (by omega)
     have wt := wrap_mod (s (7 + t)) 5 (hs _).1 (by omega) (by omega)
     (simp only [go_sem] at hL ⊢)
     (repeat' (first | (with_reducible first | refine And.intro ?_ ?_ | refine aBl ?_ | (refine aS 10 [] ?_; intro K hK)) | ((with_reducible refine aGo ?_); simp only [b1, w6, bt, wt, Nat.mul_one, go_sem]) | ((with_reducible refine aCd ?_ ?_ (fun hb => ?_) (fun hb => ?_)); (iterate 2 simp only [b1, w6, bt, wt, Nat.mul_one, go_sem]); all_goals (simp only [b1, w6, bt, wt, Nat.mul_one, go_sem] at hb; try simp only [bls] at hb)) | ((iterate 6 try ((fail_if_success with_reducible refine hK _ ?_ ?_ ?_); clear hK K)); with_reducible refine hK _ ?_ ?_ ?_; rotate_left; (focus (simp only [b1, w6, bt, wt, Nat.mul_one, go_sem]; exact rfl)); clear hK K) | exact aZ | fail))
     all_goals first | omega | skip
     refine awp_loopT [.cell 5 1 84 2, .cell 5 2 84 2] _ (by simp only [go_sem]; rfl) Nat (fun p => p ≤ np s) (fun p => [(5, .one (.int .i64 t)), (7, .one (.int .i64 p))]) (fun p => [.var 25 (bytesD 37 s), .var 32 [.nil, .nil], .var 32 [.own 3, .own 4], .row 3 1 (ints (initL s (np s))), .row 66 3 (trsD (trsL s t)), .var 66 [.int .i64 (s (7 + t) % 5), .own 6, .own 7], .row 84 2 (arcsD (arcsL (inW s t) p)), .row 84 2 (arcsD (arcsL (outW s t) p))]) (fun p => np s - p) 0 (by omega) ?_ ?_
     ·(simp only [SubF, go_sem]; (try simp only [go_sem]); repeat' (first | exact True.intro | with_reducible refine And.intro ?_ ?_ | rfl | omega))
     ·rintro p hp L2 hL2
      have hli := initL_length s (np s)
      have hla := arcsL_length (inW s t) p
      have hlb := arcsL_length (outW s t) p
      by_cases hp5 : p < np s
      ·have bp := bytesD_at 37 s (12 + t * 5 + p) (by omega)
       have h0 := (hs (12 + t * 5 + p)).1
       have h255 := (hs (12 + t * 5 + p)).2
       have m1 : (s (12 + t * 5 + p)).tmod 6 = s (12 + t * 5 + p) % 6 := Int.tmod_eq_emod_of_nonneg h0
       have m2 : (s (12 + t * 5 + p)).tdiv 6 = s (12 + t * 5 + p) / 6 := Int.tdiv_eq_ediv_of_nonneg h0
       have m3 : (s (12 + t * 5 + p) / 6).tmod 6 = s (12 + t * 5 + p) / 6 % 6 := Int.tmod_eq_emod_of_nonneg (by omega)
       have t1 : ([[D.int .i64 0], [D.int .i64 0], [D.int .i64 1], [D.int .i64 0], [D.int .i64 1], [D.int .i64 2]].getD (s (12 + t * 5 + p) % 6).toNat [D.int .i64 0]) = [D.int .i64 (inW s t p)] := tab6 _ _ _ _ _ _ _ (by omega) (by omega) _
       have t2 : ([[D.int .i64 0], [D.int .i64 1], [D.int .i64 0], [D.int .i64 0], [D.int .i64 1], [D.int .i64 2]].getD (s (12 + t * 5 + p) / 6 % 6).toNat [D.int .i64 0]) = [D.int .i64 (outW s t p)] := tab6 _ _ _ _ _ _ _ (by omega) (by omega) _
       (simp only [go_sem] at hL2 ⊢)
       (repeat' (first | (with_reducible first | refine And.intro ?_ ?_ | refine aBl ?_ | (refine aS 10 [] ?_; intro K hK)) | ((with_reducible first | refine aGo ?_ | refine rD (id := 13) ?_); simp only [bp, hli, Nat.mul_one, m1, m2, m3, t1, t2, go_sem]) | ((with_reducible refine aCd ?_ ?_ (fun hb => ?_) (fun hb => ?_)); (iterate 2 simp only [bp, hli, Nat.mul_one, m1, m2, m3, t1, t2, go_sem]); all_goals (simp only [bp, hli, Nat.mul_one, m1, m2, m3, t1, t2, go_sem] at hb; try simp only [bls] at hb)) | ((iterate 6 try ((fail_if_success with_reducible refine hK _ ?_ ?_ ?_); clear hK K)); with_reducible refine hK _ ?_ ?_ ?_; rotate_left; (focus (simp only [bp, hli, Nat.mul_one, m1, m2, m3, t1, t2, go_sem]; exact rfl)); clear hK K) | exact aZ | fail))
       all_goals first | omega | skip
       all_goals refine hL2 _ (p + 1) (by omega) ?_ (by omega)
       all_goals simp only [arcsL_succ, arcs_one, arcs_append]
       ·simp only [if_pos ‹0 < inW s t p›, if_pos ‹0 < outW s t p›]; (simp only [SubF, go_sem]; (try simp only [go_sem]); repeat' (first | exact True.intro | with_reducible refine And.intro ?_ ?_ | rfl | omega))
       ·simp only [if_pos ‹0 < inW s t p›, if_neg (Int.not_lt.2 ‹outW s t p ≤ 0›), List.append_nil]; (simp only [SubF, go_sem]; (try simp only [go_sem]); repeat' (first | exact True.intro | with_reducible refine And.intro ?_ ?_ | rfl | omega))
       ·simp only [if_neg (Int.not_lt.2 ‹inW s t p ≤ 0›), if_pos ‹0 < outW s t p›, List.append_nil]; (simp only [SubF, go_sem]; (try simp only [go_sem]); repeat' (first | exact True.intro | with_reducible refine And.intro ?_ ?_ | rfl | omega))
       ·simp only [if_neg (Int.not_lt.2 ‹inW s t p ≤ 0›), if_neg (Int.not_lt.2 ‹outW s t p ≤ 0›), List.append_nil]; (simp only [SubF, go_sem]; (try simp only [go_sem]); repeat' (first | exact True.intro | with_reducible refine And.intro ?_ ?_ | rfl | omega))
      ·(simp only [go_sem] at hL2 ⊢)
       (repeat' (first | (with_reducible first | refine And.intro ?_ ?_ | refine aBl ?_ | (refine aS 10 [] ?_; intro K hK)) | ((with_reducible first | refine aGo ?_ | refine rD (id := 13) ?_); simp only [hli, hlt, go_sem]) | ((with_reducible refine aCd ?_ ?_ (fun hb => ?_) (fun hb => ?_)); (iterate 2 simp only [hli, hlt, go_sem]); all_goals (simp only [hli, hlt, go_sem] at hb; try simp only [bls] at hb)) | ((iterate 6 try ((fail_if_success with_reducible refine hK _ ?_ ?_ ?_); clear hK K)); with_reducible refine hK _ ?_ ?_ ?_; rotate_left; (focus (simp only [hli, hlt, go_sem]; exact rfl)); clear hK K) | exact aZ | fail))
       all_goals first | omega | skip
       have hp3 : p = np s := by omega
       subst hp3
       have hts : trsD (trsL s (t + 1)) = trsD (trsL s t) ++ [[D.int IntKind.i64 (s (7 + t) % 5), D.list (arcsD (arcsL (inW s t) (np s))), D.list (arcsD (arcsL (outW s t) (np s)))]] := by rw [trsL_succ]; exact List.map_append
       rw [← hts]
       exact hL _ (t + 1) (by omega) (by (simp only [SubF, go_sem]; (try simp only [go_sem]); repeat' (first | exact True.intro | with_reducible refine And.intro ?_ ?_ | rfl | omega))) (by omega)
    ·(simp only [go_sem] at hL ⊢)
     (repeat' (first | (with_reducible first | refine And.intro ?_ ?_ | refine aBl ?_ | (refine aS 10 [] ?_; intro K hK)) | ((with_reducible refine aGo ?_); simp only [b1, w6, go_sem]) | ((with_reducible refine aCd ?_ ?_ (fun hb => ?_) (fun hb => ?_)); (iterate 2 simp only [b1, w6, go_sem]); all_goals (simp only [b1, w6, go_sem] at hb; try simp only [bls] at hb)) | ((iterate 6 try ((fail_if_success with_reducible refine hK _ ?_ ?_ ?_); clear hK K)); with_reducible refine hK _ ?_ ?_ ?_; rotate_left; (focus (simp only [b1, w6, go_sem]; exact rfl)); clear hK K) | exact aZ | fail))
     all_goals first | omega | skip
     all_goals (have : t = nt s := by omega)
     all_goals subst this
     all_goals rfl
end Go.Proofs.YtljpfdehnjemlaaGreatDoor
set_option linter.unusedSimpArgs false
set_option linter.unusedVariables false
namespace Go.Proofs.YtljpfdehnjemlaaGreatDoor
open Go.Eng Go.RowKit
set_option maxHeartbeats 4000000 in
theorem ChooseO_c (s : Nat → Int) (hs : Bytes s) (b : Bool) : ACalls Tryz.prog 16 [.agg (bytesD 37 s), .one (.bool b)] (.agg [.own 0, .own 1]) [.row 3 1 (ints (chooseN s b).init), .row 66 3 (trsD (chooseN s b).trs)] := by
 cases b with
 | false =>
  have h1 := MakeO_c s hs
  have e : chooseN s false = makeNet s := rfl
  rw [e]
  generalize ints (makeNet s).init = Y at *
  generalize trsD (makeNet s).trs = X at *
  (refine ACalls.of_body_twoC Ty_ok mixed Tryz.func16 rfl (by kernel_rfl) Tryz.ntmps16 (by simp) (congrArg Array.toList Tryz.results16) ?_)
  simp only [slotsOf]
  (repeat' (first | (with_reducible (refine aS 6 [] ?_; intro K hK)) | ((with_reducible refine aGo ?_); simp only [go_sem]) | ((with_reducible refine aCd ?_ ?_ (fun hb => ?_) (fun hb => ?_)); (iterate 2 simp only [go_sem]); all_goals (simp only [go_sem] at hb; try simp only [bls] at hb)) | ((iterate 6 try ((fail_if_success with_reducible refine hK _ ?_ ?_ ?_); clear hK K)); with_reducible refine hK _ ?_ ?_ ?_; rotate_left; (focus (simp only [go_sem]; exact rfl)); clear hK K) | (((with_reducible refine gA ?_); refine xA ?_); simp only [go_sem]) | fail))
  all_goals first | omega | skip
 | true =>
  have h1 := TableO_c
  have e : ints (chooseN s true).init = ints [1 + s 2 % 2, 0, 0, 1, 0, 0] := rfl
  have e2 : trsD (chooseN s true).trs = trsD (tabN 1).trs := rfl
  have b2 := bytesD_at 37 s 2 (by omega)
  have w2 : (s 2).tmod 2 = s 2 % 2 := Int.tmod_eq_emod_of_nonneg (hs 2).1
  have hs2 := hs 2
  have wk : IntKind.i64.wrap (s 2 % 2) = s 2 % 2 := wrap_fits ((fits_i64 _).2 ⟨by omega, by omega⟩)
  rw [e, e2]
  generalize trsD (tabN 1).trs = X at *
  simp only [ints, List.map_cons, List.map_nil] at h1 ⊢
  (refine ACalls.of_body_twoC Ty_ok mixed Tryz.func16 rfl (by kernel_rfl) Tryz.ntmps16 (by simp) (congrArg Array.toList Tryz.results16) ?_)
  simp only [slotsOf]
  (repeat' (first | (with_reducible first | refine And.intro ?_ ?_ | (refine aS 6 [] ?_; intro K hK)) | ((with_reducible first | refine aGo ?_ | refine rP Ty_ok mixed 4 [0, 4] [.mid [pe 1, pe 2, pe 3, pe 5, pe 6, pe 7, pe 8, pe 9, pe 10] 0, .one 11] ?_); simp only [b2, w2, wk, go_sem]) | ((with_reducible refine aCd ?_ ?_ (fun hb => ?_) (fun hb => ?_)); (iterate 2 simp only [b2, w2, wk, go_sem]); all_goals (simp only [b2, w2, wk, go_sem] at hb; try simp only [bls] at hb)) | ((iterate 6 try ((fail_if_success with_reducible refine hK _ ?_ ?_ ?_); clear hK K)); with_reducible refine hK _ ?_ ?_ ?_; rotate_left; (focus (simp only [b2, w2, wk, go_sem]; exact rfl)); clear hK K) | ((with_reducible refine xA ?_); simp only [b2, w2, wk, go_sem]) | exact aZ | fail))
  all_goals first | omega | skip
end Go.Proofs.YtljpfdehnjemlaaGreatDoor
set_option linter.unusedSimpArgs false
set_option linter.unusedVariables false
namespace Go.Proofs.YtljpfdehnjemlaaGreatDoor
open Go.Eng Go.RowKit
def singleT (t : Tr) : Bool := (t.inn ++ t.out).all fun x => x.weight == 1
def singleN (n : Net) : Bool := n.trs.all singleT
set_option maxHeartbeats 4000000 in
theorem single_c (n : Net) (hf : n.Fits) : ACalls Tryz.prog 19 [.agg n.d] (.one (.bool (singleN n))) [] := by
 (refine ACalls.of_body Ty_ok mixed Tryz.func19 rfl (by kernel_rfl) Tryz.ntmps19 (by simp) (congrArg Array.toList Tryz.results19) ?_)
 simp only [slotsOf, Net.d]
 (repeat' (first | (with_reducible first | refine aBl ?_ | (refine aS 6 [] ?_; intro K hK)) | ((with_reducible refine aGo ?_); simp only [go_sem]) | ((iterate 6 try ((fail_if_success with_reducible refine hK _ ?_ ?_ ?_); clear hK K)); with_reducible refine hK _ ?_ ?_ ?_; rotate_left; (focus (simp only [go_sem]; exact rfl)); clear hK K) | fail))
 have hl := hf.trs
 refine awp_loop _ (by simp only [go_sem]; rfl) Nat (fun k => k ≤ n.trs.length ∧ singleN n = (n.trs.drop k).all singleT) (fun k => [(3, .one (.int .i64 k)), (2, .one (.bool false))]) (fun _ H => H) (fun k => n.trs.length - k) 0 ⟨by omega, by simp [singleN]⟩ ?_ ?_
 ·(simp only [SubF, go_sem]; (try simp only [go_sem]); repeat' (first | exact True.intro | with_reducible refine And.intro ?_ ?_ | rfl | omega))
 rintro k ⟨hk, hres⟩ L hL
 by_cases hlt : k < n.trs.length
 ·have hq : ((k : Nat) : Int).toNat = k := by omega
  have a1 := trs_get hlt [.int .i64 0, .nil, .nil]
  have a2 := trs_get hlt []
  have hd := drop_getD n.trs k Tr.no hlt
  rw [hd, List.all_cons] at hres
  have hm := getD_mem n.trs k Tr.no hlt
  have hi := hf.inn _ hm
  have ho := hf.out _ hm
  generalize n.trs.getD k Tr.no = t at *
  have r2 : ∀ l : List Arc, ∀ r ∈ arcsD l, r.length = 2 := fun l r hr => by
   simp only [arcsD, List.mem_map] at hr; obtain ⟨x, _, rfl⟩ := hr; rfl
  (simp only [go_sem] at hL ⊢)
  (repeat' (first | (with_reducible first | refine And.intro ?_ ?_ | refine aBl ?_ | (refine aS 6 [] ?_; intro K hK)) | ((with_reducible first | refine aGo ?_ | refine rP Ty_ok mixed 4 [1, 3, 8, 10] [.mid [pe 0, pe 2, pe 4, pe 5, pe 6, ⟨7, 0, true, false, false, [], []⟩, ⟨9, 1, false, false, false, [0], []⟩, ⟨11, 1, false, false, false, [0], []⟩, ⟨12, 1, false, false, false, [0], []⟩, ⟨13, 1, false, false, false, [0], []⟩, ⟨14, 1, true, false, false, [], [0]⟩, ⟨15, 2, false, false, false, [0], []⟩] 2] ?_); simp only [hq, a1, a2, go_sem]) | ((with_reducible refine aCd ?_ ?_ (fun hb => ?_) (fun hb => ?_)); (iterate 2 simp only [hq, a1, a2, go_sem]); all_goals (simp only [hq, a1, a2, go_sem] at hb; try simp only [bls] at hb)) | ((iterate 6 try ((fail_if_success with_reducible refine hK _ ?_ ?_ ?_); clear hK K)); with_reducible refine hK _ ?_ ?_ ?_; rotate_left; (focus (simp only [hq, a1, a2, go_sem]; exact rfl)); clear hK K) | exact aZ | fail))
  all_goals first | omega | skip
  have eA : arcsD t.inn ++ arcsD t.out = arcsD (t.inn ++ t.out) := by simp [arcsD]
  have hS : singleT t = (t.inn ++ t.out).all fun x => x.weight == 1 := rfl
  have hlen : (t.inn ++ t.out).length ≤ 2000000 := by rw [List.length_append]; omega
  have hal : ∀ l : List Arc, (arcsD l).length = l.length := fun l => by simp [arcsD]
  rw [eA]
  generalize t.inn ++ t.out = l at *
  refine awp_loop _ (by simp only [go_sem]; rfl) Nat (fun j => j ≤ l.length ∧ singleT t = (l.drop j).all fun x => x.weight == 1) (fun j => [(5, .one (.int .i64 j)), (2, .one (.bool false))]) (fun _ H => H) (fun j => l.length - j) 0 ⟨by omega, by rw [hS]; rfl⟩ ?_ ?_
  ·(simp only [SubF, go_sem]; (try simp only [go_sem]); repeat' (first | exact True.intro | with_reducible refine And.intro ?_ ?_ | rfl | omega))
  rintro j ⟨hj, hres2⟩ L2 hL2
  by_cases hlt2 : j < l.length
  ·have hq2 : ((j : Nat) : Int).toNat = j := by omega
   have b1 := arcs_at hlt2
   have hd2 := drop_getD l j Arc.no hlt2
   rw [hd2, List.all_cons] at hres2
   generalize l.getD j Arc.no = x at *
   simp only [go_sem] at hL2 ⊢
   (repeat' (first | (with_reducible first | refine And.intro ?_ ?_ | refine aBl ?_ | (refine aS 6 [] ?_; intro K hK)) | ((with_reducible refine aGo ?_); simp only [hq2, b1, hal, go_sem]) | ((with_reducible refine aCd ?_ ?_ (fun hb => ?_) (fun hb => ?_)); (iterate 2 simp only [hq2, b1, hal, go_sem]); all_goals (simp only [hq2, b1, hal, go_sem] at hb; try simp only [bls] at hb)) | ((iterate 6 try ((fail_if_success with_reducible refine hK _ ?_ ?_ ?_); clear hK K)); with_reducible refine hK _ ?_ ?_ ?_; rotate_left; (focus (simp only [hq2, b1, hal, go_sem]; exact rfl)); clear hK K) | exact aZ | fail))
   all_goals first | omega | skip
   ·rw [hres, hres2, beq_eq_false_iff_ne.2 hb, Bool.false_and, Bool.false_and]
   ·rw [beq_iff_eq.2 hb, Bool.true_and] at hres2
    exact hL2 _ (j + 1) ⟨by omega, hres2⟩ (by (simp only [SubF, go_sem]; (try simp only [go_sem]); repeat' (first | exact True.intro | with_reducible refine And.intro ?_ ?_ | rfl | omega))) (by omega)
  ·simp only [go_sem] at hL2 ⊢
   (repeat' (first | (with_reducible first | refine And.intro ?_ ?_ | refine aBl ?_ | (refine aS 6 [] ?_; intro K hK)) | ((with_reducible refine aGo ?_); simp only [hal, go_sem]) | ((with_reducible refine aCd ?_ ?_ (fun hb => ?_) (fun hb => ?_)); (iterate 2 simp only [hal, go_sem]); all_goals (simp only [hal, go_sem] at hb; try simp only [bls] at hb)) | ((iterate 6 try ((fail_if_success with_reducible refine hK _ ?_ ?_ ?_); clear hK K)); with_reducible refine hK _ ?_ ?_ ?_; rotate_left; (focus (simp only [hal, go_sem]; exact rfl)); clear hK K) | exact aZ | fail))
   all_goals first | omega | skip
   rw [hres2, drop_end l j (by omega), List.all_nil, Bool.true_and] at hres
   exact hL _ (k + 1) ⟨by omega, hres⟩ (by (simp only [SubF, go_sem]; (try simp only [go_sem]); repeat' (first | exact True.intro | with_reducible refine And.intro ?_ ?_ | rfl | omega))) (by omega)
 ·(simp only [go_sem] at hL ⊢)
  (repeat' (first | (with_reducible first | refine And.intro ?_ ?_ | refine aBl ?_ | (refine aS 6 [] ?_; intro K hK)) | ((with_reducible first | refine aGo ?_ | refine rP Ty_ok mixed 4 [1, 3, 8, 10] [.mid [pe 0, pe 2, pe 4, pe 5, pe 6, ⟨7, 0, true, false, false, [], []⟩, ⟨9, 1, false, false, false, [0], []⟩, ⟨11, 1, false, false, false, [0], []⟩, ⟨12, 1, false, false, false, [0], []⟩, ⟨13, 1, false, false, false, [0], []⟩, ⟨14, 1, true, false, false, [], [0]⟩, ⟨15, 2, false, false, false, [0], []⟩] 2] ?_); simp only [go_sem]) | ((with_reducible refine aCd ?_ ?_ (fun hb => ?_) (fun hb => ?_)); (iterate 2 simp only [go_sem]); all_goals (simp only [go_sem] at hb; try simp only [bls] at hb)) | ((iterate 6 try ((fail_if_success with_reducible refine hK _ ?_ ?_ ?_); clear hK K)); with_reducible refine hK _ ?_ ?_ ?_; rotate_left; (focus (simp only [go_sem]; exact rfl)); clear hK K) | exact aZ | fail))
  all_goals first | omega | skip
  all_goals (rw [hres, drop_end n.trs k (by omega)]; rfl)
end Go.Proofs.YtljpfdehnjemlaaGreatDoor
