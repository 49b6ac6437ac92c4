/-
 Chapter 05: the law NondeterministicKeeps.
-/
import Derived.Test.YtgagpbbnbonnlaaDoorZLD
import Derived.Test.YtgagpbbnbonnlaaDoorZV
import Derived.Test.YtgagpbbnbonnlaaDoorZW
set_option linter.unusedSimpArgs false
set_option linter.unusedVariables false
namespace Go.Proofs.YtgagpbbnbonnlaaDoor
open Go.Eng Go.RowKit
def u8D (us : List Int) : List (List D) := us.map fun z => [.int .u8 z]
theorem u8D_length (us : List Int) : (u8D us).length = us.length := by simp [u8D]
theorem u8D_at {us : List Int} {k : Nat} (hk : k < us.length) (z : List D) : (u8D us).getD k z = [.int .u8 (us.getD k 0)] := by
 simp only [u8D, List.getD, List.getElem?_map, List.getElem?_eq_getElem hk]; rfl
theorem u8D_sz (us : List Int) : (∀ r : List D, r ∈ u8D us → r.length = 1) ↔ True := ⟨fun _ => trivial, fun _ r hr => by obtain ⟨e, _, rfl⟩ := List.mem_map.1 hr; rfl⟩
attribute [go_sem] u8D_length u8D_sz
def wdL (al us : List Int) : List Int := if al = [] then [] else us.map fun z => al.getD (z.toNat % al.length) 0
theorem wdL_in {al us : List Int} : ∀ x ∈ wdL al us, x ∈ al := by
 intro x hx
 unfold wdL at hx
 split at hx
 ·cases hx
 ·rename_i h
  obtain ⟨z, _, rfl⟩ := List.mem_map.1 hx
  exact getD_mem al _ 0 (Nat.mod_lt _ (List.length_pos_iff.2 h))
theorem wdL_length (al us : List Int) : (wdL al us).length ≤ us.length := by unfold wdL; split <;> simp
theorem wdL_succ {al : List Int} (us : List Int) (k : Nat) (h : k < us.length) (ha : 0 < al.length) : wdL al (us.take (k + 1)) = wdL al (us.take k) ++ [al.getD ((us.getD k 0).toNat % al.length) 0] := by
 have h0 : al ≠ [] := List.length_pos_iff.1 ha
 rw [wdL, wdL, if_neg h0, if_neg h0, take_succ_getD us k 0 h, List.map_append]; rfl
theorem wdL_len {al : List Int} (us : List Int) (k : Nat) (h : k ≤ us.length) (ha : 0 < al.length) : (wdL al (us.take k)).length = k := by
 rw [wdL, if_neg (List.length_pos_iff.1 ha), List.length_map, List.length_take]; omega
theorem ints_snoc' (l : List Int) (x : Int) : ints (l ++ [x]) = ints l ++ [[.int .i64 x]] := by simp [ints]
theorem aftE_ok {a : NA} {w : List Int} (h : chkNA a = 0) (hl : w.length ≤ 4096) (hw : ∀ x ∈ w, x ∈ a.alpha) : aftE a w = 0 := by
 rw [aftE, if_neg (by omega), wrdE, if_neg (by omega), if_neg ?_]
 rw [badW, List.any_eq_true]
 rintro ⟨x, hx, h⟩
 simp [hw x hx] at h
theorem aftV_of {a : NA} {w : List Int} (h : aftE a w = 0) : aftV a w = aftA a (-1) w := by rw [aftV, if_pos h]
theorem accV_of {a : NA} {w : List Int} (h : aftE a w = 0) : accV a w = metL (aftA a (-1) w) a.marked := by
 rw [accV, decide_eq_true h, aftV_of h]; rfl
theorem rev_chk {a : NA} (h : chkNA a = 0) : chkNA (revNA a) = 0 := by
 obtain ⟨h1, h2, h3, h4⟩ := chkNA_zero.1 h
 refine chkNA_zero.2 ⟨⟨h1.pos, h1.alpha, h1.marked, h1.init, revE_ok h1.edges⟩, h2, h3, fun e he => ?_⟩
 obtain ⟨f, hf, rfl⟩ := List.mem_map.1 (mem_sortE.1 he)
 exact h4 f hf
theorem rev_rev {a : NA} (h : chkNA a = 0) : revNA (revNA a) = a := by
 obtain ⟨h1, _⟩ := chkNA_zero.1 h
 obtain ⟨a1, a2, a3, a4, a5⟩ := a
 have := sortE_rev2 h1.edges.inc
 simp only [revNA] at this ⊢
 rw [this]
theorem sortE_length (l : List Ed) : (sortE l).length ≤ l.length := by
 rw [← ordered_eq]
 have := compE_length (sortP l)
 rw [sortP_length] at this
 exact this
theorem rev_fits {a : NA} (h : a.Fits) : (revNA a).Fits := ⟨h.alpha, h.marked, h.init, by
 have := sortE_length (revE a.edges)
 rw [revE_length] at this
 have := h.edges
 show (sortE (revE a.edges)).length ≤ 1000
 omega⟩
def detAU (a : NA) (r : List (List Int) × List Int × List Ed) : AU := ⟨a.alpha, r.1.length, r.2.1, r.2.2⟩
theorem detAU_na (a : NA) (r : List (List Int) × List Int × List Ed) : (detAU a r).na = detNA a r := by
 have h : (if 0 < (detAU a r).states then [0] else [] : List Int) = if r.1 = [] then [] else [0] := by
  have e : (detAU a r).states = (r.1.length : Int) := rfl
  by_cases h : r.1 = []
  ·rw [if_pos h, if_neg (by rw [e, h]; decide)]
  ·rw [if_neg h, if_pos (by have := List.length_pos_iff.2 h; omega)]
 unfold AU.na detNA
 rw [h]; rfl
theorem det_right {a : NA} {r : List (List Int) × List Int × List Ed} (h : chkNA a = 0) (h12 : a.states ≤ 12) (hr : detN a (-1) = some r) : chkNA (detNA a r) = 0 ∧ chkAU (detAU a r) = 0 := by
 obtain ⟨h1, h2, h3, h4⟩ := chkNA_zero.1 h
 obtain ⟨i1, i2, i3, _, _, i6, i7⟩ := det_na h1 h12 hr
 have hm : checkSet r.2.1 (r.1.length : Int) = 0 := (checkSet_zero _ _).2 ⟨i6.marked.2, i6.marked.1⟩
 have ha : checkSet a.alpha 32 = 0 := (checkSet_zero _ _).2 ⟨h3, h1.alpha⟩
 constructor
 ·exact chkNA_zero.2 ⟨i6, by show (r.1.length : Int) ≤ 4096; omega, h3, fun e he => .inr (i1.ev_in e he)⟩
 ·show (if checkSet a.alpha 32 ≠ 0 then checkSet a.alpha 32 else if (r.1.length : Int) < 0 then 2 else if 4096 < (r.1.length : Int) then 3 else if checkSet r.2.1 (r.1.length : Int) ≠ 0 then checkSet r.2.1 (r.1.length : Int) else deFrom (r.1.length : Int) a.alpha none r.2.2) = 0
  rw [ha, hm, if_neg (by decide), if_neg (by omega), if_neg (by omega), if_neg (by decide)]
  have he := i6.edges
  have hn : (detNA a r).states.toNat = r.1.length := by simp [detNA]
  rw [hn] at he
  exact deFrom_zero (fun x hx => ⟨⟨he.src x hx, he.dst x hx⟩, i1.ev_in x hx⟩) (fun _ h => by cases h) i7
set_option maxHeartbeats 32000000 in
set_option maxRecDepth 20000 in
theorem Keeps_law (d : Dft) (hd : d.Ok) (us : List Int) (hu : ∀ z ∈ us, 0 ≤ z ∧ z ≤ 255) (hl : us.length ≤ maxLen) : ACalls Tryd.prog 12 [.agg d.d, .one (.list (u8D us))] (.one (.bool true)) [] := by
 have k := known_c
 unfold maxLen at hl
 by_cases h8 : us.length ≤ 8
 ·have m := Make_c d hd
  have hf := d.fits
  have hchk := d.chk
  have hal : d.na.alpha.length ≤ 4 := d.al_len
  obtain ⟨r, hr, r1, r2, r3, r4⟩ := d.det
  have hst : d.na.states ≤ 12 := by
   have := d.n_lt
   show ((d.n : Nat) : Int) ≤ 12
   omega
  have hok := d.ok
  have hsil : (-1 : Int) ∉ d.na.alpha := fun h => by have := (chkNA_zero.1 hchk).2.2.1 _ h; omega
  obtain ⟨q1, q2⟩ := det_right hchk hst hr
  have fD : (detAU d.na r).Fits := ⟨by show d.na.alpha.length ≤ 1000; omega, by show r.2.1.length ≤ 1000; omega, by show r.2.2.length ≤ 1000; omega⟩
  have fN : (detNA d.na r).Fits := by rw [← detAU_na]; exact AU.fits_na fD
  have c1 := Determinize_c d.na d.n d.good' hchk
  rw [hr] at c1
  have c2 := From_c _ fD q2
  rw [detAU_na] at c2
  have c3 := naReverse_c _ hf hchk
  have c4 := naReverse_c _ (rev_fits hf) (rev_chk hchk)
  rw [rev_rev hchk] at c4
  have c5 := naEqual_c _ d.na hf
  rw [decide_eq_true rfl] at c5
  have hwi := wdL_in (al := d.na.alpha) (us := us)
  have hwl := wdL_length d.na.alpha us
  have hdk := det_keeps hok hst hsil hr hwi
  have hrk := rev_keeps hok (sil := -1) (wdL d.na.alpha us)
  have e1 := aftE_ok hchk (by omega) hwi
  have e2 := aftE_ok (a := detNA d.na r) q1 (by omega) hwi
  have e3 := aftE_ok (a := revNA d.na) (w := (wdL d.na.alpha us).reverse) (rev_chk hchk) (by rw [List.length_reverse]; omega) (fun x hx => hwi x (List.mem_reverse.1 hx))
  have g1 := Generates_c d.na (wdL d.na.alpha us) hf (by omega)
  have g2 := Generates_c _ (wdL d.na.alpha us) fN (by omega)
  have g3 := Accepts_c d.na (wdL d.na.alpha us) hf (by omega)
  have g4 := Accepts_c _ (wdL d.na.alpha us) fN (by omega)
  have g5 := Accepts_c _ (wdL d.na.alpha us).reverse (rev_fits hf) (by rw [List.length_reverse]; omega)
  rw [accV_of e1, e1] at g3
  rw [accV_of e2, e2, hdk.2] at g4
  rw [accV_of e3, e3] at g5
  rw [show metL (aftA (revNA d.na) (-1) (wdL d.na.alpha us).reverse) (revNA d.na).marked = metL (aftA d.na (-1) (wdL d.na.alpha us)) d.na.marked from hrk] at g5
  have hgl : decide (0 < (aftV (detNA d.na r) (wdL d.na.alpha us)).length) = decide (0 < (aftV d.na (wdL d.na.alpha us)).length) := by
   rw [aftV_of e1, aftV_of e2]
   refine decide_eq_decide.2 ?_
   rw [List.length_pos_iff, List.length_pos_iff]
   exact not_congr hdk.1
  rw [e1] at g1
  rw [e2, hgl] at g2
  have hsu := fun k h ha => wdL_succ (al := d.na.alpha) us k h ha
  have hlu := fun k h ha => wdL_len (al := d.na.alpha) us k h ha
  have hd0 : detAU d.na r = detAU d.na r := rfl
  have hwnil : d.na.alpha = [] → wdL d.na.alpha us = [] := fun h => by rw [wdL, if_pos h]
  clear hdk hrk hgl
  generalize decide (0 < (aftV d.na (wdL d.na.alpha us)).length) = p at *
  generalize metL (aftA d.na (-1) (wdL d.na.alpha us)) d.na.marked = q at *
  simp only [Dft.d] at m
  simp only [detAV, AU.d] at c1
  simp only [detAU, AU.d] at c2
  generalize revNA d.na = R at *
  generalize detNA d.na r = N at *
  clear q1 q2 fN fD hok hr hsil e1 e2 e3 hd0
  have hR : (0 : Int) < 1 := by decide
  generalize hA : d.na = A at *
  simp only [NA.d] at m c1 c2 c3 c4 c5 g1 g2 g3 g4 g5
  (refine ACalls.of_body Ty_ok mixed Tryd.func12 rfl (by kernel_rfl) Tryd.ntmps12 (by simp) (congrArg Array.toList Tryd.results12) ?_)
  simp only [slotsOf, Dft.d]
  (repeat' (first | (with_reducible first | exact True.intro | refine And.intro ?_ ?_ | refine awp_block ?_ | ((first | refine awp_seq1 10 [11, 13, 15, 17, 16, 12, 14, 19, 21, 23, 25, 27, 18, 20, 24, 22, 26] ?_ | refine awp_seq2 10 [11, 13, 15, 17, 16, 12, 14, 19, 21, 23, 25, 27, 18, 20, 24, 22, 26] ?_ | refine awp_seq3 10 [11, 13, 15, 17, 16, 12, 14, 19, 21, 23, 25, 27, 18, 20, 24, 22, 26] ?_ | refine awp_seq4 10 [11, 13, 15, 17, 16, 12, 14, 19, 21, 23, 25, 27, 18, 20, 24, 22, 26] ?_ | refine awp_seq 10 [11, 13, 15, 17, 16, 12, 14, 19, 21, 23, 25, 27, 18, 20, 24, 22, 26] ?_); intro K hK)) | ((with_reducible first | refine awp_reg ?_ | refine awp_exit ?_ | refine awp_skip ?_ | refine likeK_i ?_ | refine otWR_i ?_ | refine rP Ty_ok mixed 8 [0, 1, 3, 4, 8] [.mid [pe 2, pe 5, pe 6, pe 7, pe 9, pe 10, pe 11, pe 12, pe 13, pe 14] 0, .one 15, .one 16] ?_); simp only [go_sem]) | (with_reducible refine awp_ret ?_; simp only [retF, retM, retL, resV, resW, retO, resAV, AV.bor, D.bor, D.bor1, D.bor0, AV.flatOwn, D.flatOwn, D.flat, AV.tagged, D.tagged, AObj.plain, go_sem]) | ((with_reducible refine awp_cond' ?_ ?_ (fun hb => ?_) (fun hb => ?_)); (simp only [go_sem]); (simp only [go_sem]); all_goals (simp only [go_sem] at hb; try simp only [bls] at hb)) | ((iterate 6 try ((fail_if_success with_reducible refine hK _ ?_ ?_ ?_); clear hK K)); with_reducible refine hK _ ?_ ?_ ?_; rotate_left; (focus (simp only [go_sem]; exact rfl)); clear hK K) | ((first | (with_reducible first | refine cA k ?_ | refine cA m ?_ | refine cD k ?_ | refine cD m ?_ | refine cO k ?_ | refine cO m ?_ | refine cR k ?_ | refine cR m ?_ | refine cG (fun hg => k) ?_ | refine cG (fun hg => m) ?_ | refine cH (fun hg => k) ?_ | refine cH (fun hg => m) ?_ | refine cM (fun hg => k) ?_ | refine cM (fun hg => m) ?_) | (guard_target = CallAt _ _ _ _ _ _ _ _ _ _; first | refine cA k ?_ | refine cA m ?_) | (guard_target = DCallAt _ _ _ _ _ _ _ _; first | refine cD k ?_ | refine cD m ?_) | (guard_target = GCallAt _ _ _ _ _ _ _ _ _ _ _; first | refine cG (fun hg => k) ?_ | refine cG (fun hg => m) ?_)); simp only [go_sem]) | (with_reducible refine gsplit_i (fun hg0 => ?_) (fun hg0 => ?_) <;> first | (with_reducible first | exact absurd hg0 Bool.false_ne_true | exact absurd hg0.symm Bool.false_ne_true) | (simp only [hg0, go_sem])) | (with_reducible refine nilK_i ?_; intro bnil hnil; try simp only []) | (omega; done) | (intro hv; (try simp only [bls] at hv); (try simp only [bls]); omega) | (intro hg; (simp only [hg, Bool.true_and, true_and, implies_true]; try (intro hg2; simp only [hg2, Bool.not_false, Bool.not_true])); done)))
  all_goals first | omega | skip
  by_cases ha : 0 < A.alpha.length
  ·refine awp_loop _ (by simp only [go_sem]; rfl) Nat (fun k => k ≤ us.length) (fun k => [(6, .one (.own 2)), (7, .one (.list (ints (wdL A.alpha (us.take k)).reverse))), (8, .one (.int .i64 k))])
    (fun k _ => [.var 24 [.int .u8 d.s, .int .u8 d.al, .int .u8 d.ini, .int .u8 d.mr, .list (edB d.es)], .var 29 [.list (ints A.alpha), .int .i64 A.states, .list (ints A.init), .list (ints A.marked), .list (edD A.edges)], .row 3 1 (ints (wdL A.alpha (us.take k)))]) (fun k => us.length - k) 0 (by omega) ?_ ?_
   ·have hw0 : wdL A.alpha (us.take 0) = [] := by rw [wdL]; split <;> rfl
    rw [hw0, List.reverse_nil, show ints [] = [] from rfl]
    (simp only [SubF, go_sem]; (try simp only [go_sem]); repeat' (first | exact True.intro | with_reducible refine And.intro ?_ ?_ | rfl | omega))
   rintro k hk L hL
   have hq : ((k : Nat) : Int).toNat = k := by omega
   have hlen := hlu k hk ha
   by_cases hlt : k < us.length
   ·have hs := hsu k hlt ha
    have hat := u8D_at hlt
    have hz := hu _ (getD_mem us k 0 hlt)
    generalize us.getD k 0 = z at *
    have p1 : IntKind.i64.wrap z = z := by simp [IntKind.wrap, IntKind.bits, IntKind.signed]; omega
    have r1 : z.tmod (A.alpha.length : Int) = ((z.toNat % A.alpha.length : Nat) : Int) := by
     rw [Int.tmod_eq_emod_of_nonneg hz.1, Int.natCast_emod, Int.toNat_of_nonneg hz.1]
    have t1 : z.toNat % A.alpha.length < A.alpha.length := Nat.mod_lt _ ha
    generalize z.toNat % A.alpha.length = y at *
    have hat2 := ints_at (l := A.alpha) t1
    generalize hx : A.alpha.getD y 0 = x at *
    generalize wdL A.alpha (us.take k) = W at *
    have hl2 : (W ++ [x]).length = k + 1 := by rw [List.length_append, hlen]; rfl
    have hl3 : (ints (W ++ [x])).length = k + 1 := by rw [ints_length, hl2]
    have hlast : ∀ z, (ints (W ++ [x])).getD k z = [.int .i64 x] := fun z => by
     rw [ints_snoc', ← hlen, ← ints_length W]
     exact getD_end _ _ _
    have hrl : W.reverse.length = k := by rw [List.length_reverse, hlen]
    (simp only [go_sem] at hL ⊢)
    (repeat' (first | (with_reducible first | exact True.intro | refine And.intro ?_ ?_ | refine awp_block ?_ | ((first | refine awp_seq1 10 [11, 13, 15, 17, 16, 12, 14, 19, 21, 23, 25, 27, 18, 20, 24, 22, 26] ?_ | refine awp_seq2 10 [11, 13, 15, 17, 16, 12, 14, 19, 21, 23, 25, 27, 18, 20, 24, 22, 26] ?_ | refine awp_seq3 10 [11, 13, 15, 17, 16, 12, 14, 19, 21, 23, 25, 27, 18, 20, 24, 22, 26] ?_ | refine awp_seq4 10 [11, 13, 15, 17, 16, 12, 14, 19, 21, 23, 25, 27, 18, 20, 24, 22, 26] ?_ | refine awp_seq 10 [11, 13, 15, 17, 16, 12, 14, 19, 21, 23, 25, 27, 18, 20, 24, 22, 26] ?_); intro K hK)) | ((with_reducible first | refine awp_reg ?_ | refine awp_exit ?_ | refine awp_skip ?_ | refine likeK_i ?_ | refine otWR_i ?_ | refine rP Ty_ok mixed 8 [0, 1, 3, 4, 8] [.mid [pe 2, pe 5, pe 6, pe 7, pe 9, pe 10, pe 11, pe 12, pe 13, pe 14] 0, .one 15, .one 16] ?_); simp only [hq, hat, hat2, hx, hlast, hl2, hl3, p1, r1, Int.toNat_natCast, ints_snoc, go_sem]) | (with_reducible refine awp_ret ?_; simp only [retF, retM, retL, resV, resW, retO, resAV, AV.bor, D.bor, D.bor1, D.bor0, AV.flatOwn, D.flatOwn, D.flat, AV.tagged, D.tagged, AObj.plain, hq, hat, hat2, hx, hlast, hl2, hl3, p1, r1, Int.toNat_natCast, ints_snoc, go_sem]) | ((with_reducible refine awp_cond' ?_ ?_ (fun hb => ?_) (fun hb => ?_)); (simp only [hq, hat, hat2, hx, hlast, hl2, hl3, p1, r1, Int.toNat_natCast, ints_snoc, go_sem]); (simp only [hq, hat, hat2, hx, hlast, hl2, hl3, p1, r1, Int.toNat_natCast, ints_snoc, go_sem]); all_goals (simp only [hq, hat, hat2, hx, hlast, hl2, hl3, p1, r1, Int.toNat_natCast, ints_snoc, go_sem] at hb; try simp only [bls] at hb)) | ((iterate 6 try ((fail_if_success with_reducible refine hK _ ?_ ?_ ?_); clear hK K)); with_reducible refine hK _ ?_ ?_ ?_; rotate_left; (focus (simp only [hq, hat, hat2, hx, hlast, hl2, hl3, p1, r1, Int.toNat_natCast, ints_snoc, go_sem]; exact rfl)); clear hK K) | (with_reducible refine gsplit_i (fun hg0 => ?_) (fun hg0 => ?_) <;> first | (with_reducible first | exact absurd hg0 Bool.false_ne_true | exact absurd hg0.symm Bool.false_ne_true) | (simp only [hg0, hq, hat, hat2, hx, hlast, hl2, hl3, p1, r1, Int.toNat_natCast, ints_snoc, go_sem])) | (with_reducible refine nilK_i ?_; intro bnil hnil; try simp only []) | (omega; done) | (intro hv; (try simp only [bls] at hv); (try simp only [bls]); omega) | (intro hg; (simp only [hg, Bool.true_and, true_and, implies_true]; try (intro hg2; simp only [hg2, Bool.not_false, Bool.not_true])); done)))
    all_goals first | omega | skip
    refine hL _ (k + 1) (by omega) ?_ (by omega)
    rw [hs, List.reverse_append, show [x].reverse = [x] from rfl, show ints ([x] ++ W.reverse) = ints [x] ++ ints W.reverse from (ints_append _ _).symm]
    (simp only [SubF, ints_one, go_sem]; (try simp only [ints_one, go_sem]); repeat' (first | exact True.intro | with_reducible refine And.intro ?_ ?_ | rfl | omega))
   ·obtain rfl : k = us.length := by omega
    rw [List.take_length] at *
    (simp only [go_sem] at hL ⊢)
    (repeat' (first | (with_reducible first | exact True.intro | refine And.intro ?_ ?_ | refine awp_block ?_ | ((first | refine awp_seq1 10 [11, 13, 15, 17, 16, 12, 14, 19, 21, 23, 25, 27, 18, 20, 24, 22, 26] ?_ | refine awp_seq2 10 [11, 13, 15, 17, 16, 12, 14, 19, 21, 23, 25, 27, 18, 20, 24, 22, 26] ?_ | refine awp_seq3 10 [11, 13, 15, 17, 16, 12, 14, 19, 21, 23, 25, 27, 18, 20, 24, 22, 26] ?_ | refine awp_seq4 10 [11, 13, 15, 17, 16, 12, 14, 19, 21, 23, 25, 27, 18, 20, 24, 22, 26] ?_ | refine awp_seq 10 [11, 13, 15, 17, 16, 12, 14, 19, 21, 23, 25, 27, 18, 20, 24, 22, 26] ?_); intro K hK)) | ((with_reducible first | refine awp_reg ?_ | refine awp_exit ?_ | refine awp_skip ?_ | refine likeK_i ?_ | refine otWR_i ?_ | refine rP Ty_ok mixed 8 [0, 1, 3, 4, 8] [.mid [pe 2, pe 5, pe 6, pe 7, pe 9, pe 10, pe 11, pe 12, pe 13, pe 14] 0, .one 15, .one 16] ?_); simp only [hq, go_sem]) | (with_reducible refine awp_ret ?_; simp only [retF, retM, retL, resV, resW, retO, resAV, AV.bor, D.bor, D.bor1, D.bor0, AV.flatOwn, D.flatOwn, D.flat, AV.tagged, D.tagged, AObj.plain, hq, go_sem]) | ((with_reducible refine awp_cond' ?_ ?_ (fun hb => ?_) (fun hb => ?_)); (simp only [hq, go_sem]); (simp only [hq, go_sem]); all_goals (simp only [hq, go_sem] at hb; try simp only [bls] at hb)) | ((iterate 6 try ((fail_if_success with_reducible refine hK _ ?_ ?_ ?_); clear hK K)); with_reducible refine hK _ ?_ ?_ ?_; rotate_left; (focus (simp only [hq, go_sem]; exact rfl)); clear hK K) | ((first | (with_reducible first | refine cA c1 ?_ | refine cA c2 ?_ | refine cA c3 ?_ | refine cA c4 ?_ | refine cA c5 ?_ | refine cA g1 ?_ | refine cA g2 ?_ | refine cA g3 ?_ | refine cA g4 ?_ | refine cA g5 ?_ | refine cD c1 ?_ | refine cD c2 ?_ | refine cD c3 ?_ | refine cD c4 ?_ | refine cD c5 ?_ | refine cD g1 ?_ | refine cD g2 ?_ | refine cD g3 ?_ | refine cD g4 ?_ | refine cD g5 ?_ | refine cO c1 ?_ | refine cO c2 ?_ | refine cO c3 ?_ | refine cO c4 ?_ | refine cO c5 ?_ | refine cO g1 ?_ | refine cO g2 ?_ | refine cO g3 ?_ | refine cO g4 ?_ | refine cO g5 ?_ | refine cR c1 ?_ | refine cR c2 ?_ | refine cR c3 ?_ | refine cR c4 ?_ | refine cR c5 ?_ | refine cR g1 ?_ | refine cR g2 ?_ | refine cR g3 ?_ | refine cR g4 ?_ | refine cR g5 ?_ | refine cG (fun hg => c1) ?_ | refine cG (fun hg => c2) ?_ | refine cG (fun hg => c3) ?_ | refine cG (fun hg => c4) ?_ | refine cG (fun hg => c5) ?_ | refine cG (fun hg => g1) ?_ | refine cG (fun hg => g2) ?_ | refine cG (fun hg => g3) ?_ | refine cG (fun hg => g4) ?_ | refine cG (fun hg => g5) ?_ | refine cH (fun hg => c1) ?_ | refine cH (fun hg => c2) ?_ | refine cH (fun hg => c3) ?_ | refine cH (fun hg => c4) ?_ | refine cH (fun hg => c5) ?_ | refine cH (fun hg => g1) ?_ | refine cH (fun hg => g2) ?_ | refine cH (fun hg => g3) ?_ | refine cH (fun hg => g4) ?_ | refine cH (fun hg => g5) ?_ | refine cM (fun hg => c1) ?_ | refine cM (fun hg => c2) ?_ | refine cM (fun hg => c3) ?_ | refine cM (fun hg => c4) ?_ | refine cM (fun hg => c5) ?_ | refine cM (fun hg => g1) ?_ | refine cM (fun hg => g2) ?_ | refine cM (fun hg => g3) ?_ | refine cM (fun hg => g4) ?_ | refine cM (fun hg => g5) ?_) | (guard_target = CallAt _ _ _ _ _ _ _ _ _ _; first | refine cA c1 ?_ | refine cA c2 ?_ | refine cA c3 ?_ | refine cA c4 ?_ | refine cA c5 ?_ | refine cA g1 ?_ | refine cA g2 ?_ | refine cA g3 ?_ | refine cA g4 ?_ | refine cA g5 ?_) | (guard_target = DCallAt _ _ _ _ _ _ _ _; first | refine cD c1 ?_ | refine cD c2 ?_ | refine cD c3 ?_ | refine cD c4 ?_ | refine cD c5 ?_ | refine cD g1 ?_ | refine cD g2 ?_ | refine cD g3 ?_ | refine cD g4 ?_ | refine cD g5 ?_) | (guard_target = GCallAt _ _ _ _ _ _ _ _ _ _ _; first | refine cG (fun hg => c1) ?_ | refine cG (fun hg => c2) ?_ | refine cG (fun hg => c3) ?_ | refine cG (fun hg => c4) ?_ | refine cG (fun hg => c5) ?_ | refine cG (fun hg => g1) ?_ | refine cG (fun hg => g2) ?_ | refine cG (fun hg => g3) ?_ | refine cG (fun hg => g4) ?_ | refine cG (fun hg => g5) ?_)); simp only [hq, go_sem]) | (with_reducible refine gsplit_i (fun hg0 => ?_) (fun hg0 => ?_) <;> first | (with_reducible first | exact absurd hg0 Bool.false_ne_true | exact absurd hg0.symm Bool.false_ne_true) | (simp only [hg0, hq, go_sem])) | (with_reducible refine nilK_i ?_; intro bnil hnil; try simp only []) | (omega; done) | (intro hv; (try simp only [bls] at hv); (try simp only [bls]); omega) | (intro hg; (simp only [hg, Bool.true_and, true_and, implies_true]; try (intro hg2; simp only [hg2, Bool.not_false, Bool.not_true])); done)))
    all_goals first | omega | skip
  ·have hA0 : A.alpha = [] := List.eq_nil_of_length_eq_zero (by omega)
   have hA1 : A.alpha.length = 0 := by omega
   rw [hwnil hA0, List.reverse_nil] at g5
   rw [hwnil hA0] at g1 g2 g3 g4
   rw [show ints [] = [] from rfl] at g1 g2 g3 g4 g5
   refine awp_loop _ (by simp only [go_sem]; rfl) Unit (fun _ => True) (fun _ => [(6, .one (.own 2)), (7, .one (.own 3)), (8, .one (.int .i64 0))]) (fun _ H => H) (fun _ => 0) () trivial ?_ ?_
   ·(simp only [SubF, go_sem]; (try simp only [go_sem]); repeat' (first | exact True.intro | with_reducible refine And.intro ?_ ?_ | rfl | omega))
   rintro _ _ L hL
   (simp only [go_sem] at hL ⊢)
   (repeat' (first | (with_reducible first | exact True.intro | refine And.intro ?_ ?_ | refine awp_block ?_ | ((first | refine awp_seq1 10 [11, 13, 15, 17, 16, 12, 14, 19, 21, 23, 25, 27, 18, 20, 24, 22, 26] ?_ | refine awp_seq2 10 [11, 13, 15, 17, 16, 12, 14, 19, 21, 23, 25, 27, 18, 20, 24, 22, 26] ?_ | refine awp_seq3 10 [11, 13, 15, 17, 16, 12, 14, 19, 21, 23, 25, 27, 18, 20, 24, 22, 26] ?_ | refine awp_seq4 10 [11, 13, 15, 17, 16, 12, 14, 19, 21, 23, 25, 27, 18, 20, 24, 22, 26] ?_ | refine awp_seq 10 [11, 13, 15, 17, 16, 12, 14, 19, 21, 23, 25, 27, 18, 20, 24, 22, 26] ?_); intro K hK)) | ((with_reducible first | refine awp_reg ?_ | refine awp_exit ?_ | refine awp_skip ?_ | refine likeK_i ?_ | refine otWR_i ?_ | refine rP Ty_ok mixed 8 [0, 1, 3, 4, 8] [.mid [pe 2, pe 5, pe 6, pe 7, pe 9, pe 10, pe 11, pe 12, pe 13, pe 14] 0, .one 15, .one 16] ?_); simp only [hA1, go_sem]) | (with_reducible refine awp_ret ?_; simp only [retF, retM, retL, resV, resW, retO, resAV, AV.bor, D.bor, D.bor1, D.bor0, AV.flatOwn, D.flatOwn, D.flat, AV.tagged, D.tagged, AObj.plain, hA1, go_sem]) | ((with_reducible refine awp_cond' ?_ ?_ (fun hb => ?_) (fun hb => ?_)); (simp only [hA1, go_sem]); (simp only [hA1, go_sem]); all_goals (simp only [hA1, go_sem] at hb; try simp only [bls] at hb)) | ((iterate 6 try ((fail_if_success with_reducible refine hK _ ?_ ?_ ?_); clear hK K)); with_reducible refine hK _ ?_ ?_ ?_; rotate_left; (focus (simp only [hA1, go_sem]; exact rfl)); clear hK K) | ((first | (with_reducible first | refine cA c1 ?_ | refine cA c2 ?_ | refine cA c3 ?_ | refine cA c4 ?_ | refine cA c5 ?_ | refine cA g1 ?_ | refine cA g2 ?_ | refine cA g3 ?_ | refine cA g4 ?_ | refine cA g5 ?_ | refine cD c1 ?_ | refine cD c2 ?_ | refine cD c3 ?_ | refine cD c4 ?_ | refine cD c5 ?_ | refine cD g1 ?_ | refine cD g2 ?_ | refine cD g3 ?_ | refine cD g4 ?_ | refine cD g5 ?_ | refine cO c1 ?_ | refine cO c2 ?_ | refine cO c3 ?_ | refine cO c4 ?_ | refine cO c5 ?_ | refine cO g1 ?_ | refine cO g2 ?_ | refine cO g3 ?_ | refine cO g4 ?_ | refine cO g5 ?_ | refine cR c1 ?_ | refine cR c2 ?_ | refine cR c3 ?_ | refine cR c4 ?_ | refine cR c5 ?_ | refine cR g1 ?_ | refine cR g2 ?_ | refine cR g3 ?_ | refine cR g4 ?_ | refine cR g5 ?_ | refine cG (fun hg => c1) ?_ | refine cG (fun hg => c2) ?_ | refine cG (fun hg => c3) ?_ | refine cG (fun hg => c4) ?_ | refine cG (fun hg => c5) ?_ | refine cG (fun hg => g1) ?_ | refine cG (fun hg => g2) ?_ | refine cG (fun hg => g3) ?_ | refine cG (fun hg => g4) ?_ | refine cG (fun hg => g5) ?_ | refine cH (fun hg => c1) ?_ | refine cH (fun hg => c2) ?_ | refine cH (fun hg => c3) ?_ | refine cH (fun hg => c4) ?_ | refine cH (fun hg => c5) ?_ | refine cH (fun hg => g1) ?_ | refine cH (fun hg => g2) ?_ | refine cH (fun hg => g3) ?_ | refine cH (fun hg => g4) ?_ | refine cH (fun hg => g5) ?_ | refine cM (fun hg => c1) ?_ | refine cM (fun hg => c2) ?_ | refine cM (fun hg => c3) ?_ | refine cM (fun hg => c4) ?_ | refine cM (fun hg => c5) ?_ | refine cM (fun hg => g1) ?_ | refine cM (fun hg => g2) ?_ | refine cM (fun hg => g3) ?_ | refine cM (fun hg => g4) ?_ | refine cM (fun hg => g5) ?_) | (guard_target = CallAt _ _ _ _ _ _ _ _ _ _; first | refine cA c1 ?_ | refine cA c2 ?_ | refine cA c3 ?_ | refine cA c4 ?_ | refine cA c5 ?_ | refine cA g1 ?_ | refine cA g2 ?_ | refine cA g3 ?_ | refine cA g4 ?_ | refine cA g5 ?_) | (guard_target = DCallAt _ _ _ _ _ _ _ _; first | refine cD c1 ?_ | refine cD c2 ?_ | refine cD c3 ?_ | refine cD c4 ?_ | refine cD c5 ?_ | refine cD g1 ?_ | refine cD g2 ?_ | refine cD g3 ?_ | refine cD g4 ?_ | refine cD g5 ?_) | (guard_target = GCallAt _ _ _ _ _ _ _ _ _ _ _; first | refine cG (fun hg => c1) ?_ | refine cG (fun hg => c2) ?_ | refine cG (fun hg => c3) ?_ | refine cG (fun hg => c4) ?_ | refine cG (fun hg => c5) ?_ | refine cG (fun hg => g1) ?_ | refine cG (fun hg => g2) ?_ | refine cG (fun hg => g3) ?_ | refine cG (fun hg => g4) ?_ | refine cG (fun hg => g5) ?_)); simp only [hA1, go_sem]) | (with_reducible refine gsplit_i (fun hg0 => ?_) (fun hg0 => ?_) <;> first | (with_reducible first | exact absurd hg0 Bool.false_ne_true | exact absurd hg0.symm Bool.false_ne_true) | (simp only [hg0, hA1, go_sem])) | (with_reducible refine nilK_i ?_; intro bnil hnil; try simp only []) | (omega; done) | (intro hv; (try simp only [bls] at hv); (try simp only [bls]); omega) | (intro hg; (simp only [hg, Bool.true_and, true_and, implies_true]; try (intro hg2; simp only [hg2, Bool.not_false, Bool.not_true])); done)))
   all_goals first | omega | skip
 ·(refine ACalls.of_body Ty_ok mixed Tryd.func12 rfl (by kernel_rfl) Tryd.ntmps12 (by simp) (congrArg Array.toList Tryd.results12) ?_)
  simp only [slotsOf, Dft.d]
  (repeat' (first | (with_reducible first | exact True.intro | refine And.intro ?_ ?_ | refine awp_block ?_ | ((first | refine awp_seq1 10 [11, 13, 15, 17, 16, 12, 14, 19, 21, 23, 25, 27, 18, 20, 24, 22, 26] ?_ | refine awp_seq2 10 [11, 13, 15, 17, 16, 12, 14, 19, 21, 23, 25, 27, 18, 20, 24, 22, 26] ?_ | refine awp_seq3 10 [11, 13, 15, 17, 16, 12, 14, 19, 21, 23, 25, 27, 18, 20, 24, 22, 26] ?_ | refine awp_seq4 10 [11, 13, 15, 17, 16, 12, 14, 19, 21, 23, 25, 27, 18, 20, 24, 22, 26] ?_ | refine awp_seq 10 [11, 13, 15, 17, 16, 12, 14, 19, 21, 23, 25, 27, 18, 20, 24, 22, 26] ?_); intro K hK)) | ((with_reducible first | refine awp_reg ?_ | refine awp_exit ?_ | refine awp_skip ?_ | refine likeK_i ?_ | refine otWR_i ?_ | refine rP Ty_ok mixed 8 [0, 1, 3, 4, 8] [.mid [pe 2, pe 5, pe 6, pe 7, pe 9, pe 10, pe 11, pe 12, pe 13, pe 14] 0, .one 15, .one 16] ?_); simp only [go_sem]) | (with_reducible refine awp_ret ?_; simp only [retF, retM, retL, resV, resW, retO, resAV, AV.bor, D.bor, D.bor1, D.bor0, AV.flatOwn, D.flatOwn, D.flat, AV.tagged, D.tagged, AObj.plain, go_sem]) | ((with_reducible refine awp_cond' ?_ ?_ (fun hb => ?_) (fun hb => ?_)); (simp only [go_sem]); (simp only [go_sem]); all_goals (simp only [go_sem] at hb; try simp only [bls] at hb)) | ((iterate 6 try ((fail_if_success with_reducible refine hK _ ?_ ?_ ?_); clear hK K)); with_reducible refine hK _ ?_ ?_ ?_; rotate_left; (focus (simp only [go_sem]; exact rfl)); clear hK K) | ((first | (with_reducible first | refine cA k ?_ | refine cD k ?_ | refine cO k ?_ | refine cR k ?_ | refine cG (fun hg => k) ?_ | refine cH (fun hg => k) ?_ | refine cM (fun hg => k) ?_) | (guard_target = CallAt _ _ _ _ _ _ _ _ _ _; refine cA k ?_) | (guard_target = DCallAt _ _ _ _ _ _ _ _; refine cD k ?_) | (guard_target = GCallAt _ _ _ _ _ _ _ _ _ _ _; refine cG (fun hg => k) ?_)); simp only [go_sem]) | (with_reducible refine gsplit_i (fun hg0 => ?_) (fun hg0 => ?_) <;> first | (with_reducible first | exact absurd hg0 Bool.false_ne_true | exact absurd hg0.symm Bool.false_ne_true) | (simp only [hg0, go_sem])) | (with_reducible refine nilK_i ?_; intro bnil hnil; try simp only []) | (omega; done) | (intro hv; (try simp only [bls] at hv); (try simp only [bls]); omega) | (intro hg; (simp only [hg, Bool.true_and, true_and, implies_true]; try (intro hg2; simp only [hg2, Bool.not_false, Bool.not_true])); done)))
  all_goals first | omega | skip
end Go.Proofs.YtgagpbbnbonnlaaDoor
