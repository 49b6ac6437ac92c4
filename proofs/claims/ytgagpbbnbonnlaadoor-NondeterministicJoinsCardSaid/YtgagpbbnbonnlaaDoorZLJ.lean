/-
 Chapter 05: the law NondeterministicJoins.
-/
import Derived.Test.YtgagpbbnbonnlaaDoorZLK
set_option linter.unusedSimpArgs false
set_option linter.unusedVariables false
namespace Go.Proofs.YtgagpbbnbonnlaaDoor
open Go.Eng Go.RowKit
theorem uni_chk {a b : NA} (h1 : chkNA a = 0) (h2 : chkNA b = 0) (hst : a.states + b.states ≤ 4096) : chkNA (uniNA a b) = 0 := by
 obtain ⟨a1, a2, a3, a4⟩ := chkNA_zero.1 h1
 obtain ⟨b1, b2, b3, b4⟩ := chkNA_zero.1 h2
 have hal := incr_union a1.alpha b1.alpha
 have hm := mem_union a1.alpha b1.alpha
 refine chkNA_zero.2 ⟨side_na a1 b1 hal, hst, fun x hx => ?_, fun e he => ?_⟩
 ·rcases (hm x).1 hx with h | h
  ·exact a3 x h
  ·exact b3 x h
 ·rcases List.mem_append.1 he with he | he
  ·rcases a4 e he with h | h
   ·exact .inl h
   ·exact .inr ((hm _).2 (.inl h))
  ·obtain ⟨f, hf, rfl⟩ := List.mem_map.1 he
   rcases b4 f hf with h | h
   ·exact .inl h
   ·exact .inr ((hm _).2 (.inr h))
theorem bad_ex {al w : List Int} (h : badW al w = true) : ∃ x ∈ w, x ∉ al := by
 rw [badW, List.any_eq_true] at h
 obtain ⟨x, hx, h⟩ := h
 exact ⟨x, hx, by simpa using h⟩
theorem aft_both {a : NA} {w : List Int} (h : chkNA a = 0) (hl : w.length ≤ 4096) (hw : ∀ x ∈ w, 0 ≤ x) : (aftE a w = 0 ∨ aftE a w = 9) ∧ aftV a w = aftA a (-1) w ∧ accV a w = metL (aftA a (-1) w) a.marked := by
 obtain ⟨a1, a2, a3, a4⟩ := chkNA_zero.1 h
 by_cases hb : badW a.alpha w = true
 ·have e : aftE a w = 9 := by rw [aftE, if_neg (by omega), wrdE, if_neg (by omega), if_pos hb]
  have h0 := aft_unknown (sil := -1) a1 a4 (w := w) (fun x hx => by have := hw x hx; omega) (bad_ex hb)
  have v : aftV a w = [] := by rw [aftV, if_neg (by omega)]
  refine ⟨.inr e, by rw [v, h0], ?_⟩
  rw [accV, decide_eq_false (by omega), h0]; rfl
 ·have e : aftE a w = 0 := by rw [aftE, if_neg (by omega), wrdE, if_neg (by omega), if_neg hb]
  exact ⟨.inl e, aftV_of e, accV_of e⟩
theorem minus_nil {l : List Int} (h : IncI l) : minusB l [] = l := inc_ext (incr_minus h .nil) h fun z => by rw [mem_minus h .nil]; simp
theorem era_nil {a : NA} (h : chkNA a = 0) : eraNA [] a = a := by
 obtain ⟨a1, _⟩ := chkNA_zero.1 h
 have e : eraE [] a.edges = a.edges := by
  unfold eraE
  have : (fun e : Ed => (⟨e.src, if e.ev ∈ ([] : List Int) then -1 else e.ev, e.dst⟩ : Ed)) = id := by funext e; simp
  rw [this, List.map_id]
 obtain ⟨q1, q2, q3, q4, q5⟩ := a
 simp only [eraNA, minus_nil a1.alpha] at e ⊢
 rw [e, sortE_self a1.edges.inc]
def orK (p q : Bool) (k : Nat) : Bool := if k = 0 then false else if k = 1 then p else p || q
set_option maxHeartbeats 64000000 in
set_option maxRecDepth 20000 in
theorem Joins_law (d o : Dft) (hd : d.Ok) (ho : o.Ok) (us : List Int) (hu : ∀ z ∈ us, 0 ≤ z ∧ z ≤ 255) (hl : us.length ≤ maxLen) : ACalls Tryd.prog 10 [.agg d.d, .agg o.d, .one (.list (u8D us))] (.one (.bool true)) [] := by
 have kn := known_c
 unfold maxLen at hl
 by_cases h8 : us.length ≤ 6
 ·have m1 := Make_c d hd
  have m2 := Make_c o ho
  have n1 := d.n_lt
  have n2 := o.n_lt
  have hst : d.na.states + o.na.states ≤ 4096 := by
   show ((d.n : Nat) : Int) + ((o.n : Nat) : Int) ≤ 4096
   omega
  have c2 := naUnion_c d.na o.na d.fits o.fits d.chk o.chk hst
  have hU := uni_chk d.chk o.chk hst
  have fU := uni_fits d o
  have f1 := d.fits
  have f2 := o.fits
  have hUal := (chkNA_zero.1 hU).2.2.1
  have c3 := naErase_c _ [] fU hU (by decide) rfl
  rw [era_nil hU] at c3
  have c4 := naEqual_c _ (uniNA d.na o.na) fU
  rw [decide_eq_true rfl] at c4
  have hwi := wdL_in (al := (uniNA d.na o.na).alpha) (us := us)
  have hwl := wdL_length (uniNA d.na o.na).alpha us
  have hsu := fun k h ha => wdL_succ (al := (uniNA d.na o.na).alpha) us k h ha
  have hlu := fun k h ha => wdL_len (al := (uniNA d.na o.na).alpha) us k h ha
  have hsg := side_gen (sil := -1) d.ok o.ok (incr_union d.ok.alpha o.ok.alpha) (wdL (uniNA d.na o.na).alpha us)
  have hsa := side_acc (sil := -1) d.ok o.ok (incr_union d.ok.alpha o.ok.alpha) (wdL (uniNA d.na o.na).alpha us)
  change aftA (uniNA d.na o.na) _ _ ≠ [] ↔ _ at hsg
  change metL (aftA (uniNA d.na o.na) _ _) (uniNA d.na o.na).marked = _ at hsa
  have hwp : ∀ x ∈ wdL (uniNA d.na o.na).alpha us, 0 ≤ x := fun x hx => (hUal x (hwi x hx)).1
  have e0 := aftE_ok hU (by omega) hwi
  obtain ⟨e1, v1, w1⟩ := aft_both d.chk (w := wdL (uniNA d.na o.na).alpha us) (by omega) hwp
  obtain ⟨e2, v2, w2⟩ := aft_both o.chk (w := wdL (uniNA d.na o.na).alpha us) (by omega) hwp
  have g0 := Generates_c _ (wdL (uniNA d.na o.na).alpha us) fU (by omega)
  have a0 := Accepts_c _ (wdL (uniNA d.na o.na).alpha us) fU (by omega)
  have g1 := Generates_c d.na (wdL (uniNA d.na o.na).alpha us) f1 (by omega)
  have a1 := Accepts_c d.na (wdL (uniNA d.na o.na).alpha us) f1 (by omega)
  have g2 := Generates_c o.na (wdL (uniNA d.na o.na).alpha us) f2 (by omega)
  have a2 := Accepts_c o.na (wdL (uniNA d.na o.na).alpha us) f2 (by omega)
  rw [aftV_of e0, e0] at g0
  rw [accV_of e0, e0, hsa] at a0
  rw [v1] at g1
  rw [v2] at g2
  rw [w1] at a1
  rw [w2] at a2
  have hdec : decide (0 < (aftA (uniNA d.na o.na) (-1) (wdL (uniNA d.na o.na).alpha us)).length) = (decide (0 < (aftA d.na (-1) (wdL (uniNA d.na o.na).alpha us)).length) || decide (0 < (aftA o.na (-1) (wdL (uniNA d.na o.na).alpha us)).length)) := by
   rw [Bool.eq_iff_iff, Bool.or_eq_true, decide_eq_true_eq, decide_eq_true_eq, decide_eq_true_eq, List.length_pos_iff, List.length_pos_iff, List.length_pos_iff]
   exact hsg
  rw [hdec] at g0
  clear hdec hsg hsa v1 v2 w1 w2 hwp
  generalize decide (0 < (aftA d.na (-1) (wdL (uniNA d.na o.na).alpha us)).length) = p1 at *
  generalize decide (0 < (aftA o.na (-1) (wdL (uniNA d.na o.na).alpha us)).length) = p2 at *
  generalize metL (aftA d.na (-1) (wdL (uniNA d.na o.na).alpha us)) d.na.marked = q1 at *
  generalize metL (aftA o.na (-1) (wdL (uniNA d.na o.na).alpha us)) o.na.marked = q2 at *
  generalize aftE d.na (wdL (uniNA d.na o.na).alpha us) = E1 at *
  generalize aftE o.na (wdL (uniNA d.na o.na).alpha us) = E2 at *
  simp only [Dft.d] at m1 m2
  clear hU hUal e0 hst n1 n2
  have fUa := fU.alpha
  generalize uniNA d.na o.na = U at *
  generalize d.na = A at *
  generalize o.na = B at *
  simp only [NA.d] at m1 m2 c2 c3 c4 g0 a0 g1 a1 g2 a2
  rw [show ints [] = [] from rfl] at c3
  (refine ACalls.of_body Ty_ok mixed Tryd.func10 rfl (by kernel_rfl) Tryd.ntmps10 (by simp) (congrArg Array.toList Tryd.results10) ?_)
  simp only [slotsOf, Dft.d]
  (repeat' (first | (with_reducible first | exact True.intro | refine And.intro ?_ ?_ | refine awp_block ?_ | ((first | refine awp_seq1 27 [92, 91, 93] ?_ | refine awp_seq2 27 [92, 91, 93] ?_ | refine awp_seq3 27 [92, 91, 93] ?_ | refine awp_seq4 27 [92, 91, 93] ?_ | refine awp_seq 27 [92, 91, 93] ?_); intro K hK)) | ((with_reducible first | refine awp_reg ?_ | refine awp_exit ?_ | refine awp_skip ?_ | refine likeK_i ?_ | refine otWR_i ?_ | refine rP Ty_ok mixed 3 [] [.mid [pe 0, ⟨1, 0, true, false, false, [], []⟩, ⟨2, 1, false, false, false, [0], []⟩, ⟨3, 1, true, false, false, [], []⟩, ⟨4, 2, true, false, false, [1, 0], []⟩, ⟨5, 3, true, false, false, [2, 1, 0], []⟩] 4, .one 6, .one 7] ?_ | refine rP Ty_ok mixed 11 [0, 1, 3, 4, 8] [.mid [pe 2, pe 5, pe 6, pe 7, pe 9, pe 10, pe 11, pe 12, pe 13, pe 14] 0, .one 15, .one 16] ?_); simp only [go_sem]) | (with_reducible refine awp_ret ?_; simp only [retF, retM, retL, resV, resW, retO, resAV, AV.bor, D.bor, D.bor1, D.bor0, AV.flatOwn, D.flatOwn, D.flat, AV.tagged, D.tagged, AObj.plain, go_sem]) | ((with_reducible refine awp_cond' ?_ ?_ (fun hb => ?_) (fun hb => ?_)); (simp only [go_sem]); (simp only [go_sem]); all_goals (simp only [go_sem] at hb; try simp only [bls] at hb)) | ((iterate 6 try ((fail_if_success with_reducible refine hK _ ?_ ?_ ?_); clear hK K)); with_reducible refine hK _ ?_ ?_ ?_; rotate_left; (focus (simp only [go_sem]; exact rfl)); clear hK K) | ((first | (with_reducible first | refine cA kn ?_ | refine cA m1 ?_ | refine cA m2 ?_ | refine cA c2 ?_ | refine cD kn ?_ | refine cD m1 ?_ | refine cD m2 ?_ | refine cD c2 ?_ | refine cO kn ?_ | refine cO m1 ?_ | refine cO m2 ?_ | refine cO c2 ?_ | refine cR kn ?_ | refine cR m1 ?_ | refine cR m2 ?_ | refine cR c2 ?_ | refine cG (fun hg => kn) ?_ | refine cG (fun hg => m1) ?_ | refine cG (fun hg => m2) ?_ | refine cG (fun hg => c2) ?_ | refine cH (fun hg => kn) ?_ | refine cH (fun hg => m1) ?_ | refine cH (fun hg => m2) ?_ | refine cH (fun hg => c2) ?_ | refine cM (fun hg => kn) ?_ | refine cM (fun hg => m1) ?_ | refine cM (fun hg => m2) ?_ | refine cM (fun hg => c2) ?_) | (guard_target = CallAt _ _ _ _ _ _ _ _ _ _; first | refine cA kn ?_ | refine cA m1 ?_ | refine cA m2 ?_ | refine cA c2 ?_) | (guard_target = DCallAt _ _ _ _ _ _ _ _; first | refine cD kn ?_ | refine cD m1 ?_ | refine cD m2 ?_ | refine cD c2 ?_) | (guard_target = GCallAt _ _ _ _ _ _ _ _ _ _ _; first | refine cG (fun hg => kn) ?_ | refine cG (fun hg => m1) ?_ | refine cG (fun hg => m2) ?_ | refine cG (fun hg => c2) ?_)); simp only [go_sem]) | (with_reducible refine gsplit_i (fun hg0 => ?_) (fun hg0 => ?_) <;> first | (with_reducible first | exact absurd hg0 Bool.false_ne_true | exact absurd hg0.symm Bool.false_ne_true) | (simp only [hg0, go_sem])) | (with_reducible refine nilK_i ?_; intro bnil hnil; try simp only []) | (omega; done) | (intro hv; (try simp only [bls] at hv); (try simp only [bls]); omega) | (intro hg; (simp only [hg, Bool.true_and, true_and, implies_true]; try (intro hg2; simp only [hg2, Bool.not_false, Bool.not_true])); done)))
  all_goals first | omega | skip
  have ha : 0 < U.alpha.length := by omega
  refine awp_loop _ (by simp only [go_sem]; rfl) Nat (fun k => k ≤ us.length) (fun k => [(11, .one (.own 7)), (12, .one (.int .i64 k))])
   (fun k _ => [.var 24 [.int .u8 d.s, .int .u8 d.al, .int .u8 d.ini, .int .u8 d.mr, .list (edB d.es)], .var 24 [.int .u8 o.s, .int .u8 o.al, .int .u8 o.ini, .int .u8 o.mr, .list (edB o.es)], .gone, .gone, .var 29 [.list (ints A.alpha), .int .i64 A.states, .list (ints A.init), .list (ints A.marked), .list (edD A.edges)], .var 29 [.list (ints B.alpha), .int .i64 B.states, .list (ints B.init), .list (ints B.marked), .list (edD B.edges)], .var 29 [.list (ints U.alpha), .int .i64 U.states, .list (ints U.init), .list (ints U.marked), .list (edD U.edges)], .row 3 1 (ints (wdL U.alpha (us.take k)))]) (fun k => us.length - k) 0 (by omega) ?_ ?_
  ·have hw0 : wdL U.alpha (us.take 0) = [] := by rw [wdL]; split <;> rfl
   rw [hw0, show ints [] = [] from rfl]
   (simp only [SubF, go_sem]; (try simp only [go_sem]); repeat' (first | exact True.intro | with_reducible refine And.intro ?_ ?_ | rfl | omega))
  rintro k hk L hL
  have hq : ((k : Nat) : Int).toNat = k := by omega
  have hlen := hlu k hk ha
  by_cases hlt : k < us.length
  ·have hs := hsu k hlt ha
   have hat := u8D_at hlt
   have hz := hu _ (getD_mem us k 0 hlt)
   generalize us.getD k 0 = z at *
   have p1 : IntKind.i64.wrap z = z := by simp [IntKind.wrap, IntKind.bits, IntKind.signed]; omega
   have r1 : z.tmod (U.alpha.length : Int) = ((z.toNat % U.alpha.length : Nat) : Int) := by
    rw [Int.tmod_eq_emod_of_nonneg hz.1, Int.natCast_emod, Int.toNat_of_nonneg hz.1]
   have t1 : z.toNat % U.alpha.length < U.alpha.length := Nat.mod_lt _ ha
   generalize z.toNat % U.alpha.length = y at *
   generalize hx : U.alpha.getD y 0 = x at *
   generalize wdL U.alpha (us.take k) = W at *
   (simp only [go_sem] at hL ⊢)
   (repeat' (first | (with_reducible first | exact True.intro | refine And.intro ?_ ?_ | refine awp_block ?_ | ((first | refine awp_seq1 27 [92, 91, 93] ?_ | refine awp_seq2 27 [92, 91, 93] ?_ | refine awp_seq3 27 [92, 91, 93] ?_ | refine awp_seq4 27 [92, 91, 93] ?_ | refine awp_seq 27 [92, 91, 93] ?_); intro K hK)) | ((with_reducible first | refine awp_reg ?_ | refine awp_exit ?_ | refine awp_skip ?_ | refine likeK_i ?_ | refine otWR_i ?_ | refine rP Ty_ok mixed 3 [] [.mid [pe 0, ⟨1, 0, true, false, false, [], []⟩, ⟨2, 1, false, false, false, [0], []⟩, ⟨3, 1, true, false, false, [], []⟩, ⟨4, 2, true, false, false, [1, 0], []⟩, ⟨5, 3, true, false, false, [2, 1, 0], []⟩] 4, .one 6, .one 7] ?_ | refine rP Ty_ok mixed 11 [0, 1, 3, 4, 8] [.mid [pe 2, pe 5, pe 6, pe 7, pe 9, pe 10, pe 11, pe 12, pe 13, pe 14] 0, .one 15, .one 16] ?_); simp only [hq, hat, hx, p1, r1, Int.toNat_natCast, ints_snoc, go_sem]) | (with_reducible refine awp_ret ?_; simp only [retF, retM, retL, resV, resW, retO, resAV, AV.bor, D.bor, D.bor1, D.bor0, AV.flatOwn, D.flatOwn, D.flat, AV.tagged, D.tagged, AObj.plain, hq, hat, hx, p1, r1, Int.toNat_natCast, ints_snoc, go_sem]) | ((with_reducible refine awp_cond' ?_ ?_ (fun hb => ?_) (fun hb => ?_)); (simp only [hq, hat, hx, p1, r1, Int.toNat_natCast, ints_snoc, go_sem]); (simp only [hq, hat, hx, p1, r1, Int.toNat_natCast, ints_snoc, go_sem]); all_goals (simp only [hq, hat, hx, p1, r1, Int.toNat_natCast, ints_snoc, go_sem] at hb; try simp only [bls] at hb)) | ((iterate 6 try ((fail_if_success with_reducible refine hK _ ?_ ?_ ?_); clear hK K)); with_reducible refine hK _ ?_ ?_ ?_; rotate_left; (focus (simp only [hq, hat, hx, p1, r1, Int.toNat_natCast, ints_snoc, go_sem]; exact rfl)); clear hK K) | (with_reducible refine gsplit_i (fun hg0 => ?_) (fun hg0 => ?_) <;> first | (with_reducible first | exact absurd hg0 Bool.false_ne_true | exact absurd hg0.symm Bool.false_ne_true) | (simp only [hg0, hq, hat, hx, p1, r1, Int.toNat_natCast, ints_snoc, go_sem])) | (with_reducible refine nilK_i ?_; intro bnil hnil; try simp only []) | (omega; done) | (intro hv; (try simp only [bls] at hv); (try simp only [bls]); omega) | (intro hg; (simp only [hg, Bool.true_and, true_and, implies_true]; try (intro hg2; simp only [hg2, Bool.not_false, Bool.not_true])); done)))
   all_goals first | omega | skip
   rw [← hs]
   exact hL _ (k + 1) (by omega) (by (simp only [SubF, go_sem]; (try simp only [go_sem]); repeat' (first | exact True.intro | with_reducible refine And.intro ?_ ?_ | rfl | omega))) (by omega)
  obtain rfl : k = us.length := by omega
  rw [List.take_length] at *
  clear hsu hlu
  generalize wdL U.alpha us = W at *
  (simp only [go_sem] at hL ⊢)
  (repeat' (first | (with_reducible first | exact True.intro | refine And.intro ?_ ?_ | refine awp_block ?_ | ((first | refine awp_seq1 27 [92, 91, 93] ?_ | refine awp_seq2 27 [92, 91, 93] ?_ | refine awp_seq3 27 [92, 91, 93] ?_ | refine awp_seq4 27 [92, 91, 93] ?_ | refine awp_seq 27 [92, 91, 93] ?_); intro K hK)) | ((with_reducible first | refine awp_reg ?_ | refine awp_exit ?_ | refine awp_skip ?_ | refine likeK_i ?_ | refine otWR_i ?_ | refine rP Ty_ok mixed 3 [] [.mid [pe 0, ⟨1, 0, true, false, false, [], []⟩, ⟨2, 1, false, false, false, [0], []⟩, ⟨3, 1, true, false, false, [], []⟩, ⟨4, 2, true, false, false, [1, 0], []⟩, ⟨5, 3, true, false, false, [2, 1, 0], []⟩] 4, .one 6, .one 7] ?_ | refine rP Ty_ok mixed 11 [0, 1, 3, 4, 8] [.mid [pe 2, pe 5, pe 6, pe 7, pe 9, pe 10, pe 11, pe 12, pe 13, pe 14] 0, .one 15, .one 16] ?_); simp only [hq, go_sem]) | (with_reducible refine awp_ret ?_; simp only [retF, retM, retL, resV, resW, retO, resAV, AV.bor, D.bor, D.bor1, D.bor0, AV.flatOwn, D.flatOwn, D.flat, AV.tagged, D.tagged, AObj.plain, hq, go_sem]) | ((with_reducible refine awp_cond' ?_ ?_ (fun hb => ?_) (fun hb => ?_)); (simp only [hq, go_sem]); (simp only [hq, go_sem]); all_goals (simp only [hq, go_sem] at hb; try simp only [bls] at hb)) | ((iterate 6 try ((fail_if_success with_reducible refine hK _ ?_ ?_ ?_); clear hK K)); with_reducible refine hK _ ?_ ?_ ?_; rotate_left; (focus (simp only [hq, go_sem]; exact rfl)); clear hK K) | ((first | (with_reducible first | refine cA g0 ?_ | refine cA a0 ?_ | refine cD g0 ?_ | refine cD a0 ?_ | refine cO g0 ?_ | refine cO a0 ?_ | refine cR g0 ?_ | refine cR a0 ?_ | refine cG (fun hg => g0) ?_ | refine cG (fun hg => a0) ?_ | refine cH (fun hg => g0) ?_ | refine cH (fun hg => a0) ?_ | refine cM (fun hg => g0) ?_ | refine cM (fun hg => a0) ?_) | (guard_target = CallAt _ _ _ _ _ _ _ _ _ _; first | refine cA g0 ?_ | refine cA a0 ?_) | (guard_target = DCallAt _ _ _ _ _ _ _ _; first | refine cD g0 ?_ | refine cD a0 ?_) | (guard_target = GCallAt _ _ _ _ _ _ _ _ _ _ _; first | refine cG (fun hg => g0) ?_ | refine cG (fun hg => a0) ?_)); simp only [hq, go_sem]) | (with_reducible refine gsplit_i (fun hg0 => ?_) (fun hg0 => ?_) <;> first | (with_reducible first | exact absurd hg0 Bool.false_ne_true | exact absurd hg0.symm Bool.false_ne_true) | (simp only [hg0, hq, go_sem])) | (with_reducible refine nilK_i ?_; intro bnil hnil; try simp only []) | (omega; done) | (intro hv; (try simp only [bls] at hv); (try simp only [bls]); omega) | (intro hg; (simp only [hg, Bool.true_and, true_and, implies_true]; try (intro hg2; simp only [hg2, Bool.not_false, Bool.not_true])); done)))
  all_goals first | omega | skip
  have k00 : orK p1 p2 0 = false ∧ orK q1 q2 0 = false := ⟨rfl, rfl⟩
  have k01 : orK p1 p2 1 = p1 ∧ orK q1 q2 1 = q1 := ⟨rfl, rfl⟩
  have k02 : orK p1 p2 2 = (p1 || p2) ∧ orK q1 q2 2 = (q1 || q2) := ⟨rfl, rfl⟩
  have he1 : (E1 != E1) = false := by simp
  have he2 : (E2 != E2) = false := by simp
  have he3 : (E1 != 0 && E1 != 9) = false := by rcases e1 with rfl | rfl <;> rfl
  have he4 : (E2 != 0 && E2 != 9) = false := by rcases e2 with rfl | rfl <;> rfl
  clear hL
  refine awp_loop _ (by simp only [go_sem]; rfl) Nat (fun k => k ≤ 2) (fun k => [(17, .one (.bool (orK p1 p2 k))), (18, .one (.bool (orK q1 q2 k))), (93, .one (.int .i64 k))]) (fun _ H => H) (fun k => 2 - k) 0 (by omega) ?_ ?_
  ·rw [k00.1, k00.2]
   (simp only [SubF, go_sem]; (try simp only [go_sem]); repeat' (first | exact True.intro | with_reducible refine And.intro ?_ ?_ | rfl | omega))
  rintro k hk L hL
  have : k = 0 ∨ k = 1 ∨ k = 2 := by omega
  rcases this with rfl | rfl | rfl
  ·rw [k00.1, k00.2]
   (simp only [go_sem] at hL ⊢)
   (repeat' (first | (with_reducible first | exact True.intro | refine And.intro ?_ ?_ | refine awp_block ?_ | ((first | refine awp_seq1 27 [92, 91, 93] ?_ | refine awp_seq2 27 [92, 91, 93] ?_ | refine awp_seq3 27 [92, 91, 93] ?_ | refine awp_seq4 27 [92, 91, 93] ?_ | refine awp_seq 27 [92, 91, 93] ?_); intro K hK)) | ((with_reducible first | refine awp_reg ?_ | refine awp_exit ?_ | refine awp_skip ?_ | refine likeK_i ?_ | refine otWR_i ?_ | refine rP Ty_ok mixed 3 [] [.mid [pe 0, ⟨1, 0, true, false, false, [], []⟩, ⟨2, 1, false, false, false, [0], []⟩, ⟨3, 1, true, false, false, [], []⟩, ⟨4, 2, true, false, false, [1, 0], []⟩, ⟨5, 3, true, false, false, [2, 1, 0], []⟩] 4, .one 6, .one 7] ?_ | refine rP Ty_ok mixed 11 [0, 1, 3, 4, 8] [.mid [pe 2, pe 5, pe 6, pe 7, pe 9, pe 10, pe 11, pe 12, pe 13, pe 14] 0, .one 15, .one 16] ?_); simp only [he1, he3, go_sem]) | (with_reducible refine awp_ret ?_; simp only [retF, retM, retL, resV, resW, retO, resAV, AV.bor, D.bor, D.bor1, D.bor0, AV.flatOwn, D.flatOwn, D.flat, AV.tagged, D.tagged, AObj.plain, he1, he3, go_sem]) | ((with_reducible refine awp_cond' ?_ ?_ (fun hb => ?_) (fun hb => ?_)); (simp only [he1, he3, go_sem]); (simp only [he1, he3, go_sem]); all_goals (simp only [he1, he3, go_sem] at hb; try simp only [bls] at hb)) | ((iterate 6 try ((fail_if_success with_reducible refine hK _ ?_ ?_ ?_); clear hK K)); with_reducible refine hK _ ?_ ?_ ?_; rotate_left; (focus (simp only [he1, he3, go_sem]; exact rfl)); clear hK K) | ((first | (with_reducible first | refine cA g1 ?_ | refine cA a1 ?_ | refine cD g1 ?_ | refine cD a1 ?_ | refine cO g1 ?_ | refine cO a1 ?_ | refine cR g1 ?_ | refine cR a1 ?_ | refine cG (fun hg => g1) ?_ | refine cG (fun hg => a1) ?_ | refine cH (fun hg => g1) ?_ | refine cH (fun hg => a1) ?_ | refine cM (fun hg => g1) ?_ | refine cM (fun hg => a1) ?_) | (guard_target = CallAt _ _ _ _ _ _ _ _ _ _; first | refine cA g1 ?_ | refine cA a1 ?_) | (guard_target = DCallAt _ _ _ _ _ _ _ _; first | refine cD g1 ?_ | refine cD a1 ?_) | (guard_target = GCallAt _ _ _ _ _ _ _ _ _ _ _; first | refine cG (fun hg => g1) ?_ | refine cG (fun hg => a1) ?_)); simp only [he1, he3, go_sem]) | (with_reducible refine gsplit_i (fun hg0 => ?_) (fun hg0 => ?_) <;> first | (with_reducible first | exact absurd hg0 Bool.false_ne_true | exact absurd hg0.symm Bool.false_ne_true) | (simp only [hg0, he1, he3, go_sem])) | (with_reducible refine nilK_i ?_; intro bnil hnil; try simp only []) | (omega; done) | (intro hv; (try simp only [bls] at hv); (try simp only [bls]); omega) | (intro hg; (simp only [hg, Bool.true_and, true_and, implies_true]; try (intro hg2; simp only [hg2, Bool.not_false, Bool.not_true])); done)))
   all_goals first | omega | skip
   exact hL _ 1 (by omega) (by (simp only [SubF, go_sem]; (try simp only [go_sem]); repeat' (first | exact True.intro | with_reducible refine And.intro ?_ ?_ | rfl | omega))) (by omega)
  ·rw [k01.1, k01.2]
   (simp only [go_sem] at hL ⊢)
   (repeat' (first | (with_reducible first | exact True.intro | refine And.intro ?_ ?_ | refine awp_block ?_ | ((first | refine awp_seq1 27 [92, 91, 93] ?_ | refine awp_seq2 27 [92, 91, 93] ?_ | refine awp_seq3 27 [92, 91, 93] ?_ | refine awp_seq4 27 [92, 91, 93] ?_ | refine awp_seq 27 [92, 91, 93] ?_); intro K hK)) | ((with_reducible first | refine awp_reg ?_ | refine awp_exit ?_ | refine awp_skip ?_ | refine likeK_i ?_ | refine otWR_i ?_ | refine rP Ty_ok mixed 3 [] [.mid [pe 0, ⟨1, 0, true, false, false, [], []⟩, ⟨2, 1, false, false, false, [0], []⟩, ⟨3, 1, true, false, false, [], []⟩, ⟨4, 2, true, false, false, [1, 0], []⟩, ⟨5, 3, true, false, false, [2, 1, 0], []⟩] 4, .one 6, .one 7] ?_ | refine rP Ty_ok mixed 11 [0, 1, 3, 4, 8] [.mid [pe 2, pe 5, pe 6, pe 7, pe 9, pe 10, pe 11, pe 12, pe 13, pe 14] 0, .one 15, .one 16] ?_); simp only [he2, he4, go_sem]) | (with_reducible refine awp_ret ?_; simp only [retF, retM, retL, resV, resW, retO, resAV, AV.bor, D.bor, D.bor1, D.bor0, AV.flatOwn, D.flatOwn, D.flat, AV.tagged, D.tagged, AObj.plain, he2, he4, go_sem]) | ((with_reducible refine awp_cond' ?_ ?_ (fun hb => ?_) (fun hb => ?_)); (simp only [he2, he4, go_sem]); (simp only [he2, he4, go_sem]); all_goals (simp only [he2, he4, go_sem] at hb; try simp only [bls] at hb)) | ((iterate 6 try ((fail_if_success with_reducible refine hK _ ?_ ?_ ?_); clear hK K)); with_reducible refine hK _ ?_ ?_ ?_; rotate_left; (focus (simp only [he2, he4, go_sem]; exact rfl)); clear hK K) | ((first | (with_reducible first | refine cA g2 ?_ | refine cA a2 ?_ | refine cD g2 ?_ | refine cD a2 ?_ | refine cO g2 ?_ | refine cO a2 ?_ | refine cR g2 ?_ | refine cR a2 ?_ | refine cG (fun hg => g2) ?_ | refine cG (fun hg => a2) ?_ | refine cH (fun hg => g2) ?_ | refine cH (fun hg => a2) ?_ | refine cM (fun hg => g2) ?_ | refine cM (fun hg => a2) ?_) | (guard_target = CallAt _ _ _ _ _ _ _ _ _ _; first | refine cA g2 ?_ | refine cA a2 ?_) | (guard_target = DCallAt _ _ _ _ _ _ _ _; first | refine cD g2 ?_ | refine cD a2 ?_) | (guard_target = GCallAt _ _ _ _ _ _ _ _ _ _ _; first | refine cG (fun hg => g2) ?_ | refine cG (fun hg => a2) ?_)); simp only [he2, he4, go_sem]) | (with_reducible refine gsplit_i (fun hg0 => ?_) (fun hg0 => ?_) <;> first | (with_reducible first | exact absurd hg0 Bool.false_ne_true | exact absurd hg0.symm Bool.false_ne_true) | (simp only [hg0, he2, he4, go_sem])) | (with_reducible refine nilK_i ?_; intro bnil hnil; try simp only []) | (omega; done) | (intro hv; (try simp only [bls] at hv); (try simp only [bls]); omega) | (intro hg; (simp only [hg, Bool.true_and, true_and, implies_true]; try (intro hg2; simp only [hg2, Bool.not_false, Bool.not_true])); done)))
   all_goals first | omega | skip
   exact hL _ 2 (by omega) (by (simp only [SubF, go_sem]; (try simp only [go_sem]); repeat' (first | exact True.intro | with_reducible refine And.intro ?_ ?_ | rfl | omega))) (by omega)
  ·rw [k02.1, k02.2]
   (simp only [go_sem] at hL ⊢)
   (repeat' (first | (with_reducible first | exact True.intro | refine And.intro ?_ ?_ | refine awp_block ?_ | ((first | refine awp_seq1 27 [92, 91, 93] ?_ | refine awp_seq2 27 [92, 91, 93] ?_ | refine awp_seq3 27 [92, 91, 93] ?_ | refine awp_seq4 27 [92, 91, 93] ?_ | refine awp_seq 27 [92, 91, 93] ?_); intro K hK)) | ((with_reducible first | refine awp_reg ?_ | refine awp_exit ?_ | refine awp_skip ?_ | refine likeK_i ?_ | refine otWR_i ?_ | refine rP Ty_ok mixed 3 [] [.mid [pe 0, ⟨1, 0, true, false, false, [], []⟩, ⟨2, 1, false, false, false, [0], []⟩, ⟨3, 1, true, false, false, [], []⟩, ⟨4, 2, true, false, false, [1, 0], []⟩, ⟨5, 3, true, false, false, [2, 1, 0], []⟩] 4, .one 6, .one 7] ?_ | refine rP Ty_ok mixed 11 [0, 1, 3, 4, 8] [.mid [pe 2, pe 5, pe 6, pe 7, pe 9, pe 10, pe 11, pe 12, pe 13, pe 14] 0, .one 15, .one 16] ?_); simp only [go_sem]) | (with_reducible refine awp_ret ?_; simp only [retF, retM, retL, resV, resW, retO, resAV, AV.bor, D.bor, D.bor1, D.bor0, AV.flatOwn, D.flatOwn, D.flat, AV.tagged, D.tagged, AObj.plain, go_sem]) | ((with_reducible refine awp_cond' ?_ ?_ (fun hb => ?_) (fun hb => ?_)); (simp only [go_sem]); (simp only [go_sem]); all_goals (simp only [go_sem] at hb; try simp only [bls] at hb)) | ((iterate 6 try ((fail_if_success with_reducible refine hK _ ?_ ?_ ?_); clear hK K)); with_reducible refine hK _ ?_ ?_ ?_; rotate_left; (focus (simp only [go_sem]; exact rfl)); clear hK K) | ((first | (with_reducible first | refine cA c3 ?_ | refine cA c4 ?_ | refine cD c3 ?_ | refine cD c4 ?_ | refine cO c3 ?_ | refine cO c4 ?_ | refine cR c3 ?_ | refine cR c4 ?_ | refine cG (fun hg => c3) ?_ | refine cG (fun hg => c4) ?_ | refine cH (fun hg => c3) ?_ | refine cH (fun hg => c4) ?_ | refine cM (fun hg => c3) ?_ | refine cM (fun hg => c4) ?_) | (guard_target = CallAt _ _ _ _ _ _ _ _ _ _; first | refine cA c3 ?_ | refine cA c4 ?_) | (guard_target = DCallAt _ _ _ _ _ _ _ _; first | refine cD c3 ?_ | refine cD c4 ?_) | (guard_target = GCallAt _ _ _ _ _ _ _ _ _ _ _; first | refine cG (fun hg => c3) ?_ | refine cG (fun hg => c4) ?_)); simp only [go_sem]) | (with_reducible refine gsplit_i (fun hg0 => ?_) (fun hg0 => ?_) <;> first | (with_reducible first | exact absurd hg0 Bool.false_ne_true | exact absurd hg0.symm Bool.false_ne_true) | (simp only [hg0, go_sem])) | (with_reducible refine nilK_i ?_; intro bnil hnil; try simp only []) | (omega; done) | (intro hv; (try simp only [bls] at hv); (try simp only [bls]); omega) | (intro hg; (simp only [hg, Bool.true_and, true_and, implies_true]; try (intro hg2; simp only [hg2, Bool.not_false, Bool.not_true])); done)))
   all_goals first | omega | skip
 ·(refine ACalls.of_body Ty_ok mixed Tryd.func10 rfl (by kernel_rfl) Tryd.ntmps10 (by simp) (congrArg Array.toList Tryd.results10) ?_)
  simp only [slotsOf, Dft.d]
  (repeat' (first | (with_reducible first | exact True.intro | refine And.intro ?_ ?_ | refine awp_block ?_ | ((first | refine awp_seq1 27 [92, 91, 93] ?_ | refine awp_seq2 27 [92, 91, 93] ?_ | refine awp_seq3 27 [92, 91, 93] ?_ | refine awp_seq4 27 [92, 91, 93] ?_ | refine awp_seq 27 [92, 91, 93] ?_); intro K hK)) | ((with_reducible first | refine awp_reg ?_ | refine awp_exit ?_ | refine awp_skip ?_ | refine likeK_i ?_ | refine otWR_i ?_ | refine rP Ty_ok mixed 3 [] [.mid [pe 0, ⟨1, 0, true, false, false, [], []⟩, ⟨2, 1, false, false, false, [0], []⟩, ⟨3, 1, true, false, false, [], []⟩, ⟨4, 2, true, false, false, [1, 0], []⟩, ⟨5, 3, true, false, false, [2, 1, 0], []⟩] 4, .one 6, .one 7] ?_ | refine rP Ty_ok mixed 11 [0, 1, 3, 4, 8] [.mid [pe 2, pe 5, pe 6, pe 7, pe 9, pe 10, pe 11, pe 12, pe 13, pe 14] 0, .one 15, .one 16] ?_); simp only [go_sem]) | (with_reducible refine awp_ret ?_; simp only [retF, retM, retL, resV, resW, retO, resAV, AV.bor, D.bor, D.bor1, D.bor0, AV.flatOwn, D.flatOwn, D.flat, AV.tagged, D.tagged, AObj.plain, go_sem]) | ((with_reducible refine awp_cond' ?_ ?_ (fun hb => ?_) (fun hb => ?_)); (simp only [go_sem]); (simp only [go_sem]); all_goals (simp only [go_sem] at hb; try simp only [bls] at hb)) | ((iterate 6 try ((fail_if_success with_reducible refine hK _ ?_ ?_ ?_); clear hK K)); with_reducible refine hK _ ?_ ?_ ?_; rotate_left; (focus (simp only [go_sem]; exact rfl)); clear hK K) | ((first | (with_reducible first | refine cA kn ?_ | refine cD kn ?_ | refine cO kn ?_ | refine cR kn ?_ | refine cG (fun hg => kn) ?_ | refine cH (fun hg => kn) ?_ | refine cM (fun hg => kn) ?_) | (guard_target = CallAt _ _ _ _ _ _ _ _ _ _; refine cA kn ?_) | (guard_target = DCallAt _ _ _ _ _ _ _ _; refine cD kn ?_) | (guard_target = GCallAt _ _ _ _ _ _ _ _ _ _ _; refine cG (fun hg => kn) ?_)); simp only [go_sem]) | (with_reducible refine gsplit_i (fun hg0 => ?_) (fun hg0 => ?_) <;> first | (with_reducible first | exact absurd hg0 Bool.false_ne_true | exact absurd hg0.symm Bool.false_ne_true) | (simp only [hg0, go_sem])) | (with_reducible refine nilK_i ?_; intro bnil hnil; try simp only []) | (omega; done) | (intro hv; (try simp only [bls] at hv); (try simp only [bls]); omega) | (intro hg; (simp only [hg, Bool.true_and, true_and, implies_true]; try (intro hg2; simp only [hg2, Bool.not_false, Bool.not_true])); done)))
  all_goals first | omega | skip
end Go.Proofs.YtgagpbbnbonnlaaDoor
