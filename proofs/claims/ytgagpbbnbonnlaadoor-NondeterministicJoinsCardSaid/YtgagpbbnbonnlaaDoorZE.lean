/-
 Chapter 05: Closure, Step, After, Generates, Accepts of the program, with their errors.
-/
import Derived.Test.YtgagpbbnbonnlaaDoorZN
set_option linter.unusedSimpArgs false
set_option linter.unusedVariables false
namespace Go.Proofs.YtgagpbbnbonnlaaDoor
open Go.Eng Go.RowKit
theorem dgood_of {a : NA} (hf : a.Fits) (h : chkNA a = 0) : DGood a a.states.toNat := by
 obtain ⟨h1, h2, h3, h4⟩ := chkNA_zero.1 h
 have hp := h1.pos
 exact { st := by omega, le := by omega, ed := h1.edges, fits := hf, ok := h1, al := inc_len h1.alpha h3 }
def cloE (a : NA) (s : List Int) : Int := if chkNA a ≠ 0 then chkNA a else checkSet s a.states
def cloV (a : NA) (s : List Int) : List Int := if cloE a s = 0 then closN a.states.toNat (leadE a.edges (-1)) s else []
theorem set_rng {s : List Int} {m : Int} (h : checkSet s m = 0) : ∀ x ∈ s, 0 ≤ x ∧ x < m := ((checkSet_zero _ _).1 h).1
set_option maxHeartbeats 4000000 in
theorem Closure_c (a : NA) (s : List Int) (hf : a.Fits) (hs : s.length ≤ 1000000) : ACalls Tryd.prog 19 [.agg a.d, .one (.list (ints s))] (.tup [.one (.list (ints (cloV a s))), .one (.int .i64 (cloE a s))]) [] := by
 have c1 := naCheck_c a hf
 have c2 := CheckSet_c s a.states (by omega)
 by_cases h1 : chkNA a = 0
 ·have hg := dgood_of hf h1
  have hst := hg.st
  by_cases h2 : checkSet s a.states = 0
  ·have c3 := closure_c a _ s hg.toGood (by omega) fun x hx => by have := set_rng h2 x hx; omega
   have e1 : cloE a s = 0 := by rw [cloE, if_neg (by simpa using h1), h2]
   rw [cloV, if_pos e1, e1]
   rw [h1] at c1
   rw [h2] at c2
   simp only [NA.d] at c1 c3
   (refine ACalls.of_body Ty_ok mixed Tryd.func19 rfl (by kernel_rfl) Tryd.ntmps19 (by simp) (congrArg Array.toList Tryd.results19) ?_)
   simp only [slotsOf, NA.d]
   (repeat' (first | (with_reducible first | exact True.intro | refine And.intro ?_ ?_ | refine awp_block ?_ | ((first | refine awp_seq1 8 [] ?_ | refine awp_seq2 8 [] ?_ | refine awp_seq3 8 [] ?_ | refine awp_seq4 8 [] ?_ | refine awp_seq 8 [] ?_); intro K hK)) | ((with_reducible first | refine awp_reg ?_ | refine awp_exit ?_ | refine awp_skip ?_ | refine likeK_i ?_ | refine otWR_i ?_); simp only [go_sem]) | (with_reducible refine awp_ret ?_; simp only [retF, retM, retL, resV, resW, retO, resAV, AV.bor, D.bor, D.bor1, D.bor0, AV.flatOwn, D.flatOwn, D.flat, AV.tagged, D.tagged, AObj.plain, go_sem]) | ((with_reducible refine awp_cond' ?_ ?_ (fun hb => ?_) (fun hb => ?_)); (simp only [go_sem]); (simp only [go_sem]); all_goals (simp only [go_sem] at hb; try simp only [bls] at hb)) | ((iterate 6 try ((fail_if_success with_reducible refine hK _ ?_ ?_ ?_); clear hK K)); with_reducible refine hK _ ?_ ?_ ?_; rotate_left; (focus (simp only [go_sem]; exact rfl)); clear hK K) | ((first | (with_reducible first | refine cA c1 ?_ | refine cA c2 ?_ | refine cA c3 ?_ | refine cD c1 ?_ | refine cD c2 ?_ | refine cD c3 ?_ | refine cO c1 ?_ | refine cO c2 ?_ | refine cO c3 ?_ | refine cR c1 ?_ | refine cR c2 ?_ | refine cR c3 ?_ | refine cG (fun hg => c1) ?_ | refine cG (fun hg => c2) ?_ | refine cG (fun hg => c3) ?_ | refine cH (fun hg => c1) ?_ | refine cH (fun hg => c2) ?_ | refine cH (fun hg => c3) ?_ | refine cM (fun hg => c1) ?_ | refine cM (fun hg => c2) ?_ | refine cM (fun hg => c3) ?_) | (guard_target = CallAt _ _ _ _ _ _ _ _ _ _; first | refine cA c1 ?_ | refine cA c2 ?_ | refine cA c3 ?_) | (guard_target = DCallAt _ _ _ _ _ _ _ _; first | refine cD c1 ?_ | refine cD c2 ?_ | refine cD c3 ?_) | (guard_target = GCallAt _ _ _ _ _ _ _ _ _ _ _; first | refine cG (fun hg => c1) ?_ | refine cG (fun hg => c2) ?_ | refine cG (fun hg => c3) ?_)); simp only [go_sem]) | (with_reducible refine gsplit_i (fun hg0 => ?_) (fun hg0 => ?_) <;> first | (with_reducible first | exact absurd hg0 Bool.false_ne_true | exact absurd hg0.symm Bool.false_ne_true) | (simp only [hg0, go_sem])) | (with_reducible refine nilK_i ?_; intro bnil hnil; try simp only []) | (omega; done) | (intro hv; (try simp only [bls] at hv); (try simp only [bls]); omega) | (intro hg; (simp only [hg, Bool.true_and, true_and, implies_true]; try (intro hg2; simp only [hg2, Bool.not_false, Bool.not_true])); done)))
   all_goals first | omega | skip
  ·have e1 : cloE a s = checkSet s a.states := by rw [cloE, if_neg (by simpa using h1)]
   rw [cloV, e1, if_neg h2]
   rw [h1] at c1
   generalize checkSet s a.states = e at *
   simp only [NA.d] at c1
   (refine ACalls.of_body Ty_ok mixed Tryd.func19 rfl (by kernel_rfl) Tryd.ntmps19 (by simp) (congrArg Array.toList Tryd.results19) ?_)
   simp only [slotsOf, NA.d]
   (repeat' (first | (with_reducible first | exact True.intro | refine And.intro ?_ ?_ | refine awp_block ?_ | ((first | refine awp_seq1 8 [] ?_ | refine awp_seq2 8 [] ?_ | refine awp_seq3 8 [] ?_ | refine awp_seq4 8 [] ?_ | refine awp_seq 8 [] ?_); intro K hK)) | ((with_reducible first | refine awp_reg ?_ | refine awp_exit ?_ | refine awp_skip ?_ | refine likeK_i ?_ | refine otWR_i ?_); simp only [go_sem]) | (with_reducible refine awp_ret ?_; simp only [retF, retM, retL, resV, resW, retO, resAV, AV.bor, D.bor, D.bor1, D.bor0, AV.flatOwn, D.flatOwn, D.flat, AV.tagged, D.tagged, AObj.plain, go_sem]) | ((with_reducible refine awp_cond' ?_ ?_ (fun hb => ?_) (fun hb => ?_)); (simp only [go_sem]); (simp only [go_sem]); all_goals (simp only [go_sem] at hb; try simp only [bls] at hb)) | ((iterate 6 try ((fail_if_success with_reducible refine hK _ ?_ ?_ ?_); clear hK K)); with_reducible refine hK _ ?_ ?_ ?_; rotate_left; (focus (simp only [go_sem]; exact rfl)); clear hK K) | ((first | (with_reducible first | refine cA c1 ?_ | refine cA c2 ?_ | refine cD c1 ?_ | refine cD c2 ?_ | refine cO c1 ?_ | refine cO c2 ?_ | refine cR c1 ?_ | refine cR c2 ?_ | refine cG (fun hg => c1) ?_ | refine cG (fun hg => c2) ?_ | refine cH (fun hg => c1) ?_ | refine cH (fun hg => c2) ?_ | refine cM (fun hg => c1) ?_ | refine cM (fun hg => c2) ?_) | (guard_target = CallAt _ _ _ _ _ _ _ _ _ _; first | refine cA c1 ?_ | refine cA c2 ?_) | (guard_target = DCallAt _ _ _ _ _ _ _ _; first | refine cD c1 ?_ | refine cD c2 ?_) | (guard_target = GCallAt _ _ _ _ _ _ _ _ _ _ _; first | refine cG (fun hg => c1) ?_ | refine cG (fun hg => c2) ?_)); simp only [go_sem]) | (with_reducible refine gsplit_i (fun hg0 => ?_) (fun hg0 => ?_) <;> first | (with_reducible first | exact absurd hg0 Bool.false_ne_true | exact absurd hg0.symm Bool.false_ne_true) | (simp only [hg0, go_sem])) | (with_reducible refine nilK_i ?_; intro bnil hnil; try simp only []) | (omega; done) | (intro hv; (try simp only [bls] at hv); (try simp only [bls]); omega) | (intro hg; (simp only [hg, Bool.true_and, true_and, implies_true]; try (intro hg2; simp only [hg2, Bool.not_false, Bool.not_true])); done)))
   all_goals first | omega | skip
   all_goals rfl
 ·have e1 : cloE a s = chkNA a := by rw [cloE, if_pos h1]
  rw [cloV, e1, if_neg h1]
  generalize chkNA a = e at *
  simp only [NA.d] at c1
  (refine ACalls.of_body Ty_ok mixed Tryd.func19 rfl (by kernel_rfl) Tryd.ntmps19 (by simp) (congrArg Array.toList Tryd.results19) ?_)
  simp only [slotsOf, NA.d]
  (repeat' (first | (with_reducible first | exact True.intro | refine And.intro ?_ ?_ | refine awp_block ?_ | ((first | refine awp_seq1 8 [] ?_ | refine awp_seq2 8 [] ?_ | refine awp_seq3 8 [] ?_ | refine awp_seq4 8 [] ?_ | refine awp_seq 8 [] ?_); intro K hK)) | ((with_reducible first | refine awp_reg ?_ | refine awp_exit ?_ | refine awp_skip ?_ | refine likeK_i ?_ | refine otWR_i ?_); simp only [go_sem]) | (with_reducible refine awp_ret ?_; simp only [retF, retM, retL, resV, resW, retO, resAV, AV.bor, D.bor, D.bor1, D.bor0, AV.flatOwn, D.flatOwn, D.flat, AV.tagged, D.tagged, AObj.plain, go_sem]) | ((with_reducible refine awp_cond' ?_ ?_ (fun hb => ?_) (fun hb => ?_)); (simp only [go_sem]); (simp only [go_sem]); all_goals (simp only [go_sem] at hb; try simp only [bls] at hb)) | ((iterate 6 try ((fail_if_success with_reducible refine hK _ ?_ ?_ ?_); clear hK K)); with_reducible refine hK _ ?_ ?_ ?_; rotate_left; (focus (simp only [go_sem]; exact rfl)); clear hK K) | ((first | (with_reducible first | refine cA c1 ?_ | refine cD c1 ?_ | refine cO c1 ?_ | refine cR c1 ?_ | refine cG (fun hg => c1) ?_ | refine cH (fun hg => c1) ?_ | refine cM (fun hg => c1) ?_) | (guard_target = CallAt _ _ _ _ _ _ _ _ _ _; refine cA c1 ?_) | (guard_target = DCallAt _ _ _ _ _ _ _ _; refine cD c1 ?_) | (guard_target = GCallAt _ _ _ _ _ _ _ _ _ _ _; refine cG (fun hg => c1) ?_)); simp only [go_sem]) | (with_reducible refine gsplit_i (fun hg0 => ?_) (fun hg0 => ?_) <;> first | (with_reducible first | exact absurd hg0 Bool.false_ne_true | exact absurd hg0.symm Bool.false_ne_true) | (simp only [hg0, go_sem])) | (with_reducible refine nilK_i ?_; intro bnil hnil; try simp only []) | (omega; done) | (intro hv; (try simp only [bls] at hv); (try simp only [bls]); omega) | (intro hg; (simp only [hg, Bool.true_and, true_and, implies_true]; try (intro hg2; simp only [hg2, Bool.not_false, Bool.not_true])); done)))
  all_goals first | omega | skip
  all_goals rfl
/-! words -/
def badW (al w : List Int) : Bool := w.any fun x => !decide (x ∈ al)
def wrdE (a : NA) (w : List Int) : Int := if 4096 < w.length then 15 else if badW a.alpha w = true then 9 else 0
def aftE (a : NA) (w : List Int) : Int := if chkNA a ≠ 0 then chkNA a else wrdE a w
def aftV (a : NA) (w : List Int) : List Int := if aftE a w = 0 then aftA a (-1) w else []
theorem after1_c (a : NA) (x : Int) (hf : a.Fits) (ha : IncI a.alpha) : ACalls Tryd.prog 62 [.one (.int .i64 x), .one (.ref a.d)] (.one (.bool (!decide (x ∈ a.alpha)))) [] := by
 have h1 := hf.alpha
 have c := Contains_c a.alpha x (by omega) (lt_le ha)
 (refine ACalls.of_body Ty_ok mixed Tryd.func62 rfl (by kernel_rfl) Tryd.ntmps62 (by simp) (congrArg Array.toList Tryd.results62) ?_)
 simp only [slotsOf, NA.d]
 (repeat' (first | (with_reducible first | exact True.intro | refine And.intro ?_ ?_ | refine awp_block ?_ | ((first | refine awp_seq1 4 [] ?_ | refine awp_seq2 4 [] ?_ | refine awp_seq3 4 [] ?_ | refine awp_seq4 4 [] ?_ | refine awp_seq 4 [] ?_); intro K hK)) | ((with_reducible first | refine awp_reg ?_ | refine awp_exit ?_ | refine awp_skip ?_ | refine likeK_i ?_ | refine otWR_i ?_); simp only [go_sem]) | (with_reducible refine awp_ret ?_; simp only [retF, retM, retL, resV, resW, retO, resAV, AV.bor, D.bor, D.bor1, D.bor0, AV.flatOwn, D.flatOwn, D.flat, AV.tagged, D.tagged, AObj.plain, go_sem]) | ((with_reducible refine awp_cond' ?_ ?_ (fun hb => ?_) (fun hb => ?_)); (simp only [go_sem]); (simp only [go_sem]); all_goals (simp only [go_sem] at hb; try simp only [bls] at hb)) | ((iterate 6 try ((fail_if_success with_reducible refine hK _ ?_ ?_ ?_); clear hK K)); with_reducible refine hK _ ?_ ?_ ?_; rotate_left; (focus (simp only [go_sem]; exact rfl)); clear hK K) | ((first | (with_reducible first | refine cA c ?_ | refine cD c ?_ | refine cO c ?_ | refine cR c ?_ | refine cG (fun hg => c) ?_ | refine cH (fun hg => c) ?_ | refine cM (fun hg => c) ?_) | (guard_target = CallAt _ _ _ _ _ _ _ _ _ _; refine cA c ?_) | (guard_target = DCallAt _ _ _ _ _ _ _ _; refine cD c ?_) | (guard_target = GCallAt _ _ _ _ _ _ _ _ _ _ _; refine cG (fun hg => c) ?_)); simp only [go_sem]) | (with_reducible refine gsplit_i (fun hg0 => ?_) (fun hg0 => ?_) <;> first | (with_reducible first | exact absurd hg0 Bool.false_ne_true | exact absurd hg0.symm Bool.false_ne_true) | (simp only [hg0, go_sem])) | (with_reducible refine nilK_i ?_; intro bnil hnil; try simp only []) | (omega; done) | (intro hv; (try simp only [bls] at hv); (try simp only [bls]); omega) | (intro hg; (simp only [hg, Bool.true_and, true_and, implies_true]; try (intro hg2; simp only [hg2, Bool.not_false, Bool.not_true])); done)))
theorem aftN_nil0 (n : Nat) (es : List Ed) (sil : Int) (s : List Int) : aftN n es sil [] s = s := rfl
theorem aft_snoc (n : Nat) (es : List Ed) (sil : Int) (w s : List Int) (x : Int) : aftN n es sil (w ++ [x]) s = stepN n es sil (aftN n es sil w s) x := by simp [aftN, List.foldl_append]
theorem aft_ok {n : Nat} {es : List Ed} {sil : Int} : ∀ (w s : List Int), (IncI s ∧ ∀ y ∈ s, 0 ≤ y ∧ y < (n : Int)) → IncI (aftN n es sil w s) ∧ ∀ y ∈ aftN n es sil w s, 0 ≤ y ∧ y < (n : Int)
 | [], _, h => h
 | x :: w, s, _ => aft_ok w (stepN n es sil s x) (stepN_ok es sil s x)
set_option maxHeartbeats 8000000 in
theorem After_c (a : NA) (w : List Int) (hf : a.Fits) (hw : w.length ≤ 1000000) : ACalls Tryd.prog 28 [.agg a.d, .one (.list (ints w))] (.tup [.one (.list (ints (aftV a w))), .one (.int .i64 (aftE a w))]) [] := by
 have c1 := naCheck_c a hf
 by_cases h1 : chkNA a = 0
 ·have hg := dgood_of hf h1
  have hst := hg.st
  have hle := hg.le
  have hi := hf.init
  have eE : aftE a w = wrdE a w := by rw [aftE, if_neg (by simpa using h1)]
  have c2 := ContainsFuncInts_c w 62 [.ref a.d] (fun x => !decide (x ∈ a.alpha)) hw (capsOk_ref1 _) (fun x _ => after1_c a x hf hg.ok.alpha)
  have c3 := closure_c a _ a.init hg.toGood (by omega) fun x hx => by have := hg.ok.init.2 x hx; omega
  have hc0 : IncI (closN a.states.toNat (leadE a.edges (-1)) a.init) ∧ ∀ y ∈ closN a.states.toNat (leadE a.edges (-1)) a.init, 0 ≤ y ∧ y < (a.states.toNat : Int) := ⟨closN_inc, fun _ h => closN_rng h⟩
  have hV : aftA a (-1) w = aftN a.states.toNat a.edges (-1) w (closN a.states.toNat (leadE a.edges (-1)) a.init) := rfl
  rw [aftV, eE, hV]
  change ACalls _ _ _ (.one (.bool (badW a.alpha w))) _ at c2
  have hE : wrdE a w = if 4096 < w.length then 15 else if badW a.alpha w = true then 9 else 0 := rfl
  have c4 := fun s x hl hr => step_c a a.states.toNat s x hg.toGood hl hr
  rw [h1] at c1
  generalize closN a.states.toNat (leadE a.edges (-1)) a.init = c0 at *
  generalize badW a.alpha w = bw at *
  simp only [NA.d] at c1 c2 c3 c4
  (refine ACalls.of_body Ty_ok mixed Tryd.func28 rfl (by kernel_rfl) Tryd.ntmps28 (by simp) (congrArg Array.toList Tryd.results28) ?_)
  simp only [slotsOf, NA.d]
  (repeat' (first | (with_reducible first | exact True.intro | refine And.intro ?_ ?_ | refine awp_block ?_ | ((first | refine awp_seq1 10 [26, 25, 27] ?_ | refine awp_seq2 10 [26, 25, 27] ?_ | refine awp_seq3 10 [26, 25, 27] ?_ | refine awp_seq4 10 [26, 25, 27] ?_ | refine awp_seq 10 [26, 25, 27] ?_); intro K hK)) | ((with_reducible first | refine awp_reg ?_ | refine awp_exit ?_ | refine awp_skip ?_ | refine likeK_i ?_ | refine otWR_i ?_); simp only [go_sem]) | (with_reducible refine awp_ret ?_; simp only [retF, retM, retL, resV, resW, retO, resAV, AV.bor, D.bor, D.bor1, D.bor0, AV.flatOwn, D.flatOwn, D.flat, AV.tagged, D.tagged, AObj.plain, go_sem]) | ((with_reducible refine awp_cond' ?_ ?_ (fun hb => ?_) (fun hb => ?_)); (simp only [go_sem]); (simp only [go_sem]); all_goals (simp only [go_sem] at hb; try simp only [bls] at hb)) | ((iterate 6 try ((fail_if_success with_reducible refine hK _ ?_ ?_ ?_); clear hK K)); with_reducible refine hK _ ?_ ?_ ?_; rotate_left; (focus (simp only [go_sem]; exact rfl)); clear hK K) | ((first | (with_reducible first | refine cA c1 ?_ | refine cA c2 ?_ | refine cA c3 ?_ | refine cD c1 ?_ | refine cD c2 ?_ | refine cD c3 ?_ | refine cO c1 ?_ | refine cO c2 ?_ | refine cO c3 ?_ | refine cR c1 ?_ | refine cR c2 ?_ | refine cR c3 ?_ | refine cG (fun hg => c1) ?_ | refine cG (fun hg => c2) ?_ | refine cG (fun hg => c3) ?_ | refine cH (fun hg => c1) ?_ | refine cH (fun hg => c2) ?_ | refine cH (fun hg => c3) ?_ | refine cM (fun hg => c1) ?_ | refine cM (fun hg => c2) ?_ | refine cM (fun hg => c3) ?_) | (guard_target = CallAt _ _ _ _ _ _ _ _ _ _; first | refine cA c1 ?_ | refine cA c2 ?_ | refine cA c3 ?_) | (guard_target = DCallAt _ _ _ _ _ _ _ _; first | refine cD c1 ?_ | refine cD c2 ?_ | refine cD c3 ?_) | (guard_target = GCallAt _ _ _ _ _ _ _ _ _ _ _; first | refine cG (fun hg => c1) ?_ | refine cG (fun hg => c2) ?_ | refine cG (fun hg => c3) ?_)); simp only [go_sem]) | (with_reducible refine gsplit_i (fun hg0 => ?_) (fun hg0 => ?_) <;> first | (with_reducible first | exact absurd hg0 Bool.false_ne_true | exact absurd hg0.symm Bool.false_ne_true) | (simp only [hg0, go_sem])) | (with_reducible refine nilK_i ?_; intro bnil hnil; try simp only []) | (omega; done) | (intro hv; (try simp only [bls] at hv); (try simp only [bls]); omega) | (intro hg; (simp only [hg, Bool.true_and, true_and, implies_true]; try (intro hg2; simp only [hg2, Bool.not_false, Bool.not_true])); done)))
  all_goals first | omega | skip
  ·rw [if_neg (by rw [hE, if_pos (by omega)]; decide)]; rfl
  ·rw [if_neg (by rw [hE, if_neg (by omega), if_pos hb]; decide)]; rfl
  ·rw [hE, if_neg (by omega), if_pos hb]
  have hW : wrdE a w = 0 := by rw [hE, if_neg (by omega), if_neg (by rw [hb]; decide)]
  refine awp_loop _ (by simp only [go_sem]; rfl) Nat (fun k => k ≤ w.length) (fun k => [(7, .one (.list (ints (aftN a.states.toNat a.edges (-1) (w.take k) c0)))), (27, .one (.int .i64 k))])
   (fun k H => [.var 29 [.list (ints a.alpha), .int .i64 a.states, .list (ints a.init), .list (ints a.marked), .list (edD a.edges)], .row 3 1 []]) (fun k => w.length - k) 0 (by omega) ?_ ?_
  ·rw [List.take_zero, aftN_nil0]
   (simp only [SubF, go_sem]; (try simp only [go_sem]); repeat' (first | exact True.intro | with_reducible refine And.intro ?_ ?_ | rfl | omega))
  rintro k hk L hL
  have hq : ((k : Nat) : Int).toNat = k := by omega
  obtain ⟨o1, o2⟩ := aft_ok (es := a.edges) (sil := -1) (w.take k) c0 hc0
  have hlen := inc_len o1 o2
  by_cases hlt : k < w.length
  ·have hs := aft_snoc a.states.toNat a.edges (-1) (w.take k) c0 (w.getD k 0)
   rw [← take_succ_getD w k 0 hlt] at hs
   (simp only [go_sem] at hL ⊢)
   (repeat' (first | (with_reducible first | exact True.intro | refine And.intro ?_ ?_ | refine awp_block ?_ | ((first | refine awp_seq1 10 [26, 25, 27] ?_ | refine awp_seq2 10 [26, 25, 27] ?_ | refine awp_seq3 10 [26, 25, 27] ?_ | refine awp_seq4 10 [26, 25, 27] ?_ | refine awp_seq 10 [26, 25, 27] ?_); intro K hK)) | ((with_reducible first | refine awp_reg ?_ | refine awp_exit ?_ | refine awp_skip ?_ | refine likeK_i ?_ | refine otWR_i ?_); simp only [hq, go_sem]) | (with_reducible refine awp_ret ?_; simp only [retF, retM, retL, resV, resW, retO, resAV, AV.bor, D.bor, D.bor1, D.bor0, AV.flatOwn, D.flatOwn, D.flat, AV.tagged, D.tagged, AObj.plain, hq, go_sem]) | ((with_reducible refine awp_cond' ?_ ?_ (fun hb => ?_) (fun hb => ?_)); (simp only [hq, go_sem]); (simp only [hq, go_sem]); all_goals (simp only [hq, go_sem] at hb; try simp only [bls] at hb)) | ((iterate 6 try ((fail_if_success with_reducible refine hK _ ?_ ?_ ?_); clear hK K)); with_reducible refine hK _ ?_ ?_ ?_; rotate_left; (focus (simp only [hq, go_sem]; exact rfl)); clear hK K) | ((first | (with_reducible first | refine cA (c4 _ (w.getD k 0) (by omega) o2) ?_ | refine cD (c4 _ (w.getD k 0) (by omega) o2) ?_ | refine cO (c4 _ (w.getD k 0) (by omega) o2) ?_ | refine cR (c4 _ (w.getD k 0) (by omega) o2) ?_ | refine cG (fun hg => (c4 _ (w.getD k 0) (by omega) o2)) ?_ | refine cH (fun hg => (c4 _ (w.getD k 0) (by omega) o2)) ?_ | refine cM (fun hg => (c4 _ (w.getD k 0) (by omega) o2)) ?_) | (guard_target = CallAt _ _ _ _ _ _ _ _ _ _; refine cA (c4 _ (w.getD k 0) (by omega) o2) ?_) | (guard_target = DCallAt _ _ _ _ _ _ _ _; refine cD (c4 _ (w.getD k 0) (by omega) o2) ?_) | (guard_target = GCallAt _ _ _ _ _ _ _ _ _ _ _; refine cG (fun hg => (c4 _ (w.getD k 0) (by omega) o2)) ?_)); simp only [hq, go_sem]) | (with_reducible refine gsplit_i (fun hg0 => ?_) (fun hg0 => ?_) <;> first | (with_reducible first | exact absurd hg0 Bool.false_ne_true | exact absurd hg0.symm Bool.false_ne_true) | (simp only [hg0, hq, go_sem])) | (with_reducible refine nilK_i ?_; intro bnil hnil; try simp only []) | (omega; done) | (intro hv; (try simp only [bls] at hv); (try simp only [bls]); omega) | (intro hg; (simp only [hg, Bool.true_and, true_and, implies_true]; try (intro hg2; simp only [hg2, Bool.not_false, Bool.not_true])); done)))
   all_goals first | omega | skip
   rw [← hs]
   refine hL _ (k + 1) (by omega) ?_ (by omega)
   (simp only [SubF, go_sem]; (try simp only [go_sem]); repeat' (first | exact True.intro | with_reducible refine And.intro ?_ ?_ | rfl | omega))
  ·obtain rfl : k = w.length := by omega
   rw [List.take_length]
   (simp only [go_sem] at hL ⊢)
   (repeat' (first | (with_reducible first | exact True.intro | refine And.intro ?_ ?_ | refine awp_block ?_ | ((first | refine awp_seq1 10 [26, 25, 27] ?_ | refine awp_seq2 10 [26, 25, 27] ?_ | refine awp_seq3 10 [26, 25, 27] ?_ | refine awp_seq4 10 [26, 25, 27] ?_ | refine awp_seq 10 [26, 25, 27] ?_); intro K hK)) | ((with_reducible first | refine awp_reg ?_ | refine awp_exit ?_ | refine awp_skip ?_ | refine likeK_i ?_ | refine otWR_i ?_); simp only [hq, go_sem]) | (with_reducible refine awp_ret ?_; simp only [retF, retM, retL, resV, resW, retO, resAV, AV.bor, D.bor, D.bor1, D.bor0, AV.flatOwn, D.flatOwn, D.flat, AV.tagged, D.tagged, AObj.plain, hq, go_sem]) | ((with_reducible refine awp_cond' ?_ ?_ (fun hb => ?_) (fun hb => ?_)); (simp only [hq, go_sem]); (simp only [hq, go_sem]); all_goals (simp only [hq, go_sem] at hb; try simp only [bls] at hb)) | ((iterate 6 try ((fail_if_success with_reducible refine hK _ ?_ ?_ ?_); clear hK K)); with_reducible refine hK _ ?_ ?_ ?_; rotate_left; (focus (simp only [hq, go_sem]; exact rfl)); clear hK K) | (with_reducible refine gsplit_i (fun hg0 => ?_) (fun hg0 => ?_) <;> first | (with_reducible first | exact absurd hg0 Bool.false_ne_true | exact absurd hg0.symm Bool.false_ne_true) | (simp only [hg0, hq, go_sem])) | (with_reducible refine nilK_i ?_; intro bnil hnil; try simp only []) | (omega; done) | (intro hv; (try simp only [bls] at hv); (try simp only [bls]); omega) | (intro hg; (simp only [hg, Bool.true_and, true_and, implies_true]; try (intro hg2; simp only [hg2, Bool.not_false, Bool.not_true])); done)))
   all_goals first | omega | skip
   rw [if_pos hW]
 ·have e1 : aftE a w = chkNA a := by rw [aftE, if_pos h1]
  rw [aftV, e1, if_neg h1]
  generalize chkNA a = e at *
  simp only [NA.d] at c1
  (refine ACalls.of_body Ty_ok mixed Tryd.func28 rfl (by kernel_rfl) Tryd.ntmps28 (by simp) (congrArg Array.toList Tryd.results28) ?_)
  simp only [slotsOf, NA.d]
  (repeat' (first | (with_reducible first | exact True.intro | refine And.intro ?_ ?_ | refine awp_block ?_ | ((first | refine awp_seq1 10 [26, 25, 27] ?_ | refine awp_seq2 10 [26, 25, 27] ?_ | refine awp_seq3 10 [26, 25, 27] ?_ | refine awp_seq4 10 [26, 25, 27] ?_ | refine awp_seq 10 [26, 25, 27] ?_); intro K hK)) | ((with_reducible first | refine awp_reg ?_ | refine awp_exit ?_ | refine awp_skip ?_ | refine likeK_i ?_ | refine otWR_i ?_); simp only [go_sem]) | (with_reducible refine awp_ret ?_; simp only [retF, retM, retL, resV, resW, retO, resAV, AV.bor, D.bor, D.bor1, D.bor0, AV.flatOwn, D.flatOwn, D.flat, AV.tagged, D.tagged, AObj.plain, go_sem]) | ((with_reducible refine awp_cond' ?_ ?_ (fun hb => ?_) (fun hb => ?_)); (simp only [go_sem]); (simp only [go_sem]); all_goals (simp only [go_sem] at hb; try simp only [bls] at hb)) | ((iterate 6 try ((fail_if_success with_reducible refine hK _ ?_ ?_ ?_); clear hK K)); with_reducible refine hK _ ?_ ?_ ?_; rotate_left; (focus (simp only [go_sem]; exact rfl)); clear hK K) | ((first | (with_reducible first | refine cA c1 ?_ | refine cD c1 ?_ | refine cO c1 ?_ | refine cR c1 ?_ | refine cG (fun hg => c1) ?_ | refine cH (fun hg => c1) ?_ | refine cM (fun hg => c1) ?_) | (guard_target = CallAt _ _ _ _ _ _ _ _ _ _; refine cA c1 ?_) | (guard_target = DCallAt _ _ _ _ _ _ _ _; refine cD c1 ?_) | (guard_target = GCallAt _ _ _ _ _ _ _ _ _ _ _; refine cG (fun hg => c1) ?_)); simp only [go_sem]) | (with_reducible refine gsplit_i (fun hg0 => ?_) (fun hg0 => ?_) <;> first | (with_reducible first | exact absurd hg0 Bool.false_ne_true | exact absurd hg0.symm Bool.false_ne_true) | (simp only [hg0, go_sem])) | (with_reducible refine nilK_i ?_; intro bnil hnil; try simp only []) | (omega; done) | (intro hv; (try simp only [bls] at hv); (try simp only [bls]); omega) | (intro hg; (simp only [hg, Bool.true_and, true_and, implies_true]; try (intro hg2; simp only [hg2, Bool.not_false, Bool.not_true])); done)))
  all_goals first | omega | skip
  all_goals rfl
theorem aft_set {a : NA} {w : List Int} : IncI (aftV a w) ∧ (aftE a w = 0 → ∀ y ∈ aftV a w, 0 ≤ y ∧ y < a.states) := by
 unfold aftV
 split
 ·have h := aft_ok (n := a.states.toNat) (es := a.edges) (sil := -1) w (closN a.states.toNat (leadE a.edges (-1)) a.init) ⟨closN_inc, fun _ h => closN_rng h⟩
  exact ⟨h.1, fun _ y hy => by have := h.2 y hy; omega⟩
 ·exact ⟨.nil, fun _ y hy => (List.not_mem_nil hy).elim⟩
theorem aftE_zero {a : NA} {w : List Int} (h : aftE a w = 0) : chkNA a = 0 ∧ wrdE a w = 0 := by
 unfold aftE at h
 split at h
 ·contradiction
 ·rename_i h1
  exact ⟨Decidable.of_not_not h1, h⟩
theorem Generates_c (a : NA) (w : List Int) (hf : a.Fits) (hw : w.length ≤ 1000000) : ACalls Tryd.prog 29 [.agg a.d, .one (.list (ints w))] (.tup [.one (.bool (decide (0 < (aftV a w).length))), .one (.int .i64 (aftE a w))]) [] := by
 have c := After_c a w hf hw
 simp only [NA.d] at c
 (refine ACalls.of_body Ty_ok mixed Tryd.func29 rfl (by kernel_rfl) Tryd.ntmps29 (by simp) (congrArg Array.toList Tryd.results29) ?_)
 simp only [slotsOf, NA.d]
 (repeat' (first | (with_reducible first | exact True.intro | refine And.intro ?_ ?_ | refine awp_block ?_ | ((first | refine awp_seq1 8 [] ?_ | refine awp_seq2 8 [] ?_ | refine awp_seq3 8 [] ?_ | refine awp_seq4 8 [] ?_ | refine awp_seq 8 [] ?_); intro K hK)) | ((with_reducible first | refine awp_reg ?_ | refine awp_exit ?_ | refine awp_skip ?_ | refine likeK_i ?_ | refine otWR_i ?_); simp only [go_sem]) | (with_reducible refine awp_ret ?_; simp only [retF, retM, retL, resV, resW, retO, resAV, AV.bor, D.bor, D.bor1, D.bor0, AV.flatOwn, D.flatOwn, D.flat, AV.tagged, D.tagged, AObj.plain, go_sem]) | ((with_reducible refine awp_cond' ?_ ?_ (fun hb => ?_) (fun hb => ?_)); (simp only [go_sem]); (simp only [go_sem]); all_goals (simp only [go_sem] at hb; try simp only [bls] at hb)) | ((iterate 6 try ((fail_if_success with_reducible refine hK _ ?_ ?_ ?_); clear hK K)); with_reducible refine hK _ ?_ ?_ ?_; rotate_left; (focus (simp only [go_sem]; exact rfl)); clear hK K) | ((first | (with_reducible first | refine cA c ?_ | refine cD c ?_ | refine cO c ?_ | refine cR c ?_ | refine cG (fun hg => c) ?_ | refine cH (fun hg => c) ?_ | refine cM (fun hg => c) ?_) | (guard_target = CallAt _ _ _ _ _ _ _ _ _ _; refine cA c ?_) | (guard_target = DCallAt _ _ _ _ _ _ _ _; refine cD c ?_) | (guard_target = GCallAt _ _ _ _ _ _ _ _ _ _ _; refine cG (fun hg => c) ?_)); simp only [go_sem]) | (with_reducible refine gsplit_i (fun hg0 => ?_) (fun hg0 => ?_) <;> first | (with_reducible first | exact absurd hg0 Bool.false_ne_true | exact absurd hg0.symm Bool.false_ne_true) | (simp only [hg0, go_sem])) | (with_reducible refine nilK_i ?_; intro bnil hnil; try simp only []) | (omega; done) | (intro hv; (try simp only [bls] at hv); (try simp only [bls]); omega) | (intro hg; (simp only [hg, Bool.true_and, true_and, implies_true]; try (intro hg2; simp only [hg2, Bool.not_false, Bool.not_true])); done)))
 all_goals first | omega | skip
 exact decide_eq_decide.2 (by omega)
def accV (a : NA) (w : List Int) : Bool := decide (aftE a w = 0) && metL (aftV a w) a.marked
theorem Accepts_c (a : NA) (w : List Int) (hf : a.Fits) (hw : w.length ≤ 1000000) : ACalls Tryd.prog 30 [.agg a.d, .one (.list (ints w))] (.tup [.one (.bool (accV a w)), .one (.int .i64 (aftE a w))]) [] := by
 have c := After_c a w hf hw
 simp only [NA.d] at c
 have hm := hf.marked
 by_cases h0 : aftE a w = 0
 ·obtain ⟨h1, h2⟩ := aftE_zero h0
  have hg := dgood_of hf h1
  have hle := hg.le
  have hst := hg.st
  have hs := aft_set (a := a) (w := w)
  have hl := inc_len (n := a.states.toNat) hs.1 fun y hy => by have := hs.2 h0 y hy; omega
  have c2 := meets_c (aftV a w) a.marked (by omega) hs.1 hg.ok.marked.1
  have e : accV a w = metL (aftV a w) a.marked := by rw [accV, decide_eq_true h0]; rfl
  rw [e, h0]
  rw [h0] at c
  (refine ACalls.of_body Ty_ok mixed Tryd.func30 rfl (by kernel_rfl) Tryd.ntmps30 (by simp) (congrArg Array.toList Tryd.results30) ?_)
  simp only [slotsOf, NA.d]
  (repeat' (first | (with_reducible first | exact True.intro | refine And.intro ?_ ?_ | refine awp_block ?_ | ((first | refine awp_seq1 8 [] ?_ | refine awp_seq2 8 [] ?_ | refine awp_seq3 8 [] ?_ | refine awp_seq4 8 [] ?_ | refine awp_seq 8 [] ?_); intro K hK)) | ((with_reducible first | refine awp_reg ?_ | refine awp_exit ?_ | refine awp_skip ?_ | refine likeK_i ?_ | refine otWR_i ?_); simp only [go_sem]) | (with_reducible refine awp_ret ?_; simp only [retF, retM, retL, resV, resW, retO, resAV, AV.bor, D.bor, D.bor1, D.bor0, AV.flatOwn, D.flatOwn, D.flat, AV.tagged, D.tagged, AObj.plain, go_sem]) | ((with_reducible refine awp_cond' ?_ ?_ (fun hb => ?_) (fun hb => ?_)); (simp only [go_sem]); (simp only [go_sem]); all_goals (simp only [go_sem] at hb; try simp only [bls] at hb)) | ((iterate 6 try ((fail_if_success with_reducible refine hK _ ?_ ?_ ?_); clear hK K)); with_reducible refine hK _ ?_ ?_ ?_; rotate_left; (focus (simp only [go_sem]; exact rfl)); clear hK K) | ((first | (with_reducible first | refine cA c ?_ | refine cA c2 ?_ | refine cD c ?_ | refine cD c2 ?_ | refine cO c ?_ | refine cO c2 ?_ | refine cR c ?_ | refine cR c2 ?_ | refine cG (fun hg => c) ?_ | refine cG (fun hg => c2) ?_ | refine cH (fun hg => c) ?_ | refine cH (fun hg => c2) ?_ | refine cM (fun hg => c) ?_ | refine cM (fun hg => c2) ?_) | (guard_target = CallAt _ _ _ _ _ _ _ _ _ _; first | refine cA c ?_ | refine cA c2 ?_) | (guard_target = DCallAt _ _ _ _ _ _ _ _; first | refine cD c ?_ | refine cD c2 ?_) | (guard_target = GCallAt _ _ _ _ _ _ _ _ _ _ _; first | refine cG (fun hg => c) ?_ | refine cG (fun hg => c2) ?_)); simp only [go_sem]) | (with_reducible refine gsplit_i (fun hg0 => ?_) (fun hg0 => ?_) <;> first | (with_reducible first | exact absurd hg0 Bool.false_ne_true | exact absurd hg0.symm Bool.false_ne_true) | (simp only [hg0, go_sem])) | (with_reducible refine nilK_i ?_; intro bnil hnil; try simp only []) | (omega; done) | (intro hv; (try simp only [bls] at hv); (try simp only [bls]); omega) | (intro hg; (simp only [hg, Bool.true_and, true_and, implies_true]; try (intro hg2; simp only [hg2, Bool.not_false, Bool.not_true])); done)))
  all_goals first | omega | skip
 ·have e : accV a w = false := by rw [accV, decide_eq_false h0]; rfl
  have h0' : (aftE a w == 0) = false := by simpa using h0
  rw [e]
  clear e
  generalize aftE a w = er at *
  (refine ACalls.of_body Ty_ok mixed Tryd.func30 rfl (by kernel_rfl) Tryd.ntmps30 (by simp) (congrArg Array.toList Tryd.results30) ?_)
  simp only [slotsOf, NA.d]
  (repeat' (first | (with_reducible first | exact True.intro | refine And.intro ?_ ?_ | refine awp_block ?_ | ((first | refine awp_seq1 8 [] ?_ | refine awp_seq2 8 [] ?_ | refine awp_seq3 8 [] ?_ | refine awp_seq4 8 [] ?_ | refine awp_seq 8 [] ?_); intro K hK)) | ((with_reducible first | refine awp_reg ?_ | refine awp_exit ?_ | refine awp_skip ?_ | refine likeK_i ?_ | refine otWR_i ?_); simp only [h0', go_sem]) | (with_reducible refine awp_ret ?_; simp only [retF, retM, retL, resV, resW, retO, resAV, AV.bor, D.bor, D.bor1, D.bor0, AV.flatOwn, D.flatOwn, D.flat, AV.tagged, D.tagged, AObj.plain, h0', go_sem]) | ((with_reducible refine awp_cond' ?_ ?_ (fun hb => ?_) (fun hb => ?_)); (simp only [h0', go_sem]); (simp only [h0', go_sem]); all_goals (simp only [h0', go_sem] at hb; try simp only [bls] at hb)) | ((iterate 6 try ((fail_if_success with_reducible refine hK _ ?_ ?_ ?_); clear hK K)); with_reducible refine hK _ ?_ ?_ ?_; rotate_left; (focus (simp only [h0', go_sem]; exact rfl)); clear hK K) | ((first | (with_reducible first | refine cA c ?_ | refine cD c ?_ | refine cO c ?_ | refine cR c ?_ | refine cG (fun hg => c) ?_ | refine cH (fun hg => c) ?_ | refine cM (fun hg => c) ?_) | (guard_target = CallAt _ _ _ _ _ _ _ _ _ _; refine cA c ?_) | (guard_target = DCallAt _ _ _ _ _ _ _ _; refine cD c ?_) | (guard_target = GCallAt _ _ _ _ _ _ _ _ _ _ _; refine cG (fun hg => c) ?_)); simp only [h0', go_sem]) | (with_reducible refine gsplit_i (fun hg0 => ?_) (fun hg0 => ?_) <;> first | (with_reducible first | exact absurd hg0 Bool.false_ne_true | exact absurd hg0.symm Bool.false_ne_true) | (simp only [hg0, h0', go_sem])) | (with_reducible refine nilK_i ?_; intro bnil hnil; try simp only []) | (omega; done) | (intro hv; (try simp only [bls] at hv); (try simp only [bls]); omega) | (intro hg; (simp only [hg, Bool.true_and, true_and, implies_true]; try (intro hg2; simp only [hg2, Bool.not_false, Bool.not_true])); done)))
  all_goals first | omega | skip
  refine GCallAt_i (r := .one (.bool false)) (fun h => Bool.noConfusion h) (fun h => Bool.noConfusion h) (by simp only [go_sem]; done) (callSafe_r0 rfl) ?_
  simp only [go_sem]
  (repeat' (first | (with_reducible first | exact True.intro | refine And.intro ?_ ?_ | refine awp_block ?_ | ((first | refine awp_seq1 8 [] ?_ | refine awp_seq2 8 [] ?_ | refine awp_seq3 8 [] ?_ | refine awp_seq4 8 [] ?_ | refine awp_seq 8 [] ?_); intro K hK)) | ((with_reducible first | refine awp_reg ?_ | refine awp_exit ?_ | refine awp_skip ?_ | refine likeK_i ?_ | refine otWR_i ?_); simp only [go_sem]) | (with_reducible refine awp_ret ?_; simp only [retF, retM, retL, resV, resW, retO, resAV, AV.bor, D.bor, D.bor1, D.bor0, AV.flatOwn, D.flatOwn, D.flat, AV.tagged, D.tagged, AObj.plain, go_sem]) | ((with_reducible refine awp_cond' ?_ ?_ (fun hb => ?_) (fun hb => ?_)); (simp only [go_sem]); (simp only [go_sem]); all_goals (simp only [go_sem] at hb; try simp only [bls] at hb)) | ((iterate 6 try ((fail_if_success with_reducible refine hK _ ?_ ?_ ?_); clear hK K)); with_reducible refine hK _ ?_ ?_ ?_; rotate_left; (focus (simp only [go_sem]; exact rfl)); clear hK K) | (with_reducible refine gsplit_i (fun hg0 => ?_) (fun hg0 => ?_) <;> first | (with_reducible first | exact absurd hg0 Bool.false_ne_true | exact absurd hg0.symm Bool.false_ne_true) | (simp only [hg0, go_sem])) | (with_reducible refine nilK_i ?_; intro bnil hnil; try simp only []) | (omega; done) | (intro hv; (try simp only [bls] at hv); (try simp only [bls]); omega) | (intro hg; (simp only [hg, Bool.true_and, true_and, implies_true]; try (intro hg2; simp only [hg2, Bool.not_false, Bool.not_true])); done)))
  all_goals first | omega | skip
end Go.Proofs.YtgagpbbnbonnlaaDoor
