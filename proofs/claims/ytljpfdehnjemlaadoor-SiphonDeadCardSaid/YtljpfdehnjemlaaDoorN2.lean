/-
 Contracts: nets checked and compared.
-/
import Derived.Test.YtljpfdehnjemlaaDoorN1
set_option linter.unusedSimpArgs false
set_option linter.unusedVariables false
namespace Go.Proofs.YtljpfdehnjemlaaDoor
open Go.Eng Go.RowKit
def tokB (x : Int) : Bool := decide (x < 0) || decide (65536 < x)
theorem tokens1_c (x : Int) : ACalls Tryd.prog 56 [.one (.int .i64 x)] (.one (.bool (tokB x))) [] := by
 (refine ACalls.of_body Ty_ok mixed Tryd.func56 rfl (by kernel_rfl) Tryd.ntmps56 (by simp) (congrArg Array.toList Tryd.results56) ?_)
 simp only [slotsOf]
 (repeat' (first | (with_reducible first | exact True.intro | refine And.intro ?_ ?_ | refine aBl ?_ | (refine aS 3 [] ?_; intro K hK)) | ((with_reducible first | refine aGo ?_); simp only [go_sem]) | ((with_reducible refine aCd ?_ ?_ (fun hb => ?_) (fun hb => ?_)); (iterate 2 simp only [go_sem]); all_goals (simp only [go_sem] at hb; try simp only [bls] at hb)) | ((iterate 6 try ((fail_if_success with_reducible refine hK _ ?_ ?_ ?_); clear hK K)); with_reducible refine hK _ ?_ ?_ ?_; rotate_left; (focus (simp only [go_sem]; exact rfl)); clear hK K) | (with_reducible refine aGs (fun hg0 => ?_) (fun hg0 => ?_) <;> first | (with_reducible first | exact aF1 hg0 | exact aF2 hg0) | (simp only [hg0, go_sem])) | (with_reducible refine aNk ?_; intro bnil hnil; try simp only []) | exact aZ | fail))
 rfl
theorem tokens_c (l : List Int) (hn : l.length ≤ 1000000) : ACalls Tryd.prog 37 [.one (.list (ints l))] (.one (.bool (!l.any tokB))) [] := by
 (refine ACalls.of_body Ty_ok mixed Tryd.func37 rfl (by kernel_rfl) Tryd.ntmps37 (by simp) (congrArg Array.toList Tryd.results37) ?_)
 simp only [slotsOf]
 (repeat' (first | (with_reducible first | exact True.intro | refine And.intro ?_ ?_ | refine aBl ?_ | (refine aS 3 [] ?_; intro K hK)) | ((with_reducible first | refine aGo ?_); simp only [go_sem]) | ((with_reducible refine aCd ?_ ?_ (fun hb => ?_) (fun hb => ?_)); (iterate 2 simp only [go_sem]); all_goals (simp only [go_sem] at hb; try simp only [bls] at hb)) | ((iterate 6 try ((fail_if_success with_reducible refine hK _ ?_ ?_ ?_); clear hK K)); with_reducible refine hK _ ?_ ?_ ?_; rotate_left; (focus (simp only [go_sem]; exact rfl)); clear hK K) | ((first | (with_reducible first | refine cA (ContainsFuncInts_c l 56 [] tokB hn capsOk_nil (fun e _ => tokens1_c e)) ?_ | refine cD (ContainsFuncInts_c l 56 [] tokB hn capsOk_nil (fun e _ => tokens1_c e)) ?_ | refine cO (ContainsFuncInts_c l 56 [] tokB hn capsOk_nil (fun e _ => tokens1_c e)) ?_ | refine cR (ContainsFuncInts_c l 56 [] tokB hn capsOk_nil (fun e _ => tokens1_c e)) ?_ | refine cG (fun hg => (ContainsFuncInts_c l 56 [] tokB hn capsOk_nil (fun e _ => tokens1_c e))) ?_ | refine cH (fun hg => (ContainsFuncInts_c l 56 [] tokB hn capsOk_nil (fun e _ => tokens1_c e))) ?_ | refine cM (fun hg => (ContainsFuncInts_c l 56 [] tokB hn capsOk_nil (fun e _ => tokens1_c e))) ?_) | ((with_reducible refine gA ?_); refine cA (ContainsFuncInts_c l 56 [] tokB hn capsOk_nil (fun e _ => tokens1_c e)) ?_) | ((with_reducible refine gD ?_); refine cD (ContainsFuncInts_c l 56 [] tokB hn capsOk_nil (fun e _ => tokens1_c e)) ?_) | ((with_reducible refine gG ?_); refine cG (fun hg => (ContainsFuncInts_c l 56 [] tokB hn capsOk_nil (fun e _ => tokens1_c e))) ?_)); simp only [go_sem]) | (with_reducible refine aGs (fun hg0 => ?_) (fun hg0 => ?_) <;> first | (with_reducible first | exact aF1 hg0 | exact aF2 hg0) | (simp only [hg0, go_sem])) | (with_reducible refine aNk ?_; intro bnil hnil; try simp only []) | exact aZ | fail))
def arcsE (places : Int) : List Arc → Option Int → Int
 | [], _ => 0
 | a :: l, prev => if a.place < 0 ∨ places ≤ a.place then 2 else if (prev.any fun p => decide (a.place ≤ p)) = true then 5 else if a.weight < 1 ∨ 8 < a.weight then 2 else arcsE places l (some a.place)
def arcsOk (places : Int) (l : List Arc) : Int := arcsE places l none
def prevA (l : List Arc) (k : Nat) : Option Int := if k = 0 then none else some (l.getD (k - 1) Arc.no).place
theorem arcs_step {l : List Arc} {m b : Int} {k : Nat} (hk : k < l.length) (h : b = arcsE m (l.drop k) (prevA l k)) :
  b = if (l.getD k Arc.no).place < 0 ∨ m ≤ (l.getD k Arc.no).place then 2 else if 0 < k ∧ (l.getD k Arc.no).place ≤ (l.getD (k - 1) Arc.no).place then 5 else if (l.getD k Arc.no).weight < 1 ∨ 8 < (l.getD k Arc.no).weight then 2 else arcsE m (l.drop (k + 1)) (prevA l (k + 1)) := by
 rw [drop_getD l k Arc.no hk] at h
 rw [h, arcsE]
 split
 ·rfl
 ·unfold prevA
  by_cases h0 : k = 0
  ·subst h0; simp
  ·simp [h0]; split <;> split <;> first | rfl | omega
theorem toNat_pred (k : Nat) : ((k : Int) - 1).toNat = k - 1 := by omega
set_option maxHeartbeats 4000000 in
theorem checkArcs_c (l : List Arc) (m : Int) (hn : l.length ≤ 1000000) : ACalls Tryd.prog 48 [.one (.list (arcsD l)), .one (.int .i64 m)] (.one (.int .i64 (arcsOk m l))) [] := by
 (refine ACalls.of_body Ty_ok mixed Tryd.func48 rfl (by kernel_rfl) Tryd.ntmps48 (by simp) (congrArg Array.toList Tryd.results48) ?_)
 simp only [slotsOf]
 (repeat' (first | (with_reducible first | exact True.intro | refine And.intro ?_ ?_ | refine aBl ?_ | (refine aS 10 [] ?_; intro K hK)) | ((with_reducible first | refine aGo ?_ | refine rD (id := 6) ?_); simp only [go_sem]) | ((with_reducible refine aCd ?_ ?_ (fun hb => ?_) (fun hb => ?_)); (iterate 2 simp only [go_sem]); all_goals (simp only [go_sem] at hb; try simp only [bls] at hb)) | ((iterate 6 try ((fail_if_success with_reducible refine hK _ ?_ ?_ ?_); clear hK K)); with_reducible refine hK _ ?_ ?_ ?_; rotate_left; (focus (simp only [go_sem]; exact rfl)); clear hK K) | (with_reducible refine aGs (fun hg0 => ?_) (fun hg0 => ?_) <;> first | (with_reducible first | exact aF1 hg0 | exact aF2 hg0) | (simp only [hg0, go_sem])) | (with_reducible refine aNk ?_; intro bnil hnil; try simp only []) | exact aZ | fail))
 refine awp_loop _ (by simp only [go_sem]; rfl) Nat (fun k => k ≤ l.length ∧ arcsOk m l = arcsE m (l.drop k) (prevA l k)) (fun k => [(9, .one (.int .i64 k))]) (fun _ H => H) (fun k => l.length - k) 0 ⟨by omega, by simp [arcsOk, prevA]⟩ ?_ ?_
 ·(simp only [SubF, go_sem]; (try simp only [go_sem]); repeat' (first | exact True.intro | with_reducible refine And.intro ?_ ?_ | rfl | omega))
 ·rintro k ⟨hk, hres⟩ L hL
  have hp := toNat_pred k
  (simp only [go_sem] at hL ⊢)
  (repeat' (first | (with_reducible first | exact True.intro | refine And.intro ?_ ?_ | refine aBl ?_ | (refine aS 10 [] ?_; intro K hK)) | ((with_reducible first | refine aGo ?_ | refine rD (id := 6) ?_); simp only [hp, go_sem]) | ((with_reducible refine aCd ?_ ?_ (fun hb => ?_) (fun hb => ?_)); (iterate 2 simp only [hp, go_sem]); all_goals (simp only [hp, go_sem] at hb; try simp only [bls] at hb)) | ((iterate 6 try ((fail_if_success with_reducible refine hK _ ?_ ?_ ?_); clear hK K)); with_reducible refine hK _ ?_ ?_ ?_; rotate_left; (focus (simp only [hp, go_sem]; exact rfl)); clear hK K) | (with_reducible refine aGs (fun hg0 => ?_) (fun hg0 => ?_) <;> first | (with_reducible first | exact aF1 hg0 | exact aF2 hg0) | (simp only [hg0, hp, go_sem])) | (with_reducible refine aNk ?_; intro bnil hnil; try simp only []) | exact aZ | fail))
  ·rw [arcs_step (by omega) hres, if_pos hb]
  ·rw [arcs_step (by omega) hres, if_neg (by omega), if_pos (by omega)]
  ·rw [arcs_step (by omega) hres, if_neg (by omega), if_neg (by omega), if_pos hb]
  ·have h1 := arcs_step (by omega) hres
   rw [if_neg (by omega), if_neg (by omega), if_neg (by omega)] at h1
   exact hL _ (k + 1) ⟨by omega, h1⟩ (by (simp only [SubF, go_sem]; (try simp only [go_sem]); repeat' (first | exact True.intro | with_reducible refine And.intro ?_ ?_ | rfl | omega))) (by omega)
  ·rw [hres, drop_end l k (by omega)]; rfl
/-! nets -/
def trE (places : Int) (t : Tr) : Int := if t.event < 0 ∨ 32 ≤ t.event then 2 else if arcsOk places t.inn ≠ 0 then arcsOk places t.inn else arcsOk places t.out
def trsE (places : Int) : List Tr → Int
 | [] => 0
 | t :: l => if trE places t ≠ 0 then trE places t else trsE places l
def netE (n : Net) : Int := if 10 < n.init.length then 3 else if n.init.any tokB = true then 2 else if 10 < n.trs.length then 3 else trsE n.init.length n.trs
structure Net.Fits (n : Net) : Prop where
 init : n.init.length ≤ 1000000
 trs : n.trs.length ≤ 1000000
 inn : ∀ t ∈ n.trs, t.inn.length ≤ 1000000
 out : ∀ t ∈ n.trs, t.out.length ≤ 1000000
theorem trs_step {m b : Int} {l : List Tr} {k : Nat} (hk : k < l.length) (h : b = trsE m (l.drop k)) : b = if trE m (l.getD k Tr.no) ≠ 0 then trE m (l.getD k Tr.no) else trsE m (l.drop (k + 1)) := by
 rw [drop_getD l k Tr.no hk] at h; exact h
set_option maxHeartbeats 8000000 in
theorem netCheck_c (n : Net) (hf : n.Fits) : ACalls Tryd.prog 34 [.agg n.d] (.one (.int .i64 (netE n))) [] := by
 have h1 := hf.init
 have h2 := hf.trs
 (refine ACalls.of_body Ty_ok mixed Tryd.func34 rfl (by kernel_rfl) Tryd.ntmps34 (by simp) (congrArg Array.toList Tryd.results34) ?_)
 simp only [slotsOf, Net.d]
 (repeat' (first | (with_reducible first | exact True.intro | refine And.intro ?_ ?_ | refine aBl ?_ | (refine aS 8 [25, 24, 43, 42, 44, 26] ?_; intro K hK)) | ((with_reducible first | refine aGo ?_); simp only [go_sem]) | ((with_reducible refine aCd ?_ ?_ (fun hb => ?_) (fun hb => ?_)); (iterate 2 simp only [go_sem]); all_goals (simp only [go_sem] at hb; try simp only [bls] at hb)) | ((iterate 6 try ((fail_if_success with_reducible refine hK _ ?_ ?_ ?_); clear hK K)); with_reducible refine hK _ ?_ ?_ ?_; rotate_left; (focus (simp only [go_sem]; exact rfl)); clear hK K) | ((first | (with_reducible first | refine cA (tokens_c n.init h1) ?_ | refine cD (tokens_c n.init h1) ?_ | refine cO (tokens_c n.init h1) ?_ | refine cR (tokens_c n.init h1) ?_ | refine cG (fun hg => (tokens_c n.init h1)) ?_ | refine cH (fun hg => (tokens_c n.init h1)) ?_ | refine cM (fun hg => (tokens_c n.init h1)) ?_) | ((with_reducible refine gA ?_); refine cA (tokens_c n.init h1) ?_) | ((with_reducible refine gD ?_); refine cD (tokens_c n.init h1) ?_) | ((with_reducible refine gG ?_); refine cG (fun hg => (tokens_c n.init h1)) ?_)); simp only [go_sem]) | (with_reducible refine aGs (fun hg0 => ?_) (fun hg0 => ?_) <;> first | (with_reducible first | exact aF1 hg0 | exact aF2 hg0) | (simp only [hg0, go_sem])) | (with_reducible refine aNk ?_; intro bnil hnil; try simp only []) | exact aZ | fail))
 ·rw [netE, if_pos (by omega)]
 ·rw [netE, if_neg (by omega), if_pos hb]
 ·rename_i hb1 hb2
  rw [netE, if_neg (by omega), if_neg (by rw [hb2]; simp), if_pos (by omega)]
 rename_i hb1 hb2
 have he : netE n = trsE n.init.length n.trs := by rw [netE, if_neg (by omega), if_neg (by rw [hb2]; simp), if_neg (by omega)]
 refine awp_loop _ (by simp only [go_sem]; rfl) Nat (fun k => k ≤ n.trs.length ∧ netE n = trsE n.init.length (n.trs.drop k)) (fun k => [(26, .one (.int .i64 k))]) (fun _ H => H) (fun k => n.trs.length - k) 0 ⟨by omega, by simpa using he⟩ ?_ ?_
 ·(simp only [SubF, go_sem]; (try simp only [go_sem]); repeat' (first | exact True.intro | with_reducible refine And.intro ?_ ?_ | rfl | omega))
 ·rintro k ⟨hk, hres⟩ L hL
  by_cases hlt : k < n.trs.length
  ·have hg := trs_get hlt [.int .i64 0, .nil, .nil]
   have hi1 := hf.inn _ (getD_mem n.trs k Tr.no hlt)
   have hi2 := hf.out _ (getD_mem n.trs k Tr.no hlt)
   have hst := trs_step hlt hres
   generalize n.trs.getD k Tr.no = t at hg hi1 hi2 hst
   (simp only [go_sem] at hL ⊢)
   (repeat' (first | (with_reducible first | exact True.intro | refine And.intro ?_ ?_ | refine aBl ?_ | (refine aS 8 [25, 24, 43, 42, 44, 26] ?_; intro K hK)) | ((with_reducible first | refine aGo ?_); simp only [hg, go_sem]) | ((with_reducible refine aCd ?_ ?_ (fun hb => ?_) (fun hb => ?_)); (iterate 2 simp only [hg, go_sem]); all_goals (simp only [hg, go_sem] at hb; try simp only [bls] at hb)) | ((iterate 6 try ((fail_if_success with_reducible refine hK _ ?_ ?_ ?_); clear hK K)); with_reducible refine hK _ ?_ ?_ ?_; rotate_left; (focus (simp only [hg, go_sem]; exact rfl)); clear hK K) | (with_reducible refine aGs (fun hg0 => ?_) (fun hg0 => ?_) <;> first | (with_reducible first | exact aF1 hg0 | exact aF2 hg0) | (simp only [hg0, hg, go_sem])) | (with_reducible refine aNk ?_; intro bnil hnil; try simp only []) | exact aZ | fail))
   ·rw [hst, trE, if_pos hb, if_pos (by omega)]
   ·have hev : ¬ (t.event < 0 ∨ 32 ≤ t.event) := by omega
    have hO := hL
    clear hL
    refine awp_loop _ (by simp only [go_sem]; rfl) Nat (fun j => j ≤ 2 ∧ (1 ≤ j → arcsOk n.init.length t.inn = 0) ∧ (2 ≤ j → arcsOk n.init.length t.out = 0)) (fun j => [(44, .one (.int .i64 j))]) (fun _ H => H) (fun j => 2 - j) 0 ⟨by omega, fun h => by omega, fun h => by omega⟩ ?_ ?_
    ·(simp only [SubF, go_sem]; (try simp only [go_sem]); repeat' (first | exact True.intro | with_reducible refine And.intro ?_ ?_ | rfl | omega))
    ·rintro j ⟨hj, hj1, hj2⟩ L hL
     have : j = 0 ∨ j = 1 ∨ j = 2 := by omega
     rcases this with rfl | rfl | rfl
     ·(simp only [go_sem] at hL ⊢)
      (repeat' (first | (with_reducible first | exact True.intro | refine And.intro ?_ ?_ | refine aBl ?_ | (refine aS 8 [25, 24, 43, 42, 44, 26] ?_; intro K hK)) | ((with_reducible first | refine aGo ?_); simp only [hg, go_sem]) | ((with_reducible refine aCd ?_ ?_ (fun hb => ?_) (fun hb => ?_)); (iterate 2 simp only [hg, go_sem]); all_goals (simp only [hg, go_sem] at hb; try simp only [bls] at hb)) | ((iterate 6 try ((fail_if_success with_reducible refine hK _ ?_ ?_ ?_); clear hK K)); with_reducible refine hK _ ?_ ?_ ?_; rotate_left; (focus (simp only [hg, go_sem]; exact rfl)); clear hK K) | ((first | (with_reducible first | refine cA (checkArcs_c t.inn n.init.length hi1) ?_ | refine cD (checkArcs_c t.inn n.init.length hi1) ?_ | refine cO (checkArcs_c t.inn n.init.length hi1) ?_ | refine cR (checkArcs_c t.inn n.init.length hi1) ?_ | refine cG (fun hg => (checkArcs_c t.inn n.init.length hi1)) ?_ | refine cH (fun hg => (checkArcs_c t.inn n.init.length hi1)) ?_ | refine cM (fun hg => (checkArcs_c t.inn n.init.length hi1)) ?_) | ((with_reducible refine gA ?_); refine cA (checkArcs_c t.inn n.init.length hi1) ?_) | ((with_reducible refine gD ?_); refine cD (checkArcs_c t.inn n.init.length hi1) ?_) | ((with_reducible refine gG ?_); refine cG (fun hg => (checkArcs_c t.inn n.init.length hi1)) ?_)); simp only [hg, go_sem]) | (with_reducible refine aGs (fun hg0 => ?_) (fun hg0 => ?_) <;> first | (with_reducible first | exact aF1 hg0 | exact aF2 hg0) | (simp only [hg0, hg, go_sem])) | (with_reducible refine aNk ?_; intro bnil hnil; try simp only []) | exact aZ | fail))
      ·have e : trE n.init.length t = arcsOk n.init.length t.inn := by rw [trE, if_neg hev, if_pos hb]
       rw [hst, e, if_pos hb]
      ·exact hL _ 1 ⟨by omega, fun _ => hb, fun h => by omega⟩ (by (simp only [SubF, go_sem]; (try simp only [go_sem]); repeat' (first | exact True.intro | with_reducible refine And.intro ?_ ?_ | rfl | omega))) (by omega)
     ·(simp only [go_sem] at hL ⊢)
      (repeat' (first | (with_reducible first | exact True.intro | refine And.intro ?_ ?_ | refine aBl ?_ | (refine aS 8 [25, 24, 43, 42, 44, 26] ?_; intro K hK)) | ((with_reducible first | refine aGo ?_); simp only [hg, go_sem]) | ((with_reducible refine aCd ?_ ?_ (fun hb => ?_) (fun hb => ?_)); (iterate 2 simp only [hg, go_sem]); all_goals (simp only [hg, go_sem] at hb; try simp only [bls] at hb)) | ((iterate 6 try ((fail_if_success with_reducible refine hK _ ?_ ?_ ?_); clear hK K)); with_reducible refine hK _ ?_ ?_ ?_; rotate_left; (focus (simp only [hg, go_sem]; exact rfl)); clear hK K) | ((first | (with_reducible first | refine cA (checkArcs_c t.out n.init.length hi2) ?_ | refine cD (checkArcs_c t.out n.init.length hi2) ?_ | refine cO (checkArcs_c t.out n.init.length hi2) ?_ | refine cR (checkArcs_c t.out n.init.length hi2) ?_ | refine cG (fun hg => (checkArcs_c t.out n.init.length hi2)) ?_ | refine cH (fun hg => (checkArcs_c t.out n.init.length hi2)) ?_ | refine cM (fun hg => (checkArcs_c t.out n.init.length hi2)) ?_) | ((with_reducible refine gA ?_); refine cA (checkArcs_c t.out n.init.length hi2) ?_) | ((with_reducible refine gD ?_); refine cD (checkArcs_c t.out n.init.length hi2) ?_) | ((with_reducible refine gG ?_); refine cG (fun hg => (checkArcs_c t.out n.init.length hi2)) ?_)); simp only [hg, go_sem]) | (with_reducible refine aGs (fun hg0 => ?_) (fun hg0 => ?_) <;> first | (with_reducible first | exact aF1 hg0 | exact aF2 hg0) | (simp only [hg0, hg, go_sem])) | (with_reducible refine aNk ?_; intro bnil hnil; try simp only []) | exact aZ | fail))
      ·have e : trE n.init.length t = arcsOk n.init.length t.out := by rw [trE, if_neg hev, if_neg (by rw [hj1 (by omega)]; simp)]
       rw [hst, e, if_pos hb]
      ·exact hL _ 2 ⟨by omega, fun _ => hj1 (by omega), fun _ => hb⟩ (by (simp only [SubF, go_sem]; (try simp only [go_sem]); repeat' (first | exact True.intro | with_reducible refine And.intro ?_ ?_ | rfl | omega))) (by omega)
     ·(simp only [go_sem] at hL ⊢)
      (repeat' (first | (with_reducible first | exact True.intro | refine And.intro ?_ ?_ | refine aBl ?_ | (refine aS 8 [25, 24, 43, 42, 44, 26] ?_; intro K hK)) | ((with_reducible first | refine aGo ?_); simp only [go_sem]) | ((with_reducible refine aCd ?_ ?_ (fun hb => ?_) (fun hb => ?_)); (iterate 2 simp only [go_sem]); all_goals (simp only [go_sem] at hb; try simp only [bls] at hb)) | ((iterate 6 try ((fail_if_success with_reducible refine hK _ ?_ ?_ ?_); clear hK K)); with_reducible refine hK _ ?_ ?_ ?_; rotate_left; (focus (simp only [go_sem]; exact rfl)); clear hK K) | (with_reducible refine aGs (fun hg0 => ?_) (fun hg0 => ?_) <;> first | (with_reducible first | exact aF1 hg0 | exact aF2 hg0) | (simp only [hg0, go_sem])) | (with_reducible refine aNk ?_; intro bnil hnil; try simp only []) | exact aZ | fail))
      have e : trE n.init.length t = 0 := by rw [trE, if_neg hev, if_neg (by rw [hj1 (by omega)]; simp), hj2 (by omega)]
      rw [e, if_neg (by simp)] at hst
      exact hO _ (k + 1) ⟨by omega, hst⟩ (by (simp only [SubF, go_sem]; (try simp only [go_sem]); repeat' (first | exact True.intro | with_reducible refine And.intro ?_ ?_ | rfl | omega))) (by omega)
  ·(simp only [go_sem] at hL ⊢)
   (repeat' (first | (with_reducible first | exact True.intro | refine And.intro ?_ ?_ | refine aBl ?_ | (refine aS 8 [25, 24, 43, 42, 44, 26] ?_; intro K hK)) | ((with_reducible first | refine aGo ?_); simp only [go_sem]) | ((with_reducible refine aCd ?_ ?_ (fun hb => ?_) (fun hb => ?_)); (iterate 2 simp only [go_sem]); all_goals (simp only [go_sem] at hb; try simp only [bls] at hb)) | ((iterate 6 try ((fail_if_success with_reducible refine hK _ ?_ ?_ ?_); clear hK K)); with_reducible refine hK _ ?_ ?_ ?_; rotate_left; (focus (simp only [go_sem]; exact rfl)); clear hK K) | (with_reducible refine aGs (fun hg0 => ?_) (fun hg0 => ?_) <;> first | (with_reducible first | exact aF1 hg0 | exact aF2 hg0) | (simp only [hg0, go_sem])) | (with_reducible refine aNk ?_; intro bnil hnil; try simp only []) | exact aZ | fail))
   all_goals first | omega | skip
   rw [hres, drop_end n.trs k (by omega)]; rfl
/-! equality of nets -/
end Go.Proofs.YtljpfdehnjemlaaDoor
