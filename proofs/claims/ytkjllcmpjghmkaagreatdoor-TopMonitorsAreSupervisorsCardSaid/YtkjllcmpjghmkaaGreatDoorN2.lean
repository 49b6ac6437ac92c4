/-
 Contracts: nets checked and compared.
-/
import Derived.Test.YtkjllcmpjghmkaaGreatDoorN1
set_option linter.unusedSimpArgs false
set_option linter.unusedVariables false
namespace Go.Proofs.YtkjllcmpjghmkaaGreatDoor
open Go.Eng Go.RowKit
def tokB (x : Int) : Bool := decide (x < 0) || decide (65536 < x)
theorem zeq (x : Int) : ACalls Tryz.prog 105 [.one (.int .i64 x)] (.one (.bool (tokB x))) [] := by
 (refine ACalls.of_body Ty_ok mixed Tryz.func105 rfl (by kernel_rfl) Tryz.ntmps105 (by simp) (congrArg Array.toList Tryz.results105) ?_)
 simp only [z00]
 (repeat' (first | (with_reducible (refine aS 3 [] ?_; intro K hK)) | ((with_reducible refine aGo ?_); simp only [go_sem]) | ((iterate 6 try ((fail_if_success with_reducible refine hK _ ?_ ?_ ?_); clear hK K)); with_reducible refine hK _ ?_ ?_ ?_; rotate_left; (focus (simp only [go_sem]; exact rfl)); clear hK K) | fail))
 rfl
theorem z8n (l : List Int) (hn : l.length ≤ 1000000) : ACalls Tryz.prog 61 [.one (.list (ints l))] (.one (.bool (!l.any tokB))) [] := by
 (refine ACalls.of_body Ty_ok mixed Tryz.func61 rfl (by kernel_rfl) Tryz.ntmps61 (by simp) (congrArg Array.toList Tryz.results61) ?_)
 simp only [z00]
 (repeat' (first | (with_reducible (refine aS 3 [] ?_; intro K hK)) | ((with_reducible refine aGo ?_); simp only [go_sem]) | ((iterate 6 try ((fail_if_success with_reducible refine hK _ ?_ ?_ ?_); clear hK K)); with_reducible refine hK _ ?_ ?_ ?_; rotate_left; (focus (simp only [go_sem]; exact rfl)); clear hK K) | (((with_reducible refine gA ?_); refine cA (z1n l 105 [] tokB hn z4X (fun e _ => zeq e)) ?_); simp only [go_sem]) | fail))
def arcsE (places : Int) : List Arc → Option Int → Int
 | [], _ => 0
 | a :: l, prev => if a.place < 0 ∨ places ≤ a.place then 2 else if (prev.any fun p => decide (a.place ≤ p)) = true then 5 else if a.weight < 1 ∨ 8 < a.weight then 2 else arcsE places l (some a.place)
def z1L (places : Int) (l : List Arc) : Int := arcsE places l none
def prevA (l : List Arc) (k : Nat) : Option Int := if k = 0 then none else some (l.getD (k - 1) Arc.no).place
theorem z4B {l : List Arc} {m b : Int} {k : Nat} (hk : k < l.length) (h : b = arcsE m (l.drop k) (prevA l k)) :
  b = if (l.getD k Arc.no).place < 0 ∨ m ≤ (l.getD k Arc.no).place then 2 else if 0 < k ∧ (l.getD k Arc.no).place ≤ (l.getD (k - 1) Arc.no).place then 5 else if (l.getD k Arc.no).weight < 1 ∨ 8 < (l.getD k Arc.no).weight then 2 else arcsE m (l.drop (k + 1)) (prevA l (k + 1)) := by
 rw [z0H l k Arc.no hk] at h
 rw [h, arcsE]
 split
 ·rfl
 ·unfold prevA
  by_cases h0 : k = 0
  ·subst h0; simp
  ·simp [h0]; split <;> split <;> first | rfl | omega
theorem z2o (k : Nat) : ((k : Int) - 1).toNat = k - 1 := by omega
set_option maxHeartbeats 4000000 in
theorem z7a (l : List Arc) (m : Int) (hn : l.length ≤ 1000000) : ACalls Tryz.prog 62 [.one (.list (arcsD l)), .one (.int .i64 m)] (.one (.int .i64 (z1L m l))) [] := by
 (refine ACalls.of_body Ty_ok mixed Tryz.func62 rfl (by kernel_rfl) Tryz.ntmps62 (by simp) (congrArg Array.toList Tryz.results62) ?_)
 simp only [z00]
 (repeat' (first | (with_reducible first | refine aBl ?_ | (refine aS 10 [] ?_; intro K hK)) | ((with_reducible refine aGo ?_); simp only [go_sem]) | ((iterate 6 try ((fail_if_success with_reducible refine hK _ ?_ ?_ ?_); clear hK K)); with_reducible refine hK _ ?_ ?_ ?_; rotate_left; (focus (simp only [go_sem]; exact rfl)); clear hK K) | fail))
 refine z02 _ (by simp only [go_sem]; rfl) Nat (fun k => k ≤ l.length ∧ z1L m l = arcsE m (l.drop k) (prevA l k)) (fun k => [(9, .one (.int .i64 k))]) (fun _ H => H) (fun k => l.length - k) 0 ⟨by omega, by simp [z1L, prevA]⟩ ?_ ?_
 ·(simp only [SubF, go_sem]; (try simp only [go_sem]); repeat' (first | exact True.intro | with_reducible refine And.intro ?_ ?_ | rfl | omega))
 ·rintro k ⟨hk, hres⟩ L hL
  have hp := z2o k
  (simp only [go_sem] at hL ⊢)
  (repeat' (first | (with_reducible first | refine And.intro ?_ ?_ | refine aBl ?_ | (refine aS 10 [] ?_; intro K hK)) | ((with_reducible first | refine aGo ?_ | refine rD (id := 6) ?_); simp only [hp, go_sem]) | ((with_reducible refine aCd ?_ ?_ (fun hb => ?_) (fun hb => ?_)); (iterate 2 simp only [hp, go_sem]); all_goals (simp only [hp, go_sem] at hb; try simp only [bls] at hb)) | ((iterate 6 try ((fail_if_success with_reducible refine hK _ ?_ ?_ ?_); clear hK K)); with_reducible refine hK _ ?_ ?_ ?_; rotate_left; (focus (simp only [hp, go_sem]; exact rfl)); clear hK K) | exact aZ | fail))
  ·rw [z4B (by omega) hres, if_pos hb]
  ·rw [z4B (by omega) hres, if_neg (by omega), if_pos (by omega)]
  ·rw [z4B (by omega) hres, if_neg (by omega), if_neg (by omega), if_pos hb]
  ·have h1 := z4B (by omega) hres
   rw [if_neg (by omega), if_neg (by omega), if_neg (by omega)] at h1
   exact hL _ (k + 1) ⟨by omega, h1⟩ (by (simp only [SubF, go_sem]; (try simp only [go_sem]); repeat' (first | exact True.intro | with_reducible refine And.intro ?_ ?_ | rfl | omega))) (by omega)
  ·rw [hres, z0z l k (by omega)]; rfl
def trE (places : Int) (t : Tr) : Int := if t.event < 0 ∨ 32 ≤ t.event then 2 else if z1L places t.inn ≠ 0 then z1L places t.inn else z1L places t.out
def trsE (places : Int) : List Tr → Int
 | [] => 0
 | t :: l => if trE places t ≠ 0 then trE places t else trsE places l
def netE (n : Net) : Int := if 10 < n.init.length then 3 else if n.init.any tokB = true then 2 else if 10 < n.trs.length then 3 else trsE n.init.length n.trs
structure Net.Fits (n : Net) : Prop where
 init : n.init.length ≤ 1000000
 trs : n.trs.length ≤ 1000000
 inn : ∀ t ∈ n.trs, t.inn.length ≤ 1000000
 out : ∀ t ∈ n.trs, t.out.length ≤ 1000000
theorem zgt {m b : Int} {l : List Tr} {k : Nat} (hk : k < l.length) (h : b = trsE m (l.drop k)) : b = if trE m (l.getD k Tr.no) ≠ 0 then trE m (l.getD k Tr.no) else trsE m (l.drop (k + 1)) := by
 rw [z0H l k Tr.no hk] at h; exact h
set_option maxHeartbeats 8000000 in
theorem z2s (n : Net) (hf : n.Fits) : ACalls Tryz.prog 27 [.agg n.d] (.one (.int .i64 (netE n))) [] := by
 have h1 := hf.init
 have h2 := hf.trs
 (refine ACalls.of_body Ty_ok mixed Tryz.func27 rfl (by kernel_rfl) Tryz.ntmps27 (by simp) (congrArg Array.toList Tryz.results27) ?_)
 simp only [z00, Net.d]
 (repeat' (first | (with_reducible first | refine aBl ?_ | (refine aS 8 [25, 24, 43, 42, 44, 26] ?_; intro K hK)) | ((with_reducible refine aGo ?_); simp only [go_sem]) | ((with_reducible refine aCd ?_ ?_ (fun hb => ?_) (fun hb => ?_)); (iterate 2 simp only [go_sem]); all_goals (simp only [go_sem] at hb; try simp only [bls] at hb)) | ((iterate 6 try ((fail_if_success with_reducible refine hK _ ?_ ?_ ?_); clear hK K)); with_reducible refine hK _ ?_ ?_ ?_; rotate_left; (focus (simp only [go_sem]; exact rfl)); clear hK K) | ((with_reducible refine cA (z8n n.init h1) ?_); simp only [go_sem]) | fail))
 ·rw [netE, if_pos (by omega)]
 ·rw [netE, if_neg (by omega), if_pos hb]
 ·rename_i hb1 hb2
  rw [netE, if_neg (by omega), if_neg (by rw [hb2]; simp), if_pos (by omega)]
 rename_i hb1 hb2
 have he : netE n = trsE n.init.length n.trs := by rw [netE, if_neg (by omega), if_neg (by rw [hb2]; simp), if_neg (by omega)]
 refine z02 _ (by simp only [go_sem]; rfl) Nat (fun k => k ≤ n.trs.length ∧ netE n = trsE n.init.length (n.trs.drop k)) (fun k => [(26, .one (.int .i64 k))]) (fun _ H => H) (fun k => n.trs.length - k) 0 ⟨by omega, by simpa using he⟩ ?_ ?_
 ·(simp only [SubF, go_sem]; (try simp only [go_sem]); repeat' (first | exact True.intro | with_reducible refine And.intro ?_ ?_ | rfl | omega))
 ·rintro k ⟨hk, hres⟩ L hL
  by_cases hlt : k < n.trs.length
  ·have hg := z1K hlt [.int .i64 0, .nil, .nil]
   have hi1 := hf.inn _ (z01 n.trs k Tr.no hlt)
   have hi2 := hf.out _ (z01 n.trs k Tr.no hlt)
   have hst := zgt hlt hres
   generalize n.trs.getD k Tr.no = t at hg hi1 hi2 hst
   (simp only [go_sem] at hL ⊢)
   (repeat' (first | (with_reducible first | refine And.intro ?_ ?_ | refine aBl ?_ | (refine aS 8 [25, 24, 43, 42, 44, 26] ?_; intro K hK)) | ((with_reducible refine aGo ?_); simp only [hg, go_sem]) | ((with_reducible refine aCd ?_ ?_ (fun hb => ?_) (fun hb => ?_)); (iterate 2 simp only [hg, go_sem]); all_goals (simp only [hg, go_sem] at hb; try simp only [bls] at hb)) | ((iterate 6 try ((fail_if_success with_reducible refine hK _ ?_ ?_ ?_); clear hK K)); with_reducible refine hK _ ?_ ?_ ?_; rotate_left; (focus (simp only [hg, go_sem]; exact rfl)); clear hK K) | exact aZ | fail))
   ·rw [hst, trE, if_pos hb, if_pos (by omega)]
   ·have hev : ¬ (t.event < 0 ∨ 32 ≤ t.event) := by omega
    have hO := hL
    clear hL
    refine z02 _ (by simp only [go_sem]; rfl) Nat (fun j => j ≤ 2 ∧ (1 ≤ j → z1L n.init.length t.inn = 0) ∧ (2 ≤ j → z1L n.init.length t.out = 0)) (fun j => [(44, .one (.int .i64 j))]) (fun _ H => H) (fun j => 2 - j) 0 ⟨by omega, fun h => by omega, fun h => by omega⟩ ?_ ?_
    ·(simp only [SubF, go_sem]; (try simp only [go_sem]); repeat' (first | exact True.intro | with_reducible refine And.intro ?_ ?_ | rfl | omega))
    ·rintro j ⟨hj, hj1, hj2⟩ L hL
     have : j = 0 ∨ j = 1 ∨ j = 2 := by omega
     rcases this with rfl | rfl | rfl
     ·(simp only [go_sem] at hL ⊢)
      (repeat' (first | (with_reducible first | refine aBl ?_ | (refine aS 8 [25, 24, 43, 42, 44, 26] ?_; intro K hK)) | ((with_reducible refine aGo ?_); simp only [hg, go_sem]) | ((with_reducible refine aCd ?_ ?_ (fun hb => ?_) (fun hb => ?_)); (iterate 2 simp only [hg, go_sem]); all_goals (simp only [hg, go_sem] at hb; try simp only [bls] at hb)) | ((iterate 6 try ((fail_if_success with_reducible refine hK _ ?_ ?_ ?_); clear hK K)); with_reducible refine hK _ ?_ ?_ ?_; rotate_left; (focus (simp only [hg, go_sem]; exact rfl)); clear hK K) | ((with_reducible refine cA (z7a t.inn n.init.length hi1) ?_); simp only [hg, go_sem]) | fail))
      ·have e : trE n.init.length t = z1L n.init.length t.inn := by rw [trE, if_neg hev, if_pos hb]
       rw [hst, e, if_pos hb]
      ·exact hL _ 1 ⟨by omega, fun _ => hb, fun h => by omega⟩ (by (simp only [SubF, go_sem]; (try simp only [go_sem]); repeat' (first | exact True.intro | with_reducible refine And.intro ?_ ?_ | rfl | omega))) (by omega)
     ·(simp only [go_sem] at hL ⊢)
      (repeat' (first | (with_reducible first | refine aBl ?_ | (refine aS 8 [25, 24, 43, 42, 44, 26] ?_; intro K hK)) | ((with_reducible refine aGo ?_); simp only [hg, go_sem]) | ((with_reducible refine aCd ?_ ?_ (fun hb => ?_) (fun hb => ?_)); (iterate 2 simp only [hg, go_sem]); all_goals (simp only [hg, go_sem] at hb; try simp only [bls] at hb)) | ((iterate 6 try ((fail_if_success with_reducible refine hK _ ?_ ?_ ?_); clear hK K)); with_reducible refine hK _ ?_ ?_ ?_; rotate_left; (focus (simp only [hg, go_sem]; exact rfl)); clear hK K) | ((with_reducible refine cA (z7a t.out n.init.length hi2) ?_); simp only [hg, go_sem]) | fail))
      ·have e : trE n.init.length t = z1L n.init.length t.out := by rw [trE, if_neg hev, if_neg (by rw [hj1 (by omega)]; simp)]
       rw [hst, e, if_pos hb]
      ·exact hL _ 2 ⟨by omega, fun _ => hj1 (by omega), fun _ => hb⟩ (by (simp only [SubF, go_sem]; (try simp only [go_sem]); repeat' (first | exact True.intro | with_reducible refine And.intro ?_ ?_ | rfl | omega))) (by omega)
     ·(simp only [go_sem] at hL ⊢)
      (repeat' (first | (with_reducible first | refine And.intro ?_ ?_ | (refine aS 8 [25, 24, 43, 42, 44, 26] ?_; intro K hK)) | ((with_reducible refine aGo ?_); simp only [go_sem]) | ((with_reducible refine aCd ?_ ?_ (fun hb => ?_) (fun hb => ?_)); (iterate 2 simp only [go_sem]); all_goals (simp only [go_sem] at hb; try simp only [bls] at hb)) | ((iterate 6 try ((fail_if_success with_reducible refine hK _ ?_ ?_ ?_); clear hK K)); with_reducible refine hK _ ?_ ?_ ?_; rotate_left; (focus (simp only [go_sem]; exact rfl)); clear hK K) | exact aZ | fail))
      have e : trE n.init.length t = 0 := by rw [trE, if_neg hev, if_neg (by rw [hj1 (by omega)]; simp), hj2 (by omega)]
      rw [e, if_neg (by simp)] at hst
      exact hO _ (k + 1) ⟨by omega, hst⟩ (by (simp only [SubF, go_sem]; (try simp only [go_sem]); repeat' (first | exact True.intro | with_reducible refine And.intro ?_ ?_ | rfl | omega))) (by omega)
  ·(simp only [go_sem] at hL ⊢)
   (repeat' (first | (with_reducible first | refine And.intro ?_ ?_ | refine aBl ?_ | (refine aS 8 [25, 24, 43, 42, 44, 26] ?_; intro K hK)) | ((with_reducible refine aGo ?_); simp only [go_sem]) | ((with_reducible refine aCd ?_ ?_ (fun hb => ?_) (fun hb => ?_)); (iterate 2 simp only [go_sem]); all_goals (simp only [go_sem] at hb; try simp only [bls] at hb)) | ((iterate 6 try ((fail_if_success with_reducible refine hK _ ?_ ?_ ?_); clear hK K)); with_reducible refine hK _ ?_ ?_ ?_; rotate_left; (focus (simp only [go_sem]; exact rfl)); clear hK K) | exact aZ | fail))
   all_goals first | omega | skip
   rw [hres, z0z n.trs k (by omega)]; rfl
end Go.Proofs.YtkjllcmpjghmkaaGreatDoor
