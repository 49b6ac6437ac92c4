/-
 Contracts: Transform.
-/
import Derived.Test.YtkjllcmpjghmkaaGreatDoorN7
set_option linter.unusedSimpArgs false
set_option linter.unusedVariables false
namespace Go.Proofs.YtkjllcmpjghmkaaGreatDoor
open Go.Eng Go.RowKit
def admF (n : Net) (u : List Int) (b : Int) (fac : List Int) : Bool := decide (z1u n ⟨fac, b⟩ u < 0)
def oD (b : Int) : Option (List Int) → List D
 | none => [.nil, .int .i64 0]
 | some f => [.list (ints f), .int .i64 b]
theorem zaR (n : Net) (fac : List Int) (b : Int) (u : List Int) (o : Option (List Int)) (hn : NetOk n) (hl : fac.length = n.init.length) (hf : Sm 16 fac) (hu : ∀ x ∈ u, 0 ≤ x ∧ x < n.trs.length) (hul : u.length ≤ 1000000) :
  MCalls Tryz.prog 79 3 [.var 36 (oD b o), .var 32 n.d, .var 29 [.list (ints u)]] [.agg (Con.d ⟨fac, b⟩), .one (.vp 0 0), .one (.vp 1 0), .one (.vp 2 0)] (.one (.bool (admF n u b fac)))
   [.var 36 (oD b (some fac)), .var 32 n.d, .var 29 [.list (ints u)]] := by
 have h1 := z9K n ⟨fac, b⟩ u hn hl hf hu hul
 simp only [Net.d, Con.d] at h1
 cases o with
 | none =>
  (refine MCalls.of_body Ty_ok mixed Tryz.func79 rfl (by kernel_rfl) Tryz.ntmps79 (by simp) (congrArg Array.toList Tryz.results79) (by simp) (by simp) ?_)
  simp only [z00, Net.d, Con.d, oD]
  (repeat' (first | (with_reducible (refine aS 6 [] ?_; intro K hK)) | ((with_reducible refine aGo ?_); simp only [go_sem]) | ((iterate 6 try ((fail_if_success with_reducible refine hK _ ?_ ?_ ?_); clear hK K)); with_reducible refine hK _ ?_ ?_ ?_; rotate_left; (focus (simp only [go_sem]; exact rfl)); clear hK K) | ((with_reducible refine xA ?_); simp only [go_sem]) | fail))
  rfl
 | some f =>
  (refine MCalls.of_body Ty_ok mixed Tryz.func79 rfl (by kernel_rfl) Tryz.ntmps79 (by simp) (congrArg Array.toList Tryz.results79) (by simp) (by simp) ?_)
  simp only [z00, Net.d, Con.d, oD]
  (repeat' (first | (with_reducible (refine aS 6 [] ?_; intro K hK)) | ((with_reducible refine aGo ?_); simp only [go_sem]) | ((iterate 6 try ((fail_if_success with_reducible refine hK _ ?_ ?_ ?_); clear hK K)); with_reducible refine hK _ ?_ ?_ ?_; rotate_left; (focus (simp only [go_sem]; exact rfl)); clear hK K) | ((with_reducible refine xA ?_); simp only [go_sem]) | fail))
  rfl
theorem oD_fz (b : Int) (o : Option (List Int)) (t : Nat) (x : AObj) : (oD b o).map (D.fz t x) = oD b o := by cases o <;> rfl
theorem ziC (b : Int) (o : Option (List Int)) (m : Nat) : (oD b o).all (D.tagsLt m) = true := by cases o <;> rfl
theorem ziD (b : Int) (o : Option (List Int)) : (oD b o).flatMap D.tags = [] := by cases o <;> rfl
theorem zjv (b : Int) (o : Option (List Int)) (g : Nat → Option Nat) : (oD b o).map (D.ren g) = oD b o := by cases o <;> rfl
attribute [go_sem] oD_fz ziD zjv
attribute [go_sem high] ziC
def tryK (step : Nat → Option (List Int) → Bool × Option (List Int)) : Nat → Nat → Option (List Int) → Bool × Option (List Int)
 | _, 0, o => (false, o)
 | k, r + 1, o => if (step k o).1 = true then (true, (step k o).2) else tryK step (k + 1) r (step k o).2
def z6u (s : Nat) (x : Int) : Nat := min (s + 1) (17 - x).toNat
def z1D (adm : List Int → Bool) : Nat → List Int → Nat → Nat → Option (List Int) → Bool × Option (List Int)
 | 0, fac, _, s, o => if s = 0 then (adm fac, some fac) else (false, o)
 | r + 1, fac, place, s, o => tryK (fun k o => z1D adm r (fac.set place (fac.getD place 0 + k)) (place + 1) (s - k) o) 0 (z6u s (fac.getD place 0)) o
set_option maxHeartbeats 16000000 in
theorem zix (n : Net) (u : List Int) (b : Int) (hn : NetOk n) (hu : ∀ x ∈ u, 0 ≤ x ∧ x < n.trs.length) (hul : u.length ≤ 1000000) : ∀ (r : Nat) (fac : List Int) (place s : Nat) (o : Option (List Int)), place + r = fac.length → fac.length = n.init.length → Sm 16 fac → s ≤ 8 →
  MCalls Tryz.prog 78 3 [.var 36 (oD b o), .var 32 n.d, .var 29 [.list (ints u)]] [.agg (Con.d ⟨fac, b⟩), .one (.int .i64 place), .one (.int .i64 s), .one (.clo 79 [.vp 0 0, .vp 1 0, .vp 2 0])] (.one (.bool (z1D (admF n u b) r fac place s o).1))
   [.var 36 (oD b (z1D (admF n u b) r fac place s o).2), .var 32 n.d, .var 29 [.list (ints u)]] := by
 intro r
 induction r with
 | zero =>
  intro fac place s o hpl hl hf hs
  have h1 := zaR n fac b u o hn hl hf hu hul
  simp only [Net.d, Con.d] at h1
  have e0 : z1D (admF n u b) 0 fac place s o = if s = 0 then (admF n u b fac, some fac) else (false, o) := rfl
  cases o with
  | none =>
   simp only [oD] at h1
   by_cases h0 : s = 0
   ·subst h0
    (refine MCalls.of_body Ty_ok mixed Tryz.func78 rfl (by kernel_rfl) Tryz.ntmps78 (by simp) (congrArg Array.toList Tryz.results78) (by simp) (by simp) ?_)
    simp only [z00, Net.d, Con.d, oD, e0, if_true]
    (repeat' (first | (with_reducible first | refine aBl ?_ | (refine aS 11 [] ?_; intro K hK)) | ((with_reducible refine aGo ?_); simp only [go_sem]) | ((with_reducible refine aCd ?_ ?_ (fun hb => ?_) (fun hb => ?_)); (iterate 2 simp only [go_sem]); all_goals (simp only [go_sem] at hb; try simp only [bls] at hb)) | ((iterate 6 try ((fail_if_success with_reducible refine hK _ ?_ ?_ ?_); clear hK K)); with_reducible refine hK _ ?_ ?_ ?_; rotate_left; (focus (simp only [go_sem]; exact rfl)); clear hK K) | exact aZ | fail))
    refine z1T (.one (.bool false)) (fun hg => ?_) (fun hg => ?_)
    ·(refine z0Z [] [0, 1, 2] (h1) ?_ ?_; (focus (simp only [mside, z2a, go_sem]; (first | done | exact (by decide) | exact ⟨by decide, fun t ht => ht.elim⟩ | (refine ⟨by decide, ?_⟩; simp; done)))); simp only [go_sem])
     (repeat' (first | ((with_reducible refine aGo ?_); simp only [go_sem]) | ((iterate 6 try ((fail_if_success with_reducible refine hK _ ?_ ?_ ?_); clear hK K)); with_reducible refine hK _ ?_ ?_ ?_; rotate_left; (focus (simp only [go_sem]; exact rfl)); clear hK K) | fail))
    ·simp at hg
   ·(refine MCalls.of_body Ty_ok mixed Tryz.func78 rfl (by kernel_rfl) Tryz.ntmps78 (by simp) (congrArg Array.toList Tryz.results78) (by simp) (by simp) ?_)
    simp only [z00, Net.d, Con.d, oD, e0, if_neg h0]
    (repeat' (first | (with_reducible first | refine aBl ?_ | (refine aS 11 [] ?_; intro K hK)) | ((with_reducible refine aGo ?_); simp only [go_sem]) | ((with_reducible refine aCd ?_ ?_ (fun hb => ?_) (fun hb => ?_)); (iterate 2 simp only [go_sem]); all_goals (simp only [go_sem] at hb; try simp only [bls] at hb)) | ((iterate 6 try ((fail_if_success with_reducible refine hK _ ?_ ?_ ?_); clear hK K)); with_reducible refine hK _ ?_ ?_ ?_; rotate_left; (focus (simp only [go_sem]; exact rfl)); clear hK K) | exact aZ | fail))
    refine z1T (.one (.bool false)) (fun hg => ?_) (fun hg => ?_)
    ·simp at hg; omega
    ·have hz : ((s : Int) == 0) = false := by simpa using h0
     simp only [go_sem, hz]
     (repeat' (first | ((with_reducible refine aGo ?_); simp only [go_sem]) | ((iterate 6 try ((fail_if_success with_reducible refine hK _ ?_ ?_ ?_); clear hK K)); with_reducible refine hK _ ?_ ?_ ?_; rotate_left; (focus (simp only [go_sem]; exact rfl)); clear hK K) | fail))
  | some f =>
   simp only [oD] at h1
   by_cases h0 : s = 0
   ·subst h0
    (refine MCalls.of_body Ty_ok mixed Tryz.func78 rfl (by kernel_rfl) Tryz.ntmps78 (by simp) (congrArg Array.toList Tryz.results78) (by simp) (by simp) ?_)
    simp only [z00, Net.d, Con.d, oD, e0, if_true]
    (repeat' (first | (with_reducible first | refine aBl ?_ | (refine aS 11 [] ?_; intro K hK)) | ((with_reducible refine aGo ?_); simp only [go_sem]) | ((with_reducible refine aCd ?_ ?_ (fun hb => ?_) (fun hb => ?_)); (iterate 2 simp only [go_sem]); all_goals (simp only [go_sem] at hb; try simp only [bls] at hb)) | ((iterate 6 try ((fail_if_success with_reducible refine hK _ ?_ ?_ ?_); clear hK K)); with_reducible refine hK _ ?_ ?_ ?_; rotate_left; (focus (simp only [go_sem]; exact rfl)); clear hK K) | exact aZ | fail))
    refine z1T (.one (.bool false)) (fun hg => ?_) (fun hg => ?_)
    ·(refine z0Z [] [0, 1, 2] (h1) ?_ ?_; (focus (simp only [mside, z2a, go_sem]; (first | done | exact (by decide) | exact ⟨by decide, fun t ht => ht.elim⟩ | (refine ⟨by decide, ?_⟩; simp; done)))); simp only [go_sem])
     (repeat' (first | ((with_reducible refine aGo ?_); simp only [go_sem]) | ((iterate 6 try ((fail_if_success with_reducible refine hK _ ?_ ?_ ?_); clear hK K)); with_reducible refine hK _ ?_ ?_ ?_; rotate_left; (focus (simp only [go_sem]; exact rfl)); clear hK K) | fail))
    ·simp at hg
   ·(refine MCalls.of_body Ty_ok mixed Tryz.func78 rfl (by kernel_rfl) Tryz.ntmps78 (by simp) (congrArg Array.toList Tryz.results78) (by simp) (by simp) ?_)
    simp only [z00, Net.d, Con.d, oD, e0, if_neg h0]
    (repeat' (first | (with_reducible first | refine aBl ?_ | (refine aS 11 [] ?_; intro K hK)) | ((with_reducible refine aGo ?_); simp only [go_sem]) | ((with_reducible refine aCd ?_ ?_ (fun hb => ?_) (fun hb => ?_)); (iterate 2 simp only [go_sem]); all_goals (simp only [go_sem] at hb; try simp only [bls] at hb)) | ((iterate 6 try ((fail_if_success with_reducible refine hK _ ?_ ?_ ?_); clear hK K)); with_reducible refine hK _ ?_ ?_ ?_; rotate_left; (focus (simp only [go_sem]; exact rfl)); clear hK K) | exact aZ | fail))
    refine z1T (.one (.bool false)) (fun hg => ?_) (fun hg => ?_)
    ·simp at hg; omega
    ·have hz : ((s : Int) == 0) = false := by simpa using h0
     simp only [go_sem, hz]
     (repeat' (first | ((with_reducible refine aGo ?_); simp only [go_sem]) | ((iterate 6 try ((fail_if_success with_reducible refine hK _ ?_ ?_ ?_); clear hK K)); with_reducible refine hK _ ?_ ?_ ?_; rotate_left; (focus (simp only [go_sem]; exact rfl)); clear hK K) | fail))
 | succ r ih =>
  intro fac place s o hpl hl hf hs
  have hi10 := hn.init
  have hfx := hf.get (by omega) place
  have hat := z0s (l := fac) (k := place) (by omega)
  have hR : ∀ k : Nat, k < z6u s (fac.getD place 0) ↔ (k ≤ s ∧ fac.getD place 0 + k ≤ 16) := by intro k; unfold z6u; omega
  have eW : z1D (admF n u b) (r + 1) fac place s o = tryK (fun k o => z1D (admF n u b) r (fac.set place (fac.getD place 0 + k)) (place + 1) (s - k) o) 0 (z6u s (fac.getD place 0)) o := rfl
  generalize z1D (admF n u b) (r + 1) fac place s o = W at eW
  generalize z6u s (fac.getD place 0) = R at eW hR
  (refine MCalls.of_body Ty_ok mixed Tryz.func78 rfl (by kernel_rfl) Tryz.ntmps78 (by simp) (congrArg Array.toList Tryz.results78) (by simp) (by simp) ?_)
  simp only [z00, Net.d, Con.d]
  (repeat' (first | (with_reducible first | refine aBl ?_ | (refine aS 11 [] ?_; intro K hK)) | ((with_reducible refine aGo ?_); simp only [go_sem]) | ((with_reducible refine aCd ?_ ?_ (fun hb => ?_) (fun hb => ?_)); (iterate 2 simp only [go_sem]); all_goals (simp only [go_sem] at hb; try simp only [bls] at hb)) | ((iterate 6 try ((fail_if_success with_reducible refine hK _ ?_ ?_ ?_); clear hK K)); with_reducible refine hK _ ?_ ?_ ?_; rotate_left; (focus (simp only [go_sem]; exact rfl)); clear hK K) | exact aZ | fail))
  all_goals first | omega | skip
  refine z02 _ (by simp only [go_sem]; rfl) (Nat × Option (List Int)) (fun i => i.1 ≤ R ∧ tryK (fun k o => z1D (admF n u b) r (fac.set place (fac.getD place 0 + k)) (place + 1) (s - k) o) i.1 (R - i.1) i.2 = W) (fun i => [(9, .one (.int .i64 i.1))]) (fun i H => [.var 36 (oD b i.2), .var 32 [.list (ints n.init), .list (trsD n.trs)], .var 29 [.list (ints u)], .var 36 [.list (ints fac), .int .i64 b]]) (fun i => R - i.1) (0, o) ⟨by omega, eW.symm⟩ ?_ ?_
  ·(simp only [SubF, go_sem]; (try simp only [go_sem]); repeat' (first | exact True.intro | with_reducible refine And.intro ?_ ?_ | rfl | omega))
  ·rintro ⟨k, ok⟩ ⟨hk, hW⟩ L hL
   simp only at hk hW hL ⊢
   by_cases hlt : k < R
   ·have hkk := (hR k).1 hlt
    have ihk := ih (fac.set place (fac.getD place 0 + k)) (place + 1) (s - k) ok (by simp; omega) (by simp; omega) (hf.set _ _ (by omega)) (by omega)
    have c1 : ((place + 1 : Nat) : Int) = (place : Int) + 1 := by omega
    have c2 : ((s - k : Nat) : Int) = (s : Int) - k := by omega
    rw [c1, c2] at ihk
    simp only [Net.d, Con.d] at ihk
    obtain ⟨m, hm⟩ : ∃ m, R - k = m + 1 := ⟨R - k - 1, by omega⟩
    have hm' : R - (k + 1) = m := by omega
    rw [hm] at hW
    simp only [tryK] at hW
    generalize z1D (admF n u b) r (fac.set place (fac.getD place 0 + k)) (place + 1) (s - k) ok = Z at hW ihk
    obtain ⟨zb, zo⟩ := Z
    simp only at hW ihk
    (simp only [go_sem] at hL ⊢)
    (repeat' (first | (with_reducible first | refine And.intro ?_ ?_ | refine aBl ?_ | (refine aS 11 [] ?_; intro K hK)) | ((with_reducible first | refine aGo ?_ | refine rP Ty_ok mixed 6 [0, 3] [.mid [pe 1, ⟨2, 0, true, false, false, [], []⟩, ⟨4, 1, false, false, false, [0], []⟩, ⟨5, 1, false, false, false, [], []⟩, ⟨6, 1, true, false, false, [0], []⟩] 2, .one 7] ?_); simp only [hat, go_sem]) | ((with_reducible refine aCd ?_ ?_ (fun hb => ?_) (fun hb => ?_)); (iterate 2 simp only [hat, go_sem]); all_goals (simp only [hat, go_sem] at hb; try simp only [bls] at hb)) | ((iterate 6 try ((fail_if_success with_reducible refine hK _ ?_ ?_ ?_); clear hK K)); with_reducible refine hK _ ?_ ?_ ?_; rotate_left; (focus (simp only [hat, go_sem]; exact rfl)); clear hK K) | ((with_reducible refine cR (z10 _ (by omega)) ?_); simp only [hat, go_sem]) | exact aZ | fail))
    all_goals first | omega | skip
    (refine z0Z [4] [0, 1, 2] (ihk) ?_ ?_; (focus (simp only [mside, z2a, go_sem]; (first | done | exact (by decide) | exact ⟨by decide, fun t ht => ht.elim⟩ | (refine ⟨by decide, ?_⟩; simp; done)))); simp only [go_sem])
    cases zb with
    | true =>
     simp only [if_true] at hW
     subst hW
     (repeat' (first | (with_reducible (refine aS 11 [] ?_; intro K hK)) | ((with_reducible refine aGo ?_); simp only [go_sem]) | ((with_reducible refine aCd ?_ ?_ (fun hb => ?_) (fun hb => ?_)); (iterate 2 simp only [go_sem]); all_goals (simp only [go_sem] at hb; try simp only [bls] at hb)) | ((iterate 6 try ((fail_if_success with_reducible refine hK _ ?_ ?_ ?_); clear hK K)); with_reducible refine hK _ ?_ ?_ ?_; rotate_left; (focus (simp only [go_sem]; exact rfl)); clear hK K) | fail))
    | false =>
     simp only [Bool.false_eq_true, if_false] at hW
     rw [← hm'] at hW
     (repeat' (first | (with_reducible refine And.intro ?_ ?_) | ((with_reducible refine aGo ?_); simp only [go_sem]) | ((with_reducible refine aCd ?_ ?_ (fun hb => ?_) (fun hb => ?_)); (iterate 2 simp only [go_sem]); all_goals (simp only [go_sem] at hb; try simp only [bls] at hb)) | ((iterate 6 try ((fail_if_success with_reducible refine hK _ ?_ ?_ ?_); clear hK K)); with_reducible refine hK _ ?_ ?_ ?_; rotate_left; (focus (simp only [go_sem]; exact rfl)); clear hK K) | exact aZ | fail))
     exact hL _ (k + 1, zo) ⟨by omega, hW⟩ (by (simp only [SubF, go_sem]; (try simp only [go_sem]); repeat' (first | exact True.intro | with_reducible refine And.intro ?_ ?_ | rfl | omega))) (by omega)
   ·have hkk := mt (hR k).2 hlt
    obtain rfl : k = R := by omega
    rw [Nat.sub_self] at hW
    change (false, ok) = W at hW
    subst hW
    (simp only [go_sem] at hL ⊢)
    (repeat' (first | (with_reducible first | refine And.intro ?_ ?_ | refine aBl ?_ | (refine aS 11 [] ?_; intro K hK)) | ((with_reducible first | refine aGo ?_ | refine rP Ty_ok mixed 6 [0, 3] [.mid [pe 1, ⟨2, 0, true, false, false, [], []⟩, ⟨4, 1, false, false, false, [0], []⟩, ⟨5, 1, false, false, false, [], []⟩, ⟨6, 1, true, false, false, [0], []⟩] 2, .one 7] ?_); simp only [go_sem]) | ((with_reducible refine aCd ?_ ?_ (fun hb => ?_) (fun hb => ?_)); (iterate 2 simp only [go_sem]); all_goals (simp only [go_sem] at hb; try simp only [bls] at hb)) | ((iterate 6 try ((fail_if_success with_reducible refine hK _ ?_ ?_ ?_); clear hK K)); with_reducible refine hK _ ?_ ?_ ?_; rotate_left; (focus (simp only [go_sem]; exact rfl)); clear hK K) | exact aZ | fail))
    all_goals first | omega | rfl | skip
end Go.Proofs.YtkjllcmpjghmkaaGreatDoor
set_option linter.unusedSimpArgs false
set_option linter.unusedVariables false
namespace Go.Proofs.YtkjllcmpjghmkaaGreatDoor
open Go.Eng Go.RowKit
def z3f {α : Type} (step : Nat → Option α) : Nat → Nat → Option α
 | _, 0 => none
 | k, r + 1 => match step k with | some a => some a | none => z3f step (k + 1) r
def z3e (adm : List Int → Bool) : Nat → List Int → Nat → Nat → Option (List Int)
 | 0, fac, _, s => if s = 0 then (if adm fac = true then some fac else none) else none
 | r + 1, fac, place, s => z3f (fun k => z3e adm r (fac.set place (fac.getD place 0 + k)) (place + 1) (s - k)) 0 (z6u s (fac.getD place 0))
theorem z4I {step : Nat → Option (List Int) → Bool × Option (List Int)} {fnd : Nat → Option (List Int)} (h : ∀ k o, (step k o).1 = (fnd k).isSome ∧ ∀ f, fnd k = some f → (step k o).2 = some f) :
  ∀ (r k : Nat) (o : Option (List Int)), (tryK step k r o).1 = (z3f fnd k r).isSome ∧ ∀ f, z3f fnd k r = some f → (tryK step k r o).2 = some f
 | 0, k, o => ⟨rfl, fun f h => by cases h⟩
 | r + 1, k, o => by
  have hk := h k o
  simp only [tryK, z3f]
  cases hf : fnd k with
  | some f =>
   rw [hf] at hk
   rw [if_pos (by rw [hk.1]; rfl)]
   exact ⟨rfl, fun g hg => by cases hg; exact hk.2 _ rfl⟩
  | none =>
   rw [hf] at hk
   rw [if_neg (by rw [hk.1]; decide)]
   exact z4I h r (k + 1) _
theorem z5o (adm : List Int → Bool) : ∀ (r : Nat) (fac : List Int) (place s : Nat) (o : Option (List Int)), (z1D adm r fac place s o).1 = (z3e adm r fac place s).isSome ∧ ∀ f, z3e adm r fac place s = some f → (z1D adm r fac place s o).2 = some f
 | 0, fac, place, s, o => by
  simp only [z1D, z3e]
  by_cases h : s = 0
  ·by_cases ha : adm fac = true
   ·simp [h, ha]
   ·simp [h, ha]
  ·simp [h]
 | r + 1, fac, place, s, o => z4I (step := fun k o => z1D adm r (fac.set place (fac.getD place 0 + k)) (place + 1) (s - k) o) (fnd := fun k => z3e adm r (fac.set place (fac.getD place 0 + k)) (place + 1) (s - k)) (fun k o => z5o adm r _ _ _ o) _ _ o
theorem z3Y {α : Type} {step : Nat → Option α} : ∀ {r k : Nat} {a : α}, z3f step k r = some a → ∃ j, step j = some a
 | 0, _, _, h => by cases h
 | r + 1, k, a, h => by
  simp only [z3f] at h
  cases hs : step k with
  | some b => rw [hs] at h; exact ⟨k, by rw [hs]; exact h⟩
  | none => rw [hs] at h; exact z3Y h
theorem z2M (adm : List Int → Bool) : ∀ (r : Nat) (fac : List Int) (place s : Nat) (f : List Int), z3e adm r fac place s = some f → f.length = fac.length
 | 0, fac, place, s, f, h => by
  simp only [z3e] at h
  split at h
  ·split at h
   ·cases h; rfl
   ·cases h
  ·cases h
 | r + 1, fac, place, s, f, h => by
  obtain ⟨j, hj⟩ := z3Y h
  simpa using z2M adm r _ _ _ f hj
def trF (n : Net) (c : Con) (u : List Int) : Option (List Int) := z3f (fun s => z3e (admF n u c.bound) c.fac.length c.fac 0 s) 0 9
def Con.zero : Con := ⟨[], 0⟩
def trC (n : Net) (c : Con) (u : List Int) : Con := if chkE n c u = 0 then (match trF n c u with | some f => ⟨f, c.bound⟩ | none => Con.zero) else Con.zero
def trE' (n : Net) (c : Con) (u : List Int) : Int := if chkE n c u = 0 then (if (trF n c u).isSome = true then 0 else 21) else chkE n c u
set_option maxHeartbeats 16000000 in
theorem z7t (n : Net) (c : Con) (u : List Int) (hn : n.Fits) (hc : c.fac.length ≤ 1000000) (hul : u.length ≤ 1000000) :
  ACalls Tryz.prog 45 [.agg n.d, .agg c.d, .one (.list (ints u))] (.tup [.agg (trC n c u).d, .one (.int .i64 (trE' n c u))]) [] := by
 have h1 := z82 n c u hn hc hul
 simp only [Net.d, Con.d] at h1
 by_cases h0 : chkE n c u = 0
 ·obtain ⟨q1, q2⟩ := zi9 h0
  obtain ⟨r1, r2, r3, r4, r5⟩ := z1v q1
  have hno := z0K r1
  have eW := z5o (admF n u c.bound) c.fac.length c.fac 0
  obtain ⟨w1, w2⟩ := z4I (step := fun s o => z1D (admF n u c.bound) c.fac.length c.fac 0 s o) (fun k o => eW k o) 9 0 none
  have eT : trF n c u = z3f (fun s => z3e (admF n u c.bound) c.fac.length c.fac 0 s) 0 9 := rfl
  rw [← eT] at w1 w2
  have hlen : ∀ f, trF n c u = some f → f.length = c.fac.length := fun f hf => by
   obtain ⟨j, hj⟩ := z3Y hf
   exact z2M _ _ _ _ _ _ hj
  generalize hWW : tryK (fun s o => z1D (admF n u c.bound) c.fac.length c.fac 0 s o) 0 9 none = W at w1 w2
  rw [trC, trE', if_pos h0, if_pos h0]
  rw [h0] at h1
  generalize trF n c u = t at *
  (refine ACalls.of_body Ty_ok mixed Tryz.func45 rfl (by kernel_rfl) Tryz.ntmps45 (by simp) (congrArg Array.toList Tryz.results45) ?_)
  simp only [z00, Net.d, Con.d]
  (repeat' (first | (with_reducible first | refine aBl ?_ | (refine aS 11 [19] ?_; intro K hK)) | ((with_reducible refine aGo ?_); simp only [go_sem]) | ((with_reducible refine aCd ?_ ?_ (fun hb => ?_) (fun hb => ?_)); (iterate 2 simp only [go_sem]); all_goals (simp only [go_sem] at hb; try simp only [bls] at hb)) | ((iterate 6 try ((fail_if_success with_reducible refine hK _ ?_ ?_ ?_); clear hK K)); with_reducible refine hK _ ?_ ?_ ?_; rotate_left; (focus (simp only [go_sem]; exact rfl)); clear hK K) | ((with_reducible refine xA ?_); simp only [go_sem]) | fail))
  all_goals first | omega | skip
  refine z02 _ (by simp only [go_sem]; rfl) (Nat × Option (List Int)) (fun i => i.1 ≤ 9 ∧ tryK (fun s o => z1D (admF n u c.bound) c.fac.length c.fac 0 s o) i.1 (9 - i.1) i.2 = W) (fun i => [(19, .one (.int .i64 i.1))]) (fun i H => [.var 32 [.list (ints n.init), .list (trsD n.trs)], .var 36 [.list (ints c.fac), .int .i64 c.bound], .var 29 [.list (ints u)], .var 36 [.nil, .int .i64 0], .var 36 (oD c.bound i.2)]) (fun i => 9 - i.1) (0, none) ⟨by omega, hWW⟩ ?_ ?_
  ·(simp only [SubF, go_sem]; (try simp only [go_sem]); repeat' (first | exact True.intro | with_reducible refine And.intro ?_ ?_ | rfl | omega))
  ·rintro ⟨k, ok⟩ ⟨hk, hW⟩ L hL
   simp only at hk hW hL ⊢
   by_cases hlt : k < 9
   ·have h2 := zix n u c.bound hno q2 hul c.fac.length c.fac 0 k ok (by omega) r2 r3 (by omega)
    have c0 : ((0 : Nat) : Int) = 0 := rfl
    rw [c0] at h2
    simp only [Net.d, Con.d] at h2
    obtain ⟨m, hm⟩ : ∃ m, 9 - k = m + 1 := ⟨9 - k - 1, by omega⟩
    have hm' : 9 - (k + 1) = m := by omega
    rw [hm] at hW
    simp only [tryK] at hW
    have hf1 := eW k ok
    generalize z1D (admF n u c.bound) c.fac.length c.fac 0 k ok = Z at hW h2 hf1
    obtain ⟨zb, zo⟩ := Z
    simp only at hW h2
    (simp only [go_sem] at hL ⊢)
    (repeat' (first | (with_reducible first | refine And.intro ?_ ?_ | refine aBl ?_ | (refine aS 11 [19] ?_; intro K hK)) | ((with_reducible refine aGo ?_); simp only [go_sem]) | ((with_reducible refine aCd ?_ ?_ (fun hb => ?_) (fun hb => ?_)); (iterate 2 simp only [go_sem]); all_goals (simp only [go_sem] at hb; try simp only [bls] at hb)) | ((iterate 6 try ((fail_if_success with_reducible refine hK _ ?_ ?_ ?_); clear hK K)); with_reducible refine hK _ ?_ ?_ ?_; rotate_left; (focus (simp only [go_sem]; exact rfl)); clear hK K) | exact aZ | fail))
    all_goals first | omega | skip
    (refine z0Z [] [4, 0, 2] (h2) ?_ ?_; (focus (simp only [mside, z2a, go_sem]; (first | done | exact (by decide) | exact ⟨by decide, fun t ht => ht.elim⟩ | (refine ⟨by decide, ?_⟩; simp; done)))); simp only [go_sem])
    cases zb with
    | true =>
     simp only [if_true] at hW
     subst hW
     simp only at w1 w2
     cases t with
     | none => cases w1
     | some f =>
      have := w2 f rfl
      subst this
      have hfl := hlen f rfl
      simp only [oD]
      (repeat' (first | (with_reducible (refine aS 11 [19] ?_; intro K hK)) | ((with_reducible first | refine aGo ?_ | refine rP Ty_ok mixed 9 [0, 3] [.mid [pe 1, ⟨2, 0, true, false, false, [], []⟩, ⟨4, 1, false, false, false, [0], []⟩, ⟨5, 1, false, false, false, [], []⟩] 1, .one 6, .one 7] ?_); simp only [go_sem]) | ((with_reducible refine aCd ?_ ?_ (fun hb => ?_) (fun hb => ?_)); (iterate 2 simp only [go_sem]); all_goals (simp only [go_sem] at hb; try simp only [bls] at hb)) | ((iterate 6 try ((fail_if_success with_reducible refine hK _ ?_ ?_ ?_); clear hK K)); with_reducible refine hK _ ?_ ?_ ?_; rotate_left; (focus (simp only [go_sem]; exact rfl)); clear hK K) | ((with_reducible refine cR (z10 _ (by omega)) ?_); simp only [go_sem]) | fail))
      all_goals first | omega | rfl | skip
    | false =>
     simp only [Bool.false_eq_true, if_false] at hW
     rw [← hm'] at hW
     (repeat' (first | (with_reducible refine And.intro ?_ ?_) | ((with_reducible refine aGo ?_); simp only [go_sem]) | ((with_reducible refine aCd ?_ ?_ (fun hb => ?_) (fun hb => ?_)); (iterate 2 simp only [go_sem]); all_goals (simp only [go_sem] at hb; try simp only [bls] at hb)) | ((iterate 6 try ((fail_if_success with_reducible refine hK _ ?_ ?_ ?_); clear hK K)); with_reducible refine hK _ ?_ ?_ ?_; rotate_left; (focus (simp only [go_sem]; exact rfl)); clear hK K) | exact aZ | fail))
     exact hL _ (k + 1, zo) ⟨by omega, hW⟩ (by (simp only [SubF, go_sem]; (try simp only [go_sem]); repeat' (first | exact True.intro | with_reducible refine And.intro ?_ ?_ | rfl | omega))) (by omega)
   ·obtain rfl : k = 9 := by omega
    change (false, ok) = W at hW
    subst hW
    cases t with
    | some f => cases w1
    | none =>
     (simp only [go_sem] at hL ⊢)
     (repeat' (first | (with_reducible first | refine And.intro ?_ ?_ | (refine aS 11 [19] ?_; intro K hK)) | ((with_reducible refine aGo ?_); simp only [go_sem]) | ((with_reducible refine aCd ?_ ?_ (fun hb => ?_) (fun hb => ?_)); (iterate 2 simp only [go_sem]); all_goals (simp only [go_sem] at hb; try simp only [bls] at hb)) | ((iterate 6 try ((fail_if_success with_reducible refine hK _ ?_ ?_ ?_); clear hK K)); with_reducible refine hK _ ?_ ?_ ?_; rotate_left; (focus (simp only [go_sem]; exact rfl)); clear hK K) | fail))
     all_goals first | omega | rfl | skip
 ·(refine ACalls.of_body Ty_ok mixed Tryz.func45 rfl (by kernel_rfl) Tryz.ntmps45 (by simp) (congrArg Array.toList Tryz.results45) ?_)
  rw [trC, trE', if_neg h0, if_neg h0]
  simp only [z00, Net.d, Con.d, Con.zero]
  (repeat' (first | (with_reducible first | refine aBl ?_ | (refine aS 11 [19] ?_; intro K hK)) | ((with_reducible refine aGo ?_); simp only [go_sem]) | ((with_reducible refine aCd ?_ ?_ (fun hb => ?_) (fun hb => ?_)); (iterate 2 simp only [go_sem]); all_goals (simp only [go_sem] at hb; try simp only [bls] at hb)) | ((iterate 6 try ((fail_if_success with_reducible refine hK _ ?_ ?_ ?_); clear hK K)); with_reducible refine hK _ ?_ ?_ ?_; rotate_left; (focus (simp only [go_sem]; exact rfl)); clear hK K) | ((with_reducible refine xA ?_); simp only [go_sem]) | exact aZ | fail))
  all_goals first | omega | rfl | skip
end Go.Proofs.YtkjllcmpjghmkaaGreatDoor
