/-
 Contracts: Transform.
-/
import Derived.Test.YtgbhmieaoaojoaaN8
set_option linter.unusedSimpArgs false
set_option linter.unusedVariables false
namespace Go.Proofs.Ytgbhmieaoaojoaa
open Go.Eng Go.RowKit
/-! what the search finds -/
def firstK {α : Type} (step : Nat → Option α) : Nat → Nat → Option α
 | _, 0 => none
 | k, r + 1 => match step k with | some a => some a | none => firstK step (k + 1) r
def foundF (adm : List Int → Bool) : Nat → List Int → Nat → Nat → Option (List Int)
 | 0, fac, _, s => if s = 0 then (if adm fac = true then some fac else none) else none
 | r + 1, fac, place, s => firstK (fun k => foundF adm r (fac.set place (fac.getD place 0 + k)) (place + 1) (s - k)) 0 (rounds s (fac.getD place 0))
theorem tryK_found {step : Nat → Option (List Int) → Bool × Option (List Int)} {fnd : Nat → Option (List Int)} (h : ∀ k o, (step k o).1 = (fnd k).isSome ∧ ∀ f, fnd k = some f → (step k o).2 = some f) :
  ∀ (r k : Nat) (o : Option (List Int)), (tryK step k r o).1 = (firstK fnd k r).isSome ∧ ∀ f, firstK fnd k r = some f → (tryK step k r o).2 = some f
 | 0, k, o => ⟨rfl, fun f h => by cases h⟩
 | r + 1, k, o => by
  have hk := h k o
  simp only [tryK, firstK]
  cases hf : fnd k with
  | some f =>
   rw [hf] at hk
   rw [if_pos (by rw [hk.1]; rfl)]
   exact ⟨rfl, fun g hg => by cases hg; exact hk.2 _ rfl⟩
  | none =>
   rw [hf] at hk
   rw [if_neg (by rw [hk.1]; decide)]
   exact tryK_found h r (k + 1) _
theorem raiseF_found (adm : List Int → Bool) : ∀ (r : Nat) (fac : List Int) (place s : Nat) (o : Option (List Int)), (raiseF adm r fac place s o).1 = (foundF adm r fac place s).isSome ∧ ∀ f, foundF adm r fac place s = some f → (raiseF adm r fac place s o).2 = some f
 | 0, fac, place, s, o => by
  simp only [raiseF, foundF]
  by_cases h : s = 0
  ·by_cases ha : adm fac = true
   ·simp [h, ha]
   ·simp [h, ha]
  ·simp [h]
 | r + 1, fac, place, s, o => tryK_found (step := fun k o => raiseF adm r (fac.set place (fac.getD place 0 + k)) (place + 1) (s - k) o) (fnd := fun k => foundF adm r (fac.set place (fac.getD place 0 + k)) (place + 1) (s - k)) (fun k o => raiseF_found adm r _ _ _ o) _ _ o
theorem firstK_some {α : Type} {step : Nat → Option α} : ∀ {r k : Nat} {a : α}, firstK step k r = some a → ∃ j, step j = some a
 | 0, _, _, h => by cases h
 | r + 1, k, a, h => by
  simp only [firstK] at h
  cases hs : step k with
  | some b => rw [hs] at h; exact ⟨k, by rw [hs]; exact h⟩
  | none => rw [hs] at h; exact firstK_some h
theorem foundF_length (adm : List Int → Bool) : ∀ (r : Nat) (fac : List Int) (place s : Nat) (f : List Int), foundF adm r fac place s = some f → f.length = fac.length
 | 0, fac, place, s, f, h => by
  simp only [foundF] at h
  split at h
  ·split at h
   ·cases h; rfl
   ·cases h
  ·cases h
 | r + 1, fac, place, s, f, h => by
  obtain ⟨j, hj⟩ := firstK_some h
  simpa using foundF_length adm r _ _ _ f hj
def trF (n : Net) (c : Con) (u : List Int) : Option (List Int) := firstK (fun s => foundF (admF n u c.bound) c.fac.length c.fac 0 s) 0 9
def Con.zero : Con := ⟨[], 0⟩
def trC (n : Net) (c : Con) (u : List Int) : Con := if chkE n c u = 0 then (match trF n c u with | some f => ⟨f, c.bound⟩ | none => Con.zero) else Con.zero
def trE' (n : Net) (c : Con) (u : List Int) : Int := if chkE n c u = 0 then (if (trF n c u).isSome = true then 0 else 21) else chkE n c u
set_option maxHeartbeats 16000000 in
theorem Transform_c (n : Net) (c : Con) (u : List Int) (hn : n.Fits) (hc : c.fac.length ≤ 1000000) (hul : u.length ≤ 1000000) :
  ACalls Try.prog 14 [.agg n.d, .agg c.d, .one (.list (ints u))] (.tup [.agg (trC n c u).d, .one (.int .i64 (trE' n c u))]) [] := by
 have h1 := monCheck_c n c u hn hc hul
 simp only [Net.d, Con.d] at h1
 by_cases h0 : chkE n c u = 0
 ·obtain ⟨q1, q2⟩ := chk_ok h0
  obtain ⟨r1, r2, r3, r4, r5⟩ := conOk_of q1
  have hno := netOk_of r1
  have eW := raiseF_found (admF n u c.bound) c.fac.length c.fac 0
  obtain ⟨w1, w2⟩ := tryK_found (step := fun s o => raiseF (admF n u c.bound) c.fac.length c.fac 0 s o) (fun k o => eW k o) 9 0 none
  have eT : trF n c u = firstK (fun s => foundF (admF n u c.bound) c.fac.length c.fac 0 s) 0 9 := rfl
  rw [← eT] at w1 w2
  have hlen : ∀ f, trF n c u = some f → f.length = c.fac.length := fun f hf => by
   obtain ⟨j, hj⟩ := firstK_some hf
   exact foundF_length _ _ _ _ _ _ hj
  generalize hWW : tryK (fun s o => raiseF (admF n u c.bound) c.fac.length c.fac 0 s o) 0 9 none = W at w1 w2
  rw [trC, trE', if_pos h0, if_pos h0]
  rw [h0] at h1
  generalize trF n c u = t at *
  (refine ACalls.of_body Ty_ok mixed Try.func14 rfl (by kernel_rfl) Try.ntmps14 (by simp) (congrArg Array.toList Try.results14) ?_)
  simp only [slotsOf, Net.d, Con.d]
  (repeat' (first | (with_reducible first | exact True.intro | refine And.intro ?_ ?_ | refine aBl ?_ | (refine aS 11 [19] ?_; intro K hK)) | ((with_reducible first | refine aGo ?_ | refine rP Ty_ok mixed 9 [0, 3] [.mid [pe 1, ⟨2, 0, true, false, false, [], []⟩, ⟨4, 1, false, false, false, [0], []⟩, ⟨5, 1, false, false, false, [], []⟩] 1, .one 6, .one 7] ?_); simp only [go_sem]) | ((with_reducible refine aCd ?_ ?_ (fun hb => ?_) (fun hb => ?_)); (iterate 2 simp only [go_sem]); all_goals (simp only [go_sem] at hb; try simp only [bls] at hb)) | ((iterate 6 try ((fail_if_success with_reducible refine hK _ ?_ ?_ ?_); clear hK K)); with_reducible refine hK _ ?_ ?_ ?_; rotate_left; (focus (simp only [go_sem]; exact rfl)); clear hK K) | ((first | (with_reducible first | refine xA ?_ | refine xD ?_ | refine xO ?_ | refine xR ?_ | refine xG ?_ | refine xH ?_ | refine xM ?_) | ((with_reducible refine gA ?_); refine xA ?_) | ((with_reducible refine gD ?_); refine xD ?_) | ((with_reducible refine gG ?_); refine xG ?_)); simp only [go_sem]) | (with_reducible refine aGs (fun hg0 => ?_) (fun hg0 => ?_) <;> first | (with_reducible first | exact aF1 hg0 | exact aF2 hg0) | (simp only [hg0, go_sem])) | (with_reducible refine aNk ?_; intro bnil hnil; try simp only []) | exact aZ | fail))
  all_goals first | omega | skip
  refine awp_loop _ (by simp only [go_sem]; rfl) (Nat × Option (List Int)) (fun i => i.1 ≤ 9 ∧ tryK (fun s o => raiseF (admF n u c.bound) c.fac.length c.fac 0 s o) i.1 (9 - i.1) i.2 = W) (fun i => [(19, .one (.int .i64 i.1))]) (fun i H => [.var 31 [.list (ints n.init), .list (trsD n.trs)], .var 35 [.list (ints c.fac), .int .i64 c.bound], .var 28 [.list (ints u)], .var 35 [.nil, .int .i64 0], .var 35 (oD c.bound i.2)]) (fun i => 9 - i.1) (0, none) ⟨by omega, hWW⟩ ?_ ?_
  ·(simp only [SubF, go_sem]; (try simp only [go_sem]); repeat' (first | exact True.intro | with_reducible refine And.intro ?_ ?_ | rfl | omega))
  ·rintro ⟨k, ok⟩ ⟨hk, hW⟩ L hL
   simp only at hk hW hL ⊢
   by_cases hlt : k < 9
   ·have h2 := raise_c n u c.bound hno q2 hul c.fac.length c.fac 0 k ok (by omega) r2 r3 (by omega)
    have c0 : ((0 : Nat) : Int) = 0 := rfl
    rw [c0] at h2
    simp only [Net.d, Con.d] at h2
    obtain ⟨m, hm⟩ : ∃ m, 9 - k = m + 1 := ⟨9 - k - 1, by omega⟩
    have hm' : 9 - (k + 1) = m := by omega
    rw [hm] at hW
    simp only [tryK] at hW
    have hf1 := eW k ok
    generalize raiseF (admF n u c.bound) c.fac.length c.fac 0 k ok = Z at hW h2 hf1
    obtain ⟨zb, zo⟩ := Z
    simp only at hW h2
    (simp only [go_sem] at hL ⊢)
    (repeat' (first | (with_reducible first | exact True.intro | refine And.intro ?_ ?_ | refine aBl ?_ | (refine aS 11 [19] ?_; intro K hK)) | ((with_reducible first | refine aGo ?_ | refine rP Ty_ok mixed 9 [0, 3] [.mid [pe 1, ⟨2, 0, true, false, false, [], []⟩, ⟨4, 1, false, false, false, [0], []⟩, ⟨5, 1, false, false, false, [], []⟩] 1, .one 6, .one 7] ?_); simp only [go_sem]) | ((with_reducible refine aCd ?_ ?_ (fun hb => ?_) (fun hb => ?_)); (iterate 2 simp only [go_sem]); all_goals (simp only [go_sem] at hb; try simp only [bls] at hb)) | ((iterate 6 try ((fail_if_success with_reducible refine hK _ ?_ ?_ ?_); clear hK K)); with_reducible refine hK _ ?_ ?_ ?_; rotate_left; (focus (simp only [go_sem]; exact rfl)); clear hK K) | (with_reducible refine aGs (fun hg0 => ?_) (fun hg0 => ?_) <;> first | (with_reducible first | exact aF1 hg0 | exact aF2 hg0) | (simp only [hg0, go_sem])) | (with_reducible refine aNk ?_; intro bnil hnil; try simp only []) | exact aZ | fail))
    all_goals first | omega | skip
    (refine MCallAt_i [] [4, 0, 2] (h2) ?_ ?_; (focus (simp only [mside, handOk, go_sem]; (first | done | exact (by decide) | exact ⟨by decide, fun t ht => ht.elim⟩ | (refine ⟨by decide, ?_⟩; simp; done)))); simp only [go_sem])
    cases zb with
    | true =>
     simp only [if_true] at hW
     subst hW
     simp only at w1 w2
     cases t with
     | none => cases w1
     | some f =>
      have := w2 f rfl
      subst this
      have hfl := hlen f rfl
      simp only [oD]
      (repeat' (first | (with_reducible first | exact True.intro | refine And.intro ?_ ?_ | refine aBl ?_ | (refine aS 11 [19] ?_; intro K hK)) | ((with_reducible first | refine aGo ?_ | refine rP Ty_ok mixed 9 [0, 3] [.mid [pe 1, ⟨2, 0, true, false, false, [], []⟩, ⟨4, 1, false, false, false, [0], []⟩, ⟨5, 1, false, false, false, [], []⟩] 1, .one 6, .one 7] ?_); simp only [go_sem]) | ((with_reducible refine aCd ?_ ?_ (fun hb => ?_) (fun hb => ?_)); (iterate 2 simp only [go_sem]); all_goals (simp only [go_sem] at hb; try simp only [bls] at hb)) | ((iterate 6 try ((fail_if_success with_reducible refine hK _ ?_ ?_ ?_); clear hK K)); with_reducible refine hK _ ?_ ?_ ?_; rotate_left; (focus (simp only [go_sem]; exact rfl)); clear hK K) | ((first | (with_reducible first | refine cA (CloneInts_c _ (by omega)) ?_ | refine cD (CloneInts_c _ (by omega)) ?_ | refine cO (CloneInts_c _ (by omega)) ?_ | refine cR (CloneInts_c _ (by omega)) ?_ | refine cG (fun hg => (CloneInts_c _ (by omega))) ?_ | refine cH (fun hg => (CloneInts_c _ (by omega))) ?_ | refine cM (fun hg => (CloneInts_c _ (by omega))) ?_) | ((with_reducible refine gA ?_); refine cA (CloneInts_c _ (by omega)) ?_) | ((with_reducible refine gD ?_); refine cD (CloneInts_c _ (by omega)) ?_) | ((with_reducible refine gG ?_); refine cG (fun hg => (CloneInts_c _ (by omega))) ?_)); simp only [go_sem]) | (with_reducible refine aGs (fun hg0 => ?_) (fun hg0 => ?_) <;> first | (with_reducible first | exact aF1 hg0 | exact aF2 hg0) | (simp only [hg0, go_sem])) | (with_reducible refine aNk ?_; intro bnil hnil; try simp only []) | exact aZ | fail))
      all_goals first | omega | rfl | skip
    | false =>
     simp only [Bool.false_eq_true, if_false] at hW
     rw [← hm'] at hW
     (repeat' (first | (with_reducible first | exact True.intro | refine And.intro ?_ ?_ | refine aBl ?_ | (refine aS 11 [19] ?_; intro K hK)) | ((with_reducible first | refine aGo ?_ | refine rP Ty_ok mixed 9 [0, 3] [.mid [pe 1, ⟨2, 0, true, false, false, [], []⟩, ⟨4, 1, false, false, false, [0], []⟩, ⟨5, 1, false, false, false, [], []⟩] 1, .one 6, .one 7] ?_); simp only [go_sem]) | ((with_reducible refine aCd ?_ ?_ (fun hb => ?_) (fun hb => ?_)); (iterate 2 simp only [go_sem]); all_goals (simp only [go_sem] at hb; try simp only [bls] at hb)) | ((iterate 6 try ((fail_if_success with_reducible refine hK _ ?_ ?_ ?_); clear hK K)); with_reducible refine hK _ ?_ ?_ ?_; rotate_left; (focus (simp only [go_sem]; exact rfl)); clear hK K) | (with_reducible refine aGs (fun hg0 => ?_) (fun hg0 => ?_) <;> first | (with_reducible first | exact aF1 hg0 | exact aF2 hg0) | (simp only [hg0, go_sem])) | (with_reducible refine aNk ?_; intro bnil hnil; try simp only []) | exact aZ | fail))
     exact hL _ (k + 1, zo) ⟨by omega, hW⟩ (by (simp only [SubF, go_sem]; (try simp only [go_sem]); repeat' (first | exact True.intro | with_reducible refine And.intro ?_ ?_ | rfl | omega))) (by omega)
   ·obtain rfl : k = 9 := by omega
    change (false, ok) = W at hW
    subst hW
    cases t with
    | some f => cases w1
    | none =>
     (simp only [go_sem] at hL ⊢)
     (repeat' (first | (with_reducible first | exact True.intro | refine And.intro ?_ ?_ | refine aBl ?_ | (refine aS 11 [19] ?_; intro K hK)) | ((with_reducible first | refine aGo ?_ | refine rP Ty_ok mixed 9 [0, 3] [.mid [pe 1, ⟨2, 0, true, false, false, [], []⟩, ⟨4, 1, false, false, false, [0], []⟩, ⟨5, 1, false, false, false, [], []⟩] 1, .one 6, .one 7] ?_); simp only [go_sem]) | ((with_reducible refine aCd ?_ ?_ (fun hb => ?_) (fun hb => ?_)); (iterate 2 simp only [go_sem]); all_goals (simp only [go_sem] at hb; try simp only [bls] at hb)) | ((iterate 6 try ((fail_if_success with_reducible refine hK _ ?_ ?_ ?_); clear hK K)); with_reducible refine hK _ ?_ ?_ ?_; rotate_left; (focus (simp only [go_sem]; exact rfl)); clear hK K) | (with_reducible refine aGs (fun hg0 => ?_) (fun hg0 => ?_) <;> first | (with_reducible first | exact aF1 hg0 | exact aF2 hg0) | (simp only [hg0, go_sem])) | (with_reducible refine aNk ?_; intro bnil hnil; try simp only []) | exact aZ | fail))
     all_goals first | omega | rfl | skip
 ·(refine ACalls.of_body Ty_ok mixed Try.func14 rfl (by kernel_rfl) Try.ntmps14 (by simp) (congrArg Array.toList Try.results14) ?_)
  rw [trC, trE', if_neg h0, if_neg h0]
  simp only [slotsOf, Net.d, Con.d, Con.zero]
  (repeat' (first | (with_reducible first | exact True.intro | refine And.intro ?_ ?_ | refine aBl ?_ | (refine aS 11 [19] ?_; intro K hK)) | ((with_reducible first | refine aGo ?_ | refine rP Ty_ok mixed 9 [0, 3] [.mid [pe 1, ⟨2, 0, true, false, false, [], []⟩, ⟨4, 1, false, false, false, [0], []⟩, ⟨5, 1, false, false, false, [], []⟩] 1, .one 6, .one 7] ?_); simp only [go_sem]) | ((with_reducible refine aCd ?_ ?_ (fun hb => ?_) (fun hb => ?_)); (iterate 2 simp only [go_sem]); all_goals (simp only [go_sem] at hb; try simp only [bls] at hb)) | ((iterate 6 try ((fail_if_success with_reducible refine hK _ ?_ ?_ ?_); clear hK K)); with_reducible refine hK _ ?_ ?_ ?_; rotate_left; (focus (simp only [go_sem]; exact rfl)); clear hK K) | ((first | (with_reducible first | refine xA ?_ | refine xD ?_ | refine xO ?_ | refine xR ?_ | refine xG ?_ | refine xH ?_ | refine xM ?_) | ((with_reducible refine gA ?_); refine xA ?_) | ((with_reducible refine gD ?_); refine xD ?_) | ((with_reducible refine gG ?_); refine xG ?_)); simp only [go_sem]) | (with_reducible refine aGs (fun hg0 => ?_) (fun hg0 => ?_) <;> first | (with_reducible first | exact aF1 hg0 | exact aF2 hg0) | (simp only [hg0, go_sem])) | (with_reducible refine aNk ?_; intro bnil hnil; try simp only []) | exact aZ | fail))
  all_goals first | omega | rfl | skip
end Go.Proofs.Ytgbhmieaoaojoaa
