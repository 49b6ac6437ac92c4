/-
 Contracts: the search for a transform.
-/
import Derived.Test.YtgbhmieaoaojoaaN7
set_option linter.unusedSimpArgs false
set_option linter.unusedVariables false
namespace Go.Proofs.Ytgbhmieaoaojoaa
open Go.Eng Go.RowKit
def admF (n : Net) (u : List Int) (b : Int) (fac : List Int) : Bool := decide (raisingL n ⟨fac, b⟩ u < 0)
def oD (b : Int) : Option (List Int) → List D
 | none => [.nil, .int .i64 0]
 | some f => [.list (ints f), .int .i64 b]
theorem Transform1_c (n : Net) (fac : List Int) (b : Int) (u : List Int) (o : Option (List Int)) (hn : NetOk n) (hl : fac.length = n.init.length) (hf : Sm 16 fac) (hu : ∀ x ∈ u, 0 ≤ x ∧ x < n.trs.length) (hul : u.length ≤ 1000000) :
  MCalls Try.prog 35 3 [.var 35 (oD b o), .var 31 n.d, .var 28 [.list (ints u)]] [.agg (Con.d ⟨fac, b⟩), .one (.vp 0 0), .one (.vp 1 0), .one (.vp 2 0)] (.one (.bool (admF n u b fac)))
   [.var 35 (oD b (some fac)), .var 31 n.d, .var 28 [.list (ints u)]] := by
 have h1 := raising_c n ⟨fac, b⟩ u hn hl hf hu hul
 simp only [Net.d, Con.d] at h1
 cases o with
 | none =>
  (refine MCalls.of_body Ty_ok mixed Try.func35 rfl (by kernel_rfl) Try.ntmps35 (by simp) (congrArg Array.toList Try.results35) (by simp) (by simp) ?_)
  simp only [slotsOf, Net.d, Con.d, oD]
  (repeat' (first | (with_reducible first | exact True.intro | refine And.intro ?_ ?_ | refine aBl ?_ | (refine aS 6 [] ?_; intro K hK)) | ((with_reducible first | refine aGo ?_); simp only [go_sem]) | ((with_reducible refine aCd ?_ ?_ (fun hb => ?_) (fun hb => ?_)); (iterate 2 simp only [go_sem]); all_goals (simp only [go_sem] at hb; try simp only [bls] at hb)) | ((iterate 6 try ((fail_if_success with_reducible refine hK _ ?_ ?_ ?_); clear hK K)); with_reducible refine hK _ ?_ ?_ ?_; rotate_left; (focus (simp only [go_sem]; exact rfl)); clear hK K) | ((first | (with_reducible first | refine xA ?_ | refine xD ?_ | refine xO ?_ | refine xR ?_ | refine xG ?_ | refine xH ?_ | refine xM ?_) | ((with_reducible refine gA ?_); refine xA ?_) | ((with_reducible refine gD ?_); refine xD ?_) | ((with_reducible refine gG ?_); refine xG ?_)); simp only [go_sem]) | (with_reducible refine aGs (fun hg0 => ?_) (fun hg0 => ?_) <;> first | (with_reducible first | exact aF1 hg0 | exact aF2 hg0) | (simp only [hg0, go_sem])) | (with_reducible refine aNk ?_; intro bnil hnil; try simp only []) | exact aZ | fail))
  rfl
 | some f =>
  (refine MCalls.of_body Ty_ok mixed Try.func35 rfl (by kernel_rfl) Try.ntmps35 (by simp) (congrArg Array.toList Try.results35) (by simp) (by simp) ?_)
  simp only [slotsOf, Net.d, Con.d, oD]
  (repeat' (first | (with_reducible first | exact True.intro | refine And.intro ?_ ?_ | refine aBl ?_ | (refine aS 6 [] ?_; intro K hK)) | ((with_reducible first | refine aGo ?_); simp only [go_sem]) | ((with_reducible refine aCd ?_ ?_ (fun hb => ?_) (fun hb => ?_)); (iterate 2 simp only [go_sem]); all_goals (simp only [go_sem] at hb; try simp only [bls] at hb)) | ((iterate 6 try ((fail_if_success with_reducible refine hK _ ?_ ?_ ?_); clear hK K)); with_reducible refine hK _ ?_ ?_ ?_; rotate_left; (focus (simp only [go_sem]; exact rfl)); clear hK K) | ((first | (with_reducible first | refine xA ?_ | refine xD ?_ | refine xO ?_ | refine xR ?_ | refine xG ?_ | refine xH ?_ | refine xM ?_) | ((with_reducible refine gA ?_); refine xA ?_) | ((with_reducible refine gD ?_); refine xD ?_) | ((with_reducible refine gG ?_); refine xG ?_)); simp only [go_sem]) | (with_reducible refine aGs (fun hg0 => ?_) (fun hg0 => ?_) <;> first | (with_reducible first | exact aF1 hg0 | exact aF2 hg0) | (simp only [hg0, go_sem])) | (with_reducible refine aNk ?_; intro bnil hnil; try simp only []) | exact aZ | fail))
  rfl
theorem oD_fz (b : Int) (o : Option (List Int)) (t : Nat) (x : AObj) : (oD b o).map (D.fz t x) = oD b o := by cases o <;> rfl
theorem oD_tags (b : Int) (o : Option (List Int)) (m : Nat) : (oD b o).all (D.tagsLt m) = true := by cases o <;> rfl
theorem oD_none (b : Int) (o : Option (List Int)) : (oD b o).flatMap D.tags = [] := by cases o <;> rfl
theorem oD_ren (b : Int) (o : Option (List Int)) (g : Nat → Option Nat) : (oD b o).map (D.ren g) = oD b o := by cases o <;> rfl
attribute [go_sem] oD_fz oD_none oD_ren
attribute [go_sem high] oD_tags
/-! the search, in lexicographic order -/
def tryK (step : Nat → Option (List Int) → Bool × Option (List Int)) : Nat → Nat → Option (List Int) → Bool × Option (List Int)
 | _, 0, o => (false, o)
 | k, r + 1, o => if (step k o).1 = true then (true, (step k o).2) else tryK step (k + 1) r (step k o).2
def rounds (s : Nat) (x : Int) : Nat := min (s + 1) (17 - x).toNat
def raiseF (adm : List Int → Bool) : Nat → List Int → Nat → Nat → Option (List Int) → Bool × Option (List Int)
 | 0, fac, _, s, o => if s = 0 then (adm fac, some fac) else (false, o)
 | r + 1, fac, place, s, o => tryK (fun k o => raiseF adm r (fac.set place (fac.getD place 0 + k)) (place + 1) (s - k) o) 0 (rounds s (fac.getD place 0)) o
set_option maxHeartbeats 16000000 in
theorem raise_c (n : Net) (u : List Int) (b : Int) (hn : NetOk n) (hu : ∀ x ∈ u, 0 ≤ x ∧ x < n.trs.length) (hul : u.length ≤ 1000000) : ∀ (r : Nat) (fac : List Int) (place s : Nat) (o : Option (List Int)), place + r = fac.length → fac.length = n.init.length → Sm 16 fac → s ≤ 8 →
  MCalls Try.prog 34 3 [.var 35 (oD b o), .var 31 n.d, .var 28 [.list (ints u)]] [.agg (Con.d ⟨fac, b⟩), .one (.int .i64 place), .one (.int .i64 s), .one (.clo 35 [.vp 0 0, .vp 1 0, .vp 2 0])] (.one (.bool (raiseF (admF n u b) r fac place s o).1))
   [.var 35 (oD b (raiseF (admF n u b) r fac place s o).2), .var 31 n.d, .var 28 [.list (ints u)]] := by
 intro r
 induction r with
 | zero =>
  intro fac place s o hpl hl hf hs
  have h1 := Transform1_c n fac b u o hn hl hf hu hul
  simp only [Net.d, Con.d] at h1
  have e0 : raiseF (admF n u b) 0 fac place s o = if s = 0 then (admF n u b fac, some fac) else (false, o) := rfl
  cases o with
  | none =>
   simp only [oD] at h1
   by_cases h0 : s = 0
   ·subst h0
    (refine MCalls.of_body Ty_ok mixed Try.func34 rfl (by kernel_rfl) Try.ntmps34 (by simp) (congrArg Array.toList Try.results34) (by simp) (by simp) ?_)
    simp only [slotsOf, Net.d, Con.d, oD, e0, if_true]
    (repeat' (first | (with_reducible first | exact True.intro | refine And.intro ?_ ?_ | refine aBl ?_ | (refine aS 11 [] ?_; intro K hK)) | ((with_reducible first | refine aGo ?_ | refine rP Ty_ok mixed 6 [0, 3] [.mid [pe 1, ⟨2, 0, true, false, false, [], []⟩, ⟨4, 1, false, false, false, [0], []⟩, ⟨5, 1, false, false, false, [], []⟩, ⟨6, 1, true, false, false, [0], []⟩] 2, .one 7] ?_); simp only [go_sem]) | ((with_reducible refine aCd ?_ ?_ (fun hb => ?_) (fun hb => ?_)); (iterate 2 simp only [go_sem]); all_goals (simp only [go_sem] at hb; try simp only [bls] at hb)) | ((iterate 6 try ((fail_if_success with_reducible refine hK _ ?_ ?_ ?_); clear hK K)); with_reducible refine hK _ ?_ ?_ ?_; rotate_left; (focus (simp only [go_sem]; exact rfl)); clear hK K) | (with_reducible refine aGs (fun hg0 => ?_) (fun hg0 => ?_) <;> first | (with_reducible first | exact aF1 hg0 | exact aF2 hg0) | (simp only [hg0, go_sem])) | (with_reducible refine aNk ?_; intro bnil hnil; try simp only []) | exact aZ | fail))
    refine GCallAt_split (.one (.bool false)) (fun hg => ?_) (fun hg => ?_)
    ·(refine MCallAt_i [] [0, 1, 2] (h1) ?_ ?_; (focus (simp only [mside, handOk, go_sem]; (first | done | exact (by decide) | exact ⟨by decide, fun t ht => ht.elim⟩ | (refine ⟨by decide, ?_⟩; simp; done)))); simp only [go_sem])
     (repeat' (first | (with_reducible first | exact True.intro | refine And.intro ?_ ?_ | refine aBl ?_ | (refine aS 11 [] ?_; intro K hK)) | ((with_reducible first | refine aGo ?_ | refine rP Ty_ok mixed 6 [0, 3] [.mid [pe 1, ⟨2, 0, true, false, false, [], []⟩, ⟨4, 1, false, false, false, [0], []⟩, ⟨5, 1, false, false, false, [], []⟩, ⟨6, 1, true, false, false, [0], []⟩] 2, .one 7] ?_); simp only [go_sem]) | ((with_reducible refine aCd ?_ ?_ (fun hb => ?_) (fun hb => ?_)); (iterate 2 simp only [go_sem]); all_goals (simp only [go_sem] at hb; try simp only [bls] at hb)) | ((iterate 6 try ((fail_if_success with_reducible refine hK _ ?_ ?_ ?_); clear hK K)); with_reducible refine hK _ ?_ ?_ ?_; rotate_left; (focus (simp only [go_sem]; exact rfl)); clear hK K) | (with_reducible refine aGs (fun hg0 => ?_) (fun hg0 => ?_) <;> first | (with_reducible first | exact aF1 hg0 | exact aF2 hg0) | (simp only [hg0, go_sem])) | (with_reducible refine aNk ?_; intro bnil hnil; try simp only []) | exact aZ | fail))
    ·simp at hg
   ·(refine MCalls.of_body Ty_ok mixed Try.func34 rfl (by kernel_rfl) Try.ntmps34 (by simp) (congrArg Array.toList Try.results34) (by simp) (by simp) ?_)
    simp only [slotsOf, Net.d, Con.d, oD, e0, if_neg h0]
    (repeat' (first | (with_reducible first | exact True.intro | refine And.intro ?_ ?_ | refine aBl ?_ | (refine aS 11 [] ?_; intro K hK)) | ((with_reducible first | refine aGo ?_ | refine rP Ty_ok mixed 6 [0, 3] [.mid [pe 1, ⟨2, 0, true, false, false, [], []⟩, ⟨4, 1, false, false, false, [0], []⟩, ⟨5, 1, false, false, false, [], []⟩, ⟨6, 1, true, false, false, [0], []⟩] 2, .one 7] ?_); simp only [go_sem]) | ((with_reducible refine aCd ?_ ?_ (fun hb => ?_) (fun hb => ?_)); (iterate 2 simp only [go_sem]); all_goals (simp only [go_sem] at hb; try simp only [bls] at hb)) | ((iterate 6 try ((fail_if_success with_reducible refine hK _ ?_ ?_ ?_); clear hK K)); with_reducible refine hK _ ?_ ?_ ?_; rotate_left; (focus (simp only [go_sem]; exact rfl)); clear hK K) | (with_reducible refine aGs (fun hg0 => ?_) (fun hg0 => ?_) <;> first | (with_reducible first | exact aF1 hg0 | exact aF2 hg0) | (simp only [hg0, go_sem])) | (with_reducible refine aNk ?_; intro bnil hnil; try simp only []) | exact aZ | fail))
    refine GCallAt_split (.one (.bool false)) (fun hg => ?_) (fun hg => ?_)
    ·simp at hg; omega
    ·have hz : ((s : Int) == 0) = false := by simpa using h0
     simp only [go_sem, hz]
     (repeat' (first | (with_reducible first | exact True.intro | refine And.intro ?_ ?_ | refine aBl ?_ | (refine aS 11 [] ?_; intro K hK)) | ((with_reducible first | refine aGo ?_ | refine rP Ty_ok mixed 6 [0, 3] [.mid [pe 1, ⟨2, 0, true, false, false, [], []⟩, ⟨4, 1, false, false, false, [0], []⟩, ⟨5, 1, false, false, false, [], []⟩, ⟨6, 1, true, false, false, [0], []⟩] 2, .one 7] ?_); simp only [go_sem]) | ((with_reducible refine aCd ?_ ?_ (fun hb => ?_) (fun hb => ?_)); (iterate 2 simp only [go_sem]); all_goals (simp only [go_sem] at hb; try simp only [bls] at hb)) | ((iterate 6 try ((fail_if_success with_reducible refine hK _ ?_ ?_ ?_); clear hK K)); with_reducible refine hK _ ?_ ?_ ?_; rotate_left; (focus (simp only [go_sem]; exact rfl)); clear hK K) | (with_reducible refine aGs (fun hg0 => ?_) (fun hg0 => ?_) <;> first | (with_reducible first | exact aF1 hg0 | exact aF2 hg0) | (simp only [hg0, go_sem])) | (with_reducible refine aNk ?_; intro bnil hnil; try simp only []) | exact aZ | fail))
  | some f =>
   simp only [oD] at h1
   by_cases h0 : s = 0
   ·subst h0
    (refine MCalls.of_body Ty_ok mixed Try.func34 rfl (by kernel_rfl) Try.ntmps34 (by simp) (congrArg Array.toList Try.results34) (by simp) (by simp) ?_)
    simp only [slotsOf, Net.d, Con.d, oD, e0, if_true]
    (repeat' (first | (with_reducible first | exact True.intro | refine And.intro ?_ ?_ | refine aBl ?_ | (refine aS 11 [] ?_; intro K hK)) | ((with_reducible first | refine aGo ?_ | refine rP Ty_ok mixed 6 [0, 3] [.mid [pe 1, ⟨2, 0, true, false, false, [], []⟩, ⟨4, 1, false, false, false, [0], []⟩, ⟨5, 1, false, false, false, [], []⟩, ⟨6, 1, true, false, false, [0], []⟩] 2, .one 7] ?_); simp only [go_sem]) | ((with_reducible refine aCd ?_ ?_ (fun hb => ?_) (fun hb => ?_)); (iterate 2 simp only [go_sem]); all_goals (simp only [go_sem] at hb; try simp only [bls] at hb)) | ((iterate 6 try ((fail_if_success with_reducible refine hK _ ?_ ?_ ?_); clear hK K)); with_reducible refine hK _ ?_ ?_ ?_; rotate_left; (focus (simp only [go_sem]; exact rfl)); clear hK K) | (with_reducible refine aGs (fun hg0 => ?_) (fun hg0 => ?_) <;> first | (with_reducible first | exact aF1 hg0 | exact aF2 hg0) | (simp only [hg0, go_sem])) | (with_reducible refine aNk ?_; intro bnil hnil; try simp only []) | exact aZ | fail))
    refine GCallAt_split (.one (.bool false)) (fun hg => ?_) (fun hg => ?_)
    ·(refine MCallAt_i [] [0, 1, 2] (h1) ?_ ?_; (focus (simp only [mside, handOk, go_sem]; (first | done | exact (by decide) | exact ⟨by decide, fun t ht => ht.elim⟩ | (refine ⟨by decide, ?_⟩; simp; done)))); simp only [go_sem])
     (repeat' (first | (with_reducible first | exact True.intro | refine And.intro ?_ ?_ | refine aBl ?_ | (refine aS 11 [] ?_; intro K hK)) | ((with_reducible first | refine aGo ?_ | refine rP Ty_ok mixed 6 [0, 3] [.mid [pe 1, ⟨2, 0, true, false, false, [], []⟩, ⟨4, 1, false, false, false, [0], []⟩, ⟨5, 1, false, false, false, [], []⟩, ⟨6, 1, true, false, false, [0], []⟩] 2, .one 7] ?_); simp only [go_sem]) | ((with_reducible refine aCd ?_ ?_ (fun hb => ?_) (fun hb => ?_)); (iterate 2 simp only [go_sem]); all_goals (simp only [go_sem] at hb; try simp only [bls] at hb)) | ((iterate 6 try ((fail_if_success with_reducible refine hK _ ?_ ?_ ?_); clear hK K)); with_reducible refine hK _ ?_ ?_ ?_; rotate_left; (focus (simp only [go_sem]; exact rfl)); clear hK K) | (with_reducible refine aGs (fun hg0 => ?_) (fun hg0 => ?_) <;> first | (with_reducible first | exact aF1 hg0 | exact aF2 hg0) | (simp only [hg0, go_sem])) | (with_reducible refine aNk ?_; intro bnil hnil; try simp only []) | exact aZ | fail))
    ·simp at hg
   ·(refine MCalls.of_body Ty_ok mixed Try.func34 rfl (by kernel_rfl) Try.ntmps34 (by simp) (congrArg Array.toList Try.results34) (by simp) (by simp) ?_)
    simp only [slotsOf, Net.d, Con.d, oD, e0, if_neg h0]
    (repeat' (first | (with_reducible first | exact True.intro | refine And.intro ?_ ?_ | refine aBl ?_ | (refine aS 11 [] ?_; intro K hK)) | ((with_reducible first | refine aGo ?_ | refine rP Ty_ok mixed 6 [0, 3] [.mid [pe 1, ⟨2, 0, true, false, false, [], []⟩, ⟨4, 1, false, false, false, [0], []⟩, ⟨5, 1, false, false, false, [], []⟩, ⟨6, 1, true, false, false, [0], []⟩] 2, .one 7] ?_); simp only [go_sem]) | ((with_reducible refine aCd ?_ ?_ (fun hb => ?_) (fun hb => ?_)); (iterate 2 simp only [go_sem]); all_goals (simp only [go_sem] at hb; try simp only [bls] at hb)) | ((iterate 6 try ((fail_if_success with_reducible refine hK _ ?_ ?_ ?_); clear hK K)); with_reducible refine hK _ ?_ ?_ ?_; rotate_left; (focus (simp only [go_sem]; exact rfl)); clear hK K) | (with_reducible refine aGs (fun hg0 => ?_) (fun hg0 => ?_) <;> first | (with_reducible first | exact aF1 hg0 | exact aF2 hg0) | (simp only [hg0, go_sem])) | (with_reducible refine aNk ?_; intro bnil hnil; try simp only []) | exact aZ | fail))
    refine GCallAt_split (.one (.bool false)) (fun hg => ?_) (fun hg => ?_)
    ·simp at hg; omega
    ·have hz : ((s : Int) == 0) = false := by simpa using h0
     simp only [go_sem, hz]
     (repeat' (first | (with_reducible first | exact True.intro | refine And.intro ?_ ?_ | refine aBl ?_ | (refine aS 11 [] ?_; intro K hK)) | ((with_reducible first | refine aGo ?_ | refine rP Ty_ok mixed 6 [0, 3] [.mid [pe 1, ⟨2, 0, true, false, false, [], []⟩, ⟨4, 1, false, false, false, [0], []⟩, ⟨5, 1, false, false, false, [], []⟩, ⟨6, 1, true, false, false, [0], []⟩] 2, .one 7] ?_); simp only [go_sem]) | ((with_reducible refine aCd ?_ ?_ (fun hb => ?_) (fun hb => ?_)); (iterate 2 simp only [go_sem]); all_goals (simp only [go_sem] at hb; try simp only [bls] at hb)) | ((iterate 6 try ((fail_if_success with_reducible refine hK _ ?_ ?_ ?_); clear hK K)); with_reducible refine hK _ ?_ ?_ ?_; rotate_left; (focus (simp only [go_sem]; exact rfl)); clear hK K) | (with_reducible refine aGs (fun hg0 => ?_) (fun hg0 => ?_) <;> first | (with_reducible first | exact aF1 hg0 | exact aF2 hg0) | (simp only [hg0, go_sem])) | (with_reducible refine aNk ?_; intro bnil hnil; try simp only []) | exact aZ | fail))
 | succ r ih =>
  intro fac place s o hpl hl hf hs
  have hi10 := hn.init
  have hfx := hf.get (by omega) place
  have hat := ints_at (l := fac) (k := place) (by omega)
  have hR : ∀ k : Nat, k < rounds s (fac.getD place 0) ↔ (k ≤ s ∧ fac.getD place 0 + k ≤ 16) := by intro k; unfold rounds; omega
  have eW : raiseF (admF n u b) (r + 1) fac place s o = tryK (fun k o => raiseF (admF n u b) r (fac.set place (fac.getD place 0 + k)) (place + 1) (s - k) o) 0 (rounds s (fac.getD place 0)) o := rfl
  generalize raiseF (admF n u b) (r + 1) fac place s o = W at eW
  generalize rounds s (fac.getD place 0) = R at eW hR
  (refine MCalls.of_body Ty_ok mixed Try.func34 rfl (by kernel_rfl) Try.ntmps34 (by simp) (congrArg Array.toList Try.results34) (by simp) (by simp) ?_)
  simp only [slotsOf, Net.d, Con.d]
  (repeat' (first | (with_reducible first | exact True.intro | refine And.intro ?_ ?_ | refine aBl ?_ | (refine aS 11 [] ?_; intro K hK)) | ((with_reducible first | refine aGo ?_ | refine rP Ty_ok mixed 6 [0, 3] [.mid [pe 1, ⟨2, 0, true, false, false, [], []⟩, ⟨4, 1, false, false, false, [0], []⟩, ⟨5, 1, false, false, false, [], []⟩, ⟨6, 1, true, false, false, [0], []⟩] 2, .one 7] ?_); simp only [go_sem]) | ((with_reducible refine aCd ?_ ?_ (fun hb => ?_) (fun hb => ?_)); (iterate 2 simp only [go_sem]); all_goals (simp only [go_sem] at hb; try simp only [bls] at hb)) | ((iterate 6 try ((fail_if_success with_reducible refine hK _ ?_ ?_ ?_); clear hK K)); with_reducible refine hK _ ?_ ?_ ?_; rotate_left; (focus (simp only [go_sem]; exact rfl)); clear hK K) | (with_reducible refine aGs (fun hg0 => ?_) (fun hg0 => ?_) <;> first | (with_reducible first | exact aF1 hg0 | exact aF2 hg0) | (simp only [hg0, go_sem])) | (with_reducible refine aNk ?_; intro bnil hnil; try simp only []) | exact aZ | fail))
  all_goals first | omega | skip
  refine awp_loop _ (by simp only [go_sem]; rfl) (Nat × Option (List Int)) (fun i => i.1 ≤ R ∧ tryK (fun k o => raiseF (admF n u b) r (fac.set place (fac.getD place 0 + k)) (place + 1) (s - k) o) i.1 (R - i.1) i.2 = W) (fun i => [(9, .one (.int .i64 i.1))]) (fun i H => [.var 35 (oD b i.2), .var 31 [.list (ints n.init), .list (trsD n.trs)], .var 28 [.list (ints u)], .var 35 [.list (ints fac), .int .i64 b]]) (fun i => R - i.1) (0, o) ⟨by omega, eW.symm⟩ ?_ ?_
  ·(simp only [SubF, go_sem]; (try simp only [go_sem]); repeat' (first | exact True.intro | with_reducible refine And.intro ?_ ?_ | rfl | omega))
  ·rintro ⟨k, ok⟩ ⟨hk, hW⟩ L hL
   simp only at hk hW hL ⊢
   by_cases hlt : k < R
   ·have hkk := (hR k).1 hlt
    have ihk := ih (fac.set place (fac.getD place 0 + k)) (place + 1) (s - k) ok (by simp; omega) (by simp; omega) (hf.set _ _ (by omega)) (by omega)
    have c1 : ((place + 1 : Nat) : Int) = (place : Int) + 1 := by omega
    have c2 : ((s - k : Nat) : Int) = (s : Int) - k := by omega
    rw [c1, c2] at ihk
    simp only [Net.d, Con.d] at ihk
    obtain ⟨m, hm⟩ : ∃ m, R - k = m + 1 := ⟨R - k - 1, by omega⟩
    have hm' : R - (k + 1) = m := by omega
    rw [hm] at hW
    simp only [tryK] at hW
    generalize raiseF (admF n u b) r (fac.set place (fac.getD place 0 + k)) (place + 1) (s - k) ok = Z at hW ihk
    obtain ⟨zb, zo⟩ := Z
    simp only at hW ihk
    (simp only [go_sem] at hL ⊢)
    (repeat' (first | (with_reducible first | exact True.intro | refine And.intro ?_ ?_ | refine aBl ?_ | (refine aS 11 [] ?_; intro K hK)) | ((with_reducible first | refine aGo ?_ | refine rP Ty_ok mixed 6 [0, 3] [.mid [pe 1, ⟨2, 0, true, false, false, [], []⟩, ⟨4, 1, false, false, false, [0], []⟩, ⟨5, 1, false, false, false, [], []⟩, ⟨6, 1, true, false, false, [0], []⟩] 2, .one 7] ?_); simp only [hat, go_sem]) | ((with_reducible refine aCd ?_ ?_ (fun hb => ?_) (fun hb => ?_)); (iterate 2 simp only [hat, go_sem]); all_goals (simp only [hat, go_sem] at hb; try simp only [bls] at hb)) | ((iterate 6 try ((fail_if_success with_reducible refine hK _ ?_ ?_ ?_); clear hK K)); with_reducible refine hK _ ?_ ?_ ?_; rotate_left; (focus (simp only [hat, go_sem]; exact rfl)); clear hK K) | ((first | (with_reducible first | refine cA (CloneInts_c _ (by omega)) ?_ | refine cD (CloneInts_c _ (by omega)) ?_ | refine cO (CloneInts_c _ (by omega)) ?_ | refine cR (CloneInts_c _ (by omega)) ?_ | refine cG (fun hg => (CloneInts_c _ (by omega))) ?_ | refine cH (fun hg => (CloneInts_c _ (by omega))) ?_ | refine cM (fun hg => (CloneInts_c _ (by omega))) ?_) | ((with_reducible refine gA ?_); refine cA (CloneInts_c _ (by omega)) ?_) | ((with_reducible refine gD ?_); refine cD (CloneInts_c _ (by omega)) ?_) | ((with_reducible refine gG ?_); refine cG (fun hg => (CloneInts_c _ (by omega))) ?_)); simp only [hat, go_sem]) | (with_reducible refine aGs (fun hg0 => ?_) (fun hg0 => ?_) <;> first | (with_reducible first | exact aF1 hg0 | exact aF2 hg0) | (simp only [hg0, hat, go_sem])) | (with_reducible refine aNk ?_; intro bnil hnil; try simp only []) | exact aZ | fail))
    all_goals first | omega | skip
    (refine MCallAt_i [4] [0, 1, 2] (ihk) ?_ ?_; (focus (simp only [mside, handOk, go_sem]; (first | done | exact (by decide) | exact ⟨by decide, fun t ht => ht.elim⟩ | (refine ⟨by decide, ?_⟩; simp; done)))); simp only [go_sem])
    cases zb with
    | true =>
     simp only [if_true] at hW
     subst hW
     (repeat' (first | (with_reducible first | exact True.intro | refine And.intro ?_ ?_ | refine aBl ?_ | (refine aS 11 [] ?_; intro K hK)) | ((with_reducible first | refine aGo ?_ | refine rP Ty_ok mixed 6 [0, 3] [.mid [pe 1, ⟨2, 0, true, false, false, [], []⟩, ⟨4, 1, false, false, false, [0], []⟩, ⟨5, 1, false, false, false, [], []⟩, ⟨6, 1, true, false, false, [0], []⟩] 2, .one 7] ?_); simp only [go_sem]) | ((with_reducible refine aCd ?_ ?_ (fun hb => ?_) (fun hb => ?_)); (iterate 2 simp only [go_sem]); all_goals (simp only [go_sem] at hb; try simp only [bls] at hb)) | ((iterate 6 try ((fail_if_success with_reducible refine hK _ ?_ ?_ ?_); clear hK K)); with_reducible refine hK _ ?_ ?_ ?_; rotate_left; (focus (simp only [go_sem]; exact rfl)); clear hK K) | (with_reducible refine aGs (fun hg0 => ?_) (fun hg0 => ?_) <;> first | (with_reducible first | exact aF1 hg0 | exact aF2 hg0) | (simp only [hg0, go_sem])) | (with_reducible refine aNk ?_; intro bnil hnil; try simp only []) | exact aZ | fail))
    | false =>
     simp only [Bool.false_eq_true, if_false] at hW
     rw [← hm'] at hW
     (repeat' (first | (with_reducible first | exact True.intro | refine And.intro ?_ ?_ | refine aBl ?_ | (refine aS 11 [] ?_; intro K hK)) | ((with_reducible first | refine aGo ?_ | refine rP Ty_ok mixed 6 [0, 3] [.mid [pe 1, ⟨2, 0, true, false, false, [], []⟩, ⟨4, 1, false, false, false, [0], []⟩, ⟨5, 1, false, false, false, [], []⟩, ⟨6, 1, true, false, false, [0], []⟩] 2, .one 7] ?_); simp only [go_sem]) | ((with_reducible refine aCd ?_ ?_ (fun hb => ?_) (fun hb => ?_)); (iterate 2 simp only [go_sem]); all_goals (simp only [go_sem] at hb; try simp only [bls] at hb)) | ((iterate 6 try ((fail_if_success with_reducible refine hK _ ?_ ?_ ?_); clear hK K)); with_reducible refine hK _ ?_ ?_ ?_; rotate_left; (focus (simp only [go_sem]; exact rfl)); clear hK K) | (with_reducible refine aGs (fun hg0 => ?_) (fun hg0 => ?_) <;> first | (with_reducible first | exact aF1 hg0 | exact aF2 hg0) | (simp only [hg0, go_sem])) | (with_reducible refine aNk ?_; intro bnil hnil; try simp only []) | exact aZ | fail))
     exact hL _ (k + 1, zo) ⟨by omega, hW⟩ (by (simp only [SubF, go_sem]; (try simp only [go_sem]); repeat' (first | exact True.intro | with_reducible refine And.intro ?_ ?_ | rfl | omega))) (by omega)
   ·have hkk := mt (hR k).2 hlt
    obtain rfl : k = R := by omega
    rw [Nat.sub_self] at hW
    change (false, ok) = W at hW
    subst hW
    (simp only [go_sem] at hL ⊢)
    (repeat' (first | (with_reducible first | exact True.intro | refine And.intro ?_ ?_ | refine aBl ?_ | (refine aS 11 [] ?_; intro K hK)) | ((with_reducible first | refine aGo ?_ | refine rP Ty_ok mixed 6 [0, 3] [.mid [pe 1, ⟨2, 0, true, false, false, [], []⟩, ⟨4, 1, false, false, false, [0], []⟩, ⟨5, 1, false, false, false, [], []⟩, ⟨6, 1, true, false, false, [0], []⟩] 2, .one 7] ?_); simp only [go_sem]) | ((with_reducible refine aCd ?_ ?_ (fun hb => ?_) (fun hb => ?_)); (iterate 2 simp only [go_sem]); all_goals (simp only [go_sem] at hb; try simp only [bls] at hb)) | ((iterate 6 try ((fail_if_success with_reducible refine hK _ ?_ ?_ ?_); clear hK K)); with_reducible refine hK _ ?_ ?_ ?_; rotate_left; (focus (simp only [go_sem]; exact rfl)); clear hK K) | (with_reducible refine aGs (fun hg0 => ?_) (fun hg0 => ?_) <;> first | (with_reducible first | exact aF1 hg0 | exact aF2 hg0) | (simp only [hg0, go_sem])) | (with_reducible refine aNk ?_; intro bnil hnil; try simp only []) | exact aZ | fail))
    all_goals first | omega | rfl | skip
end Go.Proofs.Ytgbhmieaoaojoaa
