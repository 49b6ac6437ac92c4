/-
 Chapter 23: cells as data; Items.
-/
import Derived.Test.YtkjnjkdcpbgabaaGreatDoorU9
set_option linter.unusedSimpArgs false
set_option linter.unusedVariables false
namespace Go.Proofs.YtkjnjkdcpbgabaaGreatDoor
open Go.Eng Go.RowKit
structure NI where
 name : List UInt8
 aut : AU
 deriving DecidableEq
def NI.no : NI := ⟨[], AU.no⟩
def NI.d (x : NI) : List D := [.str x.name, .list (ints x.aut.alpha), .int .i64 x.aut.states, .list (ints x.aut.marked), .list (edD x.aut.edges)]
def niD (l : List NI) : List (List D) := l.map NI.d
structure Ex where
 name : List UInt8
 locs : List Pr
 deriving DecidableEq
def Ex.no : Ex := ⟨[], []⟩
def Ex.d (x : Ex) : List D := [.str x.name, .list (prD x.locs)]
def exD (l : List Ex) : List (List D) := l.map Ex.d
structure Cn where
 name : List UInt8
 terms : List Pr
 bound : Int
 deriving DecidableEq
def Cn.no : Cn := ⟨[], [], 0⟩
def Cn.d (x : Cn) : List D := [.str x.name, .list (prD x.terms), .int .i64 x.bound]
def cnD (l : List Cn) : List (List D) := l.map Cn.d
theorem niD_length (l : List NI) : (niD l).length = l.length := by simp [niD]
theorem niD_get {l : List NI} {k : Nat} (hk : k < l.length) (z : List D) : (niD l).getD k z = (l.getD k NI.no).d := by
 simp only [niD, List.getD, List.getElem?_map, List.getElem?_eq_getElem hk]; rfl
theorem niD_sz (l : List NI) : (∀ r : List D, r ∈ niD l → r.length = 5) ↔ True := ⟨fun _ => trivial, fun _ r hr => by obtain ⟨e, _, rfl⟩ := List.mem_map.1 hr; rfl⟩
theorem niD_append (xs ys : List NI) : niD xs ++ niD ys = niD (xs ++ ys) := by simp [niD]
theorem exD_length (l : List Ex) : (exD l).length = l.length := by simp [exD]
theorem exD_get {l : List Ex} {k : Nat} (hk : k < l.length) (z : List D) : (exD l).getD k z = (l.getD k Ex.no).d := by
 simp only [exD, List.getD, List.getElem?_map, List.getElem?_eq_getElem hk]; rfl
theorem exD_sz (l : List Ex) : (∀ r : List D, r ∈ exD l → r.length = 2) ↔ True := ⟨fun _ => trivial, fun _ r hr => by obtain ⟨e, _, rfl⟩ := List.mem_map.1 hr; rfl⟩
theorem exD_append (xs ys : List Ex) : exD xs ++ exD ys = exD (xs ++ ys) := by simp [exD]
theorem cnD_length (l : List Cn) : (cnD l).length = l.length := by simp [cnD]
theorem cnD_get {l : List Cn} {k : Nat} (hk : k < l.length) (z : List D) : (cnD l).getD k z = (l.getD k Cn.no).d := by
 simp only [cnD, List.getD, List.getElem?_map, List.getElem?_eq_getElem hk]; rfl
theorem cnD_sz (l : List Cn) : (∀ r : List D, r ∈ cnD l → r.length = 3) ↔ True := ⟨fun _ => trivial, fun _ r hr => by obtain ⟨e, _, rfl⟩ := List.mem_map.1 hr; rfl⟩
theorem cnD_append (xs ys : List Cn) : cnD xs ++ cnD ys = cnD (xs ++ ys) := by simp [cnD]
attribute [go_sem] niD_length niD_sz exD_length exD_sz cnD_length cnD_sz
/-! names of components -/
theorem name_c (cs : List NI) (i : Int) (hl : cs.length ≤ 1000) : ACalls Tryz.prog 90 [.one (.list (niD cs)), .one (.int .i64 i)] (.tup [.one (.str (if i < 0 ∨ (cs.length : Int) ≤ i then [] else (cs.getD i.toNat NI.no).name)), .one (.int .i64 (if i < 0 ∨ (cs.length : Int) ≤ i then 2 else 0))]) [] := by
 by_cases h : i < 0 ∨ (cs.length : Int) ≤ i
 ·rw [if_pos h, if_pos h]
  (refine ACalls.of_body Ty_ok mixed Tryz.func90 rfl (by kernel_rfl) Tryz.ntmps90 (by simp) (congrArg Array.toList Tryz.results90) ?_)
  simp only [slotsOf]
  (repeat' (first | (with_reducible first | exact True.intro | refine And.intro ?_ ?_ | refine aBl ?_ | (refine aS 6 [] ?_; intro K hK)) | ((with_reducible first | refine aGo ?_); simp only [go_sem]) | ((with_reducible refine aCd ?_ ?_ (fun hb => ?_) (fun hb => ?_)); (iterate 2 simp only [go_sem]); all_goals (simp only [go_sem] at hb; try simp only [bls] at hb)) | ((iterate 6 try ((fail_if_success with_reducible refine hK _ ?_ ?_ ?_); clear hK K)); with_reducible refine hK _ ?_ ?_ ?_; rotate_left; (focus (simp only [go_sem]; exact rfl)); clear hK K) | (with_reducible refine aGs (fun hg0 => ?_) (fun hg0 => ?_) <;> first | (with_reducible first | exact aF1 hg0 | exact aF2 hg0) | (simp only [hg0, go_sem])) | (with_reducible refine aNk ?_; intro bnil hnil; try simp only []) | exact aZ | fail))
  all_goals first | omega | skip
 ·rw [if_neg h, if_neg h]
  have hg := niD_get (show i.toNat < cs.length by omega) [.str [], .nil, .int .i64 0, .nil, .nil]
  simp only [NI.d] at hg
  (refine ACalls.of_body Ty_ok mixed Tryz.func90 rfl (by kernel_rfl) Tryz.ntmps90 (by simp) (congrArg Array.toList Tryz.results90) ?_)
  simp only [slotsOf]
  (repeat' (first | (with_reducible first | exact True.intro | refine And.intro ?_ ?_ | refine aBl ?_ | (refine aS 6 [] ?_; intro K hK)) | ((with_reducible first | refine aGo ?_); simp only [hg, go_sem]) | ((with_reducible refine aCd ?_ ?_ (fun hb => ?_) (fun hb => ?_)); (iterate 2 simp only [hg, go_sem]); all_goals (simp only [hg, go_sem] at hb; try simp only [bls] at hb)) | ((iterate 6 try ((fail_if_success with_reducible refine hK _ ?_ ?_ ?_); clear hK K)); with_reducible refine hK _ ?_ ?_ ?_; rotate_left; (focus (simp only [hg, go_sem]; exact rfl)); clear hK K) | (with_reducible refine aGs (fun hg0 => ?_) (fun hg0 => ?_) <;> first | (with_reducible first | exact aF1 hg0 | exact aF2 hg0) | (simp only [hg0, hg, go_sem])) | (with_reducible refine aNk ?_; intro bnil hnil; try simp only []) | exact aZ | fail))
  all_goals first | omega | skip
def namedL (cs : List NI) : List Pr → Option (List Lt)
 | [] => some []
 | y :: r => if y.comp < 0 ∨ (cs.length : Int) ≤ y.comp then none else (namedL cs r).map (⟨(cs.getD y.comp.toNat NI.no).name, y.val⟩ :: ·)
def exI (cs : List NI) (x : Ex) : Option It := (namedL cs x.locs).map fun l => ⟨3, x.name, AU.no, l, [], 0⟩
def cnI (cs : List NI) (x : Cn) : Option It := (namedL cs x.terms).map fun l => ⟨4, x.name, AU.no, [], l, x.bound⟩
theorem named_step {cs : List NI} {l : List Pr} {k : Nat} {p : List Lt} (hk : k < l.length) (h : namedL cs l = (namedL cs (l.drop k)).map (p ++ ·)) :
  namedL cs l = if (l.getD k Pr.no).comp < 0 ∨ (cs.length : Int) ≤ (l.getD k Pr.no).comp then none else (namedL cs (l.drop (k + 1))).map ((p ++ [⟨(cs.getD (l.getD k Pr.no).comp.toNat NI.no).name, (l.getD k Pr.no).val⟩]) ++ ·) := by
 rw [drop_getD l k Pr.no hk, namedL] at h
 rw [h]
 split
 ·rfl
 ·cases namedL cs (l.drop (k + 1)) with
  | none => rfl
  | some r => simp
theorem named_len {cs : List NI} : ∀ {l : List Pr} {r : List Lt}, namedL cs l = some r → r.length = l.length ∧ ∀ y ∈ r, ∃ c ∈ cs, y.name = c.name
 | [], r, h => by cases h; exact ⟨rfl, fun y hy => by simp at hy⟩
 | y :: l, r, h => by
  rw [namedL] at h
  split at h
  ·cases h
  ·rename_i hc
   rw [Option.map_eq_some_iff] at h
   obtain ⟨r', h1, rfl⟩ := h
   obtain ⟨h2, h3⟩ := named_len h1
   refine ⟨by simp [h2], fun z hz => ?_⟩
   rcases List.mem_cons.1 hz with rfl | hz
   ·exact ⟨_, getD_mem cs _ NI.no (by omega), rfl⟩
   ·exact h3 z hz
set_option maxHeartbeats 8000000 in
theorem exclusion_c (cs : List NI) (x : Ex) (hl : cs.length ≤ 1000) (hx : x.locs.length ≤ 1000) : ACalls Tryz.prog 54 [.one (.list (niD cs)), .agg x.d] (.tup [.agg ((exI cs x).getD It.no).d, .one (.int .i64 (if (exI cs x).isSome = true then 0 else 2))]) [] := by
 have hR : exI cs x = (namedL cs x.locs).map fun l => ⟨3, x.name, AU.no, l, [], 0⟩ := rfl
 generalize exI cs x = R at *
 generalize hN : namedL cs x.locs = N at hR
 (refine ACalls.of_body Ty_ok mixed Tryz.func54 rfl (by kernel_rfl) Tryz.ntmps54 (by simp) (congrArg Array.toList Tryz.results54) ?_)
 simp only [slotsOf, Ex.d]
 (repeat' (first | (with_reducible first | exact True.intro | refine And.intro ?_ ?_ | refine aBl ?_ | (refine aS 11 [16, 15, 17] ?_; intro K hK)) | ((with_reducible first | refine aGo ?_); simp only [go_sem]) | ((with_reducible refine aCd ?_ ?_ (fun hb => ?_) (fun hb => ?_)); (iterate 2 simp only [go_sem]); all_goals (simp only [go_sem] at hb; try simp only [bls] at hb)) | ((iterate 6 try ((fail_if_success with_reducible refine hK _ ?_ ?_ ?_); clear hK K)); with_reducible refine hK _ ?_ ?_ ?_; rotate_left; (focus (simp only [go_sem]; exact rfl)); clear hK K) | (with_reducible refine aGs (fun hg0 => ?_) (fun hg0 => ?_) <;> first | (with_reducible first | exact aF1 hg0 | exact aF2 hg0) | (simp only [hg0, go_sem])) | (with_reducible refine aNk ?_; intro bnil hnil; try simp only []) | exact aZ | fail))
 all_goals first | omega | skip
 refine awp_loopT [.cell 2 6 60 2] _ (by simp only [go_sem]; rfl) (Nat × List Lt) (fun s => s.1 ≤ x.locs.length ∧ N = (namedL cs (x.locs.drop s.1)).map (s.2 ++ ·) ∧ s.2.length = s.1) (fun s => [(17, .one (.int .i64 s.1))])
  (fun s => [.var 95 [.str x.name, .list (prD x.locs)], .var 30 [.int .i64 0, .str [], .nil, .int .i64 0, .nil, .nil, .nil, .nil, .int .i64 0], .var 30 [.int .i64 3, .str x.name, .nil, .int .i64 0, .nil, .nil, .own 3, .nil, .int .i64 0], .row 60 2 (ltD s.2)]) (fun s => x.locs.length - s.1) (0, []) ⟨by omega, by rw [← hN]; simp, rfl⟩ ?_ ?_
 ·have e0 : ltD [] = [] := rfl
  rw [e0]
  (simp only [SubF, go_sem]; (try simp only [go_sem]); repeat' (first | exact True.intro | with_reducible refine And.intro ?_ ?_ | rfl | omega))
 rintro ⟨k, p⟩ ⟨hk, hres, hpl⟩ L hL
 dsimp only at hk hres hpl
 have hq : ((k : Nat) : Int).toNat = k := by omega
 rw [← hN] at hres
 by_cases hlt : k < x.locs.length
 ·have hs := named_step hlt hres
  have hn := name_c cs (x.locs.getD k Pr.no).comp hl
  generalize hyd : x.locs.getD k Pr.no = y at *
  rw [hN] at hs
  by_cases hc : y.comp < 0 ∨ (cs.length : Int) ≤ y.comp
  ·rw [if_pos hc, if_pos hc] at hn
   rw [if_pos hc] at hs
   subst hs
   subst hR
   have e0 : ((none : Option (List Lt)).map fun l => (⟨3, x.name, AU.no, l, [], 0⟩ : It)) = none := rfl
   rw [e0] at *
   (simp only [go_sem] at hL ⊢)
   (repeat' (first | (with_reducible first | exact True.intro | refine And.intro ?_ ?_ | refine aBl ?_ | (refine aS 11 [16, 15, 17] ?_; intro K hK)) | ((with_reducible first | refine aGo ?_); simp only [hq, hyd, go_sem]) | ((with_reducible refine aCd ?_ ?_ (fun hb => ?_) (fun hb => ?_)); (iterate 2 simp only [hq, hyd, go_sem]); all_goals (simp only [hq, hyd, go_sem] at hb; try simp only [bls] at hb)) | ((iterate 6 try ((fail_if_success with_reducible refine hK _ ?_ ?_ ?_); clear hK K)); with_reducible refine hK _ ?_ ?_ ?_; rotate_left; (focus (simp only [hq, hyd, go_sem]; exact rfl)); clear hK K) | ((first | (with_reducible first | refine xA ?_ | refine xD ?_ | refine xO ?_ | refine xR ?_ | refine xG ?_ | refine xH ?_ | refine xM ?_) | ((with_reducible refine gA ?_); refine xA ?_) | ((with_reducible refine gD ?_); refine xD ?_) | ((with_reducible refine gG ?_); refine xG ?_)); simp only [hq, hyd, go_sem]) | (with_reducible refine aGs (fun hg0 => ?_) (fun hg0 => ?_) <;> first | (with_reducible first | exact aF1 hg0 | exact aF2 hg0) | (simp only [hg0, hq, hyd, go_sem])) | (with_reducible refine aNk ?_; intro bnil hnil; try simp only []) | exact aZ | fail))
   all_goals first | omega | rfl | skip
  ·rw [if_neg hc, if_neg hc] at hn
   rw [if_neg hc] at hs
   generalize (cs.getD y.comp.toNat NI.no).name = nm at *
   (simp only [go_sem] at hL ⊢)
   (repeat' (first | (with_reducible first | exact True.intro | refine And.intro ?_ ?_ | refine aBl ?_ | (refine aS 11 [16, 15, 17] ?_; intro K hK)) | ((with_reducible first | refine aGo ?_); simp only [hq, hyd, go_sem]) | ((with_reducible refine aCd ?_ ?_ (fun hb => ?_) (fun hb => ?_)); (iterate 2 simp only [hq, hyd, go_sem]); all_goals (simp only [hq, hyd, go_sem] at hb; try simp only [bls] at hb)) | ((iterate 6 try ((fail_if_success with_reducible refine hK _ ?_ ?_ ?_); clear hK K)); with_reducible refine hK _ ?_ ?_ ?_; rotate_left; (focus (simp only [hq, hyd, go_sem]; exact rfl)); clear hK K) | ((first | (with_reducible first | refine xA ?_ | refine xD ?_ | refine xO ?_ | refine xR ?_ | refine xG ?_ | refine xH ?_ | refine xM ?_) | ((with_reducible refine gA ?_); refine xA ?_) | ((with_reducible refine gD ?_); refine xD ?_) | ((with_reducible refine gG ?_); refine xG ?_)); simp only [hq, hyd, go_sem]) | (with_reducible refine aGs (fun hg0 => ?_) (fun hg0 => ?_) <;> first | (with_reducible first | exact aF1 hg0 | exact aF2 hg0) | (simp only [hg0, hq, hyd, go_sem])) | (with_reducible refine aNk ?_; intro bnil hnil; try simp only []) | exact aZ | fail))
   all_goals first | omega | skip
   refine hL _ (k + 1, p ++ [⟨nm, y.val⟩]) ⟨by omega, hs, by simp; omega⟩ ?_ (by omega)
   rw [← lts_append, ← lts_one]
   (simp only [SubF, go_sem]; (try simp only [go_sem]); repeat' (first | exact True.intro | with_reducible refine And.intro ?_ ?_ | rfl | omega))
 ·have hkl : k = x.locs.length := by omega
  subst hkl
  rw [List.drop_length, hN] at hres
  have hres' : N = some p := by rw [hres]; simp [namedL]
  subst hres'
  subst hR
  have e0 : ((some p).map fun l => (⟨3, x.name, AU.no, l, [], 0⟩ : It)) = some ⟨3, x.name, AU.no, p, [], 0⟩ := rfl
  rw [e0] at *
  (simp only [go_sem] at hL ⊢)
  (repeat' (first | (with_reducible first | exact True.intro | refine And.intro ?_ ?_ | refine aBl ?_ | (refine aS 11 [16, 15, 17] ?_; intro K hK)) | ((with_reducible first | refine aGo ?_); simp only [go_sem]) | ((with_reducible refine aCd ?_ ?_ (fun hb => ?_) (fun hb => ?_)); (iterate 2 simp only [go_sem]); all_goals (simp only [go_sem] at hb; try simp only [bls] at hb)) | ((iterate 6 try ((fail_if_success with_reducible refine hK _ ?_ ?_ ?_); clear hK K)); with_reducible refine hK _ ?_ ?_ ?_; rotate_left; (focus (simp only [go_sem]; exact rfl)); clear hK K) | (with_reducible refine aGs (fun hg0 => ?_) (fun hg0 => ?_) <;> first | (with_reducible first | exact aF1 hg0 | exact aF2 hg0) | (simp only [hg0, go_sem])) | (with_reducible refine aNk ?_; intro bnil hnil; try simp only []) | exact aZ | fail))
  all_goals first | omega | rfl | skip
set_option maxHeartbeats 8000000 in
theorem constraint_c (cs : List NI) (x : Cn) (hl : cs.length ≤ 1000) (hx : x.terms.length ≤ 1000) : ACalls Tryz.prog 55 [.one (.list (niD cs)), .agg x.d] (.tup [.agg ((cnI cs x).getD It.no).d, .one (.int .i64 (if (cnI cs x).isSome = true then 0 else 2))]) [] := by
 have hR : cnI cs x = (namedL cs x.terms).map fun l => ⟨4, x.name, AU.no, [], l, x.bound⟩ := rfl
 generalize cnI cs x = R at *
 generalize hN : namedL cs x.terms = N at hR
 (refine ACalls.of_body Ty_ok mixed Tryz.func55 rfl (by kernel_rfl) Tryz.ntmps55 (by simp) (congrArg Array.toList Tryz.results55) ?_)
 simp only [slotsOf, Cn.d]
 (repeat' (first | (with_reducible first | exact True.intro | refine And.intro ?_ ?_ | refine aBl ?_ | (refine aS 11 [18, 17, 19] ?_; intro K hK)) | ((with_reducible first | refine aGo ?_); simp only [go_sem]) | ((with_reducible refine aCd ?_ ?_ (fun hb => ?_) (fun hb => ?_)); (iterate 2 simp only [go_sem]); all_goals (simp only [go_sem] at hb; try simp only [bls] at hb)) | ((iterate 6 try ((fail_if_success with_reducible refine hK _ ?_ ?_ ?_); clear hK K)); with_reducible refine hK _ ?_ ?_ ?_; rotate_left; (focus (simp only [go_sem]; exact rfl)); clear hK K) | (with_reducible refine aGs (fun hg0 => ?_) (fun hg0 => ?_) <;> first | (with_reducible first | exact aF1 hg0 | exact aF2 hg0) | (simp only [hg0, go_sem])) | (with_reducible refine aNk ?_; intro bnil hnil; try simp only []) | exact aZ | fail))
 all_goals first | omega | skip
 refine awp_loopT [.cell 2 7 62 2] _ (by simp only [go_sem]; rfl) (Nat × List Lt) (fun s => s.1 ≤ x.terms.length ∧ N = (namedL cs (x.terms.drop s.1)).map (s.2 ++ ·) ∧ s.2.length = s.1) (fun s => [(19, .one (.int .i64 s.1))])
  (fun s => [.var 98 [.str x.name, .list (prD x.terms), .int .i64 x.bound], .var 30 [.int .i64 0, .str [], .nil, .int .i64 0, .nil, .nil, .nil, .nil, .int .i64 0], .var 30 [.int .i64 4, .str x.name, .nil, .int .i64 0, .nil, .nil, .nil, .own 3, .int .i64 x.bound], .row 62 2 (ltD s.2)]) (fun s => x.terms.length - s.1) (0, []) ⟨by omega, by rw [← hN]; simp, rfl⟩ ?_ ?_
 ·have e0 : ltD [] = [] := rfl
  rw [e0]
  (simp only [SubF, go_sem]; (try simp only [go_sem]); repeat' (first | exact True.intro | with_reducible refine And.intro ?_ ?_ | rfl | omega))
 rintro ⟨k, p⟩ ⟨hk, hres, hpl⟩ L hL
 dsimp only at hk hres hpl
 have hq : ((k : Nat) : Int).toNat = k := by omega
 rw [← hN] at hres
 by_cases hlt : k < x.terms.length
 ·have hs := named_step hlt hres
  have hn := name_c cs (x.terms.getD k Pr.no).comp hl
  generalize hyd : x.terms.getD k Pr.no = y at *
  rw [hN] at hs
  by_cases hc : y.comp < 0 ∨ (cs.length : Int) ≤ y.comp
  ·rw [if_pos hc, if_pos hc] at hn
   rw [if_pos hc] at hs
   subst hs
   subst hR
   have e0 : ((none : Option (List Lt)).map fun l => (⟨4, x.name, AU.no, [], l, x.bound⟩ : It)) = none := rfl
   rw [e0] at *
   (simp only [go_sem] at hL ⊢)
   (repeat' (first | (with_reducible first | exact True.intro | refine And.intro ?_ ?_ | refine aBl ?_ | (refine aS 11 [18, 17, 19] ?_; intro K hK)) | ((with_reducible first | refine aGo ?_); simp only [hq, hyd, go_sem]) | ((with_reducible refine aCd ?_ ?_ (fun hb => ?_) (fun hb => ?_)); (iterate 2 simp only [hq, hyd, go_sem]); all_goals (simp only [hq, hyd, go_sem] at hb; try simp only [bls] at hb)) | ((iterate 6 try ((fail_if_success with_reducible refine hK _ ?_ ?_ ?_); clear hK K)); with_reducible refine hK _ ?_ ?_ ?_; rotate_left; (focus (simp only [hq, hyd, go_sem]; exact rfl)); clear hK K) | ((first | (with_reducible first | refine xA ?_ | refine xD ?_ | refine xO ?_ | refine xR ?_ | refine xG ?_ | refine xH ?_ | refine xM ?_) | ((with_reducible refine gA ?_); refine xA ?_) | ((with_reducible refine gD ?_); refine xD ?_) | ((with_reducible refine gG ?_); refine xG ?_)); simp only [hq, hyd, go_sem]) | (with_reducible refine aGs (fun hg0 => ?_) (fun hg0 => ?_) <;> first | (with_reducible first | exact aF1 hg0 | exact aF2 hg0) | (simp only [hg0, hq, hyd, go_sem])) | (with_reducible refine aNk ?_; intro bnil hnil; try simp only []) | exact aZ | fail))
   all_goals first | omega | rfl | skip
  ·rw [if_neg hc, if_neg hc] at hn
   rw [if_neg hc] at hs
   generalize (cs.getD y.comp.toNat NI.no).name = nm at *
   (simp only [go_sem] at hL ⊢)
   (repeat' (first | (with_reducible first | exact True.intro | refine And.intro ?_ ?_ | refine aBl ?_ | (refine aS 11 [18, 17, 19] ?_; intro K hK)) | ((with_reducible first | refine aGo ?_); simp only [hq, hyd, go_sem]) | ((with_reducible refine aCd ?_ ?_ (fun hb => ?_) (fun hb => ?_)); (iterate 2 simp only [hq, hyd, go_sem]); all_goals (simp only [hq, hyd, go_sem] at hb; try simp only [bls] at hb)) | ((iterate 6 try ((fail_if_success with_reducible refine hK _ ?_ ?_ ?_); clear hK K)); with_reducible refine hK _ ?_ ?_ ?_; rotate_left; (focus (simp only [hq, hyd, go_sem]; exact rfl)); clear hK K) | ((first | (with_reducible first | refine xA ?_ | refine xD ?_ | refine xO ?_ | refine xR ?_ | refine xG ?_ | refine xH ?_ | refine xM ?_) | ((with_reducible refine gA ?_); refine xA ?_) | ((with_reducible refine gD ?_); refine xD ?_) | ((with_reducible refine gG ?_); refine xG ?_)); simp only [hq, hyd, go_sem]) | (with_reducible refine aGs (fun hg0 => ?_) (fun hg0 => ?_) <;> first | (with_reducible first | exact aF1 hg0 | exact aF2 hg0) | (simp only [hg0, hq, hyd, go_sem])) | (with_reducible refine aNk ?_; intro bnil hnil; try simp only []) | exact aZ | fail))
   all_goals first | omega | skip
   refine hL _ (k + 1, p ++ [⟨nm, y.val⟩]) ⟨by omega, hs, by simp; omega⟩ ?_ (by omega)
   rw [← lts_append, ← lts_one]
   (simp only [SubF, go_sem]; (try simp only [go_sem]); repeat' (first | exact True.intro | with_reducible refine And.intro ?_ ?_ | rfl | omega))
 ·have hkl : k = x.terms.length := by omega
  subst hkl
  rw [List.drop_length, hN] at hres
  have hres' : N = some p := by rw [hres]; simp [namedL]
  subst hres'
  subst hR
  have e0 : ((some p).map fun l => (⟨4, x.name, AU.no, [], l, x.bound⟩ : It)) = some ⟨4, x.name, AU.no, [], p, x.bound⟩ := rfl
  rw [e0] at *
  (simp only [go_sem] at hL ⊢)
  (repeat' (first | (with_reducible first | exact True.intro | refine And.intro ?_ ?_ | refine aBl ?_ | (refine aS 11 [18, 17, 19] ?_; intro K hK)) | ((with_reducible first | refine aGo ?_); simp only [go_sem]) | ((with_reducible refine aCd ?_ ?_ (fun hb => ?_) (fun hb => ?_)); (iterate 2 simp only [go_sem]); all_goals (simp only [go_sem] at hb; try simp only [bls] at hb)) | ((iterate 6 try ((fail_if_success with_reducible refine hK _ ?_ ?_ ?_); clear hK K)); with_reducible refine hK _ ?_ ?_ ?_; rotate_left; (focus (simp only [go_sem]; exact rfl)); clear hK K) | (with_reducible refine aGs (fun hg0 => ?_) (fun hg0 => ?_) <;> first | (with_reducible first | exact aF1 hg0 | exact aF2 hg0) | (simp only [hg0, go_sem])) | (with_reducible refine aNk ?_; intro bnil hnil; try simp only []) | exact aZ | fail))
  all_goals first | omega | rfl | skip
/-! a cell -/
structure CE where
 comps : List NI
 reqs : List NI
 excl : List Ex
 cons : List Cn
def compI (k : Int) (x : NI) : It := ⟨k, x.name, x.aut, [], [], 0⟩
def allO {α β : Type} (f : α → Option β) : List α → Option (List β)
 | [] => some []
 | x :: r => match f x with | none => none | some y => (allO f r).map (y :: ·)
structure CE.Fits (c : CE) : Prop where
 comps : c.comps.length ≤ 200 ∧ ∀ x ∈ c.comps, x.name.length ≤ 1000 ∧ x.aut.Fits
 reqs : c.reqs.length ≤ 200 ∧ ∀ x ∈ c.reqs, x.name.length ≤ 1000 ∧ x.aut.Fits
 excl : c.excl.length ≤ 200 ∧ ∀ x ∈ c.excl, x.name.length ≤ 1000 ∧ x.locs.length ≤ 1000
 cons : c.cons.length ≤ 200 ∧ ∀ x ∈ c.cons, x.name.length ≤ 1000 ∧ x.terms.length ≤ 1000
def rawI (c : CE) : Option (List It) := match allO (exI c.comps) c.excl with
 | none => none
 | some a => (allO (cnI c.comps) c.cons).map fun b => c.comps.map (compI 1) ++ c.reqs.map (compI 2) ++ a ++ b
def itemsR (c : CE) : List It × Int := match rawI c with
 | none => ([], 2)
 | some l => if chkL l ≠ 0 then ([], chkL l) else (l, 0)
theorem allO_step {α β : Type} {f : α → Option β} {l : List α} {d : α} {k : Nat} {p : List β} {N : Option (List β)} (hk : k < l.length) (h : N = (allO f (l.drop k)).map (p ++ ·)) :
  N = match f (l.getD k d) with | none => none | some y => (allO f (l.drop (k + 1))).map ((p ++ [y]) ++ ·) := by
 rw [drop_getD l k d hk, allO] at h
 rw [h]
 cases f (l.getD k d) with
 | none => rfl
 | some y =>
  cases allO f (l.drop (k + 1)) with
  | none => rfl
  | some r => simp
theorem allO_len {α β : Type} {f : α → Option β} : ∀ {l : List α} {r : List β}, allO f l = some r → r.length = l.length ∧ ∀ y ∈ r, ∃ x ∈ l, f x = some y
 | [], r, h => by cases h; exact ⟨rfl, fun y hy => by simp at hy⟩
 | x :: l, r, h => by
  rw [allO] at h
  cases hf : f x with
  | none => rw [hf] at h; cases h
  | some y =>
   rw [hf] at h
   simp only [Option.map_eq_some_iff] at h
   obtain ⟨r', h1, rfl⟩ := h
   obtain ⟨h2, h3⟩ := allO_len h1
   refine ⟨by simp [h2], fun z hz => ?_⟩
   rcases List.mem_cons.1 hz with rfl | hz
   ·exact ⟨x, by simp, hf⟩
   ·obtain ⟨w, hw, hw2⟩ := h3 z hz
    exact ⟨w, by simp [hw], hw2⟩
end Go.Proofs.YtkjnjkdcpbgabaaGreatDoor
