/-
 Chapter 23: checks of alphabets and automata.
-/
import Derived.Test.YtkjnjkdcpbgabaaGreatDoorUD
set_option linter.unusedSimpArgs false
set_option linter.unusedVariables false
namespace Go.Proofs.YtkjnjkdcpbgabaaGreatDoor
open Go.Eng Go.RowKit
def csFrom (m : Int) : List Int → Option Int → Int
 | [], _ => 0
 | x :: l, prev => if x < 0 ∨ m ≤ x then 2 else if (prev.any fun p => decide (x ≤ p)) = true then 5 else csFrom m l (some x)
def checkSet (xs : List Int) (m : Int) : Int := csFrom m xs none
def prevOf (xs : List Int) (k : Nat) : Option Int := if k = 0 then none else some (xs.getD (k - 1) 0)
theorem cs_step {xs : List Int} {m b : Int} {k : Nat} (hk : k < xs.length) (h : b = csFrom m (xs.drop k) (prevOf xs k)) :
  b = if xs.getD k 0 < 0 ∨ m ≤ xs.getD k 0 then 2 else if 0 < k ∧ xs.getD k 0 ≤ xs.getD (k - 1) 0 then 5 else csFrom m (xs.drop (k + 1)) (prevOf xs (k + 1)) := by
 rw [drop_getD xs k 0 hk] at h
 rw [h, csFrom]
 split
 ·rfl
 ·unfold prevOf
  by_cases h0 : k = 0
  ·subst h0; simp
  ·simp [h0]; split <;> split <;> first | rfl | omega
theorem csFrom_in (m : Int) : ∀ (xs : List Int) (p : Option Int), csFrom m xs p = 0 → ∀ x ∈ xs, 0 ≤ x ∧ x < m
 | [], _, _, x, hx => by simp at hx
 | y :: xs, p, h, x, hx => by
  simp only [csFrom] at h
  split at h
  ·cases h
  ·split at h
   ·cases h
   ·rcases List.mem_cons.1 hx with rfl | hx
    ·omega
    ·exact csFrom_in m xs _ h x hx
def Short (l : List Ev) : Prop := ∀ e ∈ l, e.name.length ≤ 1000
theorem Short.get {l : List Ev} (h : Short l) (k : Nat) : (l.getD k Ev.no).name.length ≤ 1000 := by
 by_cases hk : k < l.length
 ·exact h _ (getD_mem l k _ hk)
 ·simp [List.getD, List.getElem?_eq_none (Nat.le_of_not_lt hk), Ev.no]
def evFrom (seen : List Ev) : List Ev → Int
 | [] => 0
 | e :: l => if isNameB e.name = false then 7 else if e.name ∈ seen.map Ev.name then 8 else if e.fault < 0 ∨ 4 < e.fault then 2 else if e.fault ≠ 0 ∧ (e.con = true ∨ e.obs = true) then 13 else evFrom (seen ++ [e]) l
def checkEv (l : List Ev) : Int := if 32 < l.length then 3 else evFrom [] l
theorem ev_step {l : List Ev} {b : Int} {k : Nat} (hk : k < l.length) (h : b = evFrom (l.take k) (l.drop k)) :
  b = if isNameB (l.getD k Ev.no).name = false then 7 else if (l.getD k Ev.no).name ∈ (l.take k).map Ev.name then 8 else if (l.getD k Ev.no).fault < 0 ∨ 4 < (l.getD k Ev.no).fault then 2 else if (l.getD k Ev.no).fault ≠ 0 ∧ ((l.getD k Ev.no).con = true ∨ (l.getD k Ev.no).obs = true) then 13 else evFrom (l.take (k + 1)) (l.drop (k + 1)) := by
 rw [take_succ_getD l k Ev.no hk]
 rw [drop_getD l k Ev.no hk] at h; exact h
def setKVs (ns : List (List UInt8)) : List (AV × AV) := ns.map fun s => (.one (.str s), .one (.bool true))
theorem eqKey_str (s n : List UInt8) : (eqKey (.one (.str s)) (.one (.str n)) = true) = (s = n) := by
 simp [eqKey]
theorem setKVs_find (ns : List (List UInt8)) (s : List UInt8) : findKV (.one (.str s)) (setKVs ns) = if s ∈ ns then some (.one (.bool true)) else none := by
 induction ns with
 | nil => rfl
 | cons n ns ih =>
  have e : setKVs (n :: ns) = (.one (.str n), .one (.bool true)) :: setKVs ns := rfl
  rw [e, findKV, ih]
  simp only [eqKey_str]
  by_cases h : s = n
  ·simp [h]
  ·simp [h]
theorem setKVs_set (ns : List (List UInt8)) (s : List UInt8) (h : s ∉ ns) : setKV (.one (.str s)) (.one (.bool true)) (setKVs ns) = setKVs (ns ++ [s]) := by
 induction ns with
 | nil => rfl
 | cons n ns ih =>
  simp only [List.mem_cons, not_or] at h
  have e : setKVs (n :: ns) = (.one (.str n), .one (.bool true)) :: setKVs ns := rfl
  rw [e, setKV, ih h.2]
  simp only [eqKey_str, if_neg h.1]
  rfl
theorem setKVs_lt (ns : List (List UInt8)) (n : Nat) : (AObj.map .str (setKVs ns)).tagsLt n = true := by
 simp only [AObj.tagsLt, setKVs, List.all_map, List.all_eq_true]
 intro s _
 rfl
theorem getD_ite_bool (p : Prop) [Decidable p] : (if p then some (AV.one (.bool true)) else none).getD (.one (.bool false)) = .one (.bool (decide p)) := by
 split <;> simp_all
attribute [go_sem] setKVs_find getD_ite_bool
attribute [go_sem high] setKVs_lt
set_option maxHeartbeats 4000000 in
theorem alCheck_c (l : List Ev) (hn : l.length ≤ 9223372036854775807) (hs : Short l) : ACalls Tryz.prog 29 [.one (.list (evs l))] (.one (.int .i64 (checkEv l))) [] := by
 (refine ACalls.of_body Ty_ok mixed Tryz.func29 rfl (by kernel_rfl) Tryz.ntmps29 (by simp) (congrArg Array.toList Tryz.results29) ?_)
 simp only [slotsOf]
 (repeat' (first | (with_reducible first | exact True.intro | refine And.intro ?_ ?_ | refine aBl ?_ | (refine aS 6 [11, 10, 12] ?_; intro K hK)) | ((with_reducible first | refine aGo ?_); simp only [go_sem]) | ((with_reducible refine aCd ?_ ?_ (fun hb => ?_) (fun hb => ?_)); (iterate 2 simp only [go_sem]); all_goals (simp only [go_sem] at hb; try simp only [bls] at hb)) | ((iterate 6 try ((fail_if_success with_reducible refine hK _ ?_ ?_ ?_); clear hK K)); with_reducible refine hK _ ?_ ?_ ?_; rotate_left; (focus (simp only [go_sem]; exact rfl)); clear hK K) | (with_reducible refine aGs (fun hg0 => ?_) (fun hg0 => ?_) <;> first | (with_reducible first | exact aF1 hg0 | exact aF2 hg0) | (simp only [hg0, go_sem])) | (with_reducible refine aNk ?_; intro bnil hnil; try simp only []) | exact aZ | fail))
 ·rw [checkEv, if_pos (by omega)]
 refine awp_loop _ (by simp only [go_sem]; rfl) Nat (fun k => k ≤ l.length ∧ checkEv l = evFrom (l.take k) (l.drop k)) (fun k => [(12, .one (.int .i64 k))]) (fun k _ => [.map .str (setKVs ((l.take k).map Ev.name))]) (fun k => l.length - k) 0 ⟨by omega, by rw [checkEv, if_neg (by omega)]; simp⟩ ?_ ?_
 ·(simp only [SubF, go_sem]; (try simp only [go_sem]); repeat' (first | exact True.intro | with_reducible refine And.intro ?_ ?_ | rfl | omega))
 ·rintro k ⟨hk, hres⟩ L hL
  (simp only [go_sem] at hL ⊢)
  (repeat' (first | (with_reducible first | exact True.intro | refine And.intro ?_ ?_ | refine aBl ?_ | (refine aS 6 [11, 10, 12] ?_; intro K hK)) | ((with_reducible first | refine aGo ?_); simp only [go_sem]) | ((with_reducible refine aCd ?_ ?_ (fun hb => ?_) (fun hb => ?_)); (iterate 2 simp only [go_sem]); all_goals (simp only [go_sem] at hb; try simp only [bls] at hb)) | ((iterate 6 try ((fail_if_success with_reducible refine hK _ ?_ ?_ ?_); clear hK K)); with_reducible refine hK _ ?_ ?_ ?_; rotate_left; (focus (simp only [go_sem]; exact rfl)); clear hK K) | ((first | (with_reducible first | refine cA (IsName_c _ (hs.get k)) ?_ | refine cD (IsName_c _ (hs.get k)) ?_ | refine cO (IsName_c _ (hs.get k)) ?_ | refine cR (IsName_c _ (hs.get k)) ?_ | refine cG (fun hg => (IsName_c _ (hs.get k))) ?_ | refine cH (fun hg => (IsName_c _ (hs.get k))) ?_ | refine cM (fun hg => (IsName_c _ (hs.get k))) ?_) | ((with_reducible refine gA ?_); refine cA (IsName_c _ (hs.get k)) ?_) | ((with_reducible refine gD ?_); refine cD (IsName_c _ (hs.get k)) ?_) | ((with_reducible refine gG ?_); refine cG (fun hg => (IsName_c _ (hs.get k))) ?_)); simp only [go_sem]) | (with_reducible refine aGs (fun hg0 => ?_) (fun hg0 => ?_) <;> first | (with_reducible first | exact aF1 hg0 | exact aF2 hg0) | (simp only [hg0, go_sem])) | (with_reducible refine aNk ?_; intro bnil hnil; try simp only []) | exact aZ | fail))
  ·rw [ev_step (by omega) hres, if_pos hb]
  ·rename_i h; rw [ev_step (by omega) hres, if_neg (by rw [h]; simp), if_pos hb]
  ·rename_i h1 h2; rw [ev_step (by omega) hres, if_neg (by rw [h1]; simp), if_neg h2, if_pos hb]
  ·rename_i h1 h2 h3; rw [ev_step (by omega) hres, if_neg (by rw [h1]; simp), if_neg h2, if_neg (by omega), if_pos hb]
  ·rename_i h1 h2 h3
   have h4 := ev_step (by omega) hres
   rw [if_neg (by rw [h1]; simp), if_neg h2, if_neg (by omega), if_neg (by rintro ⟨h5, h6 | h6⟩ <;> simp_all)] at h4
   have e2 : (l.take (k + 1)).map Ev.name = (l.take k).map Ev.name ++ [(l.getD k Ev.no).name] := by rw [take_succ_getD l k Ev.no (by omega)]; simp
   simp only [setKVs_set _ _ h2, ← e2]
   exact hL _ (k + 1) ⟨by omega, h4⟩ (by (simp only [SubF, go_sem]; (try simp only [go_sem]); repeat' (first | exact True.intro | with_reducible refine And.intro ?_ ?_ | rfl | omega))) (by omega)
  ·rw [hres, drop_end l k (by omega)]; rfl
set_option maxHeartbeats 1000000 in
theorem auSet_c (xs : List Int) (m : Int) (hn : xs.length ≤ 9223372036854775807) : ACalls Tryz.prog 96 [.one (.list (ints xs)), .one (.int .i64 m)] (.one (.int .i64 (checkSet xs m))) [] := by
 (refine ACalls.of_body Ty_ok mixed Tryz.func96 rfl (by kernel_rfl) Tryz.ntmps96 (by simp) (congrArg Array.toList Tryz.results96) ?_)
 simp only [slotsOf]
 (repeat' (first | (with_reducible first | exact True.intro | refine And.intro ?_ ?_ | refine aBl ?_ | (refine aS 10 [] ?_; intro K hK)) | ((with_reducible first | refine aGo ?_); simp only [go_sem]) | ((with_reducible refine aCd ?_ ?_ (fun hb => ?_) (fun hb => ?_)); (iterate 2 simp only [go_sem]); all_goals (simp only [go_sem] at hb; try simp only [bls] at hb)) | ((iterate 6 try ((fail_if_success with_reducible refine hK _ ?_ ?_ ?_); clear hK K)); with_reducible refine hK _ ?_ ?_ ?_; rotate_left; (focus (simp only [go_sem]; exact rfl)); clear hK K) | (with_reducible refine aGs (fun hg0 => ?_) (fun hg0 => ?_) <;> first | (with_reducible first | exact aF1 hg0 | exact aF2 hg0) | (simp only [hg0, go_sem])) | (with_reducible refine aNk ?_; intro bnil hnil; try simp only []) | exact aZ | fail))
 refine awp_loop _ (by simp only [go_sem]; rfl) Nat (fun k => k ≤ xs.length ∧ checkSet xs m = csFrom m (xs.drop k) (prevOf xs k)) (fun k => [(9, .one (.int .i64 k))]) (fun _ H => H) (fun k => xs.length - k) 0 ⟨by omega, by simp [checkSet, prevOf]⟩ ?_ ?_
 ·(simp only [SubF, go_sem]; (try simp only [go_sem]); repeat' (first | exact True.intro | with_reducible refine And.intro ?_ ?_ | rfl | omega))
 ·rintro k ⟨hk, hres⟩ L hL
  (simp only [go_sem] at hL ⊢)
  (repeat' (first | (with_reducible first | exact True.intro | refine And.intro ?_ ?_ | refine aBl ?_ | (refine aS 10 [] ?_; intro K hK)) | ((with_reducible first | refine aGo ?_); simp only [go_sem]) | ((with_reducible refine aCd ?_ ?_ (fun hb => ?_) (fun hb => ?_)); (iterate 2 simp only [go_sem]); all_goals (simp only [go_sem] at hb; try simp only [bls] at hb)) | ((iterate 6 try ((fail_if_success with_reducible refine hK _ ?_ ?_ ?_); clear hK K)); with_reducible refine hK _ ?_ ?_ ?_; rotate_left; (focus (simp only [go_sem]; exact rfl)); clear hK K) | (with_reducible refine aGs (fun hg0 => ?_) (fun hg0 => ?_) <;> first | (with_reducible first | exact aF1 hg0 | exact aF2 hg0) | (simp only [hg0, go_sem])) | (with_reducible refine aNk ?_; intro bnil hnil; try simp only []) | exact aZ | fail))
  ·rw [cs_step (by omega) hres, if_pos (by assumption)]
  ·rw [toNat_pred] at hb
   rw [cs_step (by omega) hres, if_neg (by omega), if_pos (by omega)]
  ·rw [toNat_pred] at hb
   have h1 := cs_step (by omega) hres
   rw [if_neg (by omega), if_neg (by omega)] at h1
   exact hL _ (k + 1) ⟨by omega, h1⟩ (by (simp only [SubF, go_sem]; (try simp only [go_sem]); repeat' (first | exact True.intro | with_reducible refine And.intro ?_ ?_ | rfl | omega))) (by omega)
  ·rw [hres, drop_end xs k (by omega)]; rfl
def prevE (es : List Ed) (k : Nat) : Option Ed := if k = 0 then none else some (es.getD (k - 1) Ed.no)
def deFrom (n : Int) (al : List Int) : Option Ed → List Ed → Int
 | _, [] => 0
 | p, x :: l => if x.src < 0 ∨ n ≤ x.src ∨ x.dst < 0 ∨ n ≤ x.dst then 2 else if x.ev ∉ al then 9 else if (p.any fun q => decide (x.src < q.src ∨ x.src = q.src ∧ x.ev ≤ q.ev)) = true then 5 else deFrom n al (some x) l
theorem de_step {es : List Ed} {n : Int} {al : List Int} {b : Int} {k : Nat} (hk : k < es.length) (h : b = deFrom n al (prevE es k) (es.drop k)) :
  b = if (es.getD k Ed.no).src < 0 ∨ n ≤ (es.getD k Ed.no).src ∨ (es.getD k Ed.no).dst < 0 ∨ n ≤ (es.getD k Ed.no).dst then 2 else if (es.getD k Ed.no).ev ∉ al then 9 else if 0 < k ∧ ((es.getD k Ed.no).src < (es.getD (k - 1) Ed.no).src ∨ (es.getD k Ed.no).src = (es.getD (k - 1) Ed.no).src ∧ (es.getD k Ed.no).ev ≤ (es.getD (k - 1) Ed.no).ev) then 5 else deFrom n al (prevE es (k + 1)) (es.drop (k + 1)) := by
 rw [drop_getD es k Ed.no hk] at h
 rw [h, deFrom]
 unfold prevE
 by_cases h0 : k = 0
 ·subst h0; simp
 ·have hp : 0 < k := by omega
  simp [h0, hp]
def chkAU (a : AU) : Int := if checkSet a.alpha 32 ≠ 0 then checkSet a.alpha 32 else if a.states < 0 then 2 else if 4096 < a.states then 3 else if checkSet a.marked a.states ≠ 0 then checkSet a.marked a.states else deFrom a.states a.alpha none a.edges
set_option maxHeartbeats 8000000 in
theorem auEdges_c (a : AU) (hf : a.Fits) : ACalls Tryz.prog 97 [.agg a.d] (.one (.int .i64 (deFrom a.states a.alpha none a.edges))) [] := by
 obtain ⟨f1, f2, f3⟩ := hf
 (refine ACalls.of_body Ty_ok mixed Tryz.func97 rfl (by kernel_rfl) Tryz.ntmps97 (by simp) (congrArg Array.toList Tryz.results97) ?_)
 simp only [slotsOf, AU.d]
 (repeat' (first | (with_reducible first | exact True.intro | refine And.intro ?_ ?_ | refine aBl ?_ | (refine aS 6 [8, 7, 9] ?_; intro K hK)) | ((with_reducible first | refine aGo ?_); simp only [go_sem]) | ((with_reducible refine aCd ?_ ?_ (fun hb => ?_) (fun hb => ?_)); (iterate 2 simp only [go_sem]); all_goals (simp only [go_sem] at hb; try simp only [bls] at hb)) | ((iterate 6 try ((fail_if_success with_reducible refine hK _ ?_ ?_ ?_); clear hK K)); with_reducible refine hK _ ?_ ?_ ?_; rotate_left; (focus (simp only [go_sem]; exact rfl)); clear hK K) | (with_reducible refine aGs (fun hg0 => ?_) (fun hg0 => ?_) <;> first | (with_reducible first | exact aF1 hg0 | exact aF2 hg0) | (simp only [hg0, go_sem])) | (with_reducible refine aNk ?_; intro bnil hnil; try simp only []) | exact aZ | fail))
 all_goals first | omega | skip
 refine awp_loop _ (by simp only [go_sem]; rfl) Nat (fun k => k ≤ a.edges.length ∧ deFrom a.states a.alpha none a.edges = deFrom a.states a.alpha (prevE a.edges k) (a.edges.drop k)) (fun k => [(9, .one (.int .i64 k))]) (fun _ H => H) (fun k => a.edges.length - k) 0 ⟨by omega, by simp [prevE]⟩ ?_ ?_
 ·(simp only [SubF, go_sem]; (try simp only [go_sem]); repeat' (first | exact True.intro | with_reducible refine And.intro ?_ ?_ | rfl | omega))
 rintro k ⟨hk, hres⟩ L hL
 by_cases hlt : k < a.edges.length
 ·have hs := de_step hlt hres
  have c4 := sContains_c a.alpha (a.edges.getD k Ed.no).ev (by omega)
  have e1 := toNat_pred k
  (simp only [go_sem] at hL ⊢)
  (repeat' (first | (with_reducible first | exact True.intro | refine And.intro ?_ ?_ | refine aBl ?_ | (refine aS 6 [8, 7, 9] ?_; intro K hK)) | ((with_reducible first | refine aGo ?_); simp only [e1, go_sem]) | ((with_reducible refine aCd ?_ ?_ (fun hb => ?_) (fun hb => ?_)); (iterate 2 simp only [e1, go_sem]); all_goals (simp only [e1, go_sem] at hb; try simp only [bls] at hb)) | ((iterate 6 try ((fail_if_success with_reducible refine hK _ ?_ ?_ ?_); clear hK K)); with_reducible refine hK _ ?_ ?_ ?_; rotate_left; (focus (simp only [e1, go_sem]; exact rfl)); clear hK K) | ((first | (with_reducible first | refine xA ?_ | refine xD ?_ | refine xO ?_ | refine xR ?_ | refine xG ?_ | refine xH ?_ | refine xM ?_) | ((with_reducible refine gA ?_); refine xA ?_) | ((with_reducible refine gD ?_); refine xD ?_) | ((with_reducible refine gG ?_); refine xG ?_)); simp only [e1, go_sem]) | (with_reducible refine aGs (fun hg0 => ?_) (fun hg0 => ?_) <;> first | (with_reducible first | exact aF1 hg0 | exact aF2 hg0) | (simp only [hg0, e1, go_sem])) | (with_reducible refine aNk ?_; intro bnil hnil; try simp only []) | exact aZ | fail))
  all_goals first | omega | skip
  ·rw [hs, if_neg (by omega), if_pos hb]
  ·rename_i q1 q2
   rw [if_neg (by omega), if_neg (fun h => h q2), if_neg (fun h => by omega)] at hs
   exact hL _ (k + 1) ⟨by omega, hs⟩ (by (simp only [SubF, go_sem]; (try simp only [go_sem]); repeat' (first | exact True.intro | with_reducible refine And.intro ?_ ?_ | rfl | omega))) (by omega)
  ·rename_i q1 q2 q3
   rw [hs, if_neg (by omega), if_neg (fun h => h q2), if_pos ⟨by omega, hb⟩]
  ·rename_i q1 q2 q3
   rw [if_neg (by omega), if_neg (fun h => h q2), if_neg (fun h => by omega)] at hs
   exact hL _ (k + 1) ⟨by omega, hs⟩ (by (simp only [SubF, go_sem]; (try simp only [go_sem]); repeat' (first | exact True.intro | with_reducible refine And.intro ?_ ?_ | rfl | omega))) (by omega)
 ·(simp only [go_sem] at hL ⊢)
  (repeat' (first | (with_reducible first | exact True.intro | refine And.intro ?_ ?_ | refine aBl ?_ | (refine aS 6 [8, 7, 9] ?_; intro K hK)) | ((with_reducible first | refine aGo ?_); simp only [go_sem]) | ((with_reducible refine aCd ?_ ?_ (fun hb => ?_) (fun hb => ?_)); (iterate 2 simp only [go_sem]); all_goals (simp only [go_sem] at hb; try simp only [bls] at hb)) | ((iterate 6 try ((fail_if_success with_reducible refine hK _ ?_ ?_ ?_); clear hK K)); with_reducible refine hK _ ?_ ?_ ?_; rotate_left; (focus (simp only [go_sem]; exact rfl)); clear hK K) | (with_reducible refine aGs (fun hg0 => ?_) (fun hg0 => ?_) <;> first | (with_reducible first | exact aF1 hg0 | exact aF2 hg0) | (simp only [hg0, go_sem])) | (with_reducible refine aNk ?_; intro bnil hnil; try simp only []) | exact aZ | fail))
  all_goals first | omega | skip
  rw [hres, drop_end a.edges k (by omega)]; rfl
set_option maxHeartbeats 8000000 in
theorem auCheck_c (a : AU) (hf : a.Fits) : ACalls Tryz.prog 61 [.agg a.d] (.one (.int .i64 (chkAU a))) [] := by
 have c3 := auEdges_c a hf
 obtain ⟨f1, f2, f3⟩ := hf
 have c1 := auSet_c a.alpha 32 (by omega)
 have c2 := auSet_c a.marked a.states (by omega)
 have hE : chkAU a = if checkSet a.alpha 32 ≠ 0 then checkSet a.alpha 32 else if a.states < 0 then 2 else if 4096 < a.states then 3 else if checkSet a.marked a.states ≠ 0 then checkSet a.marked a.states else deFrom a.states a.alpha none a.edges := rfl
 generalize chkAU a = R at *
 generalize checkSet a.alpha 32 = e1 at *
 generalize checkSet a.marked a.states = e2 at *
 generalize deFrom a.states a.alpha none a.edges = e3 at *
 simp only [AU.d] at c3
 (refine ACalls.of_body Ty_ok mixed Tryz.func61 rfl (by kernel_rfl) Tryz.ntmps61 (by simp) (congrArg Array.toList Tryz.results61) ?_)
 simp only [slotsOf, AU.d]
 (repeat' (first | (with_reducible first | exact True.intro | refine And.intro ?_ ?_ | refine aBl ?_ | (refine aS 5 [] ?_; intro K hK)) | ((with_reducible first | refine aGo ?_); simp only [go_sem]) | ((with_reducible refine aCd ?_ ?_ (fun hb => ?_) (fun hb => ?_)); (iterate 2 simp only [go_sem]); all_goals (simp only [go_sem] at hb; try simp only [bls] at hb)) | ((iterate 6 try ((fail_if_success with_reducible refine hK _ ?_ ?_ ?_); clear hK K)); with_reducible refine hK _ ?_ ?_ ?_; rotate_left; (focus (simp only [go_sem]; exact rfl)); clear hK K) | ((first | (with_reducible first | refine xA ?_ | refine xD ?_ | refine xO ?_ | refine xR ?_ | refine xG ?_ | refine xH ?_ | refine xM ?_) | ((with_reducible refine gA ?_); refine xA ?_) | ((with_reducible refine gD ?_); refine xD ?_) | ((with_reducible refine gG ?_); refine xG ?_)); simp only [go_sem]) | (with_reducible refine aGs (fun hg0 => ?_) (fun hg0 => ?_) <;> first | (with_reducible first | exact aF1 hg0 | exact aF2 hg0) | (simp only [hg0, go_sem])) | (with_reducible refine aNk ?_; intro bnil hnil; try simp only []) | exact aZ | fail))
 all_goals first | omega | skip
end Go.Proofs.YtkjnjkdcpbgabaaGreatDoor
