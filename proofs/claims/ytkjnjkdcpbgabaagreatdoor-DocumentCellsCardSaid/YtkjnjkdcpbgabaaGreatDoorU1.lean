/-
 Chapter 23: data: names, events, automata, items; comparing and cloning lists of them.
-/
import Derived.Test.YtkjnjkdcpbgabaaGreatDoorN1
set_option linter.unusedSimpArgs false
set_option linter.unusedVariables false
namespace Go.Proofs.YtkjnjkdcpbgabaaGreatDoor
open Go.Eng Go.RowKit
theorem len_zero {α : Type} {l : List α} (h : l.length = 0) : l = [] := List.eq_nil_of_length_eq_zero h
/-! names -/
def letterB (c : Int) : Bool := (decide (97 ≤ c) && decide (c ≤ 122)) || (decide (65 ≤ c) && decide (c ≤ 90)) || (c == 95)
def digitB (c : Int) : Bool := decide (48 ≤ c) && decide (c ≤ 57)
def okAt (k : Nat) (c : Int) : Bool := letterB c || (decide (0 < k) && digitB c)
def okFrom : Nat → List UInt8 → Bool
 | _, [] => true
 | k, c :: l => okAt k c.toNat && okFrom (k + 1) l
def isNameB (l : List UInt8) : Bool := okFrom 0 l && decide (0 < l.length) && decide (l.length ≤ 32)
theorem okAt_true {k : Nat} {c : Int} (h : okAt k c = true) : (97 ≤ c ∧ c ≤ 122) ∨ (65 ≤ c ∧ c ≤ 90) ∨ c = 95 ∨ (0 < k ∧ 48 ≤ c ∧ c ≤ 57) := by
 simp only [okAt, letterB, digitB, Bool.or_eq_true, Bool.and_eq_true, decide_eq_true_eq, beq_iff_eq] at h; omega
theorem okAt_false {k : Nat} {c : Int} (h : okAt k c = false) : ¬ ((97 ≤ c ∧ c ≤ 122) ∨ (65 ≤ c ∧ c ≤ 90) ∨ c = 95 ∨ (0 < k ∧ 48 ≤ c ∧ c ≤ 57)) := by
 intro hh
 have : okAt k c = true := by simp only [okAt, letterB, digitB, Bool.or_eq_true, Bool.and_eq_true, decide_eq_true_eq, beq_iff_eq]; omega
 rw [h] at this; cases this
theorem okFrom_cons {s : List UInt8} {k : Nat} {b : Bool} (hk : k < s.length) (h : b = okFrom k (s.drop k)) : b = (okAt k ((s.getD k 0).toNat : Int) && okFrom (k + 1) (s.drop (k + 1))) := by
 rw [drop_getD s k 0 hk] at h; exact h
set_option maxHeartbeats 1000000 in
theorem IsName_c (s : List UInt8) (hn : s.length ≤ 1000) : ACalls Tryz.prog 44 [.one (.str s)] (.one (.bool (isNameB s))) [] := by
 (refine ACalls.of_body Ty_ok mixed Tryz.func44 rfl (by kernel_rfl) Tryz.ntmps44 (by simp) (congrArg Array.toList Tryz.results44) ?_)
 simp only [slotsOf]
 (repeat' (first | (with_reducible first | exact True.intro | refine And.intro ?_ ?_ | refine aBl ?_ | (refine aS 6 [7, 8] ?_; intro K hK)) | ((with_reducible first | refine aGo ?_); simp only [go_sem]) | ((with_reducible refine aCd ?_ ?_ (fun hb => ?_) (fun hb => ?_)); (iterate 2 simp only [go_sem]); all_goals (simp only [go_sem] at hb; try simp only [bls] at hb)) | ((iterate 6 try ((fail_if_success with_reducible refine hK _ ?_ ?_ ?_); clear hK K)); with_reducible refine hK _ ?_ ?_ ?_; rotate_left; (focus (simp only [go_sem]; exact rfl)); clear hK K) | (with_reducible refine aGs (fun hg0 => ?_) (fun hg0 => ?_) <;> first | (with_reducible first | exact aF1 hg0 | exact aF2 hg0) | (simp only [hg0, go_sem])) | (with_reducible refine aNk ?_; intro bnil hnil; try simp only []) | exact aZ | fail))
 refine awp_loop _ (by simp only [go_sem]; rfl) Nat (fun k => k ≤ s.length ∧ okFrom 0 s = okFrom k (s.drop k)) (fun k => [(8, .one (.int .i64 k))]) (fun _ H => H) (fun k => s.length - k) 0 ⟨by omega, by simp⟩ ?_ ?_
 ·(simp only [SubF, go_sem]; (try simp only [go_sem]); repeat' (first | exact True.intro | with_reducible refine And.intro ?_ ?_ | rfl | omega))
 ·rintro k ⟨hk, hres⟩ L hL
  (simp only [go_sem] at hL ⊢)
  (repeat' (first | (with_reducible first | exact True.intro | refine And.intro ?_ ?_ | refine aBl ?_ | (refine aS 6 [7, 8] ?_; intro K hK)) | ((with_reducible first | refine aGo ?_); simp only [go_sem]) | ((with_reducible refine aCd ?_ ?_ (fun hb => ?_) (fun hb => ?_)); (iterate 2 simp only [go_sem]); all_goals (simp only [go_sem] at hb; try simp only [bls] at hb)) | ((iterate 6 try ((fail_if_success with_reducible refine hK _ ?_ ?_ ?_); clear hK K)); with_reducible refine hK _ ?_ ?_ ?_; rotate_left; (focus (simp only [go_sem]; exact rfl)); clear hK K) | (with_reducible refine aGs (fun hg0 => ?_) (fun hg0 => ?_) <;> first | (with_reducible first | exact aF1 hg0 | exact aF2 hg0) | (simp only [hg0, go_sem])) | (with_reducible refine aNk ?_; intro bnil hnil; try simp only []) | exact aZ | fail))
  ·rw [isNameB, okFrom_cons (by omega) hres]
   cases hc : okAt k ((s.getD k 0).toNat : Int) with
   | false => rfl
   | true => have := okAt_true hc; omega
  ·have h1 := okFrom_cons (by omega) hres
   cases hc : okAt k ((s.getD k 0).toNat : Int) with
   | false => have := okAt_false hc; omega
   | true =>
    rw [hc, Bool.true_and] at h1
    exact hL _ (k + 1) ⟨by omega, h1⟩ (by (simp only [SubF, go_sem]; (try simp only [go_sem]); repeat' (first | exact True.intro | with_reducible refine And.intro ?_ ?_ | rfl | omega))) (by omega)
  ·rw [drop_end s k (by omega)] at hres
   simp only [isNameB, hres, okFrom, Bool.true_and]
   rw [Bool.eq_iff_iff]; simp; omega
/-! edges -/
structure Ed where
 src : Int
 ev : Int
 dst : Int
 deriving DecidableEq
def Ed.no : Ed := ⟨0, 0, 0⟩
def Ed.d (e : Ed) : List D := [.int .i64 e.src, .int .i64 e.ev, .int .i64 e.dst]
def edD (l : List Ed) : List (List D) := l.map Ed.d
theorem eds_length (l : List Ed) : (edD l).length = l.length := by simp [edD]
theorem eds_getD (l : List Ed) (k : Nat) : (edD l).getD k [.int .i64 0, .int .i64 0, .int .i64 0] = [.int .i64 (l.getD k Ed.no).src, .int .i64 (l.getD k Ed.no).ev, .int .i64 (l.getD k Ed.no).dst] := by
 simp only [edD, List.getD, List.getElem?_map]
 cases l[k]? <;> rfl
theorem eds_sz (l : List Ed) : (∀ r : List D, r ∈ edD l → r.length = 3) ↔ True := ⟨fun _ => trivial, fun _ r hr => by obtain ⟨e, _, rfl⟩ := List.mem_map.1 hr; rfl⟩
attribute [go_sem] eds_length eds_getD eds_sz
theorem ed_ext {a b : Ed} (h : a.src = b.src ∧ a.ev = b.ev ∧ a.dst = b.dst) : a = b := by
 obtain ⟨a1, a2, a3⟩ := a
 obtain ⟨b1, b2, b3⟩ := b
 simp_all
/-! a name (of a component) and a number: a local condition, a term -/
structure Lt where
 name : List UInt8
 val : Int
 deriving DecidableEq
def Lt.no : Lt := ⟨[], 0⟩
def Lt.d (e : Lt) : List D := [.str e.name, .int .i64 e.val]
def ltD (l : List Lt) : List (List D) := l.map Lt.d
theorem lts_length (l : List Lt) : (ltD l).length = l.length := by simp [ltD]
theorem lts_getD (l : List Lt) (k : Nat) : (ltD l).getD k [.str [], .int .i64 0] = [.str (l.getD k Lt.no).name, .int .i64 (l.getD k Lt.no).val] := by
 simp only [ltD, List.getD, List.getElem?_map]
 cases l[k]? <;> rfl
theorem lts_sz (l : List Lt) : (∀ r : List D, r ∈ ltD l → r.length = 2) ↔ True := ⟨fun _ => trivial, fun _ r hr => by obtain ⟨e, _, rfl⟩ := List.mem_map.1 hr; rfl⟩
theorem lts_append (xs ys : List Lt) : ltD xs ++ ltD ys = ltD (xs ++ ys) := by simp [ltD]
theorem lts_one (s : List UInt8) (v : Int) : [[D.str s, D.int .i64 v]] = ltD [⟨s, v⟩] := rfl
attribute [go_sem] lts_length lts_getD lts_sz
theorem lt_ext {a b : Lt} (h : a.name = b.name ∧ a.val = b.val) : a = b := by
 obtain ⟨a1, a2⟩ := a
 obtain ⟨b1, b2⟩ := b
 simp_all
/-! automata and items -/
structure AU where
 alpha : List Int
 states : Int
 marked : List Int
 edges : List Ed
 deriving DecidableEq
def AU.no : AU := ⟨[], 0, [], []⟩
def AU.d (a : AU) : List D := [.list (ints a.alpha), .int .i64 a.states, .list (ints a.marked), .list (edD a.edges)]
structure AU.Fits (a : AU) : Prop where
 alpha : a.alpha.length ≤ 1000
 marked : a.marked.length ≤ 1000
 edges : a.edges.length ≤ 1000
structure It where
 kind : Int
 name : List UInt8
 aut : AU
 locs : List Lt
 terms : List Lt
 bound : Int
 deriving DecidableEq
def It.no : It := ⟨0, [], AU.no, [], [], 0⟩
def It.d (x : It) : List D := [.int .i64 x.kind, .str x.name, .list (ints x.aut.alpha), .int .i64 x.aut.states, .list (ints x.aut.marked), .list (edD x.aut.edges), .list (ltD x.locs), .list (ltD x.terms), .int .i64 x.bound]
def itD (l : List It) : List (List D) := l.map It.d
structure It.Fits (x : It) : Prop where
 name : x.name.length ≤ 1000
 aut : x.aut.Fits
 locs : x.locs.length ≤ 1000
 terms : x.terms.length ≤ 1000
 ln : ∀ y ∈ x.locs, y.name.length ≤ 1000
 tn : ∀ y ∈ x.terms, y.name.length ≤ 1000
structure LFits (l : List It) : Prop where
 len : l.length ≤ 1000
 it : ∀ x ∈ l, x.Fits
theorem itD_length (l : List It) : (itD l).length = l.length := by simp [itD]
theorem itD_get {l : List It} {k : Nat} (hk : k < l.length) (z : List D) : (itD l).getD k z = (l.getD k It.no).d := by
 simp only [itD, List.getD, List.getElem?_map, List.getElem?_eq_getElem hk]
 rfl
theorem itD_sz (l : List It) : (∀ r : List D, r ∈ itD l → r.length = 9) ↔ True := ⟨fun _ => trivial, fun _ r hr => by obtain ⟨e, _, rfl⟩ := List.mem_map.1 hr; rfl⟩
theorem itD_append (xs ys : List It) : itD xs ++ itD ys = itD (xs ++ ys) := by simp [itD]
theorem itD_take (l : List It) (k : Nat) : (itD l).take k = itD (l.take k) := by simp [itD]
theorem itD_drop (l : List It) (k : Nat) : (itD l).drop k = itD (l.drop k) := by simp [itD]
theorem itD_set (l : List It) (k : Nat) (x : It) : (itD l).set k x.d = itD (l.set k x) := by simp [itD]
attribute [go_sem] itD_length itD_sz itD_take itD_drop
/-! lists compared, lists cloned -/
set_option maxHeartbeats 4000000 in
theorem EqualEds_c (xs ys : List Ed) (hn : xs.length ≤ 1000000) : ACalls Tryz.prog 107 [.one (.list (edD xs)), .one (.list (edD ys))] (.one (.bool (decide (xs = ys)))) [] := by
 (refine ACalls.of_body Ty_ok mixed Tryz.func107 rfl (by kernel_rfl) Tryz.ntmps107 (by simp) (congrArg Array.toList Tryz.results107) ?_)
 simp only [slotsOf]
 (repeat' (first | (with_reducible first | exact True.intro | refine And.intro ?_ ?_ | refine aBl ?_ | (refine aS 6 [12, 13] ?_; intro K hK)) | ((with_reducible first | refine aGo ?_ | refine rD (id := 6) ?_); simp only [go_sem]) | ((with_reducible refine aCd ?_ ?_ (fun hb => ?_) (fun hb => ?_)); (iterate 2 simp only [go_sem]); all_goals (simp only [go_sem] at hb; try simp only [bls] at hb)) | ((iterate 6 try ((fail_if_success with_reducible refine hK _ ?_ ?_ ?_); clear hK K)); with_reducible refine hK _ ?_ ?_ ?_; rotate_left; (focus (simp only [go_sem]; exact rfl)); clear hK K) | (with_reducible refine aGs (fun hg0 => ?_) (fun hg0 => ?_) <;> first | (with_reducible first | exact aF1 hg0 | exact aF2 hg0) | (simp only [hg0, go_sem])) | (with_reducible refine aNk ?_; intro bnil hnil; try simp only []) | exact aZ | fail))
 ·have : xs ≠ ys := by rintro rfl; omega
  simp [this]
 refine awp_loop _ (by simp only [go_sem]; rfl) Nat (fun k => k ≤ xs.length ∧ decide (xs = ys) = decide (xs.drop k = ys.drop k)) (fun k => [(13, .one (.int .i64 k))]) (fun _ H => H) (fun k => xs.length - k) 0 ⟨by omega, by simp⟩ ?_ ?_
 ·(simp only [SubF, go_sem]; (try simp only [go_sem]); repeat' (first | exact True.intro | with_reducible refine And.intro ?_ ?_ | rfl | omega))
 ·rintro k ⟨hk, hres⟩ L hL
  (simp only [go_sem] at hL ⊢)
  (repeat' (first | (with_reducible first | exact True.intro | refine And.intro ?_ ?_ | refine aBl ?_ | (refine aS 6 [12, 13] ?_; intro K hK)) | ((with_reducible first | refine aGo ?_ | refine rD (id := 6) ?_); simp only [go_sem]) | ((with_reducible refine aCd ?_ ?_ (fun hb => ?_) (fun hb => ?_)); (iterate 2 simp only [go_sem]); all_goals (simp only [go_sem] at hb; try simp only [bls] at hb)) | ((iterate 6 try ((fail_if_success with_reducible refine hK _ ?_ ?_ ?_); clear hK K)); with_reducible refine hK _ ?_ ?_ ?_; rotate_left; (focus (simp only [go_sem]; exact rfl)); clear hK K) | (with_reducible refine aGs (fun hg0 => ?_) (fun hg0 => ?_) <;> first | (with_reducible first | exact aF1 hg0 | exact aF2 hg0) | (simp only [hg0, go_sem])) | (with_reducible refine aNk ?_; intro bnil hnil; try simp only []) | exact aZ | fail))
  ·rw [eqq_step (d := Ed.no) (by omega) (by omega) hres, decide_eq_false]
   ·rfl
   ·intro h; rw [h] at hb; simp at hb
  ·have h1 := eqq_step (d := Ed.no) (by omega) (by omega) hres
   rw [decide_eq_true (ed_ext (by simpa using hb)), Bool.true_and] at h1
   exact hL _ (k + 1) ⟨by omega, h1⟩ (by (simp only [SubF, go_sem]; (try simp only [go_sem]); repeat' (first | exact True.intro | with_reducible refine And.intro ?_ ?_ | rfl | omega))) (by omega)
  ·rw [hres, drop_end xs k (by omega), drop_end ys k (by omega)]; rfl
theorem CloneEds_c (xs : List Ed) (hn : xs.length ≤ 1000000) : ACalls Tryz.prog 85 [.one (.list (edD xs))] (.one (.own 0)) [.row 115 3 (edD xs)] := by
 (refine ACalls.of_body_own Ty_ok mixed Tryz.func85 rfl (by kernel_rfl) Tryz.ntmps85 (by simp) (congrArg Array.toList Tryz.results85) ?_)
 simp only [slotsOf]
 (repeat' (first | (with_reducible first | exact True.intro | refine And.intro ?_ ?_ | refine aBl ?_ | (refine aS 3 [] ?_; intro K hK)) | ((with_reducible first | refine aGo ?_); simp only [go_sem]) | ((with_reducible refine aCd ?_ ?_ (fun hb => ?_) (fun hb => ?_)); (iterate 2 simp only [go_sem]); all_goals (simp only [go_sem] at hb; try simp only [bls] at hb)) | ((iterate 6 try ((fail_if_success with_reducible refine hK _ ?_ ?_ ?_); clear hK K)); with_reducible refine hK _ ?_ ?_ ?_; rotate_left; (focus (simp only [go_sem]; exact rfl)); clear hK K) | (with_reducible refine aGs (fun hg0 => ?_) (fun hg0 => ?_) <;> first | (with_reducible first | exact aF1 hg0 | exact aF2 hg0) | (simp only [hg0, go_sem])) | (with_reducible refine aNk ?_; intro bnil hnil; try simp only []) | exact aZ | fail))
 rw [hnil hb]
set_option maxHeartbeats 4000000 in
theorem EqualLocs_c (xs ys : List Lt) (hn : xs.length ≤ 1000000) : ACalls Tryz.prog 82 [.one (.list (ltD xs)), .one (.list (ltD ys))] (.one (.bool (decide (xs = ys)))) [] := by
 (refine ACalls.of_body Ty_ok mixed Tryz.func82 rfl (by kernel_rfl) Tryz.ntmps82 (by simp) (congrArg Array.toList Tryz.results82) ?_)
 simp only [slotsOf]
 (repeat' (first | (with_reducible first | exact True.intro | refine And.intro ?_ ?_ | refine aBl ?_ | (refine aS 6 [12, 13] ?_; intro K hK)) | ((with_reducible first | refine aGo ?_ | refine rD (id := 6) ?_); simp only [go_sem]) | ((with_reducible refine aCd ?_ ?_ (fun hb => ?_) (fun hb => ?_)); (iterate 2 simp only [go_sem]); all_goals (simp only [go_sem] at hb; try simp only [bls] at hb)) | ((iterate 6 try ((fail_if_success with_reducible refine hK _ ?_ ?_ ?_); clear hK K)); with_reducible refine hK _ ?_ ?_ ?_; rotate_left; (focus (simp only [go_sem]; exact rfl)); clear hK K) | (with_reducible refine aGs (fun hg0 => ?_) (fun hg0 => ?_) <;> first | (with_reducible first | exact aF1 hg0 | exact aF2 hg0) | (simp only [hg0, go_sem])) | (with_reducible refine aNk ?_; intro bnil hnil; try simp only []) | exact aZ | fail))
 ·have : xs ≠ ys := by rintro rfl; omega
  simp [this]
 refine awp_loop _ (by simp only [go_sem]; rfl) Nat (fun k => k ≤ xs.length ∧ decide (xs = ys) = decide (xs.drop k = ys.drop k)) (fun k => [(13, .one (.int .i64 k))]) (fun _ H => H) (fun k => xs.length - k) 0 ⟨by omega, by simp⟩ ?_ ?_
 ·(simp only [SubF, go_sem]; (try simp only [go_sem]); repeat' (first | exact True.intro | with_reducible refine And.intro ?_ ?_ | rfl | omega))
 ·rintro k ⟨hk, hres⟩ L hL
  (simp only [go_sem] at hL ⊢)
  (repeat' (first | (with_reducible first | exact True.intro | refine And.intro ?_ ?_ | refine aBl ?_ | (refine aS 6 [12, 13] ?_; intro K hK)) | ((with_reducible first | refine aGo ?_ | refine rD (id := 6) ?_); simp only [go_sem]) | ((with_reducible refine aCd ?_ ?_ (fun hb => ?_) (fun hb => ?_)); (iterate 2 simp only [go_sem]); all_goals (simp only [go_sem] at hb; try simp only [bls] at hb)) | ((iterate 6 try ((fail_if_success with_reducible refine hK _ ?_ ?_ ?_); clear hK K)); with_reducible refine hK _ ?_ ?_ ?_; rotate_left; (focus (simp only [go_sem]; exact rfl)); clear hK K) | (with_reducible refine aGs (fun hg0 => ?_) (fun hg0 => ?_) <;> first | (with_reducible first | exact aF1 hg0 | exact aF2 hg0) | (simp only [hg0, go_sem])) | (with_reducible refine aNk ?_; intro bnil hnil; try simp only []) | exact aZ | fail))
  ·rw [eqq_step (d := Lt.no) (by omega) (by omega) hres, decide_eq_false]
   ·rfl
   ·intro h; rw [h] at hb; simp at hb
  ·have h1 := eqq_step (d := Lt.no) (by omega) (by omega) hres
   rw [decide_eq_true (lt_ext (by simpa using hb)), Bool.true_and] at h1
   exact hL _ (k + 1) ⟨by omega, h1⟩ (by (simp only [SubF, go_sem]; (try simp only [go_sem]); repeat' (first | exact True.intro | with_reducible refine And.intro ?_ ?_ | rfl | omega))) (by omega)
  ·rw [hres, drop_end xs k (by omega), drop_end ys k (by omega)]; rfl
set_option maxHeartbeats 4000000 in
theorem EqualTerms_c (xs ys : List Lt) (hn : xs.length ≤ 1000000) : ACalls Tryz.prog 83 [.one (.list (ltD xs)), .one (.list (ltD ys))] (.one (.bool (decide (xs = ys)))) [] := by
 (refine ACalls.of_body Ty_ok mixed Tryz.func83 rfl (by kernel_rfl) Tryz.ntmps83 (by simp) (congrArg Array.toList Tryz.results83) ?_)
 simp only [slotsOf]
 (repeat' (first | (with_reducible first | exact True.intro | refine And.intro ?_ ?_ | refine aBl ?_ | (refine aS 6 [12, 13] ?_; intro K hK)) | ((with_reducible first | refine aGo ?_ | refine rD (id := 6) ?_); simp only [go_sem]) | ((with_reducible refine aCd ?_ ?_ (fun hb => ?_) (fun hb => ?_)); (iterate 2 simp only [go_sem]); all_goals (simp only [go_sem] at hb; try simp only [bls] at hb)) | ((iterate 6 try ((fail_if_success with_reducible refine hK _ ?_ ?_ ?_); clear hK K)); with_reducible refine hK _ ?_ ?_ ?_; rotate_left; (focus (simp only [go_sem]; exact rfl)); clear hK K) | (with_reducible refine aGs (fun hg0 => ?_) (fun hg0 => ?_) <;> first | (with_reducible first | exact aF1 hg0 | exact aF2 hg0) | (simp only [hg0, go_sem])) | (with_reducible refine aNk ?_; intro bnil hnil; try simp only []) | exact aZ | fail))
 ·have : xs ≠ ys := by rintro rfl; omega
  simp [this]
 refine awp_loop _ (by simp only [go_sem]; rfl) Nat (fun k => k ≤ xs.length ∧ decide (xs = ys) = decide (xs.drop k = ys.drop k)) (fun k => [(13, .one (.int .i64 k))]) (fun _ H => H) (fun k => xs.length - k) 0 ⟨by omega, by simp⟩ ?_ ?_
 ·(simp only [SubF, go_sem]; (try simp only [go_sem]); repeat' (first | exact True.intro | with_reducible refine And.intro ?_ ?_ | rfl | omega))
 ·rintro k ⟨hk, hres⟩ L hL
  (simp only [go_sem] at hL ⊢)
  (repeat' (first | (with_reducible first | exact True.intro | refine And.intro ?_ ?_ | refine aBl ?_ | (refine aS 6 [12, 13] ?_; intro K hK)) | ((with_reducible first | refine aGo ?_ | refine rD (id := 6) ?_); simp only [go_sem]) | ((with_reducible refine aCd ?_ ?_ (fun hb => ?_) (fun hb => ?_)); (iterate 2 simp only [go_sem]); all_goals (simp only [go_sem] at hb; try simp only [bls] at hb)) | ((iterate 6 try ((fail_if_success with_reducible refine hK _ ?_ ?_ ?_); clear hK K)); with_reducible refine hK _ ?_ ?_ ?_; rotate_left; (focus (simp only [go_sem]; exact rfl)); clear hK K) | (with_reducible refine aGs (fun hg0 => ?_) (fun hg0 => ?_) <;> first | (with_reducible first | exact aF1 hg0 | exact aF2 hg0) | (simp only [hg0, go_sem])) | (with_reducible refine aNk ?_; intro bnil hnil; try simp only []) | exact aZ | fail))
  ·rw [eqq_step (d := Lt.no) (by omega) (by omega) hres, decide_eq_false]
   ·rfl
   ·intro h; rw [h] at hb; simp at hb
  ·have h1 := eqq_step (d := Lt.no) (by omega) (by omega) hres
   rw [decide_eq_true (lt_ext (by simpa using hb)), Bool.true_and] at h1
   exact hL _ (k + 1) ⟨by omega, h1⟩ (by (simp only [SubF, go_sem]; (try simp only [go_sem]); repeat' (first | exact True.intro | with_reducible refine And.intro ?_ ?_ | rfl | omega))) (by omega)
  ·rw [hres, drop_end xs k (by omega), drop_end ys k (by omega)]; rfl
theorem CloneLocs_c (xs : List Lt) (hn : xs.length ≤ 1000000) : ACalls Tryz.prog 86 [.one (.list (ltD xs))] (.one (.own 0)) [.row 60 2 (ltD xs)] := by
 (refine ACalls.of_body_own Ty_ok mixed Tryz.func86 rfl (by kernel_rfl) Tryz.ntmps86 (by simp) (congrArg Array.toList Tryz.results86) ?_)
 simp only [slotsOf]
 (repeat' (first | (with_reducible first | exact True.intro | refine And.intro ?_ ?_ | refine aBl ?_ | (refine aS 3 [] ?_; intro K hK)) | ((with_reducible first | refine aGo ?_); simp only [go_sem]) | ((with_reducible refine aCd ?_ ?_ (fun hb => ?_) (fun hb => ?_)); (iterate 2 simp only [go_sem]); all_goals (simp only [go_sem] at hb; try simp only [bls] at hb)) | ((iterate 6 try ((fail_if_success with_reducible refine hK _ ?_ ?_ ?_); clear hK K)); with_reducible refine hK _ ?_ ?_ ?_; rotate_left; (focus (simp only [go_sem]; exact rfl)); clear hK K) | (with_reducible refine aGs (fun hg0 => ?_) (fun hg0 => ?_) <;> first | (with_reducible first | exact aF1 hg0 | exact aF2 hg0) | (simp only [hg0, go_sem])) | (with_reducible refine aNk ?_; intro bnil hnil; try simp only []) | exact aZ | fail))
 rw [hnil hb]
theorem CloneTerms_c (xs : List Lt) (hn : xs.length ≤ 1000000) : ACalls Tryz.prog 87 [.one (.list (ltD xs))] (.one (.own 0)) [.row 62 2 (ltD xs)] := by
 (refine ACalls.of_body_own Ty_ok mixed Tryz.func87 rfl (by kernel_rfl) Tryz.ntmps87 (by simp) (congrArg Array.toList Tryz.results87) ?_)
 simp only [slotsOf]
 (repeat' (first | (with_reducible first | exact True.intro | refine And.intro ?_ ?_ | refine aBl ?_ | (refine aS 3 [] ?_; intro K hK)) | ((with_reducible first | refine aGo ?_); simp only [go_sem]) | ((with_reducible refine aCd ?_ ?_ (fun hb => ?_) (fun hb => ?_)); (iterate 2 simp only [go_sem]); all_goals (simp only [go_sem] at hb; try simp only [bls] at hb)) | ((iterate 6 try ((fail_if_success with_reducible refine hK _ ?_ ?_ ?_); clear hK K)); with_reducible refine hK _ ?_ ?_ ?_; rotate_left; (focus (simp only [go_sem]; exact rfl)); clear hK K) | (with_reducible refine aGs (fun hg0 => ?_) (fun hg0 => ?_) <;> first | (with_reducible first | exact aF1 hg0 | exact aF2 hg0) | (simp only [hg0, go_sem])) | (with_reducible refine aNk ?_; intro bnil hnil; try simp only []) | exact aZ | fail))
 rw [hnil hb]
/-! automata compared; items -/
theorem au_eq (a b : AU) : decide (a = b) = (decide (a.alpha = b.alpha) && decide (a.states = b.states) && decide (a.marked = b.marked) && decide (a.edges = b.edges)) := by
 obtain ⟨a1, a2, a3, a4⟩ := a
 obtain ⟨b1, b2, b3, b4⟩ := b
 rw [Bool.eq_iff_iff]
 simp only [decide_eq_true_eq, Bool.and_eq_true, AU.mk.injEq]
 constructor
 ·rintro ⟨h1, h2, h3, h4⟩; exact ⟨⟨⟨h1, h2⟩, h3⟩, h4⟩
 ·rintro ⟨⟨⟨h1, h2⟩, h3⟩, h4⟩; exact ⟨h1, h2, h3, h4⟩
theorem it_eq (a b : It) : decide (a = b) = (decide (a.kind = b.kind) && decide (a.name = b.name) && decide (a.aut = b.aut) && decide (a.locs = b.locs) && decide (a.terms = b.terms) && decide (a.bound = b.bound)) := by
 obtain ⟨a1, a2, a3, a4, a5, a6⟩ := a
 obtain ⟨b1, b2, b3, b4, b5, b6⟩ := b
 rw [Bool.eq_iff_iff]
 simp only [decide_eq_true_eq, Bool.and_eq_true, It.mk.injEq]
 constructor
 ·rintro ⟨h1, h2, h3, h4, h5, h6⟩; exact ⟨⟨⟨⟨⟨h1, h2⟩, h3⟩, h4⟩, h5⟩, h6⟩
 ·rintro ⟨⟨⟨⟨⟨h1, h2⟩, h3⟩, h4⟩, h5⟩, h6⟩; exact ⟨h1, h2, h3, h4, h5, h6⟩
end Go.Proofs.YtkjnjkdcpbgabaaGreatDoor
