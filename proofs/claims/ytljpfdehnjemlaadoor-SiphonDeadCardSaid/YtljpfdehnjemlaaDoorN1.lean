/-
 Contracts: lists of numbers, arcs; nets as data.
-/
import Derived.Test.YtljpfdehnjemlaaDoorTab
import Derived.Test.YtljpfdehnjemlaaDoorE3
set_option linter.unusedSimpArgs false
set_option linter.unusedVariables false
namespace Go.Proofs.YtljpfdehnjemlaaDoor
open Go.Eng Go.RowKit
theorem drop_getD {α : Type} (xs : List α) (k : Nat) (d : α) (h : k < xs.length) : xs.drop k = xs.getD k d :: xs.drop (k + 1) := by
 rw [List.drop_eq_getElem_cons h]; simp [List.getD, List.getElem?_eq_getElem h]
theorem drop_end {α : Type} (xs : List α) (k : Nat) (h : xs.length ≤ k) : xs.drop k = [] := List.drop_of_length_le h
theorem getD_mem {α : Type} (l : List α) (k : Nat) (d : α) (hk : k < l.length) : l.getD k d ∈ l := by
 simp [List.getD, List.getElem?_eq_getElem hk]
theorem take_succ_getD {α : Type} (l : List α) (k : Nat) (d : α) (hk : k < l.length) : l.take (k + 1) = l.take k ++ [l.getD k d] := by
 rw [List.take_add_one, List.getElem?_eq_getElem hk]; simp [List.getD, List.getElem?_eq_getElem hk]
/-! arcs, transitions, nets, constraints -/
structure Arc where
 place : Int
 weight : Int
 deriving DecidableEq
def Arc.no : Arc := ⟨0, 0⟩
def Arc.d (a : Arc) : List D := [.int .i64 a.place, .int .i64 a.weight]
def arcsD (l : List Arc) : List (List D) := l.map Arc.d
theorem arcs_length (l : List Arc) : (arcsD l).length = l.length := by simp [arcsD]
theorem arcs_getD (l : List Arc) (k : Nat) : (arcsD l).getD k [.int .i64 0, .int .i64 0] = [.int .i64 (l.getD k Arc.no).place, .int .i64 (l.getD k Arc.no).weight] := by
 simp only [arcsD, List.getD, List.getElem?_map]
 cases l[k]? <;> rfl
theorem arcs_sz (l : List Arc) : (∀ r : List D, r ∈ arcsD l → r.length = 2) ↔ True := ⟨fun _ => trivial, fun _ r hr => by obtain ⟨e, _, rfl⟩ := List.mem_map.1 hr; rfl⟩
theorem arcs_append (xs ys : List Arc) : arcsD xs ++ arcsD ys = arcsD (xs ++ ys) := by simp [arcsD]
theorem arcs_one (p w : Int) : [[D.int .i64 p, D.int .i64 w]] = arcsD [⟨p, w⟩] := rfl
structure Tr where
 event : Int
 inn : List Arc
 out : List Arc
 deriving DecidableEq
def Tr.no : Tr := ⟨0, [], []⟩
def Tr.d (t : Tr) : List D := [.int .i64 t.event, .list (arcsD t.inn), .list (arcsD t.out)]
def trsD (l : List Tr) : List (List D) := l.map Tr.d
theorem trs_length (l : List Tr) : (trsD l).length = l.length := by simp [trsD]
theorem trs_get {l : List Tr} {k : Nat} (hk : k < l.length) (z : List D) : (trsD l).getD k z = [.int .i64 (l.getD k Tr.no).event, .list (arcsD (l.getD k Tr.no).inn), .list (arcsD (l.getD k Tr.no).out)] := by
 simp only [trsD, List.getD, List.getElem?_map, List.getElem?_eq_getElem hk]
 rfl
theorem trs_sz (l : List Tr) : (∀ r : List D, r ∈ trsD l → r.length = 3) ↔ True := ⟨fun _ => trivial, fun _ r hr => by obtain ⟨e, _, rfl⟩ := List.mem_map.1 hr; rfl⟩
structure Net where
 init : List Int
 trs : List Tr
 deriving DecidableEq
def Net.d (n : Net) : List D := [.list (ints n.init), .list (trsD n.trs)]
structure Con where
 fac : List Int
 bound : Int
 deriving DecidableEq
def Con.d (c : Con) : List D := [.list (ints c.fac), .int .i64 c.bound]
attribute [go_sem] arcs_length arcs_getD arcs_sz trs_length trs_sz
/-! lists of numbers -/
theorem CloneInts_c (xs : List Int) (hn : xs.length ≤ 1000000) : ACalls Tryd.prog 38 [.one (.list (ints xs))] (.one (.own 0)) [.row 3 1 (ints xs)] := by
 (refine ACalls.of_body_own Ty_ok mixed Tryd.func38 rfl (by kernel_rfl) Tryd.ntmps38 (by simp) (congrArg Array.toList Tryd.results38) ?_)
 simp only [slotsOf]
 (repeat' (first | (with_reducible first | exact True.intro | refine And.intro ?_ ?_ | refine aBl ?_ | (refine aS 3 [] ?_; intro K hK)) | ((with_reducible first | refine aGo ?_); simp only [go_sem]) | ((with_reducible refine aCd ?_ ?_ (fun hb => ?_) (fun hb => ?_)); (iterate 2 simp only [go_sem]); all_goals (simp only [go_sem] at hb; try simp only [bls] at hb)) | ((iterate 6 try ((fail_if_success with_reducible refine hK _ ?_ ?_ ?_); clear hK K)); with_reducible refine hK _ ?_ ?_ ?_; rotate_left; (focus (simp only [go_sem]; exact rfl)); clear hK K) | (with_reducible refine aGs (fun hg0 => ?_) (fun hg0 => ?_) <;> first | (with_reducible first | exact aF1 hg0 | exact aF2 hg0) | (simp only [hg0, go_sem])) | (with_reducible refine aNk ?_; intro bnil hnil; try simp only []) | exact aZ | fail))
 rw [hnil hb]
theorem eqq_step {α : Type} [DecidableEq α] {xs ys : List α} {d : α} {b : Bool} {k : Nat} (hl : xs.length = ys.length) (hk : k < xs.length) (h : b = decide (xs.drop k = ys.drop k)) : b = (decide (xs.getD k d = ys.getD k d) && decide (xs.drop (k + 1) = ys.drop (k + 1))) := by
 rw [drop_getD xs k d hk, drop_getD ys k d (by omega)] at h
 rw [h, Bool.eq_iff_iff]
 simp
set_option maxHeartbeats 4000000 in
theorem EqualInts_c (xs ys : List Int) (hn : xs.length ≤ 1000000) : ACalls Tryd.prog 8 [.one (.list (ints xs)), .one (.list (ints ys))] (.one (.bool (decide (xs = ys)))) [] := by
 (refine ACalls.of_body Ty_ok mixed Tryd.func8 rfl (by kernel_rfl) Tryd.ntmps8 (by simp) (congrArg Array.toList Tryd.results8) ?_)
 simp only [slotsOf]
 (repeat' (first | (with_reducible first | exact True.intro | refine And.intro ?_ ?_ | refine aBl ?_ | (refine aS 6 [12, 13] ?_; intro K hK)) | ((with_reducible first | refine aGo ?_ | refine rD (id := 6) ?_); simp only [go_sem]) | ((with_reducible refine aCd ?_ ?_ (fun hb => ?_) (fun hb => ?_)); (iterate 2 simp only [go_sem]); all_goals (simp only [go_sem] at hb; try simp only [bls] at hb)) | ((iterate 6 try ((fail_if_success with_reducible refine hK _ ?_ ?_ ?_); clear hK K)); with_reducible refine hK _ ?_ ?_ ?_; rotate_left; (focus (simp only [go_sem]; exact rfl)); clear hK K) | (with_reducible refine aGs (fun hg0 => ?_) (fun hg0 => ?_) <;> first | (with_reducible first | exact aF1 hg0 | exact aF2 hg0) | (simp only [hg0, go_sem])) | (with_reducible refine aNk ?_; intro bnil hnil; try simp only []) | exact aZ | fail))
 ·have : xs ≠ ys := by rintro rfl; omega
  simp [this]
 refine awp_loop _ (by simp only [go_sem]; rfl) Nat (fun k => k ≤ xs.length ∧ decide (xs = ys) = decide (xs.drop k = ys.drop k)) (fun k => [(13, .one (.int .i64 k))]) (fun _ H => H) (fun k => xs.length - k) 0 ⟨by omega, by simp⟩ ?_ ?_
 ·(simp only [SubF, go_sem]; (try simp only [go_sem]); repeat' (first | exact True.intro | with_reducible refine And.intro ?_ ?_ | rfl | omega))
 ·rintro k ⟨hk, hres⟩ L hL
  (simp only [go_sem] at hL ⊢)
  (repeat' (first | (with_reducible first | exact True.intro | refine And.intro ?_ ?_ | refine aBl ?_ | (refine aS 6 [12, 13] ?_; intro K hK)) | ((with_reducible first | refine aGo ?_ | refine rD (id := 6) ?_); simp only [go_sem]) | ((with_reducible refine aCd ?_ ?_ (fun hb => ?_) (fun hb => ?_)); (iterate 2 simp only [go_sem]); all_goals (simp only [go_sem] at hb; try simp only [bls] at hb)) | ((iterate 6 try ((fail_if_success with_reducible refine hK _ ?_ ?_ ?_); clear hK K)); with_reducible refine hK _ ?_ ?_ ?_; rotate_left; (focus (simp only [go_sem]; exact rfl)); clear hK K) | (with_reducible refine aGs (fun hg0 => ?_) (fun hg0 => ?_) <;> first | (with_reducible first | exact aF1 hg0 | exact aF2 hg0) | (simp only [hg0, go_sem])) | (with_reducible refine aNk ?_; intro bnil hnil; try simp only []) | exact aZ | fail))
  ·rw [eqq_step (d := 0) (by omega) (by omega) hres, decide_eq_false hb]; rfl
  ·have h1 := eqq_step (d := 0) (by omega) (by omega) hres
   rw [decide_eq_true hb, Bool.true_and] at h1
   exact hL _ (k + 1) ⟨by omega, h1⟩ (by (simp only [SubF, go_sem]; (try simp only [go_sem]); repeat' (first | exact True.intro | with_reducible refine And.intro ?_ ?_ | rfl | omega))) (by omega)
  ·rw [hres, drop_end xs k (by omega), drop_end ys k (by omega)]; rfl
/-! the first that a function is true of -/
def ixFrom {α : Type} (p : α → Bool) : Nat → List α → Int
 | _, [] => -1
 | k, e :: l => if p e = true then k else ixFrom p (k + 1) l
theorem ix_step {α : Type} {p : α → Bool} {l : List α} {d : α} {b : Int} {k : Nat} (hk : k < l.length) (h : b = ixFrom p k (l.drop k)) : b = if p (l.getD k d) = true then (k : Int) else ixFrom p (k + 1) (l.drop (k + 1)) := by
 rw [drop_getD l k d hk] at h; exact h
theorem ix_any {α : Type} (p : α → Bool) : ∀ (l : List α) (k : Nat), decide (0 ≤ ixFrom p k l) = l.any p
 | [], k => rfl
 | e :: l, k => by
  rw [ixFrom, List.any_cons]
  by_cases h : p e = true
  ·rw [if_pos h, h]; simp
  ·rw [if_neg h, ix_any p l (k + 1)]; simp [h]
structure CapsOk (caps : List D) : Prop where
 lt : caps.all (D.tagsLt0 0) = true
 none : caps.flatMap D.tags0 = []
 bor : caps.map (AV.bor [] ∘ AV.one) = caps.map AV.one
 bor1 : caps.map (D.bor1 []) = caps
theorem capsOk_nil : CapsOk [] := ⟨rfl, rfl, rfl, rfl⟩
theorem capsOk_ref1 (r : List D) : CapsOk [.ref r] := ⟨rfl, rfl, rfl, rfl⟩
set_option maxHeartbeats 4000000 in
theorem IndexFuncInts_c (l : List Int) (f : FuncId) (caps : List D) (p : Int → Bool) (hn : l.length ≤ 1000000) (hc : CapsOk caps) (hp : ∀ e ∈ l, ACalls Tryd.prog f (.one (.int .i64 e) :: caps.map AV.one) (.one (.bool (p e))) []) :
  ACalls Tryd.prog 59 [.one (.list (ints l)), .one (.clo f caps)] (.one (.int .i64 (ixFrom p 0 l))) [] := by
 have hc1 := hc.lt
 have hc2 := hc.none
 have hc3 := hc.bor
 (refine ACalls.of_body Ty_ok mixed Tryd.func59 rfl (by kernel_rfl) Tryd.ntmps59 (by simp) (congrArg Array.toList Tryd.results59) ?_)
 simp only [slotsOf]
 (repeat' (first | (with_reducible first | exact True.intro | refine And.intro ?_ ?_ | refine aBl ?_ | (refine aS 6 [7, 8] ?_; intro K hK)) | ((with_reducible first | refine aGo ?_); simp only [go_sem]) | ((with_reducible refine aCd ?_ ?_ (fun hb => ?_) (fun hb => ?_)); (iterate 2 simp only [go_sem]); all_goals (simp only [go_sem] at hb; try simp only [bls] at hb)) | ((iterate 6 try ((fail_if_success with_reducible refine hK _ ?_ ?_ ?_); clear hK K)); with_reducible refine hK _ ?_ ?_ ?_; rotate_left; (focus (simp only [go_sem]; exact rfl)); clear hK K) | (with_reducible refine aGs (fun hg0 => ?_) (fun hg0 => ?_) <;> first | (with_reducible first | exact aF1 hg0 | exact aF2 hg0) | (simp only [hg0, go_sem])) | (with_reducible refine aNk ?_; intro bnil hnil; try simp only []) | exact aZ | fail))
 refine awp_loop _ (by simp only [go_sem]; rfl) Nat (fun k => k ≤ l.length ∧ ixFrom p 0 l = ixFrom p k (l.drop k)) (fun k => [(8, .one (.int .i64 k))]) (fun _ H => H) (fun k => l.length - k) 0 ⟨by omega, by simp⟩ ?_ ?_
 ·(simp only [SubF, hc1, hc2, go_sem]; (try simp only [hc1, hc2, go_sem]); repeat' (first | exact True.intro | with_reducible refine And.intro ?_ ?_ | rfl | omega))
 ·rintro k ⟨hk, hres⟩ L hL
  (simp only [go_sem] at hL ⊢)
  (repeat' (first | (with_reducible first | exact True.intro | refine And.intro ?_ ?_ | refine aBl ?_ | (refine aS 6 [7, 8] ?_; intro K hK)) | ((with_reducible first | refine aGo ?_); simp only [hc3, go_sem]) | ((with_reducible refine aCd ?_ ?_ (fun hb => ?_) (fun hb => ?_)); (iterate 2 simp only [hc3, go_sem]); all_goals (simp only [hc3, go_sem] at hb; try simp only [bls] at hb)) | ((iterate 6 try ((fail_if_success with_reducible refine hK _ ?_ ?_ ?_); clear hK K)); with_reducible refine hK _ ?_ ?_ ?_; rotate_left; (focus (simp only [hc3, go_sem]; exact rfl)); clear hK K) | ((first | (with_reducible first | refine cA (hp (l.getD k 0) (getD_mem l k 0 (by omega))) ?_ | refine cD (hp (l.getD k 0) (getD_mem l k 0 (by omega))) ?_ | refine cO (hp (l.getD k 0) (getD_mem l k 0 (by omega))) ?_ | refine cR (hp (l.getD k 0) (getD_mem l k 0 (by omega))) ?_ | refine cG (fun hg => (hp (l.getD k 0) (getD_mem l k 0 (by omega)))) ?_ | refine cH (fun hg => (hp (l.getD k 0) (getD_mem l k 0 (by omega)))) ?_ | refine cM (fun hg => (hp (l.getD k 0) (getD_mem l k 0 (by omega)))) ?_) | ((with_reducible refine gA ?_); refine cA (hp (l.getD k 0) (getD_mem l k 0 (by omega))) ?_) | ((with_reducible refine gD ?_); refine cD (hp (l.getD k 0) (getD_mem l k 0 (by omega))) ?_) | ((with_reducible refine gG ?_); refine cG (fun hg => (hp (l.getD k 0) (getD_mem l k 0 (by omega)))) ?_)); simp only [hc3, go_sem]) | (with_reducible refine aGs (fun hg0 => ?_) (fun hg0 => ?_) <;> first | (with_reducible first | exact aF1 hg0 | exact aF2 hg0) | (simp only [hg0, hc3, go_sem])) | (with_reducible refine aNk ?_; intro bnil hnil; try simp only []) | exact aZ | fail))
  ·rw [ix_step (d := 0) (by omega) hres, if_pos hb]
  ·have h1 := ix_step (d := 0) (by omega) hres
   rw [if_neg (by rw [hb]; simp)] at h1
   refine hL _ (k + 1) ⟨by omega, h1⟩ ?_ (by omega)
   (simp only [SubF, hc1, hc2, go_sem]; (try simp only [hc1, hc2, go_sem]); repeat' (first | exact True.intro | with_reducible refine And.intro ?_ ?_ | rfl | omega))
  ·rw [hres, drop_end l k (by omega)]; rfl
theorem ContainsFuncInts_c (l : List Int) (f : FuncId) (caps : List D) (p : Int → Bool) (hn : l.length ≤ 1000000) (hc : CapsOk caps) (hp : ∀ e ∈ l, ACalls Tryd.prog f (.one (.int .i64 e) :: caps.map AV.one) (.one (.bool (p e))) []) :
  ACalls Tryd.prog 55 [.one (.list (ints l)), .one (.clo f caps)] (.one (.bool (l.any p))) [] := by
 have hc1 := hc.lt
 have hc2 := hc.none
 have hc3 := hc.bor
 (refine ACalls.of_body Ty_ok mixed Tryd.func55 rfl (by kernel_rfl) Tryd.ntmps55 (by simp) (congrArg Array.toList Tryd.results55) ?_)
 simp only [slotsOf]
 have hc4 := hc.bor1
 (repeat' (first | (with_reducible first | exact True.intro | refine And.intro ?_ ?_ | refine aBl ?_ | (refine aS 5 [] ?_; intro K hK)) | ((with_reducible first | refine aGo ?_); simp only [hc3, hc4, go_sem]) | ((with_reducible refine aCd ?_ ?_ (fun hb => ?_) (fun hb => ?_)); (iterate 2 simp only [hc3, hc4, go_sem]); all_goals (simp only [hc3, hc4, go_sem] at hb; try simp only [bls] at hb)) | ((iterate 6 try ((fail_if_success with_reducible refine hK _ ?_ ?_ ?_); clear hK K)); with_reducible refine hK _ ?_ ?_ ?_; rotate_left; (focus (simp only [hc3, hc4, go_sem]; exact rfl)); clear hK K) | ((first | (with_reducible first | refine cA (IndexFuncInts_c l f caps p hn hc hp) ?_ | refine cD (IndexFuncInts_c l f caps p hn hc hp) ?_ | refine cO (IndexFuncInts_c l f caps p hn hc hp) ?_ | refine cR (IndexFuncInts_c l f caps p hn hc hp) ?_ | refine cG (fun hg => (IndexFuncInts_c l f caps p hn hc hp)) ?_ | refine cH (fun hg => (IndexFuncInts_c l f caps p hn hc hp)) ?_ | refine cM (fun hg => (IndexFuncInts_c l f caps p hn hc hp)) ?_) | ((with_reducible refine gA ?_); refine cA (IndexFuncInts_c l f caps p hn hc hp) ?_) | ((with_reducible refine gD ?_); refine cD (IndexFuncInts_c l f caps p hn hc hp) ?_) | ((with_reducible refine gG ?_); refine cG (fun hg => (IndexFuncInts_c l f caps p hn hc hp)) ?_)); simp only [hc3, hc4, go_sem]) | (with_reducible refine aGs (fun hg0 => ?_) (fun hg0 => ?_) <;> first | (with_reducible first | exact aF1 hg0 | exact aF2 hg0) | (simp only [hg0, hc3, hc4, go_sem])) | (with_reducible refine aNk ?_; intro bnil hnil; try simp only []) | exact aZ | fail))
 rw [ix_any]
set_option maxHeartbeats 4000000 in
theorem IndexFuncArcs_c (l : List Arc) (f : FuncId) (caps : List D) (p : Arc → Bool) (hn : l.length ≤ 1000000) (hc : CapsOk caps) (hp : ∀ e ∈ l, ACalls Tryd.prog f (.agg e.d :: caps.map AV.one) (.one (.bool (p e))) []) :
  ACalls Tryd.prog 76 [.one (.list (arcsD l)), .one (.clo f caps)] (.one (.int .i64 (ixFrom p 0 l))) [] := by
 have hc1 := hc.lt
 have hc2 := hc.none
 have hc3 := hc.bor
 (refine ACalls.of_body Ty_ok mixed Tryd.func76 rfl (by kernel_rfl) Tryd.ntmps76 (by simp) (congrArg Array.toList Tryd.results76) ?_)
 simp only [slotsOf]
 (repeat' (first | (with_reducible first | exact True.intro | refine And.intro ?_ ?_ | refine aBl ?_ | (refine aS 6 [7, 8] ?_; intro K hK)) | ((with_reducible first | refine aGo ?_); simp only [go_sem]) | ((with_reducible refine aCd ?_ ?_ (fun hb => ?_) (fun hb => ?_)); (iterate 2 simp only [go_sem]); all_goals (simp only [go_sem] at hb; try simp only [bls] at hb)) | ((iterate 6 try ((fail_if_success with_reducible refine hK _ ?_ ?_ ?_); clear hK K)); with_reducible refine hK _ ?_ ?_ ?_; rotate_left; (focus (simp only [go_sem]; exact rfl)); clear hK K) | (with_reducible refine aGs (fun hg0 => ?_) (fun hg0 => ?_) <;> first | (with_reducible first | exact aF1 hg0 | exact aF2 hg0) | (simp only [hg0, go_sem])) | (with_reducible refine aNk ?_; intro bnil hnil; try simp only []) | exact aZ | fail))
 refine awp_loop _ (by simp only [go_sem]; rfl) Nat (fun k => k ≤ l.length ∧ ixFrom p 0 l = ixFrom p k (l.drop k)) (fun k => [(8, .one (.int .i64 k))]) (fun _ H => H) (fun k => l.length - k) 0 ⟨by omega, by simp⟩ ?_ ?_
 ·(simp only [SubF, hc1, hc2, go_sem]; (try simp only [hc1, hc2, go_sem]); repeat' (first | exact True.intro | with_reducible refine And.intro ?_ ?_ | rfl | omega))
 ·rintro k ⟨hk, hres⟩ L hL
  (simp only [go_sem] at hL ⊢)
  (repeat' (first | (with_reducible first | exact True.intro | refine And.intro ?_ ?_ | refine aBl ?_ | (refine aS 6 [7, 8] ?_; intro K hK)) | ((with_reducible first | refine aGo ?_); simp only [hc3, go_sem]) | ((with_reducible refine aCd ?_ ?_ (fun hb => ?_) (fun hb => ?_)); (iterate 2 simp only [hc3, go_sem]); all_goals (simp only [hc3, go_sem] at hb; try simp only [bls] at hb)) | ((iterate 6 try ((fail_if_success with_reducible refine hK _ ?_ ?_ ?_); clear hK K)); with_reducible refine hK _ ?_ ?_ ?_; rotate_left; (focus (simp only [hc3, go_sem]; exact rfl)); clear hK K) | ((first | (with_reducible first | refine cA (hp (l.getD k Arc.no) (getD_mem l k Arc.no (by omega))) ?_ | refine cD (hp (l.getD k Arc.no) (getD_mem l k Arc.no (by omega))) ?_ | refine cO (hp (l.getD k Arc.no) (getD_mem l k Arc.no (by omega))) ?_ | refine cR (hp (l.getD k Arc.no) (getD_mem l k Arc.no (by omega))) ?_ | refine cG (fun hg => (hp (l.getD k Arc.no) (getD_mem l k Arc.no (by omega)))) ?_ | refine cH (fun hg => (hp (l.getD k Arc.no) (getD_mem l k Arc.no (by omega)))) ?_ | refine cM (fun hg => (hp (l.getD k Arc.no) (getD_mem l k Arc.no (by omega)))) ?_) | ((with_reducible refine gA ?_); refine cA (hp (l.getD k Arc.no) (getD_mem l k Arc.no (by omega))) ?_) | ((with_reducible refine gD ?_); refine cD (hp (l.getD k Arc.no) (getD_mem l k Arc.no (by omega))) ?_) | ((with_reducible refine gG ?_); refine cG (fun hg => (hp (l.getD k Arc.no) (getD_mem l k Arc.no (by omega)))) ?_)); simp only [hc3, go_sem]) | (with_reducible refine aGs (fun hg0 => ?_) (fun hg0 => ?_) <;> first | (with_reducible first | exact aF1 hg0 | exact aF2 hg0) | (simp only [hg0, hc3, go_sem])) | (with_reducible refine aNk ?_; intro bnil hnil; try simp only []) | exact aZ | fail))
  ·rw [ix_step (d := Arc.no) (by omega) hres, if_pos hb]
  ·have h1 := ix_step (d := Arc.no) (by omega) hres
   rw [if_neg (by rw [hb]; simp)] at h1
   refine hL _ (k + 1) ⟨by omega, h1⟩ ?_ (by omega)
   (simp only [SubF, hc1, hc2, go_sem]; (try simp only [hc1, hc2, go_sem]); repeat' (first | exact True.intro | with_reducible refine And.intro ?_ ?_ | rfl | omega))
  ·rw [hres, drop_end l k (by omega)]; rfl
theorem ContainsFuncArcs_c (l : List Arc) (f : FuncId) (caps : List D) (p : Arc → Bool) (hn : l.length ≤ 1000000) (hc : CapsOk caps) (hp : ∀ e ∈ l, ACalls Tryd.prog f (.agg e.d :: caps.map AV.one) (.one (.bool (p e))) []) :
  ACalls Tryd.prog 53 [.one (.list (arcsD l)), .one (.clo f caps)] (.one (.bool (l.any p))) [] := by
 have hc3 := hc.bor
 have hc4 := hc.bor1
 (refine ACalls.of_body Ty_ok mixed Tryd.func53 rfl (by kernel_rfl) Tryd.ntmps53 (by simp) (congrArg Array.toList Tryd.results53) ?_)
 simp only [slotsOf]
 (repeat' (first | (with_reducible first | exact True.intro | refine And.intro ?_ ?_ | refine aBl ?_ | (refine aS 5 [] ?_; intro K hK)) | ((with_reducible first | refine aGo ?_); simp only [hc3, hc4, go_sem]) | ((with_reducible refine aCd ?_ ?_ (fun hb => ?_) (fun hb => ?_)); (iterate 2 simp only [hc3, hc4, go_sem]); all_goals (simp only [hc3, hc4, go_sem] at hb; try simp only [bls] at hb)) | ((iterate 6 try ((fail_if_success with_reducible refine hK _ ?_ ?_ ?_); clear hK K)); with_reducible refine hK _ ?_ ?_ ?_; rotate_left; (focus (simp only [hc3, hc4, go_sem]; exact rfl)); clear hK K) | ((first | (with_reducible first | refine cA (IndexFuncArcs_c l f caps p hn hc hp) ?_ | refine cD (IndexFuncArcs_c l f caps p hn hc hp) ?_ | refine cO (IndexFuncArcs_c l f caps p hn hc hp) ?_ | refine cR (IndexFuncArcs_c l f caps p hn hc hp) ?_ | refine cG (fun hg => (IndexFuncArcs_c l f caps p hn hc hp)) ?_ | refine cH (fun hg => (IndexFuncArcs_c l f caps p hn hc hp)) ?_ | refine cM (fun hg => (IndexFuncArcs_c l f caps p hn hc hp)) ?_) | ((with_reducible refine gA ?_); refine cA (IndexFuncArcs_c l f caps p hn hc hp) ?_) | ((with_reducible refine gD ?_); refine cD (IndexFuncArcs_c l f caps p hn hc hp) ?_) | ((with_reducible refine gG ?_); refine cG (fun hg => (IndexFuncArcs_c l f caps p hn hc hp)) ?_)); simp only [hc3, hc4, go_sem]) | (with_reducible refine aGs (fun hg0 => ?_) (fun hg0 => ?_) <;> first | (with_reducible first | exact aF1 hg0 | exact aF2 hg0) | (simp only [hg0, hc3, hc4, go_sem])) | (with_reducible refine aNk ?_; intro bnil hnil; try simp only []) | exact aZ | fail))
 rw [ix_any]
end Go.Proofs.YtljpfdehnjemlaaDoor
