/-
 Contracts: lists of numbers, arcs; nets as data.
-/
import Derived.Test.YtkjllcmpjghmkaaGreatDoorTab
import Derived.Test.YtkjllcmpjghmkaaGreatDoorE3
set_option linter.unusedSimpArgs false
set_option linter.unusedVariables false
namespace Go.Proofs.YtkjllcmpjghmkaaGreatDoor
open Go.Eng Go.RowKit
theorem z0H {α : Type} (xs : List α) (k : Nat) (d : α) (h : k < xs.length) : xs.drop k = xs.getD k d :: xs.drop (k + 1) := by
 rw [List.drop_eq_getElem_cons h]; simp [List.getD, List.getElem?_eq_getElem h]
theorem z0z {α : Type} (xs : List α) (k : Nat) (h : xs.length ≤ k) : xs.drop k = [] := List.drop_of_length_le h
theorem z01 {α : Type} (l : List α) (k : Nat) (d : α) (hk : k < l.length) : l.getD k d ∈ l := by
 simp [List.getD, List.getElem?_eq_getElem hk]
theorem z07 {α : Type} (l : List α) (k : Nat) (d : α) (hk : k < l.length) : l.take (k + 1) = l.take k ++ [l.getD k d] := by
 rw [List.take_add_one, List.getElem?_eq_getElem hk]; simp [List.getD, List.getElem?_eq_getElem hk]
structure Arc where
 place : Int
 weight : Int
 deriving DecidableEq
def Arc.no : Arc := ⟨0, 0⟩
def Arc.d (a : Arc) : List D := [.int .i64 a.place, .int .i64 a.weight]
def arcsD (l : List Arc) : List (List D) := l.map Arc.d
theorem zbM (l : List Arc) : (arcsD l).length = l.length := by simp [arcsD]
theorem zgc (l : List Arc) (k : Nat) : (arcsD l).getD k [.int .i64 0, .int .i64 0] = [.int .i64 (l.getD k Arc.no).place, .int .i64 (l.getD k Arc.no).weight] := by
 simp only [arcsD, List.getD, List.getElem?_map]
 cases l[k]? <;> rfl
theorem zjc (l : List Arc) : (∀ r : List D, r ∈ arcsD l → r.length = 2) ↔ True := ⟨fun _ => trivial, fun _ r hr => by obtain ⟨e, _, rfl⟩ := List.mem_map.1 hr; rfl⟩
theorem zaK (l : List Arc) : ∀ r ∈ arcsD l, r.all D.flat = true := by
 intro r hr
 obtain ⟨z, _, rfl⟩ := List.mem_map.1 hr
 rfl
theorem z47 (xs ys : List Arc) : arcsD xs ++ arcsD ys = arcsD (xs ++ ys) := by simp [arcsD]
theorem zhK (p w : Int) : [[D.int .i64 p, D.int .i64 w]] = arcsD [⟨p, w⟩] := rfl
structure Tr where
 event : Int
 inn : List Arc
 out : List Arc
 deriving DecidableEq
def Tr.no : Tr := ⟨0, [], []⟩
def Tr.d (t : Tr) : List D := [.int .i64 t.event, .list (arcsD t.inn), .list (arcsD t.out)]
def trsD (l : List Tr) : List (List D) := l.map Tr.d
theorem zd4 (l : List Tr) : (trsD l).length = l.length := by simp [trsD]
theorem z1K {l : List Tr} {k : Nat} (hk : k < l.length) (z : List D) : (trsD l).getD k z = [.int .i64 (l.getD k Tr.no).event, .list (arcsD (l.getD k Tr.no).inn), .list (arcsD (l.getD k Tr.no).out)] := by
 simp only [trsD, List.getD, List.getElem?_map, List.getElem?_eq_getElem hk]
 rfl
theorem zjl (l : List Tr) : (∀ r : List D, r ∈ trsD l → r.length = 3) ↔ True := ⟨fun _ => trivial, fun _ r hr => by obtain ⟨e, _, rfl⟩ := List.mem_map.1 hr; rfl⟩
theorem z2n (xs ys : List Tr) : trsD xs ++ trsD ys = trsD (xs ++ ys) := by simp [trsD]
structure Net where
 init : List Int
 trs : List Tr
 deriving DecidableEq
def Net.d (n : Net) : List D := [.list (ints n.init), .list (trsD n.trs)]
structure Con where
 fac : List Int
 bound : Int
 deriving DecidableEq
def Con.d (c : Con) : List D := [.list (ints c.fac), .int .i64 c.bound]
attribute [go_sem] zbM zgc zjc zd4 zjl
theorem z10 (xs : List Int) (hn : xs.length ≤ 1000000) : ACalls Tryz.prog 31 [.one (.list (ints xs))] (.one (.own 0)) [.row 3 1 (ints xs)] := by
 (refine ACalls.of_body_own Ty_ok mixed Tryz.func31 rfl (by kernel_rfl) Tryz.ntmps31 (by simp) (congrArg Array.toList Tryz.results31) ?_)
 simp only [z00]
 (repeat' (first | (with_reducible first | refine And.intro ?_ ?_ | (refine aS 3 [] ?_; intro K hK)) | ((with_reducible refine aGo ?_); simp only [go_sem]) | ((with_reducible refine aCd ?_ ?_ (fun hb => ?_) (fun hb => ?_)); (iterate 2 simp only [go_sem]); all_goals (simp only [go_sem] at hb; try simp only [bls] at hb)) | ((iterate 6 try ((fail_if_success with_reducible refine hK _ ?_ ?_ ?_); clear hK K)); with_reducible refine hK _ ?_ ?_ ?_; rotate_left; (focus (simp only [go_sem]; exact rfl)); clear hK K) | (with_reducible refine aNk ?_; intro bnil hnil; try simp only []) | exact aZ | fail))
 rw [hnil hb]
theorem z7w (xs : List Arc) (hn : xs.length ≤ 1000000) : ACalls Tryz.prog 43 [.one (.list (arcsD xs))] (.one (.own 0)) [.row 84 2 (arcsD xs)] := by
 (refine ACalls.of_body_own Ty_ok mixed Tryz.func43 rfl (by kernel_rfl) Tryz.ntmps43 (by simp) (congrArg Array.toList Tryz.results43) ?_)
 simp only [z00]
 (repeat' (first | (with_reducible first | refine And.intro ?_ ?_ | (refine aS 3 [] ?_; intro K hK)) | ((with_reducible refine aGo ?_); simp only [go_sem]) | ((with_reducible refine aCd ?_ ?_ (fun hb => ?_) (fun hb => ?_)); (iterate 2 simp only [go_sem]); all_goals (simp only [go_sem] at hb; try simp only [bls] at hb)) | ((iterate 6 try ((fail_if_success with_reducible refine hK _ ?_ ?_ ?_); clear hK K)); with_reducible refine hK _ ?_ ?_ ?_; rotate_left; (focus (simp only [go_sem]; exact rfl)); clear hK K) | (with_reducible refine aNk ?_; intro bnil hnil; try simp only []) | exact aZ | fail))
 rw [hnil hb]
theorem z2N {α : Type} [DecidableEq α] {xs ys : List α} {d : α} {b : Bool} {k : Nat} (hl : xs.length = ys.length) (hk : k < xs.length) (h : b = decide (xs.drop k = ys.drop k)) : b = (decide (xs.getD k d = ys.getD k d) && decide (xs.drop (k + 1) = ys.drop (k + 1))) := by
 rw [z0H xs k d hk, z0H ys k d (by omega)] at h
 rw [h, Bool.eq_iff_iff]
 simp
set_option maxHeartbeats 4000000 in
theorem z2Q (xs ys : List Int) (hn : xs.length ≤ 1000000) : ACalls Tryz.prog 34 [.one (.list (ints xs)), .one (.list (ints ys))] (.one (.bool (decide (xs = ys)))) [] := by
 (refine ACalls.of_body Ty_ok mixed Tryz.func34 rfl (by kernel_rfl) Tryz.ntmps34 (by simp) (congrArg Array.toList Tryz.results34) ?_)
 simp only [z00]
 (repeat' (first | (with_reducible first | refine aBl ?_ | (refine aS 6 [12, 13] ?_; intro K hK)) | ((with_reducible refine aGo ?_); simp only [go_sem]) | ((with_reducible refine aCd ?_ ?_ (fun hb => ?_) (fun hb => ?_)); (iterate 2 simp only [go_sem]); all_goals (simp only [go_sem] at hb; try simp only [bls] at hb)) | ((iterate 6 try ((fail_if_success with_reducible refine hK _ ?_ ?_ ?_); clear hK K)); with_reducible refine hK _ ?_ ?_ ?_; rotate_left; (focus (simp only [go_sem]; exact rfl)); clear hK K) | fail))
 ·have : xs ≠ ys := by rintro rfl; omega
  simp [this]
 refine z02 _ (by simp only [go_sem]; rfl) Nat (fun k => k ≤ xs.length ∧ decide (xs = ys) = decide (xs.drop k = ys.drop k)) (fun k => [(13, .one (.int .i64 k))]) (fun _ H => H) (fun k => xs.length - k) 0 ⟨by omega, by simp⟩ ?_ ?_
 ·(simp only [SubF, go_sem]; (try simp only [go_sem]); repeat' (first | exact True.intro | with_reducible refine And.intro ?_ ?_ | rfl | omega))
 ·rintro k ⟨hk, hres⟩ L hL
  (simp only [go_sem] at hL ⊢)
  (repeat' (first | (with_reducible first | refine And.intro ?_ ?_ | refine aBl ?_ | (refine aS 6 [12, 13] ?_; intro K hK)) | ((with_reducible first | refine aGo ?_ | refine rD (id := 6) ?_); simp only [go_sem]) | ((with_reducible refine aCd ?_ ?_ (fun hb => ?_) (fun hb => ?_)); (iterate 2 simp only [go_sem]); all_goals (simp only [go_sem] at hb; try simp only [bls] at hb)) | ((iterate 6 try ((fail_if_success with_reducible refine hK _ ?_ ?_ ?_); clear hK K)); with_reducible refine hK _ ?_ ?_ ?_; rotate_left; (focus (simp only [go_sem]; exact rfl)); clear hK K) | exact aZ | fail))
  ·rw [z2N (d := 0) (by omega) (by omega) hres, decide_eq_false hb]; rfl
  ·have h1 := z2N (d := 0) (by omega) (by omega) hres
   rw [decide_eq_true hb, Bool.true_and] at h1
   exact hL _ (k + 1) ⟨by omega, h1⟩ (by (simp only [SubF, go_sem]; (try simp only [go_sem]); repeat' (first | exact True.intro | with_reducible refine And.intro ?_ ?_ | rfl | omega))) (by omega)
  ·rw [hres, z0z xs k (by omega), z0z ys k (by omega)]; rfl
theorem z62 (xs ys : List Int) (hn : xs.length ≤ 1000000) : ACalls Tryz.prog 59 [.one (.list (ints xs)), .one (.list (ints ys))] (.one (.bool (decide (xs = ys)))) [] := by
 (refine ACalls.of_body Ty_ok mixed Tryz.func59 rfl (by kernel_rfl) Tryz.ntmps59 (by simp) (congrArg Array.toList Tryz.results59) ?_)
 simp only [z00]
 (repeat' (first | (with_reducible (refine aS 5 [] ?_; intro K hK)) | ((with_reducible refine aGo ?_); simp only [go_sem]) | ((iterate 6 try ((fail_if_success with_reducible refine hK _ ?_ ?_ ?_); clear hK K)); with_reducible refine hK _ ?_ ?_ ?_; rotate_left; (focus (simp only [go_sem]; exact rfl)); clear hK K) | ((with_reducible refine cA (z2Q xs ys hn) ?_); simp only [go_sem]) | fail))
def z0E {α : Type} (p : α → Bool) : Nat → List α → Int
 | _, [] => -1
 | k, e :: l => if p e = true then k else z0E p (k + 1) l
theorem z36 {α : Type} {p : α → Bool} {l : List α} {d : α} {b : Int} {k : Nat} (hk : k < l.length) (h : b = z0E p k (l.drop k)) : b = if p (l.getD k d) = true then (k : Int) else z0E p (k + 1) (l.drop (k + 1)) := by
 rw [z0H l k d hk] at h; exact h
theorem za5 {α : Type} (p : α → Bool) : ∀ (l : List α) (k : Nat), decide (0 ≤ z0E p k l) = l.any p
 | [], k => rfl
 | e :: l, k => by
  rw [z0E, List.any_cons]
  by_cases h : p e = true
  ·rw [if_pos h, h]; simp
  ·rw [if_neg h, za5 p l (k + 1)]; simp [h]
structure CapsOk (caps : List D) : Prop where
 lt : caps.all (D.tagsLt0 0) = true
 none : caps.flatMap D.tags0 = []
 bor : caps.map (AV.bor [] ∘ AV.one) = caps.map AV.one
 bor1 : caps.map (D.bor1 []) = caps
theorem z4X : CapsOk [] := ⟨rfl, rfl, rfl, rfl⟩
theorem z42 (r : List D) : CapsOk [.ref r] := ⟨rfl, rfl, rfl, rfl⟩
set_option maxHeartbeats 4000000 in
theorem z3k (l : List Int) (f : FuncId) (caps : List D) (p : Int → Bool) (hn : l.length ≤ 1000000) (hc : CapsOk caps) (hp : ∀ e ∈ l, ACalls Tryz.prog f (.one (.int .i64 e) :: caps.map AV.one) (.one (.bool (p e))) []) :
  ACalls Tryz.prog 76 [.one (.list (ints l)), .one (.clo f caps)] (.one (.int .i64 (z0E p 0 l))) [] := by
 have hc1 := hc.lt
 have hc2 := hc.none
 have hc3 := hc.bor
 (refine ACalls.of_body Ty_ok mixed Tryz.func76 rfl (by kernel_rfl) Tryz.ntmps76 (by simp) (congrArg Array.toList Tryz.results76) ?_)
 simp only [z00]
 (repeat' (first | (with_reducible first | refine aBl ?_ | (refine aS 6 [7, 8] ?_; intro K hK)) | ((with_reducible refine aGo ?_); simp only [go_sem]) | ((iterate 6 try ((fail_if_success with_reducible refine hK _ ?_ ?_ ?_); clear hK K)); with_reducible refine hK _ ?_ ?_ ?_; rotate_left; (focus (simp only [go_sem]; exact rfl)); clear hK K) | fail))
 refine z02 _ (by simp only [go_sem]; rfl) Nat (fun k => k ≤ l.length ∧ z0E p 0 l = z0E p k (l.drop k)) (fun k => [(8, .one (.int .i64 k))]) (fun _ H => H) (fun k => l.length - k) 0 ⟨by omega, by simp⟩ ?_ ?_
 ·(simp only [SubF, hc1, hc2, go_sem]; (try simp only [hc1, hc2, go_sem]); repeat' (first | exact True.intro | with_reducible refine And.intro ?_ ?_ | rfl | omega))
 ·rintro k ⟨hk, hres⟩ L hL
  (simp only [go_sem] at hL ⊢)
  (repeat' (first | (with_reducible first | refine And.intro ?_ ?_ | refine aBl ?_ | (refine aS 6 [7, 8] ?_; intro K hK)) | ((with_reducible refine aGo ?_); simp only [hc3, go_sem]) | ((with_reducible refine aCd ?_ ?_ (fun hb => ?_) (fun hb => ?_)); (iterate 2 simp only [hc3, go_sem]); all_goals (simp only [hc3, go_sem] at hb; try simp only [bls] at hb)) | ((iterate 6 try ((fail_if_success with_reducible refine hK _ ?_ ?_ ?_); clear hK K)); with_reducible refine hK _ ?_ ?_ ?_; rotate_left; (focus (simp only [hc3, go_sem]; exact rfl)); clear hK K) | ((with_reducible refine cA (hp (l.getD k 0) (z01 l k 0 (by omega))) ?_); simp only [hc3, go_sem]) | exact aZ | fail))
  ·rw [z36 (d := 0) (by omega) hres, if_pos hb]
  ·have h1 := z36 (d := 0) (by omega) hres
   rw [if_neg (by rw [hb]; simp)] at h1
   refine hL _ (k + 1) ⟨by omega, h1⟩ ?_ (by omega)
   (simp only [SubF, hc1, hc2, go_sem]; (try simp only [hc1, hc2, go_sem]); repeat' (first | exact True.intro | with_reducible refine And.intro ?_ ?_ | rfl | omega))
  ·rw [hres, z0z l k (by omega)]; rfl
theorem z1n (l : List Int) (f : FuncId) (caps : List D) (p : Int → Bool) (hn : l.length ≤ 1000000) (hc : CapsOk caps) (hp : ∀ e ∈ l, ACalls Tryz.prog f (.one (.int .i64 e) :: caps.map AV.one) (.one (.bool (p e))) []) :
  ACalls Tryz.prog 40 [.one (.list (ints l)), .one (.clo f caps)] (.one (.bool (l.any p))) [] := by
 have hc1 := hc.lt
 have hc2 := hc.none
 have hc3 := hc.bor
 (refine ACalls.of_body Ty_ok mixed Tryz.func40 rfl (by kernel_rfl) Tryz.ntmps40 (by simp) (congrArg Array.toList Tryz.results40) ?_)
 simp only [z00]
 have hc4 := hc.bor1
 (repeat' (first | (with_reducible (refine aS 5 [] ?_; intro K hK)) | ((with_reducible refine aGo ?_); simp only [hc3, hc4, go_sem]) | ((iterate 6 try ((fail_if_success with_reducible refine hK _ ?_ ?_ ?_); clear hK K)); with_reducible refine hK _ ?_ ?_ ?_; rotate_left; (focus (simp only [hc3, hc4, go_sem]; exact rfl)); clear hK K) | ((with_reducible refine cA (z3k l f caps p hn hc hp) ?_); simp only [hc3, hc4, go_sem]) | fail))
 rw [za5]
set_option maxHeartbeats 4000000 in
theorem z7v (l : List Arc) (f : FuncId) (caps : List D) (p : Arc → Bool) (hn : l.length ≤ 1000000) (hc : CapsOk caps) (hp : ∀ e ∈ l, ACalls Tryz.prog f (.agg e.d :: caps.map AV.one) (.one (.bool (p e))) []) :
  ACalls Tryz.prog 157 [.one (.list (arcsD l)), .one (.clo f caps)] (.one (.int .i64 (z0E p 0 l))) [] := by
 have hc1 := hc.lt
 have hc2 := hc.none
 have hc3 := hc.bor
 (refine ACalls.of_body Ty_ok mixed Tryz.func157 rfl (by kernel_rfl) Tryz.ntmps157 (by simp) (congrArg Array.toList Tryz.results157) ?_)
 simp only [z00]
 (repeat' (first | (with_reducible first | refine aBl ?_ | (refine aS 6 [7, 8] ?_; intro K hK)) | ((with_reducible refine aGo ?_); simp only [go_sem]) | ((iterate 6 try ((fail_if_success with_reducible refine hK _ ?_ ?_ ?_); clear hK K)); with_reducible refine hK _ ?_ ?_ ?_; rotate_left; (focus (simp only [go_sem]; exact rfl)); clear hK K) | fail))
 refine z02 _ (by simp only [go_sem]; rfl) Nat (fun k => k ≤ l.length ∧ z0E p 0 l = z0E p k (l.drop k)) (fun k => [(8, .one (.int .i64 k))]) (fun _ H => H) (fun k => l.length - k) 0 ⟨by omega, by simp⟩ ?_ ?_
 ·(simp only [SubF, hc1, hc2, go_sem]; (try simp only [hc1, hc2, go_sem]); repeat' (first | exact True.intro | with_reducible refine And.intro ?_ ?_ | rfl | omega))
 ·rintro k ⟨hk, hres⟩ L hL
  (simp only [go_sem] at hL ⊢)
  (repeat' (first | (with_reducible first | refine And.intro ?_ ?_ | refine aBl ?_ | (refine aS 6 [7, 8] ?_; intro K hK)) | ((with_reducible refine aGo ?_); simp only [hc3, go_sem]) | ((with_reducible refine aCd ?_ ?_ (fun hb => ?_) (fun hb => ?_)); (iterate 2 simp only [hc3, go_sem]); all_goals (simp only [hc3, go_sem] at hb; try simp only [bls] at hb)) | ((iterate 6 try ((fail_if_success with_reducible refine hK _ ?_ ?_ ?_); clear hK K)); with_reducible refine hK _ ?_ ?_ ?_; rotate_left; (focus (simp only [hc3, go_sem]; exact rfl)); clear hK K) | (((with_reducible refine gA ?_); refine cA (hp (l.getD k Arc.no) (z01 l k Arc.no (by omega))) ?_); simp only [hc3, go_sem]) | exact aZ | fail))
  ·rw [z36 (d := Arc.no) (by omega) hres, if_pos hb]
  ·have h1 := z36 (d := Arc.no) (by omega) hres
   rw [if_neg (by rw [hb]; simp)] at h1
   refine hL _ (k + 1) ⟨by omega, h1⟩ ?_ (by omega)
   (simp only [SubF, hc1, hc2, go_sem]; (try simp only [hc1, hc2, go_sem]); repeat' (first | exact True.intro | with_reducible refine And.intro ?_ ?_ | rfl | omega))
  ·rw [hres, z0z l k (by omega)]; rfl
theorem z4H (l : List Arc) (f : FuncId) (caps : List D) (p : Arc → Bool) (hn : l.length ≤ 1000000) (hc : CapsOk caps) (hp : ∀ e ∈ l, ACalls Tryz.prog f (.agg e.d :: caps.map AV.one) (.one (.bool (p e))) []) :
  ACalls Tryz.prog 126 [.one (.list (arcsD l)), .one (.clo f caps)] (.one (.bool (l.any p))) [] := by
 have hc3 := hc.bor
 have hc4 := hc.bor1
 (refine ACalls.of_body Ty_ok mixed Tryz.func126 rfl (by kernel_rfl) Tryz.ntmps126 (by simp) (congrArg Array.toList Tryz.results126) ?_)
 simp only [z00]
 (repeat' (first | (with_reducible (refine aS 5 [] ?_; intro K hK)) | ((with_reducible refine aGo ?_); simp only [hc3, hc4, go_sem]) | ((iterate 6 try ((fail_if_success with_reducible refine hK _ ?_ ?_ ?_); clear hK K)); with_reducible refine hK _ ?_ ?_ ?_; rotate_left; (focus (simp only [hc3, hc4, go_sem]; exact rfl)); clear hK K) | ((with_reducible refine cA (z7v l f caps p hn hc hp) ?_); simp only [hc3, hc4, go_sem]) | fail))
 rw [za5]
end Go.Proofs.YtkjllcmpjghmkaaGreatDoor
