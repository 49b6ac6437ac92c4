/-
 Contracts of chapter 51: whether a siphon can be controlled; the next step.
-/
import Derived.Test.YtljpfdehnjemlaaGreatDoorQB
set_option linter.unusedSimpArgs false
set_option linter.unusedVariables false
namespace Go.Proofs.YtljpfdehnjemlaaGreatDoor
open Go.Eng Go.RowKit
theorem bnd_errs {n : Net} {e : Int} (hn : netE n = 0) (h : bndF n = .inl e) : e = 3 ∨ e = 23 := by
 unfold bndF at h
 rw [if_neg (by omega)] at h
 have hO := outer_err n 4096 4098 0 [⟨n.init, -1, -1⟩] []
 rw [show outerF n 4096 4098 0 [⟨n.init, -1, -1⟩] [] = searchF n 4096 from rfl] at hO
 cases hS : searchF n 4096 with
 | err e' => rw [hS] at h; cases h; exact .inl (hO.1 _ hS)
 | pump nd ed p => rw [hS] at h; cases h; exact .inr rfl
 | cont nd ed => rw [hS] at h; cases h
theorem mon_errs {m : Net} {u s : List Int} (hm : netE m = 0) (hs : s ∈ minL 1 m) (hc : ctlB m u s = true) : monE m (kepC m.init.length s) = 0 ∨ monE m (kepC m.init.length s) = 3 := by
 obtain ⟨h1, h2, h3⟩ := setsY_el (minL_el hs).1
 have hd := dot_facK m.init.length m.init s (h2.imp fun h => by omega) h3
 simp only [ctlB, Bool.and_eq_true, decide_eq_true_eq] at hc
 have hc1 := hc.1.2
 unfold monE
 rw [if_neg (by rw [conE_kep hm]; decide), if_neg (by simp only [kepC]; omega)]
 split
 ·exact .inr rfl
 ·exact .inl rfl
theorem prevF_errs {u : List Int} : ∀ (f : Nat) (st : List Stp) (m : Net) {e : Int}, netE m = 0 → prevF u f st m = .err e → e = 3 ∨ e = 23
 | 0, st, m, e, _, h => by simp only [prevF] at h; cases h; exact .inl rfl
 | f + 1, st, m, e, hm, h => by
  simp only [prevF] at h
  split at h
  ·rename_i e' hb
   cases h
   exact bnd_errs hm hb
  ·split at h
   ·cases h
   ·split at h
    ·cases h
    ·rename_i s hs
     obtain ⟨h1, h2⟩ := nextF_mem hs
     have hE := mon_errs hm h1 h2
     split at h
     ·cases h
      omega
     ·rename_i h3
      have hz : monE m (kepC m.init.length s) = 0 := by omega
      exact prevF_errs f _ _ (netE_of (mon_ok (monOk_of hz).1)) h
theorem prevR_errs {n : Net} {u : List Int} {e : Int} (hn : netE n = 0) (h : prevR n u = .err e) : e = 3 ∨ e = 23 := prevF_errs _ _ _ hn h
theorem prevF_go {u s : List Int} {f : Nat} {st : List Stp} {m : Net} {nd : List SN} {ed : List Edg} (hb : bndF m = .inr (nd, ed)) (hd : 0 ≤ deadFrom m nd 0) (hs : nextF m u = some s) (hm : monE m (kepC m.init.length s) = 0) :
  prevF u (f + 1) st m = prevF u f (st ++ [stepOf m s]) (monNet m (kepC m.init.length s)) := by
 rw [prevF, hb]
 simp only
 rw [if_neg (by omega), hs]
 simp only
 rw [if_neg (by omega)]
theorem prevF_stop {u : List Int} {f : Nat} {st : List Stp} {m : Net} {nd : List SN} {ed : List Edg} (hb : bndF m = .inr (nd, ed)) (hd : deadFrom m nd 0 < 0) : prevF u (f + 1) st m = .ok st m := by
 rw [prevF, hb]
 simp only
 rw [if_pos hd]
theorem prevF_dead {u : List Int} {f : Nat} {st : List Stp} {m : Net} {nd : List SN} {ed : List Edg} (hb : bndF m = .inr (nd, ed)) (hd : 0 ≤ deadFrom m nd 0) (hs : nextF m u = none) : prevF u (f + 1) st m = .dead st m (pathF nd (deadFrom m nd 0)) := by
 rw [prevF, hb]
 simp only
 rw [if_neg (by omega), hs]
theorem prevF_bad {u : List Int} {f : Nat} {st : List Stp} {m : Net} {e : Int} (hb : bndF m = .inl e) : prevF u (f + 1) st m = .err e := by
 rw [prevF, hb]
theorem prevF_mon {u s : List Int} {f : Nat} {st : List Stp} {m : Net} {nd : List SN} {ed : List Edg} (hb : bndF m = .inr (nd, ed)) (hd : 0 ≤ deadFrom m nd 0) (hs : nextF m u = some s) (hm : monE m (kepC m.init.length s) ≠ 0) :
  prevF u (f + 1) st m = .err (monE m (kepC m.init.length s)) := by
 rw [prevF, hb]
 simp only
 rw [if_neg (by omega), hs]
 simp only
 rw [if_pos hm]
theorem rev_rev (n : Net) : revN (revN n) = n := by
 obtain ⟨a, l⟩ := n
 simp only [revN, List.map_map]
 congr 1
 conv => rhs; rw [← List.map_id l]
 exact List.map_congr_left fun t _ => rfl
theorem facK_nil (p : Nat) : facK p [] = List.replicate p 0 := by
 simp [facK, List.map_const']
theorem facK_set (p : Nat) (s : List Int) (x : Int) (hx : 0 ≤ x ∧ x < p) : (facK p s).set x.toNat (-1) = facK p (s ++ [x]) := by
 apply List.ext_getElem
 ·simp [facK]
 ·intro i h1 h2
  rw [List.getElem_set]
  simp only [facK, List.getElem_map, List.getElem_range, List.mem_append, List.mem_singleton]
  by_cases h : x.toNat = i
  ·have : (i : Int) = x := by omega
   rw [if_pos h, if_pos (.inr this)]
  ·have : (i : Int) ≠ x := by omega
   rw [if_neg h]
   simp [this]
theorem find_step {α : Type} {p : α → Bool} {l : List α} {d : α} {b : Option α} {k : Nat} (hk : k < l.length) (h : b = (l.drop k).find? p) : b = if p (l.getD k d) = true then some (l.getD k d) else (l.drop (k + 1)).find? p := by
 rw [drop_getD l k d hk, List.find?_cons] at h
 rw [h]
 cases p (l.getD k d) <;> rfl
/-! steps as data -/
def stpD (l : List Stp) : List (List D) := l.map Stp.d
theorem stp_length (l : List Stp) : (stpD l).length = l.length := by simp [stpD]
theorem stp_sz (l : List Stp) : (∀ r : List D, r ∈ stpD l → r.length = 3) ↔ True := ⟨fun _ => trivial, fun _ r hr => by obtain ⟨e, _, rfl⟩ := List.mem_map.1 hr; rfl⟩
theorem stp_append (xs ys : List Stp) : stpD xs ++ stpD ys = stpD (xs ++ ys) := by simp [stpD]
theorem stp_one (s f : List Int) (b : Int) : [[D.list (ints s), D.list (ints f), D.int .i64 b]] = stpD [⟨s, ⟨f, b⟩⟩] := rfl
attribute [go_sem] stp_length stp_sz
end Go.Proofs.YtljpfdehnjemlaaGreatDoor
set_option linter.unusedSimpArgs false
set_option linter.unusedVariables false
namespace Go.Proofs.YtljpfdehnjemlaaGreatDoor
open Go.Eng Go.RowKit
/-! errors -/
def prE (n : Net) (u : List Int) : Int := if netE n ≠ 0 then netE n else checkSet u n.trs.length
theorem prE_ok {n : Net} {u : List Int} (h : prE n u = 0) : netE n = 0 ∧ checkSet u n.trs.length = 0 := by
 unfold prE at h
 split at h
 ·rename_i h1; exact absurd h h1
 ·exact ⟨by omega, h⟩
theorem prCheck_c (n : Net) (u : List Int) (hf : n.Fits) (hul : u.length ≤ 1000000) : ACalls Tryz.prog 99 [.agg n.d, .one (.list (ints u))] (.one (.int .i64 (prE n u))) [] := by
 have h1 := netCheck_c n hf
 have h2 := CheckSet_c u n.trs.length (by omega)
 have ht := hf.trs
 simp only [Net.d] at h1
 (refine ACalls.of_body Ty_ok mixed Tryz.func99 rfl (by kernel_rfl) Tryz.ntmps99 (by simp) (congrArg Array.toList Tryz.results99) ?_)
 simp only [slotsOf, Net.d]
 (repeat' (first | (with_reducible (refine aS 6 [] ?_; intro K hK)) | ((with_reducible refine aGo ?_); simp only [go_sem]) | ((with_reducible refine aCd ?_ ?_ (fun hb => ?_) (fun hb => ?_)); (iterate 2 simp only [go_sem]); all_goals (simp only [go_sem] at hb; try simp only [bls] at hb)) | ((iterate 6 try ((fail_if_success with_reducible refine hK _ ?_ ?_ ?_); clear hK K)); with_reducible refine hK _ ?_ ?_ ?_; rotate_left; (focus (simp only [go_sem]; exact rfl)); clear hK K) | ((with_reducible refine xA ?_); simp only [go_sem]) | fail))
 all_goals first | omega | skip
 ·rw [prE, if_pos hb]
 ·rw [prE, if_neg (by omega)]
/-! the constraint of a set -/
set_option maxHeartbeats 4000000 in
theorem kept_c (n : Net) (s : List Int) (hf : n.Fits) (hs : ∀ x ∈ s, 0 ≤ x ∧ x < n.init.length) (hn : s.length ≤ 1000000) : ACalls Tryz.prog 131 [.agg n.d, .one (.list (ints s))] (.agg (kepC n.init.length s).d) [] := by
 have hi := hf.init
 (refine ACalls.of_body Ty_ok mixed Tryz.func131 rfl (by kernel_rfl) Tryz.ntmps131 (by simp) (congrArg Array.toList Tryz.results131) ?_)
 simp only [slotsOf, Net.d, Con.d, kepC]
 (repeat' (first | (with_reducible first | refine And.intro ?_ ?_ | refine aBl ?_ | (refine aS 8 [14, 13, 15] ?_; intro K hK)) | ((with_reducible refine aGo ?_); simp only [go_sem]) | ((iterate 6 try ((fail_if_success with_reducible refine hK _ ?_ ?_ ?_); clear hK K)); with_reducible refine hK _ ?_ ?_ ?_; rotate_left; (focus (simp only [go_sem]; exact rfl)); clear hK K) | exact aZ | fail))
 all_goals first | omega | skip
 refine awp_loop _ (by simp only [go_sem]; rfl) Nat (fun k => k ≤ s.length) (fun k => [(15, .one (.int .i64 k))]) (fun k _ => [.var 32 [.list (ints n.init), .list (trsD n.trs)], .var 36 [.nil, .int .i64 0], .row 3 1 (ints (facK n.init.length (s.take k))), .var 36 [.own 2, .int .i64 (-1)]]) (fun k => s.length - k) 0 (by omega) ?_ ?_
 ·have e0 : ints (facK n.init.length (s.take 0)) = List.replicate n.init.length [.int .i64 0] := by rw [List.take_zero, facK_nil]; simp [ints]
  rw [e0]
  (simp only [SubF, go_sem]; (try simp only [go_sem]); repeat' (first | exact True.intro | with_reducible refine And.intro ?_ ?_ | rfl | omega))
 rintro k hk L hL
 have hfl := facK_length n.init.length (s.take k)
 by_cases hlt : k < s.length
 ·have hx := hs (s.getD k 0) (getD_mem s k 0 hlt)
  have e1 := facK_set n.init.length (s.take k) (s.getD k 0) hx
  rw [← take_succ_getD s k 0 hlt] at e1
  have hrow := ints_at (l := facK n.init.length (s.take k)) (k := (s.getD k 0).toNat) (by omega)
  (simp only [go_sem] at hL ⊢)
  (repeat' (first | (with_reducible first | refine And.intro ?_ ?_ | refine aBl ?_ | (refine aS 8 [14, 13, 15] ?_; intro K hK)) | ((with_reducible refine aGo ?_); simp only [hrow, go_sem]) | ((with_reducible refine aCd ?_ ?_ (fun hb => ?_) (fun hb => ?_)); (iterate 2 simp only [hrow, go_sem]); all_goals (simp only [hrow, go_sem] at hb; try simp only [bls] at hb)) | ((iterate 6 try ((fail_if_success with_reducible refine hK _ ?_ ?_ ?_); clear hK K)); with_reducible refine hK _ ?_ ?_ ?_; rotate_left; (focus (simp only [hrow, go_sem]; exact rfl)); clear hK K) | exact aZ | fail))
  all_goals first | omega | skip
  refine hL _ (k + 1) (by omega) ?_ (by omega)
  rw [← e1, ← ints_set]
  (simp only [SubF, go_sem]; (try simp only [go_sem]); repeat' (first | exact True.intro | with_reducible refine And.intro ?_ ?_ | rfl | omega))
 ·rw [List.take_of_length_le (by omega : s.length ≤ k)]
  (simp only [go_sem] at hL ⊢)
  (repeat' (first | (with_reducible first | refine And.intro ?_ ?_ | refine aBl ?_ | (refine aS 8 [14, 13, 15] ?_; intro K hK)) | ((with_reducible refine aGo ?_); simp only [go_sem]) | ((with_reducible refine aCd ?_ ?_ (fun hb => ?_) (fun hb => ?_)); (iterate 2 simp only [go_sem]); all_goals (simp only [go_sem] at hb; try simp only [bls] at hb)) | ((iterate 6 try ((fail_if_success with_reducible refine hK _ ?_ ?_ ?_); clear hK K)); with_reducible refine hK _ ?_ ?_ ?_; rotate_left; (focus (simp only [go_sem]; exact rfl)); clear hK K) | exact aZ | fail))
  all_goals first | omega | skip
/-! comparing -/
structure Stp.Fits (x : Stp) : Prop where
 set : x.set.length ≤ 1000000
 fac : x.con.fac.length ≤ 1000000
def resD (st : List Stp) (n : Net) : List D := [.list (stpD st), .list (ints n.init), .list (trsD n.trs)]
end Go.Proofs.YtljpfdehnjemlaaGreatDoor
set_option linter.unusedSimpArgs false
set_option linter.unusedVariables false
namespace Go.Proofs.YtljpfdehnjemlaaGreatDoor
open Go.Eng Go.RowKit
structure SetOk (n : Net) (s : List Int) : Prop where
 len : s.length ≤ 10
 nd : s.Nodup
 place : ∀ x ∈ s, 0 ≤ x ∧ x < n.init.length
 chk : checkSet s n.init.length = 0
 si : siE n s 1 = 0
theorem setOk_of {n : Net} {s : List Int} (hn : netE n = 0) (hs : s ∈ minL 1 n) : SetOk n s := by
 obtain ⟨h1, h2, h3⟩ := setsY_el (minL_el hs).1
 have hi := (netOk_of hn).init
 have hset : checkSet s n.init.length = 0 := checkSet_ok h2 h3
 exact ⟨by omega, h2.imp fun h => by omega, h3, hset, by rw [siE, if_neg (by omega), if_neg (by omega), if_neg (by omega)]⟩
theorem emX_ok {n : Net} {s : List Int} (h : SetOk n s) {nd : List SN} {ed : List Edg} (hb : bndF n = .inr (nd, ed)) : (emX n s).2.2 = 0 := by
 have := h.si
 rw [emX, if_neg (by omega), hb]
 simp only
 split <;> rfl
theorem dot_kep {n : Net} {s : List Int} (h : SetOk n s) (m : List Int) : dot (kepC n.init.length s).fac m = -(sumAt m s) := dot_facK _ m s h.nd h.place
theorem chk_kep {n : Net} {s u : List Int} (hE : prE n u = 0) : chkE n (kepC n.init.length s) u = 0 := by
 obtain ⟨hn, hu⟩ := prE_ok hE
 rw [chkE, if_neg (by rw [conE_kep hn]; decide)]
 exact hu
theorem val_kep {n : Net} {s : List Int} (hn : netE n = 0) (h : SetOk n s) : valV n (kepC n.init.length s) n.init = -(sumAt n.init s) ∧ valE n (kepC n.init.length s) n.init = 0 := by
 have hok := netOk_of hn
 have hm : markE n n.init = 0 := markE_of hok rfl fun x hx => hok.tok x hx
 have hc := conE_kep (s := s) hn
 refine ⟨?_, by rw [valE, if_neg (by omega), hm]⟩
 rw [valV, if_neg (by omega), dot_kep h]
theorem Adm_ok (n : Net) (c : Con) (u : List Int) (hn : n.Fits) (hc : c.fac.length ≤ 1000000) (hul : u.length ≤ 1000000) (hchk : chkE n c u = 0) :
  ACalls Tryz.prog 58 [.agg n.d, .agg c.d, .one (.list (ints u))] (.tup [.one (.int .i64 (max (raisingL n c u) 0)), .one (.bool (decide (raisingL n c u < 0))), .one (.int .i64 0)]) [] := by
 have h := Admissible_c n c u hn hc hul
 have e1 : (if chkE n c u ≠ 0 then 0 else max (raisingL n c u) 0) = max (raisingL n c u) 0 := if_neg (by omega)
 have e2 : decide (chkE n c u = 0 ∧ raisingL n c u < 0) = decide (raisingL n c u < 0) := by simp [hchk]
 rw [e1, e2, hchk] at h
 exact h
set_option maxHeartbeats 4000000 in
theorem controlled_c (n : Net) (u s : List Int) (h0 : n.init ≠ []) (hE : prE n u = 0) {nd : List SN} {ed : List Edg} (hb : bndF n = .inr (nd, ed)) (hs : s ∈ minL 1 n) (hul : u.length ≤ 1000000) :
  ACalls Tryz.prog 132 [.agg n.d, .agg (stepOf n s).d, .one (.list (ints u))] (.tup [.one (.bool (ctlB n u s)), .one (.int .i64 0)]) [] := by
 obtain ⟨hn, hu⟩ := prE_ok hE
 have hok := netOk_of hn
 have hS := setOk_of hn hs
 have hsl := hS.len
 have hi := hok.init
 have hfl := facK_length n.init.length s
 have hEm := Emptied_c n s hok.fits (fun _ => h0) (by omega)
 have hme := emX_ok hS hb
 obtain ⟨v1, v2⟩ := val_kep hn hS
 have hV := Value_c n (kepC n.init.length s) n.init hok.fits (by simp only [kepC]; omega) (by omega)
 have hA := Adm_ok n (kepC n.init.length s) u hok.fits (by simp only [kepC]; omega) hul (chk_kep hE)
 rw [v1, v2] at hV
 rw [ctlB]
 generalize raisingL n (kepC n.init.length s) u = R at *
 generalize emX n s = X at *
 obtain ⟨x1, x2, x3⟩ := X
 simp only at hme hEm
 subst hme
 simp only [Net.d, Con.d, kepC] at hEm hV hA
 simp only [kepC]
 generalize sumAt n.init s = Z at *
 cases x2 with
 | false =>
  (refine ACalls.of_body Ty_ok mixed Tryz.func132 rfl (by kernel_rfl) Tryz.ntmps132 (by simp) (congrArg Array.toList Tryz.results132) ?_)
  simp only [slotsOf, Net.d, Stp.d, stepOf, kepC]
  (repeat' (first | (with_reducible (refine aS 8 [9, 11, 13, 10] ?_; intro K hK)) | ((with_reducible refine aGo ?_); simp only [go_sem]) | ((with_reducible refine aCd ?_ ?_ (fun hb => ?_) (fun hb => ?_)); (iterate 2 simp only [go_sem]); all_goals (simp only [go_sem] at hb; try simp only [bls] at hb)) | ((iterate 6 try ((fail_if_success with_reducible refine hK _ ?_ ?_ ?_); clear hK K)); with_reducible refine hK _ ?_ ?_ ?_; rotate_left; (focus (simp only [go_sem]; exact rfl)); clear hK K) | ((with_reducible refine xA ?_); simp only [go_sem]) | fail))
  all_goals first | omega | skip
 | true =>
  (refine ACalls.of_body Ty_ok mixed Tryz.func132 rfl (by kernel_rfl) Tryz.ntmps132 (by simp) (congrArg Array.toList Tryz.results132) ?_)
  simp only [slotsOf, Net.d, Stp.d, stepOf, kepC]
  (repeat' (first | (with_reducible (refine aS 8 [9, 11, 13, 10] ?_; intro K hK)) | ((with_reducible refine aGo ?_); simp only [go_sem]) | ((with_reducible refine aCd ?_ ?_ (fun hb => ?_) (fun hb => ?_)); (iterate 2 simp only [go_sem]); all_goals (simp only [go_sem] at hb; try simp only [bls] at hb)) | ((iterate 6 try ((fail_if_success with_reducible refine hK _ ?_ ?_ ?_); clear hK K)); with_reducible refine hK _ ?_ ?_ ?_; rotate_left; (focus (simp only [go_sem]; exact rfl)); clear hK K) | ((with_reducible refine xA ?_); simp only [go_sem]) | fail))
  all_goals first | omega | skip
  ·have : decide (0 < Z) = false := decide_eq_false (by omega)
   rw [this]; rfl
  ·have : decide (0 < Z) = true := decide_eq_true (by omega)
   rw [this]; simp
def nxR (n : Net) (u : List Int) : AV := if prE n u ≠ 0 then .tup [.agg Stp.no.d, .one (.bool false), .one (.int .i64 (prE n u))] else match bndF n with
 | .inl e => .tup [.agg Stp.no.d, .one (.bool false), .one (.int .i64 e)]
 | .inr _ => match nextF n u with
  | none => .tup [.agg Stp.no.d, .one (.bool false), .one (.int .i64 0)]
  | some s => .tup [.agg (stepOf n s).d, .one (.bool true), .one (.int .i64 0)]
def optD : Option Stp → List D
 | none => [.nil, .nil, .int .i64 0]
 | some s => s.d
theorem stpNo_d : Stp.no.d = [.list [], .list [], .int .i64 0] := rfl
set_option maxHeartbeats 16000000 in
theorem Next_c (n : Net) (u : List Int) (hf : n.Fits) (h0 : prE n u = 0 → n.init ≠ []) (hul : u.length ≤ 1000000) : ACalls Tryz.prog 101 [.agg n.d, .one (.list (ints u))] (nxR n u) [] := by
 have h1 := prCheck_c n u hf hul
 by_cases hE : prE n u = 0
 ·obtain ⟨hn, hu⟩ := prE_ok hE
  have hok := netOk_of hn
  have hne := h0 hE
  have hi10 := hok.init
  have hG := Graph_c n hf hne fun nd ed h => by
   obtain ⟨_, q2, q3⟩ := bnd_ok h
   exact ⟨q3, fun x hx => by have := q2.len x hx; omega⟩
  have hsi : siE n [] 1 = 0 := by rw [siE, if_neg (by omega), if_neg (by rw [show checkSet [] n.init.length = 0 from rfl]; decide), if_neg (by omega)]
  have hM := Minimal_c n 1 hf fun _ => hne
  rw [hsi, if_pos rfl] at hM
  have hnz := fun e => bnd_ne (n := n) (e := e)
  rw [nxR, if_neg (by omega)]
  cases hbn : bndF n with
  | inl e =>
   have hnz := hnz e hbn
   rw [hbn] at hG
   simp only [grR] at hG
   simp only [stpNo_d]
   simp only [Net.d] at h1 hG
   (refine ACalls.of_body Ty_ok mixed Tryz.func101 rfl (by kernel_rfl) Tryz.ntmps101 (by simp) (congrArg Array.toList Tryz.results101) ?_)
   simp only [slotsOf, Net.d]
   (repeat' (first | (with_reducible first | refine aBl ?_ | (refine aS 12 [39, 38, 40] ?_; intro K hK)) | ((with_reducible refine aGo ?_); simp only [hE, go_sem]) | ((with_reducible refine aCd ?_ ?_ (fun hb => ?_) (fun hb => ?_)); (iterate 2 simp only [hE, go_sem]); all_goals (simp only [hE, go_sem] at hb; try simp only [bls] at hb)) | ((iterate 6 try ((fail_if_success with_reducible refine hK _ ?_ ?_ ?_); clear hK K)); with_reducible refine hK _ ?_ ?_ ?_; rotate_left; (focus (simp only [hE, go_sem]; exact rfl)); clear hK K) | ((first | (with_reducible refine xA ?_) | ((with_reducible refine gA ?_); refine xA ?_)); simp only [hE, go_sem]) | exact aZ | fail))
   all_goals first | omega | skip
  | inr r =>
   obtain ⟨nd, ed⟩ := r
   rw [hbn] at hG
   simp only [grR] at hG
   simp only
   have hml := minL_length 1 n
   have hpow : 2 ^ n.init.length ≤ 1024 := Nat.le_trans (Nat.pow_le_pow_right (by omega) hi10) (by decide)
   generalize hR : (match nextF n u with | none => AV.tup [.agg Stp.no.d, .one (.bool false), .one (.int .i64 0)] | some s => .tup [.agg (stepOf n s).d, .one (.bool true), .one (.int .i64 0)]) = R
   simp only [Net.d] at h1 hG hM
   (refine ACalls.of_body Ty_ok mixed Tryz.func101 rfl (by kernel_rfl) Tryz.ntmps101 (by simp) (congrArg Array.toList Tryz.results101) ?_)
   simp only [slotsOf, Net.d]
   (repeat' (first | (with_reducible first | refine aBl ?_ | (refine aS 12 [39, 38, 40] ?_; intro K hK)) | ((with_reducible refine aGo ?_); simp only [hE, go_sem]) | ((with_reducible refine aCd ?_ ?_ (fun hb => ?_) (fun hb => ?_)); (iterate 2 simp only [hE, go_sem]); all_goals (simp only [hE, go_sem] at hb; try simp only [bls] at hb)) | ((iterate 6 try ((fail_if_success with_reducible refine hK _ ?_ ?_ ?_); clear hK K)); with_reducible refine hK _ ?_ ?_ ?_; rotate_left; (focus (simp only [hE, go_sem]; exact rfl)); clear hK K) | ((with_reducible refine xA ?_); simp only [hE, go_sem]) | fail))
   all_goals first | omega | skip
   refine awp_loop _ (by simp only [go_sem]; rfl) (Nat × Option Stp) (fun x => x.1 ≤ (minL 1 n).length ∧ nextF n u = ((minL 1 n).drop x.1).find? (ctlB n u)) (fun x => [(40, .one (.int .i64 x.1))]) (fun x _ => [.var 32 [.list (ints n.init), .list (trsD n.trs)], .var 172 (optD x.2)]) (fun x => (minL 1 n).length - x.1) (0, none) ⟨Nat.zero_le _, rfl⟩ ?_ ?_
   ·simp only [optD]
    (simp only [SubF, go_sem]; (try simp only [go_sem]); repeat' (first | exact True.intro | with_reducible refine And.intro ?_ ?_ | rfl | omega))
   rintro ⟨k, o⟩ ⟨hk, hnx⟩ L hL
   simp only at hk hnx
   have hq : ((k : Nat) : Int).toNat = k := by omega
   by_cases hlt : k < (minL 1 n).length
   ·have hw := words_at (l := minL 1 n) hlt [.nil]
    have hmem := getD_mem (minL 1 n) k [] hlt
    have hst := find_step (d := []) hlt hnx
    have hS := setOk_of hn hmem
    have hsl := hS.len
    have hkp := kept_c n ((minL 1 n).getD k []) hf hS.place (by omega)
    have hct := controlled_c n u ((minL 1 n).getD k []) hne hE hbn hmem hul
    generalize (minL 1 n).getD k [] = s at *
    simp only [Net.d, Con.d, kepC] at hkp
    simp only [Net.d, Stp.d, stepOf, kepC] at hct
    cases hcb : ctlB n u s with
    | true =>
     rw [hcb] at hct
     rw [hcb, if_pos rfl] at hst
     rw [hst] at hR
     simp only [stepOf, Stp.d, kepC] at hR
     subst hR
     cases o
     all_goals
      simp only [optD, Stp.d] at hL ⊢
      (simp only [go_sem] at hL ⊢)
      (repeat' (first | (with_reducible first | refine And.intro ?_ ?_ | refine aBl ?_ | (refine aS 12 [39, 38, 40] ?_; intro K hK)) | ((with_reducible refine aGo ?_); simp only [hw, hq, go_sem]) | ((with_reducible refine aCd ?_ ?_ (fun hb => ?_) (fun hb => ?_)); (iterate 2 simp only [hw, hq, go_sem]); all_goals (simp only [hw, hq, go_sem] at hb; try simp only [bls] at hb)) | ((iterate 6 try ((fail_if_success with_reducible refine hK _ ?_ ?_ ?_); clear hK K)); with_reducible refine hK _ ?_ ?_ ?_; rotate_left; (focus (simp only [hw, hq, go_sem]; exact rfl)); clear hK K) | ((with_reducible refine xA ?_); simp only [hw, hq, go_sem]) | exact aZ | fail))
      all_goals first | omega | skip
    | false =>
     rw [hcb] at hct
     rw [hcb, if_neg (by decide)] at hst
     have hL2 := fun σ' hs => hL σ' (k + 1, some ⟨s, ⟨facK n.init.length s, -1⟩⟩) ⟨by simp only; omega, hst⟩ hs (by simp only; omega)
     simp only [optD, Stp.d] at hL2
     clear hL
     cases o
     all_goals
      simp only [optD, Stp.d] at hL2 ⊢
      (simp only [go_sem] at hL2 ⊢)
      (repeat' (first | (with_reducible first | refine And.intro ?_ ?_ | refine aBl ?_ | (refine aS 12 [39, 38, 40] ?_; intro K hK)) | ((with_reducible refine aGo ?_); simp only [hw, hq, go_sem]) | ((with_reducible refine aCd ?_ ?_ (fun hb => ?_) (fun hb => ?_)); (iterate 2 simp only [hw, hq, go_sem]); all_goals (simp only [hw, hq, go_sem] at hb; try simp only [bls] at hb)) | ((iterate 6 try ((fail_if_success with_reducible refine hK _ ?_ ?_ ?_); clear hK K)); with_reducible refine hK _ ?_ ?_ ?_; rotate_left; (focus (simp only [hw, hq, go_sem]; exact rfl)); clear hK K) | ((with_reducible refine xA ?_); simp only [hw, hq, go_sem]) | exact aZ | fail))
      all_goals first | omega | skip
      exact hL2 _ (by (simp only [SubF, go_sem]; (try simp only [go_sem]); repeat' (first | exact True.intro | with_reducible refine And.intro ?_ ?_ | rfl | omega)))
   ·rw [drop_end _ k (by omega), List.find?_nil] at hnx
    rw [hnx] at hR
    simp only [stpNo_d] at hR
    subst hR
    cases o
    all_goals
     simp only [optD, Stp.d] at hL ⊢
     (simp only [go_sem] at hL ⊢)
     (repeat' (first | (with_reducible first | refine And.intro ?_ ?_ | refine aBl ?_ | (refine aS 12 [39, 38, 40] ?_; intro K hK)) | ((with_reducible refine aGo ?_); simp only [go_sem]) | ((with_reducible refine aCd ?_ ?_ (fun hb => ?_) (fun hb => ?_)); (iterate 2 simp only [go_sem]); all_goals (simp only [go_sem] at hb; try simp only [bls] at hb)) | ((iterate 6 try ((fail_if_success with_reducible refine hK _ ?_ ?_ ?_); clear hK K)); with_reducible refine hK _ ?_ ?_ ?_; rotate_left; (focus (simp only [go_sem]; exact rfl)); clear hK K) | exact aZ | fail))
     all_goals first | omega | skip
 ·rw [nxR, if_pos hE]
  simp only [stpNo_d]
  simp only [Net.d] at h1
  (refine ACalls.of_body Ty_ok mixed Tryz.func101 rfl (by kernel_rfl) Tryz.ntmps101 (by simp) (congrArg Array.toList Tryz.results101) ?_)
  simp only [slotsOf, Net.d]
  (repeat' (first | (with_reducible (refine aS 12 [39, 38, 40] ?_; intro K hK)) | ((with_reducible refine aGo ?_); simp only [go_sem]) | ((with_reducible refine aCd ?_ ?_ (fun hb => ?_) (fun hb => ?_)); (iterate 2 simp only [go_sem]); all_goals (simp only [go_sem] at hb; try simp only [bls] at hb)) | ((iterate 6 try ((fail_if_success with_reducible refine hK _ ?_ ?_ ?_); clear hK K)); with_reducible refine hK _ ?_ ?_ ?_; rotate_left; (focus (simp only [go_sem]; exact rfl)); clear hK K) | ((with_reducible refine xA ?_); simp only [go_sem]) | exact aZ | fail))
  all_goals first | omega | skip
end Go.Proofs.YtljpfdehnjemlaaGreatDoor
