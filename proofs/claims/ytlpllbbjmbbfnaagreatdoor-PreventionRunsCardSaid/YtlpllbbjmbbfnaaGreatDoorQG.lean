/-
 Contracts of chapter 51: prevention's check, the constraint of a set of places, comparing results.
-/
import Derived.Test.YtlpllbbjmbbfnaaGreatDoorQC
set_option linter.unusedSimpArgs false
set_option linter.unusedVariables false
namespace Go.Proofs.YtlpllbbjmbbfnaaGreatDoor
open Go.Eng Go.RowKit
theorem bnd_errs {n : Net} {e : Int} (hn : netE n = 0) (h : bndF n = .inl e) : e = 3 ∨ e = 23 := by
 unfold bndF at h
 rw [if_neg (by omega)] at h
 have hO := outer_err n 4096 4098 0 [⟨n.init, -1, -1⟩] []
 rw [show outerF n 4096 4098 0 [⟨n.init, -1, -1⟩] [] = searchF n 4096 from rfl] at hO
 cases hS : searchF n 4096 with
 | err e' => rw [hS] at h; cases h; exact .inl (hO.1 _ hS)
 | pump nd ed p => rw [hS] at h; cases h; exact .inr rfl
 | cont nd ed => rw [hS] at h; cases h
theorem mon_errs {m : Net} {u s : List Int} (hm : netE m = 0) (hs : s ∈ minL 1 m) (hc : ctlB m u s = true) : monE m (kepC m.init.length s) = 0 ∨ monE m (kepC m.init.length s) = 3 := by
 obtain ⟨h1, h2, h3⟩ := setsY_el (minL_el hs).1
 have hd := dot_facK m.init.length m.init s (h2.imp fun h => by omega) h3
 simp only [ctlB, Bool.and_eq_true, decide_eq_true_eq] at hc
 have hc1 := hc.1.2
 unfold monE
 rw [if_neg (by rw [conE_kep hm]; decide), if_neg (by simp only [kepC]; omega)]
 split
 ·exact .inr rfl
 ·exact .inl rfl
theorem prevF_errs {u : List Int} : ∀ (f : Nat) (st : List Stp) (m : Net) {e : Int}, netE m = 0 → prevF u f st m = .err e → e = 3 ∨ e = 23
 | 0, st, m, e, _, h => by simp only [prevF] at h; cases h; exact .inl rfl
 | f + 1, st, m, e, hm, h => by
  simp only [prevF] at h
  split at h
  ·rename_i e' hb
   cases h
   exact bnd_errs hm hb
  ·split at h
   ·cases h
   ·split at h
    ·cases h
    ·rename_i s hs
     obtain ⟨h1, h2⟩ := nextF_mem hs
     have hE := mon_errs hm h1 h2
     split at h
     ·cases h
      omega
     ·rename_i h3
      have hz : monE m (kepC m.init.length s) = 0 := by omega
      exact prevF_errs f _ _ (netE_of (mon_ok (monOk_of hz).1)) h
theorem prevR_errs {n : Net} {u : List Int} {e : Int} (hn : netE n = 0) (h : prevR n u = .err e) : e = 3 ∨ e = 23 := prevF_errs _ _ _ hn h
theorem prevF_go {u s : List Int} {f : Nat} {st : List Stp} {m : Net} {nd : List SN} {ed : List Edg} (hb : bndF m = .inr (nd, ed)) (hd : 0 ≤ deadFrom m nd 0) (hs : nextF m u = some s) (hm : monE m (kepC m.init.length s) = 0) :
  prevF u (f + 1) st m = prevF u f (st ++ [stepOf m s]) (monNet m (kepC m.init.length s)) := by
 rw [prevF, hb]
 simp only
 rw [if_neg (by omega), hs]
 simp only
 rw [if_neg (by omega)]
theorem prevF_stop {u : List Int} {f : Nat} {st : List Stp} {m : Net} {nd : List SN} {ed : List Edg} (hb : bndF m = .inr (nd, ed)) (hd : deadFrom m nd 0 < 0) : prevF u (f + 1) st m = .ok st m := by
 rw [prevF, hb]
 simp only
 rw [if_pos hd]
theorem prevF_dead {u : List Int} {f : Nat} {st : List Stp} {m : Net} {nd : List SN} {ed : List Edg} (hb : bndF m = .inr (nd, ed)) (hd : 0 ≤ deadFrom m nd 0) (hs : nextF m u = none) : prevF u (f + 1) st m = .dead st m (pathF nd (deadFrom m nd 0)) := by
 rw [prevF, hb]
 simp only
 rw [if_neg (by omega), hs]
theorem prevF_bad {u : List Int} {f : Nat} {st : List Stp} {m : Net} {e : Int} (hb : bndF m = .inl e) : prevF u (f + 1) st m = .err e := by
 rw [prevF, hb]
theorem prevF_mon {u s : List Int} {f : Nat} {st : List Stp} {m : Net} {nd : List SN} {ed : List Edg} (hb : bndF m = .inr (nd, ed)) (hd : 0 ≤ deadFrom m nd 0) (hs : nextF m u = some s) (hm : monE m (kepC m.init.length s) ≠ 0) :
  prevF u (f + 1) st m = .err (monE m (kepC m.init.length s)) := by
 rw [prevF, hb]
 simp only
 rw [if_neg (by omega), hs]
 simp only
 rw [if_pos hm]
theorem rev_rev (n : Net) : revN (revN n) = n := by
 obtain ⟨a, l⟩ := n
 simp only [revN, List.map_map]
 congr 1
 conv => rhs; rw [← List.map_id l]
 exact List.map_congr_left fun t _ => rfl
theorem facK_nil (p : Nat) : facK p [] = List.replicate p 0 := by
 simp [facK, List.map_const']
theorem facK_set (p : Nat) (s : List Int) (x : Int) (hx : 0 ≤ x ∧ x < p) : (facK p s).set x.toNat (-1) = facK p (s ++ [x]) := by
 apply List.ext_getElem
 ·simp [facK]
 ·intro i h1 h2
  rw [List.getElem_set]
  simp only [facK, List.getElem_map, List.getElem_range, List.mem_append, List.mem_singleton]
  by_cases h : x.toNat = i
  ·have : (i : Int) = x := by omega
   rw [if_pos h, if_pos (.inr this)]
  ·have : (i : Int) ≠ x := by omega
   rw [if_neg h]
   simp [this]
theorem find_step {α : Type} {p : α → Bool} {l : List α} {d : α} {b : Option α} {k : Nat} (hk : k < l.length) (h : b = (l.drop k).find? p) : b = if p (l.getD k d) = true then some (l.getD k d) else (l.drop (k + 1)).find? p := by
 rw [drop_getD l k d hk, List.find?_cons] at h
 rw [h]
 cases p (l.getD k d) <;> rfl
/-! steps as data -/
def stpD (l : List Stp) : List (List D) := l.map Stp.d
theorem stp_length (l : List Stp) : (stpD l).length = l.length := by simp [stpD]
theorem stp_get {l : List Stp} {k : Nat} (hk : k < l.length) (z : List D) : (stpD l).getD k z = [.list (ints (l.getD k Stp.no).set), .list (ints (l.getD k Stp.no).con.fac), .int .i64 (l.getD k Stp.no).con.bound] := by
 simp only [stpD, List.getD, List.getElem?_map, List.getElem?_eq_getElem hk]
 rfl
theorem stp_sz (l : List Stp) : (∀ r : List D, r ∈ stpD l → r.length = 3) ↔ True := ⟨fun _ => trivial, fun _ r hr => by obtain ⟨e, _, rfl⟩ := List.mem_map.1 hr; rfl⟩
theorem stp_append (xs ys : List Stp) : stpD xs ++ stpD ys = stpD (xs ++ ys) := by simp [stpD]
theorem stp_one (s f : List Int) (b : Int) : [[D.list (ints s), D.list (ints f), D.int .i64 b]] = stpD [⟨s, ⟨f, b⟩⟩] := rfl
attribute [go_sem] stp_length stp_sz
end Go.Proofs.YtlpllbbjmbbfnaaGreatDoor
set_option linter.unusedSimpArgs false
set_option linter.unusedVariables false
namespace Go.Proofs.YtlpllbbjmbbfnaaGreatDoor
open Go.Eng Go.RowKit
/-! errors -/
def prE (n : Net) (u : List Int) : Int := if netE n ≠ 0 then netE n else checkSet u n.trs.length
theorem prE_ok {n : Net} {u : List Int} (h : prE n u = 0) : netE n = 0 ∧ checkSet u n.trs.length = 0 := by
 unfold prE at h
 split at h
 ·rename_i h1; exact absurd h h1
 ·exact ⟨by omega, h⟩
theorem prCheck_c (n : Net) (u : List Int) (hf : n.Fits) (hul : u.length ≤ 1000000) : ACalls Tryz.prog 33 [.agg n.d, .one (.list (ints u))] (.one (.int .i64 (prE n u))) [] := by
 have h1 := netCheck_c n hf
 have h2 := CheckSet_c u n.trs.length (by omega)
 have ht := hf.trs
 simp only [Net.d] at h1
 (refine ACalls.of_body Ty_ok mixed Tryz.func33 rfl (by kernel_rfl) Tryz.ntmps33 (by simp) (congrArg Array.toList Tryz.results33) ?_)
 simp only [slotsOf, Net.d]
 (repeat' (first | (with_reducible first | exact True.intro | refine And.intro ?_ ?_ | refine aBl ?_ | (refine aS 6 [] ?_; intro K hK)) | ((with_reducible first | refine aGo ?_); simp only [go_sem]) | ((with_reducible refine aCd ?_ ?_ (fun hb => ?_) (fun hb => ?_)); (iterate 2 simp only [go_sem]); all_goals (simp only [go_sem] at hb; try simp only [bls] at hb)) | ((iterate 6 try ((fail_if_success with_reducible refine hK _ ?_ ?_ ?_); clear hK K)); with_reducible refine hK _ ?_ ?_ ?_; rotate_left; (focus (simp only [go_sem]; exact rfl)); clear hK K) | ((first | (with_reducible first | refine xA ?_ | refine xD ?_ | refine xO ?_ | refine xR ?_ | refine xG ?_ | refine xH ?_ | refine xM ?_) | ((with_reducible refine gA ?_); refine xA ?_) | ((with_reducible refine gD ?_); refine xD ?_) | ((with_reducible refine gG ?_); refine xG ?_)); simp only [go_sem]) | (with_reducible refine aGs (fun hg0 => ?_) (fun hg0 => ?_) <;> first | (with_reducible first | exact aF1 hg0 | exact aF2 hg0) | (simp only [hg0, go_sem])) | (with_reducible refine aNk ?_; intro bnil hnil; try simp only []) | exact aZ | fail))
 all_goals first | omega | skip
 ·rw [prE, if_pos hb]
 ·rw [prE, if_neg (by omega)]
/-! the constraint of a set -/
set_option maxHeartbeats 4000000 in
theorem kept_c (n : Net) (s : List Int) (hf : n.Fits) (hs : ∀ x ∈ s, 0 ≤ x ∧ x < n.init.length) (hn : s.length ≤ 1000000) : ACalls Tryz.prog 40 [.agg n.d, .one (.list (ints s))] (.agg (kepC n.init.length s).d) [] := by
 have hi := hf.init
 (refine ACalls.of_body Ty_ok mixed Tryz.func40 rfl (by kernel_rfl) Tryz.ntmps40 (by simp) (congrArg Array.toList Tryz.results40) ?_)
 simp only [slotsOf, Net.d, Con.d, kepC]
 (repeat' (first | (with_reducible first | exact True.intro | refine And.intro ?_ ?_ | refine aBl ?_ | (refine aS 8 [14, 13, 15] ?_; intro K hK)) | ((with_reducible first | refine aGo ?_); simp only [go_sem]) | ((with_reducible refine aCd ?_ ?_ (fun hb => ?_) (fun hb => ?_)); (iterate 2 simp only [go_sem]); all_goals (simp only [go_sem] at hb; try simp only [bls] at hb)) | ((iterate 6 try ((fail_if_success with_reducible refine hK _ ?_ ?_ ?_); clear hK K)); with_reducible refine hK _ ?_ ?_ ?_; rotate_left; (focus (simp only [go_sem]; exact rfl)); clear hK K) | (with_reducible refine aGs (fun hg0 => ?_) (fun hg0 => ?_) <;> first | (with_reducible first | exact aF1 hg0 | exact aF2 hg0) | (simp only [hg0, go_sem])) | (with_reducible refine aNk ?_; intro bnil hnil; try simp only []) | exact aZ | fail))
 all_goals first | omega | skip
 refine awp_loop _ (by simp only [go_sem]; rfl) Nat (fun k => k ≤ s.length) (fun k => [(15, .one (.int .i64 k))]) (fun k _ => [.var 33 [.list (ints n.init), .list (trsD n.trs)], .var 38 [.nil, .int .i64 0], .row 3 1 (ints (facK n.init.length (s.take k))), .var 38 [.own 2, .int .i64 (-1)]]) (fun k => s.length - k) 0 (by omega) ?_ ?_
 ·have e0 : ints (facK n.init.length (s.take 0)) = List.replicate n.init.length [.int .i64 0] := by rw [List.take_zero, facK_nil]; simp [ints]
  rw [e0]
  (simp only [SubF, go_sem]; (try simp only [go_sem]); repeat' (first | exact True.intro | with_reducible refine And.intro ?_ ?_ | rfl | omega))
 rintro k hk L hL
 have hfl := facK_length n.init.length (s.take k)
 by_cases hlt : k < s.length
 ·have hx := hs (s.getD k 0) (getD_mem s k 0 hlt)
  have e1 := facK_set n.init.length (s.take k) (s.getD k 0) hx
  rw [← take_succ_getD s k 0 hlt] at e1
  have hrow := ints_at (l := facK n.init.length (s.take k)) (k := (s.getD k 0).toNat) (by omega)
  (simp only [go_sem] at hL ⊢)
  (repeat' (first | (with_reducible first | exact True.intro | refine And.intro ?_ ?_ | refine aBl ?_ | (refine aS 8 [14, 13, 15] ?_; intro K hK)) | ((with_reducible first | refine aGo ?_); simp only [hrow, go_sem]) | ((with_reducible refine aCd ?_ ?_ (fun hb => ?_) (fun hb => ?_)); (iterate 2 simp only [hrow, go_sem]); all_goals (simp only [hrow, go_sem] at hb; try simp only [bls] at hb)) | ((iterate 6 try ((fail_if_success with_reducible refine hK _ ?_ ?_ ?_); clear hK K)); with_reducible refine hK _ ?_ ?_ ?_; rotate_left; (focus (simp only [hrow, go_sem]; exact rfl)); clear hK K) | (with_reducible refine aGs (fun hg0 => ?_) (fun hg0 => ?_) <;> first | (with_reducible first | exact aF1 hg0 | exact aF2 hg0) | (simp only [hg0, hrow, go_sem])) | (with_reducible refine aNk ?_; intro bnil hnil; try simp only []) | exact aZ | fail))
  all_goals first | omega | skip
  refine hL _ (k + 1) (by omega) ?_ (by omega)
  rw [← e1, ← ints_set]
  (simp only [SubF, go_sem]; (try simp only [go_sem]); repeat' (first | exact True.intro | with_reducible refine And.intro ?_ ?_ | rfl | omega))
 ·rw [List.take_of_length_le (by omega : s.length ≤ k)]
  (simp only [go_sem] at hL ⊢)
  (repeat' (first | (with_reducible first | exact True.intro | refine And.intro ?_ ?_ | refine aBl ?_ | (refine aS 8 [14, 13, 15] ?_; intro K hK)) | ((with_reducible first | refine aGo ?_); simp only [go_sem]) | ((with_reducible refine aCd ?_ ?_ (fun hb => ?_) (fun hb => ?_)); (iterate 2 simp only [go_sem]); all_goals (simp only [go_sem] at hb; try simp only [bls] at hb)) | ((iterate 6 try ((fail_if_success with_reducible refine hK _ ?_ ?_ ?_); clear hK K)); with_reducible refine hK _ ?_ ?_ ?_; rotate_left; (focus (simp only [go_sem]; exact rfl)); clear hK K) | (with_reducible refine aGs (fun hg0 => ?_) (fun hg0 => ?_) <;> first | (with_reducible first | exact aF1 hg0 | exact aF2 hg0) | (simp only [hg0, go_sem])) | (with_reducible refine aNk ?_; intro bnil hnil; try simp only []) | exact aZ | fail))
  all_goals first | omega | skip
/-! comparing -/
structure Stp.Fits (x : Stp) : Prop where
 set : x.set.length ≤ 1000000
 fac : x.con.fac.length ≤ 1000000
def resD (st : List Stp) (n : Net) : List D := [.list (stpD st), .list (ints n.init), .list (trsD n.trs)]
end Go.Proofs.YtlpllbbjmbbfnaaGreatDoor
