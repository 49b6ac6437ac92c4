/-
  Contracts: events, checks of alphabets.
-/
import Derived.Test.YtdhkmgnhbllbfaaC2
set_option linter.unusedSimpArgs false
set_option linter.unusedVariables false
namespace Go.Proofs.Ytdhkmgnhbllbfaa
open Go.Eng Go.RowKit
structure Ev where
  name : List UInt8
  con : Bool
  obs : Bool
  forc : Bool
  fault : Int
  deriving DecidableEq
def Ev.d (e : Ev) : List D := [.str e.name, .bool e.con, .bool e.obs, .bool e.forc, .int .i64 e.fault]
def Ev.no : Ev := ⟨[], false, false, false, 0⟩
def evs (l : List Ev) : List (List D) := l.map Ev.d
theorem evs_length (l : List Ev) : (evs l).length = l.length := by simp [evs]
theorem evs_getD (l : List Ev) (k : Nat) : (evs l).getD k [.str [], .bool false, .bool false, .bool false, .int .i64 0] = [.str (l.getD k Ev.no).name, .bool (l.getD k Ev.no).con, .bool (l.getD k Ev.no).obs, .bool (l.getD k Ev.no).forc, .int .i64 (l.getD k Ev.no).fault] := by
  simp only [evs, List.getD, List.getElem?_map]
  cases l[k]? <;> rfl
theorem evs_take (l : List Ev) (k : Nat) : (evs l).take k = evs (l.take k) := by simp [evs]
theorem evs_drop (l : List Ev) (k : Nat) : (evs l).drop k = evs (l.drop k) := by simp [evs]
theorem evs_sz (l : List Ev) : (∀ r : List D, r ∈ evs l → r.length = 5) ↔ True := ⟨fun _ => trivial, fun _ r hr => by obtain ⟨e, _, rfl⟩ := List.mem_map.1 hr; rfl⟩
theorem evs_flat (l : List Ev) : ∀ r ∈ evs l, r.all D.flat = true := by
  intro r hr
  obtain ⟨z, _, rfl⟩ := List.mem_map.1 hr
  rfl
attribute [go_sem] evs_length evs_getD evs_take evs_drop evs_sz
def Short (l : List Ev) : Prop := ∀ e ∈ l, e.name.length ≤ 1000
theorem getD_mem {α : Type} (l : List α) (k : Nat) (d : α) (hk : k < l.length) : l.getD k d ∈ l := by
  simp [List.getD, List.getElem?_eq_getElem hk]
theorem Short.get {l : List Ev} (h : Short l) (k : Nat) : (l.getD k Ev.no).name.length ≤ 1000 := by
  by_cases hk : k < l.length
  · exact h _ (getD_mem l k _ hk)
  · simp [List.getD, List.getElem?_eq_none (Nat.le_of_not_lt hk), Ev.no]
def fewB (l : List Ev) : Bool := decide (l.length ≤ 40) && l.all fun e => decide (e.name.length ≤ 50)
theorem few_step {l : List Ev} {b : Bool} {k : Nat} (hk : k < l.length) (h : b = (l.drop k).all fun e => decide (e.name.length ≤ 50)) : b = (decide ((l.getD k Ev.no).name.length ≤ 50) && (l.drop (k + 1)).all fun e => decide (e.name.length ≤ 50)) := by
  rw [drop_getD l k Ev.no hk] at h; exact h
set_option maxHeartbeats 1000000 in
theorem few_c (l : List Ev) (hn : l.length ≤ 9223372036854775807) : ACalls Try.prog 17 [.one (.list (evs l))] (.one (.bool (fewB l))) [] := by
  (refine ACalls.of_body Ty_ok mixed Try.func17 rfl (by kernel_rfl) Try.ntmps17 (by simp) (congrArg Array.toList Try.results17) ?_)
  simp only [slotsOf]
  (repeat' (first | (with_reducible refine awp_seq ?_; intro K hK) | (with_reducible refine GCallAt_no ?_ ?_ <;> (simp only [go_sem])) | (with_reducible refine gsplit_i (fun hg0 => ?_) (fun hg0 => ?_) <;> (simp only [hg0, go_sem])) | (with_reducible refine awp_reg ?_; simp only [go_sem]) | (with_reducible refine awp_drw (by kernel_rfl) ?_; simp only [go_sem]) | with_reducible refine awp_block ?_ | (with_reducible refine awp_exit ?_; simp only [go_sem]) | (with_reducible refine awp_ret ?_; simp only [retF, retM, retL, resV, resW, retO, resAV, AV.bor, D.bor, D.bor1, D.bor0, AV.flatOwn, D.flatOwn, D.flat, AV.tagged, D.tagged, AObj.plain, go_sem]) | (with_reducible refine awp_skip ?_; simp only [go_sem]) | (with_reducible refine awp_cond' ?_ ?_ (fun hb => ?_) (fun hb => ?_); (simp only [AV.theB, go_sem]); (simp only [go_sem]); all_goals (simp only [AV.theB, go_sem] at hb; try simp only [decide_eq_true_eq, decide_eq_false_iff_not, Bool.and_eq_true, Bool.or_eq_true, Bool.and_eq_false_iff, Bool.or_eq_false_iff, Bool.not_eq_true', Bool.not_eq_false', beq_iff_eq, bne_iff_ne, beq_eq_false_iff_ne, bne_eq_false_iff_eq, Int.not_lt, Int.not_le, ne_eq] at hb)) | (first | (with_reducible refine hK _ ?_; clear hK K) | (clear hK K; with_reducible refine hK _ ?_; clear hK K) | (clear hK K; clear hK K; with_reducible refine hK _ ?_; clear hK K) | (clear hK K; clear hK K; clear hK K; with_reducible refine hK _ ?_; clear hK K)) | exact True.intro | with_reducible refine And.intro ?_ ?_ | (omega; done) | (intro hv; (try simp only [decide_eq_true_eq, decide_eq_false_iff_not, Bool.and_eq_true, Bool.or_eq_true, Bool.and_eq_false_iff, Bool.or_eq_false_iff, Bool.not_eq_true', Bool.not_eq_false', beq_iff_eq, bne_iff_ne, beq_eq_false_iff_ne, bne_eq_false_iff_eq, Int.not_lt, Int.not_le, ne_eq] at hv); (try simp only [decide_eq_true_eq, decide_eq_false_iff_not, Bool.and_eq_true, Bool.or_eq_true, Bool.and_eq_false_iff, Bool.or_eq_false_iff, Bool.not_eq_true', Bool.not_eq_false', beq_iff_eq, bne_iff_ne, beq_eq_false_iff_ne, bne_eq_false_iff_eq, Int.not_lt, Int.not_le, ne_eq]); omega) | (intro hg; (simp only [hg, Bool.true_and, true_and, implies_true]; try (intro hg2; simp only [hg2, Bool.not_false, Bool.not_true])); done)))
  · simp only [fewB]; rw [Bool.eq_iff_iff]; simp; omega
  refine awp_loop _ (by simp only [go_sem]; rfl) Nat (fun k => k ≤ l.length ∧ fewB l = (l.drop k).all fun e => decide (e.name.length ≤ 50)) (fun k => [(3, .one (.int .i64 k))]) (fun _ H => H) (fun k => l.length - k) 0 ⟨by omega, by simp [fewB]; omega⟩ ?_ ?_
  · (simp only [SubF, go_sem]; (try simp only [go_sem]); repeat' (first | exact True.intro | with_reducible refine And.intro ?_ ?_ | rfl | omega))
  · rintro k ⟨hk, hres⟩ L hL
    (simp only [go_sem] at hL ⊢)
    (repeat' (first | (with_reducible refine awp_seq ?_; intro K hK) | (with_reducible refine GCallAt_no ?_ ?_ <;> (simp only [go_sem])) | (with_reducible refine gsplit_i (fun hg0 => ?_) (fun hg0 => ?_) <;> (simp only [hg0, go_sem])) | (with_reducible refine awp_reg ?_; simp only [go_sem]) | (with_reducible refine awp_drw (by kernel_rfl) ?_; simp only [go_sem]) | with_reducible refine awp_block ?_ | (with_reducible refine awp_exit ?_; simp only [go_sem]) | (with_reducible refine awp_ret ?_; simp only [retF, retM, retL, resV, resW, retO, resAV, AV.bor, D.bor, D.bor1, D.bor0, AV.flatOwn, D.flatOwn, D.flat, AV.tagged, D.tagged, AObj.plain, go_sem]) | (with_reducible refine awp_skip ?_; simp only [go_sem]) | (with_reducible refine awp_cond' ?_ ?_ (fun hb => ?_) (fun hb => ?_); (simp only [AV.theB, go_sem]); (simp only [go_sem]); all_goals (simp only [AV.theB, go_sem] at hb; try simp only [decide_eq_true_eq, decide_eq_false_iff_not, Bool.and_eq_true, Bool.or_eq_true, Bool.and_eq_false_iff, Bool.or_eq_false_iff, Bool.not_eq_true', Bool.not_eq_false', beq_iff_eq, bne_iff_ne, beq_eq_false_iff_ne, bne_eq_false_iff_eq, Int.not_lt, Int.not_le, ne_eq] at hb)) | (first | (with_reducible refine hK _ ?_; clear hK K) | (clear hK K; with_reducible refine hK _ ?_; clear hK K) | (clear hK K; clear hK K; with_reducible refine hK _ ?_; clear hK K) | (clear hK K; clear hK K; clear hK K; with_reducible refine hK _ ?_; clear hK K)) | exact True.intro | with_reducible refine And.intro ?_ ?_ | (omega; done) | (intro hv; (try simp only [decide_eq_true_eq, decide_eq_false_iff_not, Bool.and_eq_true, Bool.or_eq_true, Bool.and_eq_false_iff, Bool.or_eq_false_iff, Bool.not_eq_true', Bool.not_eq_false', beq_iff_eq, bne_iff_ne, beq_eq_false_iff_ne, bne_eq_false_iff_eq, Int.not_lt, Int.not_le, ne_eq] at hv); (try simp only [decide_eq_true_eq, decide_eq_false_iff_not, Bool.and_eq_true, Bool.or_eq_true, Bool.and_eq_false_iff, Bool.or_eq_false_iff, Bool.not_eq_true', Bool.not_eq_false', beq_iff_eq, bne_iff_ne, beq_eq_false_iff_ne, bne_eq_false_iff_eq, Int.not_lt, Int.not_le, ne_eq]); omega) | (intro hg; (simp only [hg, Bool.true_and, true_and, implies_true]; try (intro hg2; simp only [hg2, Bool.not_false, Bool.not_true])); done)))
    · rw [few_step (by omega) hres, decide_eq_false (by omega)]; rfl
    · have h1 := few_step (by omega) hres
      rw [decide_eq_true (by omega), Bool.true_and] at h1
      exact hL _ (k + 1) ⟨by omega, h1⟩ (by (simp only [SubF, go_sem]; (try simp only [go_sem]); repeat' (first | exact True.intro | with_reducible refine And.intro ?_ ?_ | rfl | omega))) (by omega)
    · rw [hres, drop_end l k (by omega)]; rfl
def findFrom (s : List UInt8) : Nat → List Ev → Int
  | _, [] => -1
  | k, e :: l => if e.name = s then k else findFrom s (k + 1) l
def findIx (l : List Ev) (s : List UInt8) : Int := findFrom s 0 l
theorem find_step {l : List Ev} {s : List UInt8} {b : Int} {k : Nat} (hk : k < l.length) (h : b = findFrom s k (l.drop k)) : b = if (l.getD k Ev.no).name = s then (k : Int) else findFrom s (k + 1) (l.drop (k + 1)) := by
  rw [drop_getD l k Ev.no hk] at h; exact h
set_option maxHeartbeats 1000000 in
theorem refFind_c (l : List Ev) (s : List UInt8) (hn : l.length ≤ 9223372036854775807) : ACalls Try.prog 36 [.one (.list (evs l)), .one (.str s)] (.one (.int .i64 (findIx l s))) [] := by
  (refine ACalls.of_body Ty_ok mixed Try.func36 rfl (by kernel_rfl) Try.ntmps36 (by simp) (congrArg Array.toList Try.results36) ?_)
  simp only [slotsOf]
  (repeat' (first | (with_reducible refine awp_seq ?_; intro K hK) | (with_reducible refine GCallAt_no ?_ ?_ <;> (simp only [go_sem])) | (with_reducible refine gsplit_i (fun hg0 => ?_) (fun hg0 => ?_) <;> (simp only [hg0, go_sem])) | (with_reducible refine awp_reg ?_; simp only [go_sem]) | (with_reducible refine awp_drw (by kernel_rfl) ?_; simp only [go_sem]) | with_reducible refine awp_block ?_ | (with_reducible refine awp_exit ?_; simp only [go_sem]) | (with_reducible refine awp_ret ?_; simp only [retF, retM, retL, resV, resW, retO, resAV, AV.bor, D.bor, D.bor1, D.bor0, AV.flatOwn, D.flatOwn, D.flat, AV.tagged, D.tagged, AObj.plain, go_sem]) | (with_reducible refine awp_skip ?_; simp only [go_sem]) | (with_reducible refine awp_cond' ?_ ?_ (fun hb => ?_) (fun hb => ?_); (simp only [AV.theB, go_sem]); (simp only [go_sem]); all_goals (simp only [AV.theB, go_sem] at hb; try simp only [decide_eq_true_eq, decide_eq_false_iff_not, Bool.and_eq_true, Bool.or_eq_true, Bool.and_eq_false_iff, Bool.or_eq_false_iff, Bool.not_eq_true', Bool.not_eq_false', beq_iff_eq, bne_iff_ne, beq_eq_false_iff_ne, bne_eq_false_iff_eq, Int.not_lt, Int.not_le, ne_eq] at hb)) | (first | (with_reducible refine hK _ ?_; clear hK K) | (clear hK K; with_reducible refine hK _ ?_; clear hK K) | (clear hK K; clear hK K; with_reducible refine hK _ ?_; clear hK K) | (clear hK K; clear hK K; clear hK K; with_reducible refine hK _ ?_; clear hK K)) | exact True.intro | with_reducible refine And.intro ?_ ?_ | (omega; done) | (intro hv; (try simp only [decide_eq_true_eq, decide_eq_false_iff_not, Bool.and_eq_true, Bool.or_eq_true, Bool.and_eq_false_iff, Bool.or_eq_false_iff, Bool.not_eq_true', Bool.not_eq_false', beq_iff_eq, bne_iff_ne, beq_eq_false_iff_ne, bne_eq_false_iff_eq, Int.not_lt, Int.not_le, ne_eq] at hv); (try simp only [decide_eq_true_eq, decide_eq_false_iff_not, Bool.and_eq_true, Bool.or_eq_true, Bool.and_eq_false_iff, Bool.or_eq_false_iff, Bool.not_eq_true', Bool.not_eq_false', beq_iff_eq, bne_iff_ne, beq_eq_false_iff_ne, bne_eq_false_iff_eq, Int.not_lt, Int.not_le, ne_eq]); omega) | (intro hg; (simp only [hg, Bool.true_and, true_and, implies_true]; try (intro hg2; simp only [hg2, Bool.not_false, Bool.not_true])); done)))
  refine awp_loop _ (by simp only [go_sem]; rfl) Nat (fun k => k ≤ l.length ∧ findIx l s = findFrom s k (l.drop k)) (fun k => [(5, .one (.int .i64 k))]) (fun _ H => H) (fun k => l.length - k) 0 ⟨by omega, by simp [findIx]⟩ ?_ ?_
  · (simp only [SubF, go_sem]; (try simp only [go_sem]); repeat' (first | exact True.intro | with_reducible refine And.intro ?_ ?_ | rfl | omega))
  · rintro k ⟨hk, hres⟩ L hL
    (simp only [go_sem] at hL ⊢)
    (repeat' (first | (with_reducible refine awp_seq ?_; intro K hK) | (with_reducible refine GCallAt_no ?_ ?_ <;> (simp only [go_sem])) | (with_reducible refine gsplit_i (fun hg0 => ?_) (fun hg0 => ?_) <;> (simp only [hg0, go_sem])) | (with_reducible refine awp_reg ?_; simp only [go_sem]) | (with_reducible refine awp_drw (by kernel_rfl) ?_; simp only [go_sem]) | with_reducible refine awp_block ?_ | (with_reducible refine awp_exit ?_; simp only [go_sem]) | (with_reducible refine awp_ret ?_; simp only [retF, retM, retL, resV, resW, retO, resAV, AV.bor, D.bor, D.bor1, D.bor0, AV.flatOwn, D.flatOwn, D.flat, AV.tagged, D.tagged, AObj.plain, go_sem]) | (with_reducible refine awp_skip ?_; simp only [go_sem]) | (with_reducible refine awp_cond' ?_ ?_ (fun hb => ?_) (fun hb => ?_); (simp only [AV.theB, go_sem]); (simp only [go_sem]); all_goals (simp only [AV.theB, go_sem] at hb; try simp only [decide_eq_true_eq, decide_eq_false_iff_not, Bool.and_eq_true, Bool.or_eq_true, Bool.and_eq_false_iff, Bool.or_eq_false_iff, Bool.not_eq_true', Bool.not_eq_false', beq_iff_eq, bne_iff_ne, beq_eq_false_iff_ne, bne_eq_false_iff_eq, Int.not_lt, Int.not_le, ne_eq] at hb)) | (first | (with_reducible refine hK _ ?_; clear hK K) | (clear hK K; with_reducible refine hK _ ?_; clear hK K) | (clear hK K; clear hK K; with_reducible refine hK _ ?_; clear hK K) | (clear hK K; clear hK K; clear hK K; with_reducible refine hK _ ?_; clear hK K)) | exact True.intro | with_reducible refine And.intro ?_ ?_ | (omega; done) | (intro hv; (try simp only [decide_eq_true_eq, decide_eq_false_iff_not, Bool.and_eq_true, Bool.or_eq_true, Bool.and_eq_false_iff, Bool.or_eq_false_iff, Bool.not_eq_true', Bool.not_eq_false', beq_iff_eq, bne_iff_ne, beq_eq_false_iff_ne, bne_eq_false_iff_eq, Int.not_lt, Int.not_le, ne_eq] at hv); (try simp only [decide_eq_true_eq, decide_eq_false_iff_not, Bool.and_eq_true, Bool.or_eq_true, Bool.and_eq_false_iff, Bool.or_eq_false_iff, Bool.not_eq_true', Bool.not_eq_false', beq_iff_eq, bne_iff_ne, beq_eq_false_iff_ne, bne_eq_false_iff_eq, Int.not_lt, Int.not_le, ne_eq]); omega) | (intro hg; (simp only [hg, Bool.true_and, true_and, implies_true]; try (intro hg2; simp only [hg2, Bool.not_false, Bool.not_true])); done)))
    · rw [find_step (by omega) hres, if_pos hb]
    · have h1 := find_step (by omega) hres
      rw [if_neg hb] at h1
      exact hL _ (k + 1) ⟨by omega, h1⟩ (by (simp only [SubF, go_sem]; (try simp only [go_sem]); repeat' (first | exact True.intro | with_reducible refine And.intro ?_ ?_ | rfl | omega))) (by omega)
    · rw [hres, drop_end l k (by omega)]; rfl
def chkFrom (seen : List Ev) : List Ev → Int
  | [] => 0
  | e :: l => if isNameB e.name = false then 7 else if e.name ∈ seen.map Ev.name then 8 else if e.fault < 0 ∨ 4 < e.fault then 2 else if e.fault ≠ 0 ∧ (e.con = true ∨ e.obs = true) then 13 else chkFrom (seen ++ [e]) l
def checkEv (l : List Ev) : Int := if 32 < l.length then 3 else chkFrom [] l
theorem take_succ_getD {α : Type} (l : List α) (k : Nat) (d : α) (hk : k < l.length) : l.take (k + 1) = l.take k ++ [l.getD k d] := by
  rw [List.take_add_one, List.getElem?_eq_getElem hk]; simp [List.getD, List.getElem?_eq_getElem hk]
theorem chk_step {l : List Ev} {b : Int} {k : Nat} (hk : k < l.length) (h : b = chkFrom (l.take k) (l.drop k)) :
    b = if isNameB (l.getD k Ev.no).name = false then 7 else if (l.getD k Ev.no).name ∈ (l.take k).map Ev.name then 8 else if (l.getD k Ev.no).fault < 0 ∨ 4 < (l.getD k Ev.no).fault then 2 else if (l.getD k Ev.no).fault ≠ 0 ∧ ((l.getD k Ev.no).con = true ∨ (l.getD k Ev.no).obs = true) then 13 else chkFrom (l.take (k + 1)) (l.drop (k + 1)) := by
  rw [take_succ_getD l k Ev.no hk]
  rw [drop_getD l k Ev.no hk] at h; exact h
def setKVs (ns : List (List UInt8)) : List (AV × AV) := ns.map fun s => (.one (.str s), .one (.bool true))
theorem eqKey_str (s n : List UInt8) : (eqKey (.one (.str s)) (.one (.str n)) = true) = (s = n) := by
  simp [eqKey]
theorem setKVs_find (ns : List (List UInt8)) (s : List UInt8) : findKV (.one (.str s)) (setKVs ns) = if s ∈ ns then some (.one (.bool true)) else none := by
  induction ns with
  | nil => rfl
  | cons n ns ih =>
    have e : setKVs (n :: ns) = (.one (.str n), .one (.bool true)) :: setKVs ns := rfl
    rw [e, findKV, ih]
    simp only [eqKey_str]
    by_cases h : s = n
    · simp [h]
    · simp [h]
theorem setKVs_set (ns : List (List UInt8)) (s : List UInt8) (h : s ∉ ns) : setKV (.one (.str s)) (.one (.bool true)) (setKVs ns) = setKVs (ns ++ [s]) := by
  induction ns with
  | nil => rfl
  | cons n ns ih =>
    simp only [List.mem_cons, not_or] at h
    have e : setKVs (n :: ns) = (.one (.str n), .one (.bool true)) :: setKVs ns := rfl
    rw [e, setKV, ih h.2]
    simp only [eqKey_str, if_neg h.1]
    rfl
theorem setKVs_lt (ns : List (List UInt8)) (n : Nat) : (AObj.map .str (setKVs ns)).tagsLt n = true := by
  simp only [AObj.tagsLt, setKVs, List.all_map, List.all_eq_true]
  intro s _
  rfl
theorem getD_ite_bool (p : Prop) [Decidable p] : (if p then some (AV.one (.bool true)) else none).getD (.one (.bool false)) = .one (.bool (decide p)) := by
  split <;> simp_all
attribute [go_sem] setKVs_find getD_ite_bool
attribute [go_sem high] setKVs_lt
set_option maxHeartbeats 4000000 in
theorem Check_c (l : List Ev) (hn : l.length ≤ 9223372036854775807) (hs : Short l) : ACalls Try.prog 18 [.one (.list (evs l))] (.one (.int .i64 (checkEv l))) [] := by
  (refine ACalls.of_body Ty_ok mixed Try.func18 rfl (by kernel_rfl) Try.ntmps18 (by simp) (congrArg Array.toList Try.results18) ?_)
  simp only [slotsOf]
  (repeat' (first | (with_reducible refine awp_seq ?_; intro K hK) | (with_reducible refine GCallAt_no ?_ ?_ <;> (simp only [go_sem])) | (with_reducible refine gsplit_i (fun hg0 => ?_) (fun hg0 => ?_) <;> (simp only [hg0, go_sem])) | (with_reducible refine awp_reg ?_; simp only [go_sem]) | (with_reducible refine awp_drw (by kernel_rfl) ?_; simp only [go_sem]) | with_reducible refine awp_block ?_ | (with_reducible refine awp_exit ?_; simp only [go_sem]) | (with_reducible refine awp_ret ?_; simp only [retF, retM, retL, resV, resW, retO, resAV, AV.bor, D.bor, D.bor1, D.bor0, AV.flatOwn, D.flatOwn, D.flat, AV.tagged, D.tagged, AObj.plain, go_sem]) | (with_reducible refine awp_skip ?_; simp only [go_sem]) | (with_reducible refine awp_cond' ?_ ?_ (fun hb => ?_) (fun hb => ?_); (simp only [AV.theB, go_sem]); (simp only [go_sem]); all_goals (simp only [AV.theB, go_sem] at hb; try simp only [decide_eq_true_eq, decide_eq_false_iff_not, Bool.and_eq_true, Bool.or_eq_true, Bool.and_eq_false_iff, Bool.or_eq_false_iff, Bool.not_eq_true', Bool.not_eq_false', beq_iff_eq, bne_iff_ne, beq_eq_false_iff_ne, bne_eq_false_iff_eq, Int.not_lt, Int.not_le, ne_eq] at hb)) | (first | (with_reducible refine hK _ ?_; clear hK K) | (clear hK K; with_reducible refine hK _ ?_; clear hK K) | (clear hK K; clear hK K; with_reducible refine hK _ ?_; clear hK K) | (clear hK K; clear hK K; clear hK K; with_reducible refine hK _ ?_; clear hK K)) | exact True.intro | with_reducible refine And.intro ?_ ?_ | (omega; done) | (intro hv; (try simp only [decide_eq_true_eq, decide_eq_false_iff_not, Bool.and_eq_true, Bool.or_eq_true, Bool.and_eq_false_iff, Bool.or_eq_false_iff, Bool.not_eq_true', Bool.not_eq_false', beq_iff_eq, bne_iff_ne, beq_eq_false_iff_ne, bne_eq_false_iff_eq, Int.not_lt, Int.not_le, ne_eq] at hv); (try simp only [decide_eq_true_eq, decide_eq_false_iff_not, Bool.and_eq_true, Bool.or_eq_true, Bool.and_eq_false_iff, Bool.or_eq_false_iff, Bool.not_eq_true', Bool.not_eq_false', beq_iff_eq, bne_iff_ne, beq_eq_false_iff_ne, bne_eq_false_iff_eq, Int.not_lt, Int.not_le, ne_eq]); omega) | (intro hg; (simp only [hg, Bool.true_and, true_and, implies_true]; try (intro hg2; simp only [hg2, Bool.not_false, Bool.not_true])); done)))
  · rw [checkEv, if_pos (by omega)]
  refine awp_loop _ (by simp only [go_sem]; rfl) Nat (fun k => k ≤ l.length ∧ checkEv l = chkFrom (l.take k) (l.drop k)) (fun k => [(12, .one (.int .i64 k))]) (fun k _ => [.map .str (setKVs ((l.take k).map Ev.name))]) (fun k => l.length - k) 0 ⟨by omega, by rw [checkEv, if_neg (by omega)]; simp⟩ ?_ ?_
  · (simp only [SubF, go_sem]; (try simp only [go_sem]); repeat' (first | exact True.intro | with_reducible refine And.intro ?_ ?_ | rfl | omega))
  · rintro k ⟨hk, hres⟩ L hL
    (simp only [go_sem] at hL ⊢)
    (repeat' (first | (first | (with_reducible refine awp_seq ?_; intro K hK) | (with_reducible refine GCallAt_no ?_ ?_ <;> (simp only [go_sem])) | (with_reducible refine gsplit_i (fun hg0 => ?_) (fun hg0 => ?_) <;> (simp only [hg0, go_sem])) | (with_reducible refine awp_reg ?_; simp only [go_sem]) | (with_reducible refine awp_drw (by kernel_rfl) ?_; simp only [go_sem]) | with_reducible refine awp_block ?_ | (with_reducible refine awp_exit ?_; simp only [go_sem]) | (with_reducible refine awp_ret ?_; simp only [retF, retM, retL, resV, resW, retO, resAV, AV.bor, D.bor, D.bor1, D.bor0, AV.flatOwn, D.flatOwn, D.flat, AV.tagged, D.tagged, AObj.plain, go_sem]) | (with_reducible refine awp_skip ?_; simp only [go_sem]) | (with_reducible refine awp_cond' ?_ ?_ (fun hb => ?_) (fun hb => ?_); (simp only [AV.theB, go_sem]); (simp only [go_sem]); all_goals (simp only [AV.theB, go_sem] at hb; try simp only [decide_eq_true_eq, decide_eq_false_iff_not, Bool.and_eq_true, Bool.or_eq_true, Bool.and_eq_false_iff, Bool.or_eq_false_iff, Bool.not_eq_true', Bool.not_eq_false', beq_iff_eq, bne_iff_ne, beq_eq_false_iff_ne, bne_eq_false_iff_eq, Int.not_lt, Int.not_le, ne_eq] at hb)) | (first | (with_reducible refine hK _ ?_; clear hK K) | (clear hK K; with_reducible refine hK _ ?_; clear hK K) | (clear hK K; clear hK K; with_reducible refine hK _ ?_; clear hK K) | (clear hK K; clear hK K; clear hK K; with_reducible refine hK _ ?_; clear hK K)) | exact True.intro | with_reducible refine And.intro ?_ ?_ | (omega; done) | (intro hv; (try simp only [decide_eq_true_eq, decide_eq_false_iff_not, Bool.and_eq_true, Bool.or_eq_true, Bool.and_eq_false_iff, Bool.or_eq_false_iff, Bool.not_eq_true', Bool.not_eq_false', beq_iff_eq, bne_iff_ne, beq_eq_false_iff_ne, bne_eq_false_iff_eq, Int.not_lt, Int.not_le, ne_eq] at hv); (try simp only [decide_eq_true_eq, decide_eq_false_iff_not, Bool.and_eq_true, Bool.or_eq_true, Bool.and_eq_false_iff, Bool.or_eq_false_iff, Bool.not_eq_true', Bool.not_eq_false', beq_iff_eq, bne_iff_ne, beq_eq_false_iff_ne, bne_eq_false_iff_eq, Int.not_lt, Int.not_le, ne_eq]); omega) | (intro hg; (simp only [hg, Bool.true_and, true_and, implies_true]; try (intro hg2; simp only [hg2, Bool.not_false, Bool.not_true])); done)) | (refine CallAt_i (IsName_c _ (hs.get k)) (by simp only [go_sem]) (by simp only [go_sem]) (by (first | exact .inl ⟨rfl, rfl⟩ | exact callSafe_r0 rfl | exact callSafe_r1 rfl (ints_flat _) | exact callSafe_r1 rfl (by assumption))) ?_; simp only [go_sem]) | (refine GCallAt_i (fun hg => IsName_c _ (hs.get k)) (fun hg => (by first | exact hg | ((try simp only [decide_eq_true_eq, decide_eq_false_iff_not, Bool.and_eq_true, Bool.or_eq_true, Bool.and_eq_false_iff, Bool.or_eq_false_iff, Bool.not_eq_true', Bool.not_eq_false', beq_iff_eq, bne_iff_ne, beq_eq_false_iff_ne, bne_eq_false_iff_eq, Int.not_lt, Int.not_le, ne_eq] at hg); (try simp only [go_sem]); (try simp only [decide_eq_true_eq, decide_eq_false_iff_not, Bool.and_eq_true, Bool.or_eq_true, Bool.and_eq_false_iff, Bool.or_eq_false_iff, Bool.not_eq_true', Bool.not_eq_false', beq_iff_eq, bne_iff_ne, beq_eq_false_iff_ne, bne_eq_false_iff_eq, Int.not_lt, Int.not_le, ne_eq]); first | done | omega | exact hg))) (by simp only [go_sem]) (by (first | exact .inl ⟨rfl, rfl⟩ | exact callSafe_r0 rfl | exact callSafe_r1 rfl (ints_flat _) | exact callSafe_r1 rfl (by assumption))) ?_; simp only [go_sem]) | (refine DCallAt_i (IsName_c _ (hs.get k)) (by simp only [go_sem]) (by simp only [go_sem]) (by (first | exact .inl ⟨rfl, rfl⟩ | exact callSafe_r0 rfl | exact callSafe_r1 rfl (ints_flat _) | exact callSafe_r1 rfl (by assumption))) ?_; simp only [go_sem])))
    · rw [chk_step (by omega) hres, if_pos hb]
    · rename_i h; rw [chk_step (by omega) hres, if_neg (by rw [h]; simp), if_pos hb]
    · rename_i h1 h2; rw [chk_step (by omega) hres, if_neg (by rw [h1]; simp), if_neg h2, if_pos hb]
    · rename_i h1 h2 h3; rw [chk_step (by omega) hres, if_neg (by rw [h1]; simp), if_neg h2, if_neg (by omega), if_pos hb]
    · rename_i h1 h2 h3
      have h4 := chk_step (by omega) hres
      rw [if_neg (by rw [h1]; simp), if_neg h2, if_neg (by omega), if_neg (by rintro ⟨h5, h6 | h6⟩ <;> simp_all)] at h4
      have e2 : (l.take (k + 1)).map Ev.name = (l.take k).map Ev.name ++ [(l.getD k Ev.no).name] := by rw [take_succ_getD l k Ev.no (by omega)]; simp
      simp only [setKVs_set _ _ h2, ← e2]
      exact hL _ (k + 1) ⟨by omega, h4⟩ (by (simp only [SubF, go_sem]; (try simp only [go_sem]); repeat' (first | exact True.intro | with_reducible refine And.intro ?_ ?_ | rfl | omega))) (by omega)
    · rw [hres, drop_end l k (by omega)]; rfl
theorem findFrom_nonneg (s : List UInt8) : ∀ (l : List Ev) (k : Nat), (0 ≤ findFrom s k l) ↔ s ∈ l.map Ev.name
  | [], k => by simp [findFrom]
  | e :: l, k => by
    rw [findFrom]
    by_cases h : e.name = s
    · simp [h]
    · rw [if_neg h, findFrom_nonneg s l (k + 1)]; simp [Ne.symm h]
theorem findIx_nonneg (s : List UInt8) (l : List Ev) : (0 ≤ findIx l s) ↔ s ∈ l.map Ev.name := findFrom_nonneg s l 0
set_option maxHeartbeats 4000000 in
theorem refCheck_c (l : List Ev) (hn : l.length ≤ 9223372036854775807) : ACalls Try.prog 19 [.one (.list (evs l))] (.one (.int .i64 (checkEv l))) [] := by
  (refine ACalls.of_body Ty_ok mixed Try.func19 rfl (by kernel_rfl) Try.ntmps19 (by simp) (congrArg Array.toList Try.results19) ?_)
  simp only [slotsOf]
  (repeat' (first | (with_reducible refine awp_seq ?_; intro K hK) | (with_reducible refine GCallAt_no ?_ ?_ <;> (simp only [go_sem])) | (with_reducible refine gsplit_i (fun hg0 => ?_) (fun hg0 => ?_) <;> (simp only [hg0, go_sem])) | (with_reducible refine awp_reg ?_; simp only [go_sem]) | (with_reducible refine awp_drw (by kernel_rfl) ?_; simp only [go_sem]) | with_reducible refine awp_block ?_ | (with_reducible refine awp_exit ?_; simp only [go_sem]) | (with_reducible refine awp_ret ?_; simp only [retF, retM, retL, resV, resW, retO, resAV, AV.bor, D.bor, D.bor1, D.bor0, AV.flatOwn, D.flatOwn, D.flat, AV.tagged, D.tagged, AObj.plain, go_sem]) | (with_reducible refine awp_skip ?_; simp only [go_sem]) | (with_reducible refine awp_cond' ?_ ?_ (fun hb => ?_) (fun hb => ?_); (simp only [AV.theB, go_sem]); (simp only [go_sem]); all_goals (simp only [AV.theB, go_sem] at hb; try simp only [decide_eq_true_eq, decide_eq_false_iff_not, Bool.and_eq_true, Bool.or_eq_true, Bool.and_eq_false_iff, Bool.or_eq_false_iff, Bool.not_eq_true', Bool.not_eq_false', beq_iff_eq, bne_iff_ne, beq_eq_false_iff_ne, bne_eq_false_iff_eq, Int.not_lt, Int.not_le, ne_eq] at hb)) | (first | (with_reducible refine hK _ ?_; clear hK K) | (clear hK K; with_reducible refine hK _ ?_; clear hK K) | (clear hK K; clear hK K; with_reducible refine hK _ ?_; clear hK K) | (clear hK K; clear hK K; clear hK K; with_reducible refine hK _ ?_; clear hK K)) | exact True.intro | with_reducible refine And.intro ?_ ?_ | (omega; done) | (intro hv; (try simp only [decide_eq_true_eq, decide_eq_false_iff_not, Bool.and_eq_true, Bool.or_eq_true, Bool.and_eq_false_iff, Bool.or_eq_false_iff, Bool.not_eq_true', Bool.not_eq_false', beq_iff_eq, bne_iff_ne, beq_eq_false_iff_ne, bne_eq_false_iff_eq, Int.not_lt, Int.not_le, ne_eq] at hv); (try simp only [decide_eq_true_eq, decide_eq_false_iff_not, Bool.and_eq_true, Bool.or_eq_true, Bool.and_eq_false_iff, Bool.or_eq_false_iff, Bool.not_eq_true', Bool.not_eq_false', beq_iff_eq, bne_iff_ne, beq_eq_false_iff_ne, bne_eq_false_iff_eq, Int.not_lt, Int.not_le, ne_eq]); omega) | (intro hg; (simp only [hg, Bool.true_and, true_and, implies_true]; try (intro hg2; simp only [hg2, Bool.not_false, Bool.not_true])); done)))
  · rw [checkEv, if_pos (by omega)]
  refine awp_loop _ (by simp only [go_sem]; rfl) Nat (fun k => k ≤ l.length ∧ checkEv l = chkFrom (l.take k) (l.drop k)) (fun k => [(3, .one (.int .i64 k))]) (fun _ H => H) (fun k => l.length - k) 0 ⟨by omega, by rw [checkEv, if_neg (by omega)]; simp⟩ ?_ ?_
  · (simp only [SubF, go_sem]; (try simp only [go_sem]); repeat' (first | exact True.intro | with_reducible refine And.intro ?_ ?_ | rfl | omega))
  · rintro k ⟨hk, hres⟩ L hL
    (simp only [go_sem] at hL ⊢)
    (repeat' (first | (first | (with_reducible refine awp_seq ?_; intro K hK) | (with_reducible refine GCallAt_no ?_ ?_ <;> (simp only [go_sem])) | (with_reducible refine gsplit_i (fun hg0 => ?_) (fun hg0 => ?_) <;> (simp only [hg0, go_sem])) | (with_reducible refine awp_reg ?_; simp only [go_sem]) | (with_reducible refine awp_drw (by kernel_rfl) ?_; simp only [go_sem]) | with_reducible refine awp_block ?_ | (with_reducible refine awp_exit ?_; simp only [go_sem]) | (with_reducible refine awp_ret ?_; simp only [retF, retM, retL, resV, resW, retO, resAV, AV.bor, D.bor, D.bor1, D.bor0, AV.flatOwn, D.flatOwn, D.flat, AV.tagged, D.tagged, AObj.plain, go_sem]) | (with_reducible refine awp_skip ?_; simp only [go_sem]) | (with_reducible refine awp_cond' ?_ ?_ (fun hb => ?_) (fun hb => ?_); (simp only [AV.theB, go_sem]); (simp only [go_sem]); all_goals (simp only [AV.theB, go_sem] at hb; try simp only [decide_eq_true_eq, decide_eq_false_iff_not, Bool.and_eq_true, Bool.or_eq_true, Bool.and_eq_false_iff, Bool.or_eq_false_iff, Bool.not_eq_true', Bool.not_eq_false', beq_iff_eq, bne_iff_ne, beq_eq_false_iff_ne, bne_eq_false_iff_eq, Int.not_lt, Int.not_le, ne_eq] at hb)) | (first | (with_reducible refine hK _ ?_; clear hK K) | (clear hK K; with_reducible refine hK _ ?_; clear hK K) | (clear hK K; clear hK K; with_reducible refine hK _ ?_; clear hK K) | (clear hK K; clear hK K; clear hK K; with_reducible refine hK _ ?_; clear hK K)) | exact True.intro | with_reducible refine And.intro ?_ ?_ | (omega; done) | (intro hv; (try simp only [decide_eq_true_eq, decide_eq_false_iff_not, Bool.and_eq_true, Bool.or_eq_true, Bool.and_eq_false_iff, Bool.or_eq_false_iff, Bool.not_eq_true', Bool.not_eq_false', beq_iff_eq, bne_iff_ne, beq_eq_false_iff_ne, bne_eq_false_iff_eq, Int.not_lt, Int.not_le, ne_eq] at hv); (try simp only [decide_eq_true_eq, decide_eq_false_iff_not, Bool.and_eq_true, Bool.or_eq_true, Bool.and_eq_false_iff, Bool.or_eq_false_iff, Bool.not_eq_true', Bool.not_eq_false', beq_iff_eq, bne_iff_ne, beq_eq_false_iff_ne, bne_eq_false_iff_eq, Int.not_lt, Int.not_le, ne_eq]); omega) | (intro hg; (simp only [hg, Bool.true_and, true_and, implies_true]; try (intro hg2; simp only [hg2, Bool.not_false, Bool.not_true])); done)) | (refine CallAt_i (refIsName_c _) (by simp only [go_sem]) (by simp only [go_sem]) (by (first | exact .inl ⟨rfl, rfl⟩ | exact callSafe_r0 rfl | exact callSafe_r1 rfl (ints_flat _) | exact callSafe_r1 rfl (by assumption))) ?_; simp only [go_sem]) | (refine GCallAt_i (fun hg => refIsName_c _) (fun hg => (by first | exact hg | ((try simp only [decide_eq_true_eq, decide_eq_false_iff_not, Bool.and_eq_true, Bool.or_eq_true, Bool.and_eq_false_iff, Bool.or_eq_false_iff, Bool.not_eq_true', Bool.not_eq_false', beq_iff_eq, bne_iff_ne, beq_eq_false_iff_ne, bne_eq_false_iff_eq, Int.not_lt, Int.not_le, ne_eq] at hg); (try simp only [go_sem]); (try simp only [decide_eq_true_eq, decide_eq_false_iff_not, Bool.and_eq_true, Bool.or_eq_true, Bool.and_eq_false_iff, Bool.or_eq_false_iff, Bool.not_eq_true', Bool.not_eq_false', beq_iff_eq, bne_iff_ne, beq_eq_false_iff_ne, bne_eq_false_iff_eq, Int.not_lt, Int.not_le, ne_eq]); first | done | omega | exact hg))) (by simp only [go_sem]) (by (first | exact .inl ⟨rfl, rfl⟩ | exact callSafe_r0 rfl | exact callSafe_r1 rfl (ints_flat _) | exact callSafe_r1 rfl (by assumption))) ?_; simp only [go_sem]) | (refine DCallAt_i (refIsName_c _) (by simp only [go_sem]) (by simp only [go_sem]) (by (first | exact .inl ⟨rfl, rfl⟩ | exact callSafe_r0 rfl | exact callSafe_r1 rfl (ints_flat _) | exact callSafe_r1 rfl (by assumption))) ?_; simp only [go_sem]) | (refine CallAt_i (refFind_c (l.take k) (l.getD k Ev.no).name (by rw [List.length_take]; omega)) (by simp only [go_sem]) (by simp only [go_sem]) (by (first | exact .inl ⟨rfl, rfl⟩ | exact callSafe_r0 rfl | exact callSafe_r1 rfl (ints_flat _) | exact callSafe_r1 rfl (by assumption))) ?_; simp only [go_sem]) | (refine GCallAt_i (fun hg => refFind_c (l.take k) (l.getD k Ev.no).name (by rw [List.length_take]; omega)) (fun hg => (by first | exact hg | ((try simp only [decide_eq_true_eq, decide_eq_false_iff_not, Bool.and_eq_true, Bool.or_eq_true, Bool.and_eq_false_iff, Bool.or_eq_false_iff, Bool.not_eq_true', Bool.not_eq_false', beq_iff_eq, bne_iff_ne, beq_eq_false_iff_ne, bne_eq_false_iff_eq, Int.not_lt, Int.not_le, ne_eq] at hg); (try simp only [go_sem]); (try simp only [decide_eq_true_eq, decide_eq_false_iff_not, Bool.and_eq_true, Bool.or_eq_true, Bool.and_eq_false_iff, Bool.or_eq_false_iff, Bool.not_eq_true', Bool.not_eq_false', beq_iff_eq, bne_iff_ne, beq_eq_false_iff_ne, bne_eq_false_iff_eq, Int.not_lt, Int.not_le, ne_eq]); first | done | omega | exact hg))) (by simp only [go_sem]) (by (first | exact .inl ⟨rfl, rfl⟩ | exact callSafe_r0 rfl | exact callSafe_r1 rfl (ints_flat _) | exact callSafe_r1 rfl (by assumption))) ?_; simp only [go_sem]) | (refine DCallAt_i (refFind_c (l.take k) (l.getD k Ev.no).name (by rw [List.length_take]; omega)) (by simp only [go_sem]) (by simp only [go_sem]) (by (first | exact .inl ⟨rfl, rfl⟩ | exact callSafe_r0 rfl | exact callSafe_r1 rfl (ints_flat _) | exact callSafe_r1 rfl (by assumption))) ?_; simp only [go_sem])))
    · rw [chk_step (by omega) hres, if_pos hb]
    · rename_i h; rw [chk_step (by omega) hres, if_neg (by rw [h]; simp), if_pos ((findIx_nonneg _ _).1 hb)]
    · rename_i h1 h2
      have h2 : (l.getD k Ev.no).name ∉ (l.take k).map Ev.name := fun h => by have := (findIx_nonneg _ _).2 h; omega
      rw [chk_step (by omega) hres, if_neg (by rw [h1]; simp), if_neg h2, if_pos hb]
    · rename_i h1 h2 h3
      have h2 : (l.getD k Ev.no).name ∉ (l.take k).map Ev.name := fun h => by have := (findIx_nonneg _ _).2 h; omega
      rw [chk_step (by omega) hres, if_neg (by rw [h1]; simp), if_neg h2, if_neg (by omega), if_pos ⟨by omega, hb.2⟩]
    · rename_i h1 h2 h3
      have h2 : (l.getD k Ev.no).name ∉ (l.take k).map Ev.name := fun h => by have := (findIx_nonneg _ _).2 h; omega
      have h4 := chk_step (by omega) hres
      rw [if_neg (by rw [h1]; simp), if_neg h2, if_neg (by omega), if_neg (by rcases hb with hb | ⟨hb, hb'⟩ <;> rintro ⟨h5, h6 | h6⟩ <;> first | omega | (rw [hb] at h6; cases h6) | (rw [hb'] at h6; cases h6))] at h4
      exact hL _ (k + 1) ⟨by omega, h4⟩ (by (simp only [SubF, go_sem]; (try simp only [go_sem]); repeat' (first | exact True.intro | with_reducible refine And.intro ?_ ?_ | rfl | omega))) (by omega)
    · rw [hres, drop_end l k (by omega)]; rfl
end Go.Proofs.Ytdhkmgnhbllbfaa
