/-
 Contracts: lists of numbers, arcs; nets as data.
-/
import Derived.Test.YtgagpbbnbonnlaaDoorTab
import Derived.Test.YtgagpbbnbonnlaaDoorE3
set_option linter.unusedSimpArgs false
set_option linter.unusedVariables false
namespace Go.Proofs.YtgagpbbnbonnlaaDoor
open Go.Eng Go.RowKit
theorem drop_getD {α : Type} (xs : List α) (k : Nat) (d : α) (h : k < xs.length) : xs.drop k = xs.getD k d :: xs.drop (k + 1) := by
 rw [List.drop_eq_getElem_cons h]; simp [List.getD, List.getElem?_eq_getElem h]
theorem drop_end {α : Type} (xs : List α) (k : Nat) (h : xs.length ≤ k) : xs.drop k = [] := List.drop_of_length_le h
theorem getD_mem {α : Type} (l : List α) (k : Nat) (d : α) (hk : k < l.length) : l.getD k d ∈ l := by
 simp [List.getD, List.getElem?_eq_getElem hk]
theorem take_succ_getD {α : Type} (l : List α) (k : Nat) (d : α) (hk : k < l.length) : l.take (k + 1) = l.take k ++ [l.getD k d] := by
 rw [List.take_add_one, List.getElem?_eq_getElem hk]; simp [List.getD, List.getElem?_eq_getElem hk]
/-! arcs, transitions, nets, constraints -/
structure Arc where
 place : Int
 weight : Int
 deriving DecidableEq
def Arc.no : Arc := ⟨0, 0⟩
def Arc.d (a : Arc) : List D := [.int .i64 a.place, .int .i64 a.weight]
def arcsD (l : List Arc) : List (List D) := l.map Arc.d
theorem arcs_length (l : List Arc) : (arcsD l).length = l.length := by simp [arcsD]
theorem arcs_getD (l : List Arc) (k : Nat) : (arcsD l).getD k [.int .i64 0, .int .i64 0] = [.int .i64 (l.getD k Arc.no).place, .int .i64 (l.getD k Arc.no).weight] := by
 simp only [arcsD, List.getD, List.getElem?_map]
 cases l[k]? <;> rfl
theorem arcs_sz (l : List Arc) : (∀ r : List D, r ∈ arcsD l → r.length = 2) ↔ True := ⟨fun _ => trivial, fun _ r hr => by obtain ⟨e, _, rfl⟩ := List.mem_map.1 hr; rfl⟩
structure Tr where
 event : Int
 inn : List Arc
 out : List Arc
 deriving DecidableEq
def Tr.no : Tr := ⟨0, [], []⟩
def Tr.d (t : Tr) : List D := [.int .i64 t.event, .list (arcsD t.inn), .list (arcsD t.out)]
def trsD (l : List Tr) : List (List D) := l.map Tr.d
theorem trs_length (l : List Tr) : (trsD l).length = l.length := by simp [trsD]
theorem trs_sz (l : List Tr) : (∀ r : List D, r ∈ trsD l → r.length = 3) ↔ True := ⟨fun _ => trivial, fun _ r hr => by obtain ⟨e, _, rfl⟩ := List.mem_map.1 hr; rfl⟩
structure Net where
 init : List Int
 trs : List Tr
 deriving DecidableEq
def Net.d (n : Net) : List D := [.list (ints n.init), .list (trsD n.trs)]
structure Con where
 fac : List Int
 bound : Int
 deriving DecidableEq
def Con.d (c : Con) : List D := [.list (ints c.fac), .int .i64 c.bound]
attribute [go_sem] arcs_length arcs_getD arcs_sz trs_length trs_sz
/-! lists of numbers -/
theorem CloneInts_c (xs : List Int) (hn : xs.length ≤ 1000000) : ACalls Tryd.prog 48 [.one (.list (ints xs))] (.one (.own 0)) [.row 3 1 (ints xs)] := by
 (refine ACalls.of_body_own Ty_ok mixed Tryd.func48 rfl (by kernel_rfl) Tryd.ntmps48 (by simp) (congrArg Array.toList Tryd.results48) ?_)
 simp only [slotsOf]
 (repeat' (first | (with_reducible first | exact True.intro | refine And.intro ?_ ?_ | refine awp_block ?_ | ((first | refine awp_seq1 3 [] ?_ | refine awp_seq2 3 [] ?_ | refine awp_seq3 3 [] ?_ | refine awp_seq4 3 [] ?_ | refine awp_seq 3 [] ?_); intro K hK)) | ((with_reducible first | refine awp_reg ?_ | refine awp_exit ?_ | refine awp_skip ?_ | refine likeK_i ?_ | refine otWR_i ?_); simp only [go_sem]) | (with_reducible refine awp_ret ?_; simp only [retF, retM, retL, resV, resW, retO, resAV, AV.bor, D.bor, D.bor1, D.bor0, AV.flatOwn, D.flatOwn, D.flat, AV.tagged, D.tagged, AObj.plain, go_sem]) | ((with_reducible refine awp_cond' ?_ ?_ (fun hb => ?_) (fun hb => ?_)); (simp only [go_sem]); (simp only [go_sem]); all_goals (simp only [go_sem] at hb; try simp only [bls] at hb)) | ((iterate 6 try ((fail_if_success with_reducible refine hK _ ?_ ?_ ?_); clear hK K)); with_reducible refine hK _ ?_ ?_ ?_; rotate_left; (focus (simp only [go_sem]; exact rfl)); clear hK K) | (with_reducible refine gsplit_i (fun hg0 => ?_) (fun hg0 => ?_) <;> first | (with_reducible first | exact absurd hg0 Bool.false_ne_true | exact absurd hg0.symm Bool.false_ne_true) | (simp only [hg0, go_sem])) | (with_reducible refine nilK_i ?_; intro bnil hnil; try simp only []) | (omega; done) | (intro hv; (try simp only [bls] at hv); (try simp only [bls]); omega) | (intro hg; (simp only [hg, Bool.true_and, true_and, implies_true]; try (intro hg2; simp only [hg2, Bool.not_false, Bool.not_true])); done)))
 rw [hnil hb]
theorem eqq_step {α : Type} [DecidableEq α] {xs ys : List α} {d : α} {b : Bool} {k : Nat} (hl : xs.length = ys.length) (hk : k < xs.length) (h : b = decide (xs.drop k = ys.drop k)) : b = (decide (xs.getD k d = ys.getD k d) && decide (xs.drop (k + 1) = ys.drop (k + 1))) := by
 rw [drop_getD xs k d hk, drop_getD ys k d (by omega)] at h
 rw [h, Bool.eq_iff_iff]
 simp
/-! the first that a function is true of -/
structure CapsOk (caps : List D) : Prop where
 lt : caps.all (D.tagsLt0 0) = true
 none : caps.flatMap D.tags0 = []
 bor : caps.map (AV.bor [] ∘ AV.one) = caps.map AV.one
 bor1 : caps.map (D.bor1 []) = caps
end Go.Proofs.YtgagpbbnbonnlaaDoor
