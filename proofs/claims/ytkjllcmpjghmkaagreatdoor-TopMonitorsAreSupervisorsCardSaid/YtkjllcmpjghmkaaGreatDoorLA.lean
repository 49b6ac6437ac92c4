/-
 Contracts: language.open, step, in: an automaton's steps and marks as tables that nobody writes.
-/
import Derived.Test.YtkjllcmpjghmkaaGreatDoorE3
import Derived.Test.YtkjllcmpjghmkaaGreatDoorME
set_option linter.unusedSimpArgs false
set_option linter.unusedVariables false
namespace Go.Eng
open Go.RowKit
section
variable {P : Program} {T : Tab} {w : World} {M0 : Nat → Prop} {σ : AState} {a : Act}
def retA (rs : List ResultVar) (r : AV) (o : AObj) : APost := fun e σ =>
 match e with
 | .ret | .normal => match rs with
  | [.tmp t] => match lookS σ.slots t with
   | some (.agg (.own k :: ds)) => (ds.map (D.bor σ.H)).all D.flatOwn = true ∧ (ds.map (D.bor σ.H)).any D.tagged = false ∧ .agg (.own 0 :: ds.map (D.bor σ.H)) = r ∧ σ.H[k]? = some o ∧ isRow o = true
   | _ => False
  | _ => False
 | _ => False
def retC (T : Tab) (rs : List ResultVar) (r : AV) (o : AObj) : APost := fun e σ =>
 match e with
 | .ret | .normal => match rs with
  | [x] => (resW T σ x).1 ∧ (match (resW T σ x).2 with
   | .agg (.own k :: ds) => (ds.map (D.bor σ.H)).all D.flatOwn = true ∧ (ds.map (D.bor σ.H)).any D.tagged = false ∧ .agg (.own 0 :: ds.map (D.bor σ.H)) = r ∧ σ.H[k]? = some o ∧ isRow o = true
   | _ => False)
  | _ => False
 | _ => False
def retB (rs : List ResultVar) (r : AV) (o1 o2 : AObj) : APost := fun e σ =>
 match e with
 | .ret | .normal => match rs with
  | [.tmp t] => match lookS σ.slots t with
   | some (.agg [.own k, .own j]) => k ≠ j ∧ .agg [.own 0, .own 1] = r ∧ σ.H[k]? = some o1 ∧ isRow o1 = true ∧ σ.H[j]? = some o2 ∧ isRow o2 = true
   | _ => False
  | _ => False
 | _ => False
def retBC (T : Tab) (rs : List ResultVar) (r : AV) (o1 o2 : AObj) : APost := fun e σ =>
 match e with
 | .ret | .normal => match rs with
  | [x] => (resW T σ x).1 ∧ (match (resW T σ x).2 with
   | .agg [.own k, .own j] => k ≠ j ∧ .agg [.own 0, .own 1] = r ∧ σ.H[k]? = some o1 ∧ isRow o1 = true ∧ σ.H[j]? = some o2 ∧ isRow o2 = true
   | _ => False)
  | _ => False
 | _ => False
def retZ (ts : List Nat) (T : Tab) (rs : List ResultVar) (r : AV) : APost := fun e σ => retF T rs r e (AState.freezeAll ts σ)
theorem ACalls.of_body_fz (ts : List Nat) (hT : TabOk P T) (hm : P.follows .mixedOrders = true) {f : FuncId} {fn : Func} {c : Code} {args : List AV} {r : AV} (hf : P.funcs[f]? = some fn) (hb : fn.body = some c) (hok : okFn P f = true) {n : Nat} (hnt : fn.ntmps = n) (hn : args.length ≤ n) {rs : List ResultVar} (hrs : fn.results.toList = rs)
  (h : awp P T c ⟨n, z00 0 args, [], 0⟩ (retZ ts T rs r)) : ACalls P f args r [] := by
 subst hnt; subst hrs
 refine ⟨hok, fun w M vs hM hv => calls_of_wp hf hb ?_⟩
 refine wp_mono (z0A hT hm c _ _ _ _ (z4u hM hv hn) h) ?_
 rintro e a' w' ⟨σ, hq, hs⟩
 obtain ⟨β, hs⟩ := hs
 obtain ⟨β', hs'⟩ := Sim.freezeAll ts σ β hs
 exact z7S hT e _ a' w' ⟨β', hs'⟩ hq
end
attribute [go_sem] retA retB retC retBC retZ
end Go.Eng
set_option linter.unusedSimpArgs false
set_option linter.unusedVariables false
namespace Go.Proofs.YtkjllcmpjghmkaaGreatDoor
open Go.Eng Go.RowKit
def stT (l : List (Int × Int × Int)) : List (TKey × TVal) := l.map fun x => (.pair x.1 x.2.1, .int .i64 x.2.2)
theorem zc2 : ∀ l : List (Int × Int × Int), tabOf (stK l) = some (stT l)
 | [] => rfl
 | x :: l => by
  have h := zc2 l
  simp only [stK, stT] at h
  simp only [stK, stT, List.map_cons, tabOf, h]; rfl
theorem zid (l : List (Int × Int × Int)) : tabV (stT l) = stK l := by
 simp only [tabV, stT, stK, List.map_map]; exact List.map_congr_left fun x _ => rfl
def mkK (l : List Int) : List (AV × AV) := l.map fun x => (.one (.int .i64 x), .one (.bool true))
def mkTb (l : List Int) : List (TKey × TVal) := l.map fun x => (.int .i64 x, .bool true)
theorem zc3 : ∀ l : List Int, tabOf (mkK l) = some (mkTb l)
 | [] => rfl
 | x :: l => by
  have h := zc3 l
  simp only [mkK, mkTb] at h
  simp only [mkK, mkTb, List.map_cons, tabOf, h]; rfl
theorem zie (l : List Int) : tabV (mkTb l) = mkK l := by
 simp only [tabV, mkTb, mkK, List.map_map]; exact List.map_congr_left fun x _ => rfl
theorem zai (x : Int) : ∀ l : List Int, z0q (.one (.int .i64 x)) (mkK l) = if x ∈ l then some (.one (.bool true)) else none
 | [] => by simp [mkK, z0q]
 | y :: l => by
  have h := zai x l
  simp only [mkK] at h
  simp only [mkK, List.map_cons, z0q, eqKey, beq_iff_eq, h]
  by_cases e : x = y <;> simp [e]
theorem zcb {x : Int} : ∀ {l : List Int}, x ∉ l → setKV (.one (.int .i64 x)) (.one (.bool true)) (mkK l) = mkK (l ++ [x])
 | [], _ => rfl
 | y :: l, h => by
  simp only [List.mem_cons, not_or] at h
  have ih := zcb h.2
  simp only [mkK] at ih
  simp only [mkK, List.map_cons, List.cons_append, setKV, eqKey, beq_iff_eq, if_neg h.1, ih]
theorem ziu (f : Nat → Option Nat) (kd : KeyKind) (l : List Int) : AObj.ren f (.map kd (mkK l)) = .map kd (mkK l) := by
 simp only [AObj.ren, AObj.map.injEq, true_and, mkK, List.map_map]; exact List.map_congr_left fun x _ => rfl
theorem zjQ (t : Nat) (o : AObj) (kd : KeyKind) (l : List Int) : AObj.fz t o (.map kd (mkK l)) = .map kd (mkK l) := by
 simp only [AObj.fz, AObj.map.injEq, true_and, mkK, List.map_map]; exact List.map_congr_left fun x _ => rfl
theorem zjG (m : Nat) (kd : KeyKind) (l : List Int) : (AObj.map kd (mkK l)).tagsLt m = true := by
 simp only [AObj.tagsLt, mkK, List.all_map, List.all_eq_true]; intro x _; rfl
attribute [go_sem ↓] ziu zjQ zjG
theorem zjN (p : Prop) [Decidable p] : (if p then some (AV.one (.bool true)) else none).getD (.one (.bool false)) = .one (.bool (decide p)) := by
 split <;> simp_all
attribute [go_sem] zjN zc2 zc3 zid zie mapD zai z4s
def edT (a : Aut) : List (Int × Int × Int) := a.edges.map fun x => (x.src, x.ev, x.dst)
def machD (a : Aut) : D := .ref [.tab (.pair 3) (stT (edT a)), .tab (.int .i64) (mkTb a.marked), .int .i64 (if a.states = 0 then -1 else 0)]
theorem zcw {s e : Int} : ∀ {l : List (Int × Int × Int)}, (∀ x ∈ l, x.1 = s → x.2.1 ≠ e) → lkS s e l = none
 | [], _ => rfl
 | x :: l, h => by
  rw [lkS, if_neg (fun hh => h x (by simp) hh.1.symm hh.2.symm)]
  exact zcw fun y hy => h y (by simp [hy])
theorem z68 {α : Type} {l : List α} {k : Nat} {x : α} (h : x ∈ l.take k) : ∃ i, i < k ∧ l[i]? = some x := by
 obtain ⟨i, hi⟩ := List.getElem?_of_mem h
 have : i < (l.take k).length := (List.getElem?_eq_some_iff.1 hi).1
 rw [List.length_take] at this
 exact ⟨i, by omega, by rw [List.getElem?_take_of_lt (by omega)] at hi; exact hi⟩
theorem zjR {a : Aut} (h : a.edges.Pairwise dLt) {k : Nat} (hk : k < a.edges.length) : lkS (a.edges.getD k Edg.no).src (a.edges.getD k Edg.no).ev ((edT a).take k) = none := by
 refine zcw fun y hy he => ?_
 obtain ⟨i, hi, hy⟩ := z68 hy
 simp only [edT, List.getElem?_map, Option.map_eq_some_iff] at hy
 obtain ⟨z, hz, rfl⟩ := hy
 have hi2 := (List.getElem?_eq_some_iff.1 hz)
 obtain ⟨hi2, hz⟩ := hi2
 have := List.pairwise_iff_getElem.1 h i k hi2 hk hi
 have e : a.edges.getD k Edg.no = a.edges[k] := by simp [List.getD, List.getElem?_eq_getElem hk]
 rw [e] at he ⊢
 rw [hz] at this
 unfold dLt at this
 simp only at he ⊢
 omega
theorem ziX {a : Aut} {k : Nat} (hk : k < a.edges.length) : (edT a).take (k + 1) = (edT a).take k ++ [((a.edges.getD k Edg.no).src, (a.edges.getD k Edg.no).ev, (a.edges.getD k Edg.no).dst)] := by
 rw [edT, ← List.map_take, z07 _ _ Edg.no hk, List.map_append, List.map_take]; rfl
theorem zjS (a : Aut) {k : Nat} (hk : ¬ k < a.edges.length) : (edT a).take k = edT a := List.take_of_length_le (by rw [edT, List.length_map]; omega)
theorem zjC {l : List Int} (h : l.Pairwise (· < ·)) {k : Nat} (hk : k < l.length) : l.getD k 0 ∉ l.take k := by
 intro hy
 obtain ⟨i, hi, hz⟩ := z68 hy
 obtain ⟨hi2, hz⟩ := List.getElem?_eq_some_iff.1 hz
 have := List.pairwise_iff_getElem.1 h i k hi2 hk hi
 have e : l.getD k 0 = l[k] := by simp [List.getD, List.getElem?_eq_getElem hk]
 omega
set_option maxHeartbeats 8000000 in
theorem zf8 (a : Aut) (hf : a.Fits) (ha : a.Ok) : ACalls Tryz.prog 82 [.agg a.d] (.one (machD a)) [] := by
 obtain ⟨f1, f2, f3⟩ := hf
 (refine ACalls.of_body_fz [1, 2] Ty_ok mixed Tryz.func82 rfl (by kernel_rfl) Tryz.ntmps82 (by simp) (congrArg Array.toList Tryz.results82) ?_)
 simp only [z00, Aut.d]
 (repeat' (first | (with_reducible first | refine aBl ?_ | (refine aS 8 [20, 19, 21, 39, 38, 40] ?_; intro K hK)) | ((with_reducible refine aGo ?_); simp only [go_sem]) | ((with_reducible refine aCd ?_ ?_ (fun hb => ?_) (fun hb => ?_)); (iterate 2 simp only [go_sem]); all_goals (simp only [go_sem] at hb; try simp only [bls] at hb)) | ((iterate 6 try ((fail_if_success with_reducible refine hK _ ?_ ?_ ?_); clear hK K)); with_reducible refine hK _ ?_ ?_ ?_; rotate_left; (focus (simp only [go_sem]; exact rfl)); clear hK K) | fail))
 all_goals
  refine z02 _ (by simp only [go_sem]; rfl) Nat (fun k => k ≤ a.edges.length) (fun k => [(21, .one (.int .i64 k))]) (fun k H => H.set 1 (.map (.pair 3) (stK ((edT a).take k)))) (fun k => a.edges.length - k) 0 (by omega) ?_ ?_
  ·(simp only [SubF, go_sem]; (try simp only [go_sem]); repeat' (first | exact True.intro | with_reducible refine And.intro ?_ ?_ | rfl | omega))
  rintro k hk L hL
  by_cases hlt : k < a.edges.length
  ·have hn := zjR ha.edges.2 hlt
   have hs := z2Z (a.edges.getD k Edg.no).dst hn
   rw [← ziX hlt] at hs
   have hq : ((k : Nat) : Int).toNat = k := by omega
   have a1 := z0p (l := a.edges) hlt [.int .i64 0, .int .i64 0, .int .i64 0]
   have a2 := z0p (l := a.edges) hlt []
   generalize a.edges.getD k Edg.no = x at *
   (simp only [go_sem] at hL ⊢)
   (repeat' (first | (with_reducible first | refine And.intro ?_ ?_ | refine aBl ?_ | (refine aS 8 [20, 19, 21, 39, 38, 40] ?_; intro K hK)) | ((with_reducible first | refine aGo ?_ | refine rP Ty_ok mixed 7 [0, 4, 6, 9] [.mid [pe 1, pe 2, pe 3, pe 5, pe 7, pe 8, pe 10] 0, .one 11] ?_); simp only [hq, a1, a2, hs, go_sem]) | ((with_reducible refine aCd ?_ ?_ (fun hb => ?_) (fun hb => ?_)); (iterate 2 simp only [hq, a1, a2, hs, go_sem]); all_goals (simp only [hq, a1, a2, hs, go_sem] at hb; try simp only [bls] at hb)) | ((iterate 6 try ((fail_if_success with_reducible refine hK _ ?_ ?_ ?_); clear hK K)); with_reducible refine hK _ ?_ ?_ ?_; rotate_left; (focus (simp only [hq, a1, a2, hs, go_sem]; exact rfl)); clear hK K) | exact aZ | fail))
   exact hL _ (k + 1) (by omega) (by (simp only [SubF, go_sem]; (try simp only [go_sem]); repeat' (first | exact True.intro | with_reducible refine And.intro ?_ ?_ | rfl | omega))) (by omega)
  ·rw [zjS a hlt] at *
   (simp only [go_sem] at hL ⊢)
   (repeat' (first | (with_reducible first | refine And.intro ?_ ?_ | refine aBl ?_ | (refine aS 8 [20, 19, 21, 39, 38, 40] ?_; intro K hK)) | ((with_reducible first | refine aGo ?_ | refine rP Ty_ok mixed 7 [0, 4, 6, 9] [.mid [pe 1, pe 2, pe 3, pe 5, pe 7, pe 8, pe 10] 0, .one 11] ?_); simp only [go_sem]) | ((with_reducible refine aCd ?_ ?_ (fun hb => ?_) (fun hb => ?_)); (iterate 2 simp only [go_sem]); all_goals (simp only [go_sem] at hb; try simp only [bls] at hb)) | ((iterate 6 try ((fail_if_success with_reducible refine hK _ ?_ ?_ ?_); clear hK K)); with_reducible refine hK _ ?_ ?_ ?_; rotate_left; (focus (simp only [go_sem]; exact rfl)); clear hK K) | exact aZ | fail))
   all_goals first | omega | skip
   refine z02 _ (by simp only [go_sem]; rfl) Nat (fun k => k ≤ a.marked.length) (fun k => [(40, .one (.int .i64 k))]) (fun k H => H.set 2 (.map (.int .i64) (mkK (a.marked.take k)))) (fun k => a.marked.length - k) 0 (by omega) ?_ ?_
   ·(simp only [SubF, go_sem]; (try simp only [go_sem]); repeat' (first | exact True.intro | with_reducible refine And.intro ?_ ?_ | rfl | omega))
   rintro j hj L2 hL2
   by_cases hlt2 : j < a.marked.length
   ·have hs := zcb (zjC ha.marked.2 hlt2)
    rw [← z07 _ _ 0 hlt2] at hs
    have hq : ((j : Nat) : Int).toNat = j := by omega
    have a1 := z0s (l := a.marked) hlt2
    clear hL L
    simp only [go_sem] at hL2 ⊢
    (repeat' (first | (with_reducible first | refine And.intro ?_ ?_ | refine aBl ?_ | (refine aS 8 [20, 19, 21, 39, 38, 40] ?_; intro K hK)) | ((with_reducible refine aGo ?_); simp only [hq, a1, go_sem]) | ((with_reducible refine aCd ?_ ?_ (fun hb => ?_) (fun hb => ?_)); (iterate 2 simp only [hq, a1, go_sem]); all_goals (simp only [hq, a1, go_sem] at hb; try simp only [bls] at hb)) | ((iterate 6 try ((fail_if_success with_reducible refine hK _ ?_ ?_ ?_); clear hK K)); with_reducible refine hK _ ?_ ?_ ?_; rotate_left; (focus (simp only [hq, a1, go_sem]; exact rfl)); clear hK K) | exact aZ | fail))
    rw [hs]
    exact hL2 _ (j + 1) (by omega) (by (simp only [SubF, go_sem]; (try simp only [go_sem]); repeat' (first | exact True.intro | with_reducible refine And.intro ?_ ?_ | rfl | omega))) (by omega)
   ·rw [List.take_of_length_le (by omega)] at *
    clear hL L
    simp only [go_sem] at hL2 ⊢
    (repeat' (first | (with_reducible first | refine And.intro ?_ ?_ | refine aBl ?_ | (refine aS 8 [20, 19, 21, 39, 38, 40] ?_; intro K hK)) | ((with_reducible refine aGo ?_); simp only [go_sem]) | ((with_reducible refine aCd ?_ ?_ (fun hb => ?_) (fun hb => ?_)); (iterate 2 simp only [go_sem]); all_goals (simp only [go_sem] at hb; try simp only [bls] at hb)) | ((iterate 6 try ((fail_if_success with_reducible refine hK _ ?_ ?_ ?_); clear hK K)); with_reducible refine hK _ ?_ ?_ ?_; rotate_left; (focus (simp only [go_sem]; exact rfl)); clear hK K) | exact aZ | fail))
    all_goals first | omega | skip
    all_goals (simp only [machD]; split <;> first | rfl | omega)
def lnext (a : Aut) (s e : Int) : Int := (lkS s e (edT a)).getD (-1)
def inF (a : Aut) (kind s : Int) : Bool := decide (0 ≤ s) && (kind == 1 || decide (s ∈ a.marked))
theorem zf6 (a : Aut) (s e : Int) : ACalls Tryz.prog 120 [.one (machD a), .one (.int .i64 s), .one (.int .i64 e)] (.one (.int .i64 (lnext a s e))) [] := by
 rw [lnext]
 (refine ACalls.of_body Ty_ok mixed Tryz.func120 rfl (by kernel_rfl) Tryz.ntmps120 (by simp) (congrArg Array.toList Tryz.results120) ?_)
 simp only [z00, machD]
 cases hl : lkS s e (edT a) with
 | none =>
  (repeat' (first | (with_reducible (refine aS 9 [] ?_; intro K hK)) | ((with_reducible refine aGo ?_); simp only [hl, go_sem]) | ((with_reducible refine aCd ?_ ?_ (fun hb => ?_) (fun hb => ?_)); (iterate 2 simp only [hl, go_sem]); all_goals (simp only [hl, go_sem] at hb; try simp only [bls] at hb)) | ((iterate 6 try ((fail_if_success with_reducible refine hK _ ?_ ?_ ?_); clear hK K)); with_reducible refine hK _ ?_ ?_ ?_; rotate_left; (focus (simp only [hl, go_sem]; exact rfl)); clear hK K) | fail))
 | some x =>
  (repeat' (first | (with_reducible (refine aS 9 [] ?_; intro K hK)) | ((with_reducible refine aGo ?_); simp only [hl, go_sem]) | ((with_reducible refine aCd ?_ ?_ (fun hb => ?_) (fun hb => ?_)); (iterate 2 simp only [hl, go_sem]); all_goals (simp only [hl, go_sem] at hb; try simp only [bls] at hb)) | ((iterate 6 try ((fail_if_success with_reducible refine hK _ ?_ ?_ ?_); clear hK K)); with_reducible refine hK _ ?_ ?_ ?_; rotate_left; (focus (simp only [hl, go_sem]; exact rfl)); clear hK K) | fail))
theorem lin_c (a : Aut) (s kind : Int) : ACalls Tryz.prog 85 [.one (machD a), .one (.int .i64 s), .one (.int .i64 kind)] (.one (.bool (inF a kind s))) [] := by
 rw [inF]
 (refine ACalls.of_body Ty_ok mixed Tryz.func85 rfl (by kernel_rfl) Tryz.ntmps85 (by simp) (congrArg Array.toList Tryz.results85) ?_)
 simp only [z00, machD]
 (repeat' (first | (with_reducible first | refine And.intro ?_ ?_ | (refine aS 7 [] ?_; intro K hK)) | ((with_reducible refine aGo ?_); simp only [go_sem]) | ((iterate 6 try ((fail_if_success with_reducible refine hK _ ?_ ?_ ?_); clear hK K)); with_reducible refine hK _ ?_ ?_ ?_; rotate_left; (focus (simp only [go_sem]; exact rfl)); clear hK K) | exact aZ | fail))
end Go.Proofs.YtkjllcmpjghmkaaGreatDoor
