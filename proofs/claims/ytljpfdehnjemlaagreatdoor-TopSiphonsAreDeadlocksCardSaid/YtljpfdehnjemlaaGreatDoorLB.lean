/-
 Contracts: language.check, search.
-/
import Derived.Test.YtljpfdehnjemlaaGreatDoorLA
import Derived.Test.YtljpfdehnjemlaaGreatDoorE5
set_option linter.unusedSimpArgs false
set_option linter.unusedVariables false
namespace Go.Proofs.YtljpfdehnjemlaaGreatDoor
open Go.Eng Go.RowKit
/-! the set of the pairs that were seen -/
def prK (l : List (Int × Int)) : List (AV × AV) := l.map fun x => (.agg [.int .i64 x.1, .int .i64 x.2], .one (.bool true))
def insP (l : List (Int × Int)) (p : Int × Int) : List (Int × Int) := if p ∈ l then l else l ++ [p]
theorem mem_insP {l : List (Int × Int)} {p q : Int × Int} : q ∈ insP l p ↔ q = p ∨ q ∈ l := by
 unfold insP
 split
 ·constructor
  ·exact .inr
  ·rintro (rfl | h)
   ·assumption
   ·exact h
 ·simp [or_comm]
theorem findKV_pr (x y : Int) : ∀ l : List (Int × Int), findKV (.agg [.int .i64 x, .int .i64 y]) (prK l) = if (x, y) ∈ l then some (.one (.bool true)) else none
 | [] => by simp [prK, findKV]
 | z :: l => by
  have h := findKV_pr x y l
  simp only [prK] at h
  simp only [prK, List.map_cons, findKV, eqKey, Bool.and_eq_true, beq_iff_eq, h]
  by_cases e : (x, y) = z
  ·subst e; simp
  ·rw [if_neg (fun hh => e (Prod.ext hh.1 hh.2))]; simp [e]
theorem setKV_pr {x y : Int} : ∀ {l : List (Int × Int)}, setKV (.agg [.int .i64 x, .int .i64 y]) (.one (.bool true)) (prK l) = prK (insP l (x, y))
 | [] => by simp [prK, setKV, insP]
 | z :: l => by
  have ih := setKV_pr (x := x) (y := y) (l := l)
  simp only [prK] at ih
  simp only [prK, List.map_cons, setKV, eqKey, Bool.and_eq_true, beq_iff_eq, ih]
  by_cases e : (x, y) = z
  ·subst e; simp [insP]
  ·rw [if_neg (fun hh => e (Prod.ext hh.1 hh.2))]
   unfold insP
   by_cases h : (x, y) ∈ l
   ·rw [if_pos h, if_pos (by simp [h])]; rfl
   ·rw [if_neg h, if_neg (by simp [e, h])]; rfl
theorem setKV_pr0 (x y : Int) : setKV (.agg [.int .i64 x, .int .i64 y]) (.one (.bool true)) [] = prK [(x, y)] := rfl
theorem ren_pr' (f : Nat → Option Nat) (kd : KeyKind) (l : List (Int × Int)) : AObj.ren f (.map kd (prK l)) = .map kd (prK l) := by
 simp only [AObj.ren, AObj.map.injEq, true_and, prK, List.map_map]; exact List.map_congr_left fun x _ => rfl
theorem fz_pr' (t : Nat) (o : AObj) (kd : KeyKind) (l : List (Int × Int)) : AObj.fz t o (.map kd (prK l)) = .map kd (prK l) := by
 simp only [AObj.fz, AObj.map.injEq, true_and, prK, List.map_map]; exact List.map_congr_left fun x _ => rfl
theorem lt_pr' (m : Nat) (kd : KeyKind) (l : List (Int × Int)) : (AObj.map kd (prK l)).tagsLt m = true := by
 simp only [AObj.tagsLt, prK, List.all_map, List.all_eq_true]; intro x _; rfl
attribute [go_sem ↓] ren_pr' fz_pr' lt_pr'
attribute [go_sem] findKV_pr setKV_pr
theorem nodup_leB {α : Type} [DecidableEq α] : ∀ {l m : List α}, l.Nodup → (∀ x ∈ l, x ∈ m) → l.length ≤ m.length
 | [], _, _, _ => by simp
 | x :: l, m, hn, h => by
  have hn' := List.nodup_cons.1 hn
  have hx := h x (by simp)
  have := nodup_leB (l := l) (m := m.erase x) hn'.2 fun y hy => (List.mem_erase_of_ne (fun e => hn'.1 (by rw [← e]; exact hy))).2 (h y (by simp [hy]))
  rw [List.length_erase_of_mem hx] at this
  have : 0 < m.length := List.length_pos_of_mem hx
  simp only [List.length_cons]
  omega
abbrev Vis := Int × Int × Int × Int
def prs (V : List Vis) : List (Int × Int) := V.map fun v => (v.1, v.2.1)
def visD (V : List Vis) : List (List D) := V.map fun v => [.int .i64 v.1, .int .i64 v.2.1, .int .i64 v.2.2.1, .int .i64 v.2.2.2]
theorem visD_length (V : List Vis) : (visD V).length = V.length := by simp [visD]
theorem vis_at {V : List Vis} {k : Nat} (hk : k < V.length) (z : List D) : (visD V).getD k z = [.int .i64 (V.getD k (0, 0, 0, 0)).1, .int .i64 (V.getD k (0, 0, 0, 0)).2.1, .int .i64 (V.getD k (0, 0, 0, 0)).2.2.1, .int .i64 (V.getD k (0, 0, 0, 0)).2.2.2] := by
 simp [visD, List.getD, List.getElem?_map, List.getElem?_eq_getElem hk]
theorem vis_snoc (V : List Vis) (p q i e : Int) : visD V ++ [[.int .i64 p, .int .i64 q, .int .i64 i, .int .i64 e]] = visD (V ++ [(p, q, i, e)]) := by simp [visD]
attribute [go_sem] visD_length vis_snoc
structure Srch (Good : Int → Int → Prop) (f1 f2 : Int) (V : List Vis) (S : List (Int × Int)) : Prop where
 seen : ∀ q, q ∈ S ↔ q = (-1, -1) ∨ q ∈ prs V
 nodup : (prs V).Nodup
 good : ∀ v ∈ V, Good v.1 v.2.1
 pos : 0 < V.length
theorem Srch.len {Good : Int → Int → Prop} {f1 f2 : Int} {V : List Vis} {S : List (Int × Int)} (h : Srch Good f1 f2 V S) (hr : ∀ p q, Good p q → (-1 ≤ p ∧ p ≤ 4096) ∧ -1 ≤ q ∧ q ≤ 4096) : V.length ≤ 16793604 := by
 have h1 : ((prs V).map fun p => (p.1 + 1).toNat * 4098 + (p.2 + 1).toNat).Nodup := by
  rw [List.Nodup, List.pairwise_map]
  have := h.nodup
  rw [List.Nodup] at this
  refine (List.Pairwise.and_mem.1 this).imp fun {x y} ⟨hx, hy, hne⟩ he => hne ?_
  simp only [prs, List.mem_map] at hx hy
  obtain ⟨v, hv, rfl⟩ := hx
  obtain ⟨u, hu, rfl⟩ := hy
  have a1 := hr _ _ (h.good v hv)
  have a2 := hr _ _ (h.good u hu)
  simp only at he
  exact Prod.ext (by simp only; omega) (by simp only; omega)
 have := nodup_leB (m := List.range 16793604) h1 fun x hx => by
  simp only [prs, List.mem_map] at hx
  obtain ⟨p, ⟨v, hv, rfl⟩, rfl⟩ := hx
  have a1 := hr _ _ (h.good v hv)
  simp only [List.mem_range]
  omega
 simpa [prs] using this
theorem Srch.add {Good : Int → Int → Prop} {f1 f2 : Int} {V : List Vis} {S : List (Int × Int)} (h : Srch Good f1 f2 V S) {p q : Int} (i x : Int) (hn : (p, q) ∉ S) (hg : (p, q) ≠ (-1, -1) → Good p q) :
  Srch Good f1 f2 (V ++ [(p, q, i, x)]) (insP S (p, q)) := by
 have e : prs (V ++ [(p, q, i, x)]) = prs V ++ [(p, q)] := by simp [prs]
 refine ⟨fun r => ?_, ?_, fun v hv => ?_, by simp⟩
 ·rw [mem_insP, h.seen, e, List.mem_append, List.mem_singleton]
  constructor
  ·rintro (h | h | h)
   ·exact .inr (.inr h)
   ·exact .inl h
   ·exact .inr (.inl h)
  ·rintro (h | h | h)
   ·exact .inr (.inl h)
   ·exact .inr (.inr h)
   ·exact .inl h
 ·rw [e]
  refine List.nodup_append.2 ⟨h.nodup, List.pairwise_singleton _ _, fun a ha b hb => ?_⟩
  rw [List.mem_singleton] at hb
  subst hb
  rintro rfl
  exact hn ((h.seen _).2 (.inr ha))
 ·rcases List.mem_append.1 hv with hv | hv
  ·exact h.good v hv
  ·rw [List.mem_singleton] at hv
   subst hv
   exact hg fun h2 => hn (by rw [h2]; exact (h.seen _).2 (.inl rfl))
set_option maxHeartbeats 8000000 in
theorem search_c (ev : List Int) (a b : Aut) (f : FuncId) (kd : Int) (Good : Int → Int → Prop) (hl : ev.length ≤ 1000000)
  (hr : ∀ p q, Good p q → (-1 ≤ p ∧ p ≤ 4096) ∧ -1 ≤ q ∧ q ≤ 4096) (h0 : Good (if a.states = 0 then -1 else 0) (if b.states = 0 then -1 else 0))
  (hst : ∀ p q x, Good p q → x ∈ ev → (lnext a p x, lnext b q x) ≠ (-1, -1) → Good (lnext a p x) (lnext b q x))
  (hch : ∀ p q, Good p q → ACalls Tryz.prog f (.agg [.int .i64 p, .int .i64 q] :: [.one (.ref [machD a]), .one (.ref [.int .i64 kd]), .one (.ref [machD b])]) (.one (.bool false)) []) :
  ACalls Tryz.prog 83 [.one (.list (ints ev)), .one (machD a), .one (machD b), .one (.clo f [.ref [machD a], .ref [.int .i64 kd], .ref [machD b]])] (.tup [.one (.own 0), .one (.bool false)]) [.row 3 1 []] := by
 have c1 := lstep_c a
 have c2 := lstep_c b
 (refine ACalls.of_body_own Ty_ok mixed Tryz.func83 rfl (by kernel_rfl) Tryz.ntmps83 (by simp) (congrArg Array.toList Tryz.results83) ?_)
 simp only [slotsOf, machD] at c1 c2 hch ⊢
 generalize (if a.states = 0 then (-1 : Int) else 0) = f1 at *
 generalize (if b.states = 0 then (-1 : Int) else 0) = f2 at *
 (repeat' (first | (with_reducible (refine aS 18 [71, 70, 72] ?_; intro K hK)) | ((with_reducible first | refine aGo ?_ | refine rP Ty_ok mixed 1 [0, 4] [.mid [pe 1, pe 2, pe 3, pe 5, pe 6, pe 7, pe 8, ⟨9, 0, true, false, false, [], []⟩] 1, .one 10] ?_); simp only [go_sem]) | ((iterate 6 try ((fail_if_success with_reducible refine hK _ ?_ ?_ ?_); clear hK K)); with_reducible refine hK _ ?_ ?_ ?_; rotate_left; (focus (simp only [go_sem]; exact rfl)); clear hK K) | fail))
 have key : ∀ S, (∀ q, q ∈ S ↔ q = (-1, -1) ∨ q = (f1, f2)) → ∀ σ' : AState, σ'.keepS 18 [71, 70, 72] = ⟨109, [(12, .one (.mp 3)), (11, .one (.own 2)), (10, .one (.vp 1 0)), (9, .one (.bool false)), (8, .one (.own 0)), (0, .one (.list (ints ev))), (1, .one (.ref [.tab (.pair 3) (stT (edT a)), .tab (.int .i64) (mkTb a.marked), .int .i64 f1])), (2, .one (.ref [.tab (.pair 3) (stT (edT b)), .tab (.int .i64) (mkTb b.marked), .int .i64 f2])), (3, .one (.clo f [.ref [.ref [.tab (.pair 3) (stT (edT a)), .tab (.int .i64) (mkTb a.marked), .int .i64 f1]], .ref [.int .i64 kd], .ref [.ref [.tab (.pair 3) (stT (edT b)), .tab (.int .i64) (mkTb b.marked), .int .i64 f2]]]))],
   [.row 3 1 [], .var 164 [.int .i64 f1, .int .i64 f2], .row 204 4 (visD [(f1, f2, -1, 0)]), .map (.pair 3) (prK S)], 0⟩ → K σ' := by
  intro S hS σ' e
  refine hK _ _ e ?_
  clear hK K e
  (repeat' (first | (with_reducible first | refine aBl ?_ | (refine aS 18 [71, 70, 72] ?_; intro K hK)) | ((with_reducible refine aGo ?_); simp only [go_sem]) | ((iterate 6 try ((fail_if_success with_reducible refine hK _ ?_ ?_ ?_); clear hK K)); with_reducible refine hK _ ?_ ?_ ?_; rotate_left; (focus (simp only [go_sem]; exact rfl)); clear hK K) | fail))
  refine awp_loop _ (by simp only [go_sem]; rfl) (Nat × List Vis × List (Int × Int)) (fun s => s.1 ≤ s.2.1.length ∧ Srch Good f1 f2 s.2.1 s.2.2) (fun s => [(13, .one (.int .i64 s.1)), (11, .one (.own 2)), (9, .one (.bool false)), (8, .one (.own 0))]) (fun s H => (H.set 2 (.row 204 4 (visD s.2.1))).set 3 (.map (.pair 3) (prK s.2.2))) (fun s => 16793605 - s.1) (0, [(f1, f2, -1, 0)], S) ⟨by simp, fun q => by rw [hS q]; simp [prs], by simp [prs], fun v hv => by simp at hv; subst hv; exact h0, by simp⟩ ?_ ?_
  ·(simp only [SubF, go_sem]; (try simp only [go_sem]); repeat' (first | exact True.intro | with_reducible refine And.intro ?_ ?_ | rfl | omega))
  rintro ⟨i, V, S⟩ ⟨hi, hs⟩ L hL
  have hlen := hs.len hr
  simp only at hi hs
  by_cases hlt : i < V.length
  ·have hq : ((i : Nat) : Int).toNat = i := by omega
   have a1 := vis_at hlt []
   have hgv := hs.good _ (getD_mem V i (0, 0, 0, 0) hlt)
   have hc := hch _ _ hgv
   generalize hv : V.getD i (0, 0, 0, 0) = v at *
   obtain ⟨p, q, bf, e⟩ := v
   simp only at a1 hc hgv
   (simp only [go_sem] at hL ⊢)
   (repeat' (first | (with_reducible first | refine And.intro ?_ ?_ | refine aBl ?_ | (refine aS 18 [71, 70, 72] ?_; intro K hK)) | ((with_reducible refine aGo ?_); simp only [hq, a1, go_sem]) | ((with_reducible refine aCd ?_ ?_ (fun hb => ?_) (fun hb => ?_)); (iterate 2 simp only [hq, a1, go_sem]); all_goals (simp only [hq, a1, go_sem] at hb; try simp only [bls] at hb)) | ((iterate 6 try ((fail_if_success with_reducible refine hK _ ?_ ?_ ?_); clear hK K)); with_reducible refine hK _ ?_ ?_ ?_; rotate_left; (focus (simp only [hq, a1, go_sem]; exact rfl)); clear hK K) | ((with_reducible refine xA ?_); simp only [hq, a1, go_sem]) | exact aZ | fail))
   all_goals first | omega | skip
   refine awp_loop _ (by simp only [go_sem]; rfl) (Nat × List Vis × List (Int × Int)) (fun s => s.1 ≤ ev.length ∧ Srch Good f1 f2 s.2.1 s.2.2 ∧ i < s.2.1.length ∧ s.2.1.getD i (0, 0, 0, 0) = (p, q, bf, e)) (fun s => [(72, .one (.int .i64 s.1)), (11, .one (.own 2))]) (fun s H => (H.set 2 (.row 204 4 (visD s.2.1))).set 3 (.map (.pair 3) (prK s.2.2))) (fun s => ev.length - s.1) (0, V, S) ⟨by simp, hs, hlt, hv⟩ ?_ ?_
   ·(simp only [SubF, go_sem]; (try simp only [go_sem]); repeat' (first | exact True.intro | with_reducible refine And.intro ?_ ?_ | rfl | omega))
   clear a1 hlen
   rintro ⟨k, V1, S1⟩ ⟨hk, hs1, hi1, hv1⟩ L2 hL2
   simp only at hk hs1 hi1 hv1
   have hlen := hs1.len hr
   by_cases hlt1 : k < ev.length
   ·have a1 := vis_at hi1 []
    rw [hv1] at a1
    simp only at a1
    have hq1 : ((k : Nat) : Int).toNat = k := by omega
    have b1 := ints_at (l := ev) hlt1
    have hx := getD_mem ev k 0 hlt1
    have d1 := c1 p (ev.getD k 0)
    have d2 := c2 q (ev.getD k 0)
    have hg2 := hst p q (ev.getD k 0) hgv hx
    generalize lnext a p (ev.getD k 0) = p2 at *
    generalize lnext b q (ev.getD k 0) = q2 at *
    have hA : (p2, q2) ∉ S1 → (k + 1 ≤ ev.length ∧ Srch Good f1 f2 (V1 ++ [(p2, q2, (i : Int), ev.getD k 0)]) (insP S1 (p2, q2)) ∧ i < (V1 ++ [(p2, q2, (i : Int), ev.getD k 0)]).length ∧ (V1 ++ [(p2, q2, (i : Int), ev.getD k 0)]).getD i (0, 0, 0, 0) = (p, q, bf, e)) := fun hn =>
     ⟨by omega, hs1.add _ _ hn hg2, by simp only [List.length_append, List.length_cons, List.length_nil]; omega, by rw [← hv1]; simp only [List.getD, List.getElem?_append_left hi1]⟩
    simp only [go_sem] at hL2 ⊢
    (repeat' (first | (with_reducible first | refine And.intro ?_ ?_ | refine aBl ?_ | (refine aS 18 [71, 70, 72] ?_; intro K hK)) | ((with_reducible first | refine aGo ?_ | refine rO Ty_ok mixed 19 [0, 2, 4, 5] (.alt 1 (.alt 3 (.alt 6 (.alt 7 (.alt 8 .leaf .nil) .nil) .nil) .nil) (.alt 3 (.alt 1 (.alt 6 (.alt 7 (.alt 8 .leaf .nil) .nil) .nil) (.alt 6 (.alt 1 (.alt 7 (.alt 8 .leaf .nil) .nil) (.alt 7 (.alt 1 (.alt 8 .leaf .nil) (.alt 8 (.alt 1 .leaf .nil) .nil)) .nil)) .nil)) .nil)) [.one 9, .one 10] 5 ?_ | refine rP Ty_ok mixed 17 [0, 1, 2, 7, 9, 10, 11, 16] [.mid [pe 3, pe 4, pe 5, pe 6, ⟨8, 0, true, false, false, [], []⟩, ⟨12, 1, false, false, false, [0], []⟩, ⟨13, 1, false, false, false, [0], []⟩, ⟨14, 1, false, false, false, [0], []⟩, ⟨15, 1, false, false, false, [0], []⟩, ⟨17, 1, true, false, false, [], []⟩, ⟨18, 2, false, false, false, [], []⟩, ⟨19, 2, true, false, false, [1, 0], []⟩] 3, .one 20] ?_); simp only [hq, hq1, a1, b1, go_sem]) | ((with_reducible refine aCd ?_ ?_ (fun hb => ?_) (fun hb => ?_)); (iterate 2 simp only [hq, hq1, a1, b1, go_sem]); all_goals (simp only [hq, hq1, a1, b1, go_sem] at hb; try simp only [bls] at hb)) | ((iterate 6 try ((fail_if_success with_reducible refine hK _ ?_ ?_ ?_); clear hK K)); with_reducible refine hK _ ?_ ?_ ?_; rotate_left; (focus (simp only [hq, hq1, a1, b1, go_sem]; exact rfl)); clear hK K) | ((with_reducible refine xO ?_); simp only [hq, hq1, a1, b1, go_sem]) | exact aZ | fail))
    all_goals first | omega | skip
    all_goals first
     | exact hL2 _ (k + 1, V1 ++ [(p2, q2, (i : Int), ev.getD k 0)], insP S1 (p2, q2)) (hA (by assumption)) (by (simp only [SubF, go_sem]; (try simp only [go_sem]); repeat' (first | exact True.intro | with_reducible refine And.intro ?_ ?_ | rfl | omega))) (by simp only; omega)
     | exact hL2 _ (k + 1, V1, S1) ⟨by simp only; omega, hs1, hi1, hv1⟩ (by (simp only [SubF, go_sem]; (try simp only [go_sem]); repeat' (first | exact True.intro | with_reducible refine And.intro ?_ ?_ | rfl | omega))) (by simp only; omega)
   ·simp only [go_sem] at hL2 ⊢
    (repeat' (first | (with_reducible first | refine And.intro ?_ ?_ | refine aBl ?_ | (refine aS 18 [71, 70, 72] ?_; intro K hK)) | ((with_reducible first | refine aGo ?_ | refine rP Ty_ok mixed 17 [0, 1, 2, 7, 9, 10, 11, 16] [.mid [pe 3, pe 4, pe 5, pe 6, ⟨8, 0, true, false, false, [], []⟩, ⟨12, 1, false, false, false, [0], []⟩, ⟨13, 1, false, false, false, [0], []⟩, ⟨14, 1, false, false, false, [0], []⟩, ⟨15, 1, false, false, false, [0], []⟩, ⟨17, 1, true, false, false, [], []⟩, ⟨18, 2, false, false, false, [], []⟩, ⟨19, 2, true, false, false, [1, 0], []⟩] 3, .one 20] ?_); simp only [go_sem]) | ((with_reducible refine aCd ?_ ?_ (fun hb => ?_) (fun hb => ?_)); (iterate 2 simp only [go_sem]); all_goals (simp only [go_sem] at hb; try simp only [bls] at hb)) | ((iterate 6 try ((fail_if_success with_reducible refine hK _ ?_ ?_ ?_); clear hK K)); with_reducible refine hK _ ?_ ?_ ?_; rotate_left; (focus (simp only [go_sem]; exact rfl)); clear hK K) | exact aZ | fail))
    all_goals first | omega | skip
    exact hL _ (i + 1, V1, S1) ⟨by simp only; omega, hs1⟩ (by (simp only [SubF, go_sem]; (try simp only [go_sem]); repeat' (first | exact True.intro | with_reducible refine And.intro ?_ ?_ | rfl | omega))) (by simp only; omega)
  ·(simp only [go_sem] at hL ⊢)
   (repeat' (first | (with_reducible first | refine And.intro ?_ ?_ | refine aBl ?_ | (refine aS 18 [71, 70, 72] ?_; intro K hK)) | ((with_reducible refine aGo ?_); simp only [go_sem]) | ((with_reducible refine aCd ?_ ?_ (fun hb => ?_) (fun hb => ?_)); (iterate 2 simp only [go_sem]); all_goals (simp only [go_sem] at hb; try simp only [bls] at hb)) | ((iterate 6 try ((fail_if_success with_reducible refine hK _ ?_ ?_ ?_); clear hK K)); with_reducible refine hK _ ?_ ?_ ?_; rotate_left; (focus (simp only [go_sem]; exact rfl)); clear hK K) | exact aZ | fail))
   all_goals first | omega | skip
 clear hK
 refine rO Ty_ok mixed 3 [] (.alt 0 (.alt 1 (.alt 2 (.alt 3 (.alt 4 .leaf .nil) .nil) (.alt 3 (.alt 2 (.alt 4 .leaf .nil) (.alt 4 (.alt 2 .leaf .nil) .nil)) .nil)) (.alt 3 (.alt 1 (.alt 2 (.alt 4 .leaf .nil) (.alt 4 (.alt 2 .leaf .nil) .nil)) (.alt 4 (.alt 1 (.alt 2 .leaf .nil) .nil) .nil)) .nil)) (.alt 1 (.alt 0 (.alt 2 (.alt 3 (.alt 4 .leaf .nil) .nil) (.alt 3 (.alt 2 (.alt 4 .leaf .nil) (.alt 4 (.alt 2 .leaf .nil) .nil)) .nil)) (.alt 3 (.alt 0 (.alt 2 (.alt 4 .leaf .nil) (.alt 4 (.alt 2 .leaf .nil) .nil)) .nil) .nil)) (.alt 3 (.alt 0 (.alt 1 (.alt 2 (.alt 4 .leaf .nil) (.alt 4 (.alt 2 .leaf .nil) .nil)) (.alt 4 (.alt 1 (.alt 2 .leaf .nil) .nil) .nil)) (.alt 1 (.alt 0 (.alt 2 (.alt 4 .leaf .nil) (.alt 4 (.alt 2 .leaf .nil) .nil)) .nil) .nil)) .nil))) [.one 5, .one 6] 5 ?_
 simp only [go_sem]
 (repeat' (first | (with_reducible refine And.intro ?_ ?_) | ((with_reducible refine aGo ?_); simp only [go_sem]) | fail))
 all_goals (simp only [setKV_pr0, setKV_pr])
 all_goals first
  | exact key (insP [(f1, f2)] (-1, -1)) (fun q => by rw [mem_insP, List.mem_singleton]) _ (by simp only [go_sem]; rfl)
  | exact key (insP [(-1, -1)] (f1, f2)) (fun q => by rw [mem_insP, List.mem_singleton, or_comm]) _ (by simp only [go_sem]; rfl)
end Go.Proofs.YtljpfdehnjemlaaGreatDoor
