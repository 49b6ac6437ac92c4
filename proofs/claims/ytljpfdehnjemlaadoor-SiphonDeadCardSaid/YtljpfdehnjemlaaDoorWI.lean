/-
 Contracts: the least run after which a set of places has no tokens.
-/
import Derived.Test.YtljpfdehnjemlaaDoorWH
import Derived.Test.YtljpfdehnjemlaaDoorS7
set_option linter.unusedSimpArgs false
set_option linter.unusedVariables false
namespace Go.Proofs.YtljpfdehnjemlaaDoor
open Go.Eng Go.RowKit
/-! the first edge to each node is the one by which it was found -/
def fstE (t : Int) (es : List Edg) : Option Edg := es.find? fun e => e.dst == t
structure EdgesOk (nodes : List SN) (edges : List Edg) : Prop where
 dst : ∀ e ∈ edges, 0 ≤ e.dst ∧ e.dst < nodes.length
 fst : ∀ j, 0 < j → j < nodes.length → fstE j edges = some ⟨(nodes.getD j SN.no).before, (nodes.getD j SN.no).tr, j⟩ ∧ 0 ≤ (nodes.getD j SN.no).before
theorem fstE_append (t : Int) (es : List Edg) (x : Edg) : fstE t (es ++ [x]) = match fstE t es with | some e => some e | none => if x.dst = t then some x else none := by
 unfold fstE
 rw [List.find?_append]
 cases h : es.find? (fun e => e.dst == t) with
 | some e => rfl
 | none =>
  by_cases hx : x.dst = t
  ·simp [List.find?_cons, hx]
  ·have : (x.dst == t) = false := by simpa using hx
   simp [List.find?_cons, this, hx]
theorem EdgesOk.known {nodes : List SN} {edges : List Edg} (h : EdgesOk nodes edges) {i t : Int} {k : Nat} (hk : k < nodes.length) : EdgesOk nodes (edges ++ [⟨i, t, k⟩]) := by
 refine ⟨fun e he => ?_, fun j h0 hj => ?_⟩
 ·rcases List.mem_append.1 he with he | he
  ·exact h.dst e he
  ·simp at he; subst he; simp only; omega
 ·obtain ⟨h1, h2⟩ := h.fst j h0 hj
  exact ⟨by rw [fstE_append, h1], h2⟩
theorem EdgesOk.found {nodes : List SN} {edges : List Edg} (h : EdgesOk nodes edges) {m : List Int} {i : Nat} {t : Int} : EdgesOk (nodes ++ [⟨m, i, t⟩]) (edges ++ [⟨i, t, nodes.length⟩]) := by
 have hl : (nodes ++ [(⟨m, i, t⟩ : SN)]).length = nodes.length + 1 := by simp
 refine ⟨fun e he => ?_, fun j h0 hj => ?_⟩
 ·rcases List.mem_append.1 he with he | he
  ·have := h.dst e he; omega
  ·simp at he; subst he; simp only; omega
 ·by_cases hjl : j < nodes.length
  ·obtain ⟨h1, h2⟩ := h.fst j h0 hjl
   rw [getD_append_lt _ _ _ _ hjl]
   exact ⟨by rw [fstE_append, h1], h2⟩
  ·have e : j = nodes.length := by omega
   subst e
   have hnone : fstE (nodes.length : Int) edges = none := by
    unfold fstE
    rw [List.find?_eq_none]
    intro e he
    have := (h.dst e he).2
    simp; omega
   rw [getD_append_last]
   exact ⟨by rw [fstE_append, hnone]; simp, by simp⟩
theorem edgesOk_step {n : Net} {lim i : Nat} {t : Int} {nodes nd : List SN} {edges ed : List Edg} (h : EdgesOk nodes edges) (hs : stepF n lim i t nodes edges = .cont nd ed) : EdgesOk nd ed := by
 unfold stepF at hs
 simp only at hs
 split at hs
 ·cases hs
 ·split at hs
  ·rename_i k hk
   cases hs
   have := fndF_lt hk
   exact h.known (by omega)
  ·split at hs
   ·cases hs
   ·split at hs
    ·cases hs
    ·cases hs
     exact h.found
theorem edgesOk_inner {n : Net} {lim i : Nat} : ∀ (ts : List Int) {nodes nd : List SN} {edges ed : List Edg}, EdgesOk nodes edges → innerF n lim i ts nodes edges = .cont nd ed → EdgesOk nd ed
 | [], _, _, _, _, h, hs => by cases hs; exact h
 | t :: ts, nodes, nd, edges, ed, h, hs => by
  rw [innerF] at hs
  cases hst : stepF n lim i t nodes edges with
  | err e => rw [hst] at hs; cases hs
  | pump a b c => rw [hst] at hs; cases hs
  | cont a b => rw [hst] at hs; exact edgesOk_inner ts (edgesOk_step h hst) hs
theorem edgesOk_outer {n : Net} {lim : Nat} : ∀ (f i : Nat) {nodes nd : List SN} {edges ed : List Edg}, EdgesOk nodes edges → outerF n lim f i nodes edges = .cont nd ed → EdgesOk nd ed
 | 0, _, _, _, _, _, _, hs => by cases hs
 | f + 1, i, nodes, nd, edges, ed, h, hs => by
  rw [outerF] at hs
  split at hs
  ·cases hst : innerF n lim i (ableL n (nodes.getD i SN.no).m n.trs.length) nodes edges with
   | err e => rw [hst] at hs; cases hs
   | pump a b c => rw [hst] at hs; cases hs
   | cont a b => rw [hst] at hs; exact edgesOk_outer f (i + 1) (edgesOk_inner _ h hst) hs
  ·cases hs; exact h
theorem bnd_edges {n : Net} {nd : List SN} {ed : List Edg} (h : bndF n = .inr (nd, ed)) : EdgesOk nd ed := by
 unfold bndF at h
 split at h
 ·cases h
 ·cases hS : searchF n 4096 with
  | err e => rw [hS] at h; cases h
  | pump a b c => rw [hS] at h; cases h
  | cont a b =>
   rw [hS] at h
   cases h
   exact edgesOk_outer _ _ ⟨fun e he => by simp at he, fun j h0 hj => by simp at hj; omega⟩ hS
/-! the table -/
def keptE (es : List Edg) : List Edg := es.foldl (fun acc e => if (fstE e.dst acc).isNone && decide (0 < e.dst) then acc ++ [e] else acc) []
def kvsE (es : List Edg) : List (AV × AV) := es.map fun e => (.one (.int .i64 e.dst), .agg [.int .i64 e.src, .int .i64 e.ev, .int .i64 e.dst])
theorem keptE_succ (es : List Edg) (k : Nat) (hk : k < es.length) : keptE (es.take (k + 1)) = if (fstE (es.getD k Edg.no).dst (keptE (es.take k))).isNone && decide (0 < (es.getD k Edg.no).dst) then keptE (es.take k) ++ [es.getD k Edg.no] else keptE (es.take k) := by
 rw [take_succ_getD es k Edg.no hk, keptE, List.foldl_append]
 rfl
theorem keptE_fst (t : Int) (ht : 0 < t) : ∀ (es : List Edg) (k : Nat), k ≤ es.length → fstE t (keptE (es.take k)) = fstE t (es.take k)
 | es, 0, _ => rfl
 | es, k + 1, h => by
  have ih := keptE_fst t ht es k (by omega)
  rw [keptE_succ es k (by omega), take_succ_getD es k Edg.no (by omega), fstE_append]
  split
  ·rw [fstE_append, ih]
  ·rename_i hc
   rw [ih]
   cases hf : fstE t (es.take k) with
   | some e => rfl
   | none =>
    simp only
    split
    ·rename_i hd
     rw [hd, ih, hf] at hc
     simp at hc
     omega
    ·rfl
theorem findKV_edges (t : Int) : ∀ es : List Edg, findKV (.one (.int .i64 t)) (kvsE es) = (fstE t es).map fun e => .agg [.int .i64 e.src, .int .i64 e.ev, .int .i64 e.dst]
 | [] => rfl
 | e :: es => by
  have ih := findKV_edges t es
  simp only [kvsE, List.map_cons, findKV, eqKey, fstE, List.find?_cons, beq_iff_eq] at ih ⊢
  by_cases h : e.dst = t
  ·simp [h]
  ·rw [if_neg (fun h' => h h'.symm)]
   have : (e.dst == t) = false := by simpa using h
   rw [this]
   exact ih
theorem setKV_edges (e : Edg) : ∀ es : List Edg, fstE e.dst es = none → setKV (.one (.int .i64 e.dst)) (.agg [.int .i64 e.src, .int .i64 e.ev, .int .i64 e.dst]) (kvsE es) = kvsE (es ++ [e])
 | [], _ => rfl
 | x :: es, h => by
  have hx : ¬ x.dst = e.dst := by
   intro h'
   simp [fstE, List.find?_cons, h'] at h
  have h2 : fstE e.dst es = none := by
   have : (x.dst == e.dst) = false := by simpa using hx
   simpa only [fstE, List.find?_cons, this] using h
  have ih := setKV_edges e es h2
  simp only [kvsE, List.map_cons, List.cons_append, setKV, eqKey, beq_iff_eq] at ih ⊢
  rw [if_neg (fun h' => hx h'.symm), ih]
theorem ren_kvsE (f : Nat → Option Nat) (es : List Edg) : (kvsE es).map (fun kv => (kv.1.ren f, kv.2.ren f)) = kvsE es := by
 simp only [kvsE, List.map_map]
 rfl
theorem fz_kvsE (t : Nat) (o : AObj) (es : List Edg) : (kvsE es).map (fun kv => (kv.1.fz t o, kv.2.fz t o)) = kvsE es := by
 simp only [kvsE, List.map_map]
 rfl
theorem lt_kvsE (m : Nat) (es : List Edg) : ((kvsE es).all fun kv => kv.1.tagsLt m && kv.2.tagsLt m) = true := by
 rw [List.all_eq_true]
 intro kv hkv
 obtain ⟨e, _, rfl⟩ := List.mem_map.1 hkv
 rfl
attribute [go_sem ↓] ren_kvsE fz_kvsE lt_kvsE
def emT (s : List Int) (nd : List SN) : Int := ixFrom (fun m => decide (sumAt m s = 0)) 0 (nd.map SN.m)
def emX (n : Net) (s : List Int) : List Int × Bool × Int :=
 if siE n s 1 ≠ 0 then ([], false, siE n s 1) else match bndF n with
 | .inl e => ([], false, e)
 | .inr (nd, _) => if 0 ≤ emT s nd then (pathF nd (emT s nd), true, 0) else ([], false, 0)
theorem emptied1_c (m s : List Int) (hm : ∀ x ∈ m, 0 ≤ x ∧ x ≤ 65536) (hs : ∀ x ∈ s, 0 ≤ x ∧ x < m.length) (hn : s.length ≤ 1000000) (hml : m.length ≤ 1000000) : ACalls Tryd.prog 31 [.one (.list (ints m)), .one (.ref [.list (ints s)])] (.one (.bool (decide (sumAt m s = 0)))) [] := by
 have h1 := siTokens_c m s hm hs hn hml
 (refine ACalls.of_body Ty_ok mixed Tryd.func31 rfl (by kernel_rfl) Tryd.ntmps31 (by simp) (congrArg Array.toList Tryd.results31) ?_)
 simp only [slotsOf]
 (repeat' (first | (with_reducible first | exact True.intro | refine And.intro ?_ ?_ | refine aBl ?_ | (refine aS 4 [] ?_; intro K hK)) | ((with_reducible first | refine aGo ?_); simp only [go_sem]) | ((with_reducible refine aCd ?_ ?_ (fun hb => ?_) (fun hb => ?_)); (iterate 2 simp only [go_sem]); all_goals (simp only [go_sem] at hb; try simp only [bls] at hb)) | ((iterate 6 try ((fail_if_success with_reducible refine hK _ ?_ ?_ ?_); clear hK K)); with_reducible refine hK _ ?_ ?_ ?_; rotate_left; (focus (simp only [go_sem]; exact rfl)); clear hK K) | ((first | (with_reducible first | refine xA ?_ | refine xD ?_ | refine xO ?_ | refine xR ?_ | refine xG ?_ | refine xH ?_ | refine xM ?_) | ((with_reducible refine gA ?_); refine xA ?_) | ((with_reducible refine gD ?_); refine xD ?_) | ((with_reducible refine gG ?_); refine xG ?_)); simp only [go_sem]) | (with_reducible refine aGs (fun hg0 => ?_) (fun hg0 => ?_) <;> first | (with_reducible first | exact aF1 hg0 | exact aF2 hg0) | (simp only [hg0, go_sem])) | (with_reducible refine aNk ?_; intro bnil hnil; try simp only []) | exact aZ | fail))
 rfl
theorem ix_range {α : Type} (p : α → Bool) : ∀ (l : List α) (k : Nat), -1 ≤ ixFrom p k l ∧ ixFrom p k l < k + l.length
 | [], k => by simp only [ixFrom, List.length_nil]; omega
 | e :: l, k => by
  rw [ixFrom]
  have := ix_range p l (k + 1)
  split <;> simp only [List.length_cons] <;> omega
set_option maxHeartbeats 16000000 in
theorem Emptied_c (n : Net) (s : List Int) (hf : n.Fits) (h0 : siE n s 1 = 0 → n.init ≠ []) (hn : s.length ≤ 1000000) : ACalls Tryd.prog 11 [.agg n.d, .one (.list (ints s))] (.tup [.one (.list (ints (emX n s).1)), .one (.bool (emX n s).2.1), .one (.int .i64 (emX n s).2.2)]) [] := by
 have h1 := siCheck_c n s 1 hf hn
 simp only [Net.d] at h1
 by_cases he : siE n s 1 = 0
 ·have hok := netOk_of (siE_ok he).1
  have hset := checkSet_in (siE_ok he).2.1
  have hse : ∀ nd ed, bndF n = .inr (nd, ed) → NodesOk n.init.length nd ∧ nd.length ≤ 4096 := fun nd ed h => by
   have hS := (search_ok n hok).2
   unfold bndF at h
   rw [if_neg (by have := (siE_ok he).1; omega)] at h
   cases hs : searchF n 4096 with
   | err e => rw [hs] at h; cases h
   | pump a b c => rw [hs] at h; cases h
   | cont a b => rw [hs] at h; cases h; exact hS _ _ hs
  have hG := Graph_c n hf (h0 he) (fun nd ed h => ⟨(hse nd ed h).2, fun x hx => by have := (hse nd ed h).1.len x hx; have := hok.init; omega⟩)
  have hE := fun nd ed => bnd_edges (n := n) (nd := nd) (ed := ed)
  have hX : emX n s = match bndF n with
   | .inl e => ([], false, e)
   | .inr (nd, _) => if 0 ≤ emT s nd then (pathF nd (emT s nd), true, 0) else ([], false, 0) := by
   rw [emX, if_neg (by omega)]
  have hbne := fun e => bnd_ne (n := n) (e := e)
  have hEl : ∀ nd ed, bndF n = .inr (nd, ed) → ed.length ≤ 100000 := fun nd ed h => by
   unfold bndF at h
   rw [if_neg (by have := (siE_ok he).1; omega)] at h
   cases hs : searchF n 4096 with
   | err e => rw [hs] at h; cases h
   | pump a b c => rw [hs] at h; cases h
   | cont a b =>
    rw [hs] at h
    cases h
    have h1 := outer_edges 4098 0 hs
    have h2 := Nat.mul_le_mul_right 4098 hok.trs
    simp only [List.length_nil] at h1
    omega
  rw [hX]
  generalize bndF n = B at *
  cases B with
  | inl e =>
   have hne := hbne e rfl
   simp only [grR, Net.d] at hG
   (refine ACalls.of_body Ty_ok mixed Tryd.func11 rfl (by kernel_rfl) Tryd.ntmps11 (by simp) (congrArg Array.toList Tryd.results11) ?_)
   simp only [slotsOf, Net.d]
   (repeat' (first | (with_reducible first | exact True.intro | refine And.intro ?_ ?_ | refine aBl ?_ | (refine aS 14 [39, 38, 15, 40, 16] ?_; intro K hK)) | ((with_reducible first | refine aGo ?_); simp only [he, go_sem]) | ((with_reducible refine aCd ?_ ?_ (fun hb => ?_) (fun hb => ?_)); (iterate 2 simp only [he, go_sem]); all_goals (simp only [he, go_sem] at hb; try simp only [bls] at hb)) | ((iterate 6 try ((fail_if_success with_reducible refine hK _ ?_ ?_ ?_); clear hK K)); with_reducible refine hK _ ?_ ?_ ?_; rotate_left; (focus (simp only [he, go_sem]; exact rfl)); clear hK K) | ((first | (with_reducible first | refine xA ?_ | refine xD ?_ | refine xO ?_ | refine xR ?_ | refine xG ?_ | refine xH ?_ | refine xM ?_) | ((with_reducible refine gA ?_); refine xA ?_) | ((with_reducible refine gD ?_); refine xD ?_) | ((with_reducible refine gG ?_); refine xG ?_)); simp only [he, go_sem]) | (with_reducible refine aGs (fun hg0 => ?_) (fun hg0 => ?_) <;> first | (with_reducible first | exact aF1 hg0 | exact aF2 hg0) | (simp only [hg0, he, go_sem])) | (with_reducible refine aNk ?_; intro bnil hnil; try simp only []) | exact aZ | fail))
   all_goals first | omega | rfl | skip
  | inr r =>
   obtain ⟨nd, ed⟩ := r
   obtain ⟨hN, hl⟩ := hse nd ed rfl
   have hEd := hE nd ed rfl
   have hel := hEl nd ed rfl
   simp only [grR, Net.d] at hG
   have hIx := IndexFuncWords_c (nd.map SN.m) 31 [.ref [.list (ints s)]] (fun m => decide (sumAt m s = 0)) (by rw [List.length_map]; omega) (capsOk_ref1 _) (fun m hm => by
    obtain ⟨x, hx, rfl⟩ := List.mem_map.1 hm
    have hxl := hN.len x hx
    exact emptied1_c x.m s (hN.tok x hx) (by rw [hxl]; exact hset) hn (by have := hok.init; omega))
   have hir := ix_range (fun m => decide (sumAt m s = 0)) (nd.map SN.m) 0
   rw [show ixFrom (fun m => decide (sumAt m s = 0)) 0 (nd.map SN.m) = emT s nd from rfl] at hir hIx
   rw [List.length_map] at hir
   simp only
   generalize emT s nd = tg at *
   by_cases htg : 0 ≤ tg
   ·rw [if_pos htg]
    (refine ACalls.of_body Ty_ok mixed Tryd.func11 rfl (by kernel_rfl) Tryd.ntmps11 (by simp) (congrArg Array.toList Tryd.results11) ?_)
    simp only [slotsOf, Net.d]
    (repeat' (first | (with_reducible first | exact True.intro | refine And.intro ?_ ?_ | refine aBl ?_ | (refine aS 14 [39, 38, 15, 40, 16] ?_; intro K hK)) | ((with_reducible first | refine aGo ?_); simp only [he, go_sem]) | ((with_reducible refine aCd ?_ ?_ (fun hb => ?_) (fun hb => ?_)); (iterate 2 simp only [he, go_sem]); all_goals (simp only [he, go_sem] at hb; try simp only [bls] at hb)) | ((iterate 6 try ((fail_if_success with_reducible refine hK _ ?_ ?_ ?_); clear hK K)); with_reducible refine hK _ ?_ ?_ ?_; rotate_left; (focus (simp only [he, go_sem]; exact rfl)); clear hK K) | ((first | (with_reducible first | refine xA ?_ | refine xD ?_ | refine xO ?_ | refine xR ?_ | refine xG ?_ | refine xH ?_ | refine xM ?_) | ((with_reducible refine gA ?_); refine xA ?_) | ((with_reducible refine gD ?_); refine xD ?_) | ((with_reducible refine gG ?_); refine xG ?_)); simp only [he, go_sem]) | (with_reducible refine aGs (fun hg0 => ?_) (fun hg0 => ?_) <;> first | (with_reducible first | exact aF1 hg0 | exact aF2 hg0) | (simp only [hg0, he, go_sem])) | (with_reducible refine aNk ?_; intro bnil hnil; try simp only []) | exact aZ | fail))
    all_goals first | omega | skip
    refine awp_loop _ (by simp only [go_sem]; rfl) Nat (fun k => k ≤ ed.length) (fun k => [(40, .one (.int .i64 k))]) (fun k _ => [.var 30 [.list (ints n.init), .list (trsD n.trs)], .var 27 [.list (ints s)], .row 3 1 [], .map (.int .i64) (kvsE (keptE (ed.take k)))]) (fun k => ed.length - k) 0 (by omega) ?_ ?_
    ·have e0 : kvsE (keptE (ed.take 0)) = [] := rfl
     rw [e0]
     (simp only [SubF, go_sem]; (try simp only [go_sem]); repeat' (first | exact True.intro | with_reducible refine And.intro ?_ ?_ | rfl | omega))
    rintro k hk L hL
    have hq : ((k : Nat) : Int).toNat = k := by omega
    by_cases hlk : k < ed.length
    ·have a1 := edgs_at (l := ed) hlk [.int .i64 0, .int .i64 0, .int .i64 0]
     have hks := keptE_succ ed k hlk
     generalize ed.getD k Edg.no = e at a1 hks
     generalize keptE (ed.take k) = kp at *
     have hfk := findKV_edges e.dst kp
     cases hfe : fstE e.dst kp with
     | some x =>
      rw [hfe] at hfk hks
      simp only [Option.map_some] at hfk
      simp only [Option.isNone_some, Bool.false_and, Bool.false_eq_true, if_false] at hks
      (simp only [go_sem] at hL ⊢)
      (repeat' (first | (with_reducible first | exact True.intro | refine And.intro ?_ ?_ | refine aBl ?_ | (refine aS 14 [39, 38, 15, 40, 16] ?_; intro K hK)) | ((with_reducible first | refine aGo ?_); simp only [hq, a1, hfk, Option.isSome_some, Option.getD_some, go_sem]) | ((with_reducible refine aCd ?_ ?_ (fun hb => ?_) (fun hb => ?_)); (iterate 2 simp only [hq, a1, hfk, Option.isSome_some, Option.getD_some, go_sem]); all_goals (simp only [hq, a1, hfk, Option.isSome_some, Option.getD_some, go_sem] at hb; try simp only [bls] at hb)) | ((iterate 6 try ((fail_if_success with_reducible refine hK _ ?_ ?_ ?_); clear hK K)); with_reducible refine hK _ ?_ ?_ ?_; rotate_left; (focus (simp only [hq, a1, hfk, Option.isSome_some, Option.getD_some, go_sem]; exact rfl)); clear hK K) | (with_reducible refine aGs (fun hg0 => ?_) (fun hg0 => ?_) <;> first | (with_reducible first | exact aF1 hg0 | exact aF2 hg0) | (simp only [hg0, hq, a1, hfk, Option.isSome_some, Option.getD_some, go_sem])) | (with_reducible refine aNk ?_; intro bnil hnil; try simp only []) | exact aZ | fail))
      all_goals first | omega | skip
      refine hL _ (k + 1) (by omega) ?_ (by omega)
      rw [hks]
      (simp only [SubF, go_sem]; (try simp only [go_sem]); repeat' (first | exact True.intro | with_reducible refine And.intro ?_ ?_ | rfl | omega))
     | none =>
      have hsk := setKV_edges e kp hfe
      rw [hfe] at hfk hks
      simp only [Option.map_none] at hfk
      simp only [Option.isNone_none, Bool.true_and, decide_eq_true_eq] at hks
      (simp only [go_sem] at hL ⊢)
      (repeat' (first | (with_reducible first | exact True.intro | refine And.intro ?_ ?_ | refine aBl ?_ | (refine aS 14 [39, 38, 15, 40, 16] ?_; intro K hK)) | ((with_reducible first | refine aGo ?_); simp only [hq, a1, hfk, hsk, Option.isSome_none, Option.getD_none, go_sem]) | ((with_reducible refine aCd ?_ ?_ (fun hb => ?_) (fun hb => ?_)); (iterate 2 simp only [hq, a1, hfk, hsk, Option.isSome_none, Option.getD_none, go_sem]); all_goals (simp only [hq, a1, hfk, hsk, Option.isSome_none, Option.getD_none, go_sem] at hb; try simp only [bls] at hb)) | ((iterate 6 try ((fail_if_success with_reducible refine hK _ ?_ ?_ ?_); clear hK K)); with_reducible refine hK _ ?_ ?_ ?_; rotate_left; (focus (simp only [hq, a1, hfk, hsk, Option.isSome_none, Option.getD_none, go_sem]; exact rfl)); clear hK K) | (with_reducible refine aGs (fun hg0 => ?_) (fun hg0 => ?_) <;> first | (with_reducible first | exact aF1 hg0 | exact aF2 hg0) | (simp only [hg0, hq, a1, hfk, hsk, Option.isSome_none, Option.getD_none, go_sem])) | (with_reducible refine aNk ?_; intro bnil hnil; try simp only []) | exact aZ | fail))
      all_goals first | omega | skip
      ·rw [if_pos hb] at hks
       refine hL _ (k + 1) (by omega) ?_ (by omega)
       rw [hks]
       (simp only [SubF, go_sem]; (try simp only [go_sem]); repeat' (first | exact True.intro | with_reducible refine And.intro ?_ ?_ | rfl | omega))
      ·rw [if_neg (by omega)] at hks
       refine hL _ (k + 1) (by omega) ?_ (by omega)
       rw [hks]
       (simp only [SubF, go_sem]; (try simp only [go_sem]); repeat' (first | exact True.intro | with_reducible refine And.intro ?_ ?_ | rfl | omega))
    ·have hkl : k = ed.length := by omega
     subst hkl
     rw [List.take_length]
     have hfk : ∀ t : Int, 0 < t → findKV (.one (.int .i64 t)) (kvsE (keptE ed)) = (fstE t ed).map fun e => .agg [.int .i64 e.src, .int .i64 e.ev, .int .i64 e.dst] := fun t ht => by
      have := keptE_fst t ht ed ed.length (Nat.le_refl _)
      rw [List.take_length] at this
      rw [findKV_edges, this]
     generalize keptE ed = kp at *
     (simp only [go_sem] at hL ⊢)
     (repeat' (first | (with_reducible first | exact True.intro | refine And.intro ?_ ?_ | refine aBl ?_ | (refine aS 14 [39, 38, 15, 40, 16] ?_; intro K hK)) | ((with_reducible first | refine aGo ?_); simp only [go_sem]) | ((with_reducible refine aCd ?_ ?_ (fun hb => ?_) (fun hb => ?_)); (iterate 2 simp only [go_sem]); all_goals (simp only [go_sem] at hb; try simp only [bls] at hb)) | ((iterate 6 try ((fail_if_success with_reducible refine hK _ ?_ ?_ ?_); clear hK K)); with_reducible refine hK _ ?_ ?_ ?_; rotate_left; (focus (simp only [go_sem]; exact rfl)); clear hK K) | (with_reducible refine aGs (fun hg0 => ?_) (fun hg0 => ?_) <;> first | (with_reducible first | exact aF1 hg0 | exact aF2 hg0) | (simp only [hg0, go_sem])) | (with_reducible refine aNk ?_; intro bnil hnil; try simp only []) | exact aZ | fail))
     all_goals first | omega | skip
     clear hL
     have hB : pathF nd tg = ([] ++ backF nd (tg.toNat + 1) tg).reverse := by rw [List.nil_append]; rfl
     generalize pathF nd tg = R at *
     refine awp_loop _ (by simp only [go_sem]; rfl) (Nat × Int × List Int) (fun u => 0 ≤ u.2.1 ∧ u.2.1 < nd.length ∧ u.2.1 < u.1 ∧ R = (u.2.2 ++ backF nd u.1 u.2.1).reverse ∧ u.2.2.length + u.2.1.toNat ≤ 10000)
      (fun u => [(4, .one (.own 2)), (10, .one (.int .i64 u.2.1))]) (fun u _ => [.var 30 [.list (ints n.init), .list (trsD n.trs)], .var 27 [.list (ints s)], .row 3 1 (ints u.2.2), .map (.int .i64) (kvsE kp)]) (fun u => u.2.1.toNat) (tg.toNat + 1, tg, []) ⟨htg, by simp only; omega, by simp only; omega, hB, by simp only [List.length_nil]; omega⟩ ?_ ?_
     ·simp only [← ints_nil]
      (simp only [SubF, go_sem]; (try simp only [go_sem]); repeat' (first | exact True.intro | with_reducible refine And.intro ?_ ?_ | rfl | omega))
     rintro ⟨f, i, out⟩ ⟨hi0, hil, hif, hR, hol⟩ L hL
     simp only at hi0 hil hif hR hol
     obtain ⟨f, rfl⟩ : ∃ g, f = g + 1 := ⟨f - 1, by omega⟩
     rw [backF] at hR
     by_cases hip : 0 < i
     ·obtain ⟨hf1, hf2⟩ := hEd.fst i.toNat (by omega) (by omega)
      have hbk := hN.back i.toNat (by omega)
      rw [show ((i.toNat : Nat) : Int) = i by omega] at hf1
      have hfi := hfk i hip
      rw [hf1] at hfi
      simp only [Option.map_some] at hfi
      generalize nd.getD i.toNat SN.no = x at *
      rw [if_pos hf2] at hR
      (simp only [go_sem] at hL ⊢)
      (repeat' (first | (with_reducible first | exact True.intro | refine And.intro ?_ ?_ | refine aBl ?_ | (refine aS 14 [39, 38, 15, 40, 16] ?_; intro K hK)) | ((with_reducible first | refine aGo ?_); simp only [hfi, Option.getD_some, go_sem]) | ((with_reducible refine aCd ?_ ?_ (fun hb => ?_) (fun hb => ?_)); (iterate 2 simp only [hfi, Option.getD_some, go_sem]); all_goals (simp only [hfi, Option.getD_some, go_sem] at hb; try simp only [bls] at hb)) | ((iterate 6 try ((fail_if_success with_reducible refine hK _ ?_ ?_ ?_); clear hK K)); with_reducible refine hK _ ?_ ?_ ?_; rotate_left; (focus (simp only [hfi, Option.getD_some, go_sem]; exact rfl)); clear hK K) | (with_reducible refine aGs (fun hg0 => ?_) (fun hg0 => ?_) <;> first | (with_reducible first | exact aF1 hg0 | exact aF2 hg0) | (simp only [hg0, hfi, Option.getD_some, go_sem])) | (with_reducible refine aNk ?_; intro bnil hnil; try simp only []) | exact aZ | fail))
      all_goals first | omega | skip
      refine hL _ (f, x.before, out ++ [x.tr]) ⟨hf2, by simp only; omega, by simp only; omega, by rw [hR]; simp, by simp only [List.length_append, List.length_singleton]; omega⟩ ?_ (by simp only; omega)
      simp only [← ints_append]
      (simp only [SubF, ints_one, go_sem]; (try simp only [ints_one, go_sem]); repeat' (first | exact True.intro | with_reducible refine And.intro ?_ ?_ | rfl | omega))
     ·have hi00 : i = 0 := by omega
      subst hi00
      have hbk := (hN.back 0 (by omega)).2
      rw [show ((0 : Int).toNat) = 0 from rfl, if_neg (by simp at hbk ⊢; omega), List.append_nil] at hR
      have hRv := Reverse_c out (by omega)
      (simp only [go_sem] at hL ⊢)
      (repeat' (first | (with_reducible first | exact True.intro | refine And.intro ?_ ?_ | refine aBl ?_ | (refine aS 14 [39, 38, 15, 40, 16] ?_; intro K hK)) | ((with_reducible first | refine aGo ?_); simp only [go_sem]) | ((with_reducible refine aCd ?_ ?_ (fun hb => ?_) (fun hb => ?_)); (iterate 2 simp only [go_sem]); all_goals (simp only [go_sem] at hb; try simp only [bls] at hb)) | ((iterate 6 try ((fail_if_success with_reducible refine hK _ ?_ ?_ ?_); clear hK K)); with_reducible refine hK _ ?_ ?_ ?_; rotate_left; (focus (simp only [go_sem]; exact rfl)); clear hK K) | (with_reducible refine aGs (fun hg0 => ?_) (fun hg0 => ?_) <;> first | (with_reducible first | exact aF1 hg0 | exact aF2 hg0) | (simp only [hg0, go_sem])) | (with_reducible refine aNk ?_; intro bnil hnil; try simp only []) | exact aZ | fail))
      all_goals first | omega | skip
      (refine MCallAt_i [] [2] (hRv) ?_ ?_; (focus (simp only [mside, handOk, go_sem]; (first | done | exact (by decide) | exact ⟨by decide, fun t ht => ht.elim⟩ | (refine ⟨by decide, ?_⟩; simp; done)))); simp only [go_sem])
      (repeat' (first | (with_reducible first | exact True.intro | refine And.intro ?_ ?_ | refine aBl ?_ | (refine aS 14 [39, 38, 15, 40, 16] ?_; intro K hK)) | ((with_reducible first | refine aGo ?_); simp only [go_sem]) | ((with_reducible refine aCd ?_ ?_ (fun hb => ?_) (fun hb => ?_)); (iterate 2 simp only [go_sem]); all_goals (simp only [go_sem] at hb; try simp only [bls] at hb)) | ((iterate 6 try ((fail_if_success with_reducible refine hK _ ?_ ?_ ?_); clear hK K)); with_reducible refine hK _ ?_ ?_ ?_; rotate_left; (focus (simp only [go_sem]; exact rfl)); clear hK K) | (with_reducible refine aGs (fun hg0 => ?_) (fun hg0 => ?_) <;> first | (with_reducible first | exact aF1 hg0 | exact aF2 hg0) | (simp only [hg0, go_sem])) | (with_reducible refine aNk ?_; intro bnil hnil; try simp only []) | exact aZ | fail))
      all_goals first | omega | skip
      rw [hR]
   ·rw [if_neg htg]
    (refine ACalls.of_body Ty_ok mixed Tryd.func11 rfl (by kernel_rfl) Tryd.ntmps11 (by simp) (congrArg Array.toList Tryd.results11) ?_)
    simp only [slotsOf, Net.d]
    (repeat' (first | (with_reducible first | exact True.intro | refine And.intro ?_ ?_ | refine aBl ?_ | (refine aS 14 [39, 38, 15, 40, 16] ?_; intro K hK)) | ((with_reducible first | refine aGo ?_); simp only [he, go_sem]) | ((with_reducible refine aCd ?_ ?_ (fun hb => ?_) (fun hb => ?_)); (iterate 2 simp only [he, go_sem]); all_goals (simp only [he, go_sem] at hb; try simp only [bls] at hb)) | ((iterate 6 try ((fail_if_success with_reducible refine hK _ ?_ ?_ ?_); clear hK K)); with_reducible refine hK _ ?_ ?_ ?_; rotate_left; (focus (simp only [he, go_sem]; exact rfl)); clear hK K) | ((first | (with_reducible first | refine xA ?_ | refine xD ?_ | refine xO ?_ | refine xR ?_ | refine xG ?_ | refine xH ?_ | refine xM ?_) | ((with_reducible refine gA ?_); refine xA ?_) | ((with_reducible refine gD ?_); refine xD ?_) | ((with_reducible refine gG ?_); refine xG ?_)); simp only [he, go_sem]) | (with_reducible refine aGs (fun hg0 => ?_) (fun hg0 => ?_) <;> first | (with_reducible first | exact aF1 hg0 | exact aF2 hg0) | (simp only [hg0, he, go_sem])) | (with_reducible refine aNk ?_; intro bnil hnil; try simp only []) | exact aZ | fail))
    all_goals first | omega | rfl | skip
 ·have hX : emX n s = ([], false, siE n s 1) := by rw [emX, if_pos he]
  rw [hX]
  (refine ACalls.of_body Ty_ok mixed Tryd.func11 rfl (by kernel_rfl) Tryd.ntmps11 (by simp) (congrArg Array.toList Tryd.results11) ?_)
  simp only [slotsOf, Net.d]
  (repeat' (first | (with_reducible first | exact True.intro | refine And.intro ?_ ?_ | refine aBl ?_ | (refine aS 14 [39, 38, 15, 40, 16] ?_; intro K hK)) | ((with_reducible first | refine aGo ?_); simp only [go_sem]) | ((with_reducible refine aCd ?_ ?_ (fun hb => ?_) (fun hb => ?_)); (iterate 2 simp only [go_sem]); all_goals (simp only [go_sem] at hb; try simp only [bls] at hb)) | ((iterate 6 try ((fail_if_success with_reducible refine hK _ ?_ ?_ ?_); clear hK K)); with_reducible refine hK _ ?_ ?_ ?_; rotate_left; (focus (simp only [go_sem]; exact rfl)); clear hK K) | ((first | (with_reducible first | refine xA ?_ | refine xD ?_ | refine xO ?_ | refine xR ?_ | refine xG ?_ | refine xH ?_ | refine xM ?_) | ((with_reducible refine gA ?_); refine xA ?_) | ((with_reducible refine gD ?_); refine xD ?_) | ((with_reducible refine gG ?_); refine xG ?_)); simp only [go_sem]) | (with_reducible refine aGs (fun hg0 => ?_) (fun hg0 => ?_) <;> first | (with_reducible first | exact aF1 hg0 | exact aF2 hg0) | (simp only [hg0, go_sem])) | (with_reducible refine aNk ?_; intro bnil hnil; try simp only []) | exact aZ | fail))
  all_goals first | omega | rfl | skip
end Go.Proofs.YtljpfdehnjemlaaDoor
