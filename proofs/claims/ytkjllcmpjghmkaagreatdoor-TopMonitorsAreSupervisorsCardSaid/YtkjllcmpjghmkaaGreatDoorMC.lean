/-
 Contracts: net.Automaton.
-/
import Derived.Test.YtkjllcmpjghmkaaGreatDoorMB
import Derived.Test.YtkjllcmpjghmkaaGreatDoorMW
import Derived.Test.YtkjllcmpjghmkaaGreatDoorSU
set_option linter.unusedSimpArgs false
set_option linter.unusedVariables false
namespace Go.Proofs.YtkjllcmpjghmkaaGreatDoor
open Go.Eng Go.RowKit
theorem zjY (m x : List Int) (hx : x.length ≤ 1000000) : ACalls Tryz.prog 33 [.one (.list (ints x)), .one (.ref [.list (ints m)])] (.one (.bool (decide (x = m)))) [] := by
 have h1 := z2Q x m hx
 (refine ACalls.of_body Ty_ok mixed Tryz.func33 rfl (by kernel_rfl) Tryz.ntmps33 (by simp) (congrArg Array.toList Tryz.results33) ?_)
 simp only [z00]
 (repeat' (first | (with_reducible (refine aS 4 [] ?_; intro K hK)) | ((with_reducible refine aGo ?_); simp only [go_sem]) | ((iterate 6 try ((fail_if_success with_reducible refine hK _ ?_ ?_ ?_); clear hK K)); with_reducible refine hK _ ?_ ?_ ?_; rotate_left; (focus (simp only [go_sem]; exact rfl)); clear hK K) | ((with_reducible refine xA ?_); simp only [go_sem]) | fail))
theorem z3l : z0v [] = [] := rfl
set_option maxRecDepth 20000 in
set_option maxHeartbeats 32000000 in
theorem z2R (n : Net) (mk : List (List Int)) (hf : n.Fits) (h0 : n.init ≠ []) (hmn : mk.length ≤ 1000000) (hml : ∀ m ∈ mk, m.length ≤ 1000000) :
  ACalls Tryz.prog 9 [.agg n.d, .one (.list (z0v mk))] (auR (autF n mk)) [] := by
 have h1 := z2s n hf
 by_cases hE : netE n = 0
 ·have hno := z0K hE
  have hi10 := hno.init
  have ht10 := hno.trs
  have h2 := z7d n hf h0
  have hne := fun e => zaH (n := n) (e := e)
  have hfd := fun nd ed => z2x (n := n) (nd := nd) (ed := ed)
  have hels := fun nd ed => zhB (n := n) (nd := nd) (ed := ed)
  have hev := zhs n hf
  have hevl := z41 n
  have hR0 : autF n mk = auG n mk (mksE n mk) (bndF n) := by rw [autF, if_neg (by omega)]
  rw [hR0]
  clear hR0
  rw [hE] at h1
  generalize hM : mksE n mk = M
  generalize bndF n = B at *
  simp only [Net.d] at h1 h2 hev
  generalize hR : auG n mk M B = R
  (refine ACalls.of_body Ty_ok mixed Tryz.func9 rfl (by kernel_rfl) Tryz.ntmps9 (by simp) (congrArg Array.toList Tryz.results9) ?_)
  simp only [z00, Net.d]
  (repeat' (first | (with_reducible first | refine aBl ?_ | (refine aS 24 [33, 32, 34, 60, 59, 61, 133, 132, 25, 134] ?_; intro K hK)) | ((with_reducible refine aGo ?_); simp only [go_sem]) | ((with_reducible refine aCd ?_ ?_ (fun hb => ?_) (fun hb => ?_)); (iterate 2 simp only [go_sem]); all_goals (simp only [go_sem] at hb; try simp only [bls] at hb)) | ((iterate 6 try ((fail_if_success with_reducible refine hK _ ?_ ?_ ?_); clear hK K)); with_reducible refine hK _ ?_ ?_ ?_; rotate_left; (focus (simp only [go_sem]; exact rfl)); clear hK K) | ((with_reducible refine xA ?_); simp only [go_sem]) | fail))
  all_goals first | omega | skip
  refine z02 _ (by simp only [go_sem]; rfl) Nat (fun k => k ≤ mk.length ∧ mksE n (mk.drop k) = M) (fun k => [(34, .one (.int .i64 k)), (6, .one (.int .i64 0)), (5, .one (.own 2))]) (fun _ H => H) (fun k => mk.length - k) 0 ⟨by omega, by rw [List.drop_zero]; exact hM⟩ ?_ ?_
  ·(simp only [SubF, go_sem]; (try simp only [go_sem]); repeat' (first | exact True.intro | with_reducible refine And.intro ?_ ?_ | rfl | omega))
  rintro k ⟨hk, hMk⟩ L hL
  have hq : ((k : Nat) : Int).toNat = k := by omega
  by_cases hlk : k < mk.length
  ·have a1 := z1d (l := mk) hlk [.nil]
   have a2 := z1d (l := mk) hlk []
   rw [z0H mk k [] hlk, mksE] at hMk
   have hmm := hml _ (z01 mk k [] hlk)
   generalize mk.getD k [] = m at *
   have hC := z3O n m hf hmm
   simp only [Net.d] at hC
   by_cases hm0 : markE n m = 0
   ·rw [if_neg (by omega)] at hMk
    rw [hm0] at hC
    (simp only [go_sem] at hL ⊢)
    (repeat' (first | (with_reducible first | refine And.intro ?_ ?_ | refine aBl ?_ | (refine aS 24 [33, 32, 34, 60, 59, 61, 133, 132, 25, 134] ?_; intro K hK)) | ((with_reducible refine aGo ?_); simp only [hq, a1, a2, go_sem]) | ((with_reducible refine aCd ?_ ?_ (fun hb => ?_) (fun hb => ?_)); (iterate 2 simp only [hq, a1, a2, go_sem]); all_goals (simp only [hq, a1, a2, go_sem] at hb; try simp only [bls] at hb)) | ((iterate 6 try ((fail_if_success with_reducible refine hK _ ?_ ?_ ?_); clear hK K)); with_reducible refine hK _ ?_ ?_ ?_; rotate_left; (focus (simp only [hq, a1, a2, go_sem]; exact rfl)); clear hK K) | ((with_reducible refine xA ?_); simp only [hq, a1, a2, go_sem]) | exact aZ | fail))
    all_goals first | omega | skip
    exact hL _ (k + 1) ⟨by omega, hMk⟩ (by (simp only [SubF, go_sem]; (try simp only [go_sem]); repeat' (first | exact True.intro | with_reducible refine And.intro ?_ ?_ | rfl | omega))) (by omega)
   ·rw [if_pos hm0] at hMk
    rw [hMk] at hC hm0
    rw [zj9 hm0] at hR
    subst hR
    (simp only [go_sem] at hL ⊢)
    (repeat' (first | (with_reducible first | refine And.intro ?_ ?_ | refine aBl ?_ | (refine aS 24 [33, 32, 34, 60, 59, 61, 133, 132, 25, 134] ?_; intro K hK)) | ((with_reducible refine aGo ?_); simp only [hq, a1, a2, go_sem]) | ((with_reducible refine aCd ?_ ?_ (fun hb => ?_) (fun hb => ?_)); (iterate 2 simp only [hq, a1, a2, go_sem]); all_goals (simp only [hq, a1, a2, go_sem] at hb; try simp only [bls] at hb)) | ((iterate 6 try ((fail_if_success with_reducible refine hK _ ?_ ?_ ?_); clear hK K)); with_reducible refine hK _ ?_ ?_ ?_; rotate_left; (focus (simp only [hq, a1, a2, go_sem]; exact rfl)); clear hK K) | ((with_reducible refine xA ?_); simp only [hq, a1, a2, go_sem]) | exact aZ | fail))
    all_goals first | omega | rfl | skip
  have hkl : k = mk.length := by omega
  subst hkl
  rw [List.drop_length, mksE] at hMk
  (simp only [go_sem] at hL ⊢)
  cases B with
  | inl e =>
   have hne := hne e rfl
   simp only [bndR] at h2
   rw [auG, if_neg (by omega)] at hR
   subst hR
   (repeat' (first | (with_reducible first | refine And.intro ?_ ?_ | refine aBl ?_ | (refine aS 24 [33, 32, 34, 60, 59, 61, 133, 132, 25, 134] ?_; intro K hK)) | ((with_reducible refine aGo ?_); simp only [go_sem]) | ((with_reducible refine aCd ?_ ?_ (fun hb => ?_) (fun hb => ?_)); (iterate 2 simp only [go_sem]); all_goals (simp only [go_sem] at hb; try simp only [bls] at hb)) | ((iterate 6 try ((fail_if_success with_reducible refine hK _ ?_ ?_ ?_); clear hK K)); with_reducible refine hK _ ?_ ?_ ?_; rotate_left; (focus (simp only [go_sem]; exact rfl)); clear hK K) | ((with_reducible refine xA ?_); simp only [go_sem]) | exact aZ | fail))
   all_goals first | omega | rfl | skip
  | inr r =>
   obtain ⟨nd, ed⟩ := r
   obtain ⟨hF, hEd⟩ := hfd nd ed rfl
   have hel := hels nd ed rfl
   simp only [bndR] at h2
   rw [auG, if_neg (by omega)] at hR
   (repeat' (first | (with_reducible first | refine And.intro ?_ ?_ | refine aBl ?_ | (refine aS 24 [33, 32, 34, 60, 59, 61, 133, 132, 25, 134] ?_; intro K hK)) | ((with_reducible refine aGo ?_); simp only [go_sem]) | ((with_reducible refine aCd ?_ ?_ (fun hb => ?_) (fun hb => ?_)); (iterate 2 simp only [go_sem]); all_goals (simp only [go_sem] at hb; try simp only [bls] at hb)) | ((iterate 6 try ((fail_if_success with_reducible refine hK _ ?_ ?_ ?_); clear hK K)); with_reducible refine hK _ ?_ ?_ ?_; rotate_left; (focus (simp only [go_sem]; exact rfl)); clear hK K) | ((with_reducible refine xA ?_); simp only [go_sem]) | exact aZ | fail))
   all_goals first | omega | skip
   refine z02 _ (by simp only [go_sem]; rfl) (Nat × List (Int × Int × Int)) (fun s => s.1 ≤ ed.length ∧ toF n ed [] = toF n (ed.drop s.1) s.2 ∧ s.2.length ≤ s.1) (fun s => [(61, .one (.int .i64 s.1)), (5, .one (.own 2))]) (fun s H => H.set 3 (.map (.pair 3) (stK s.2))) (fun s => ed.length - s.1) (0, []) ⟨by omega, by rw [List.drop_zero], by simp⟩ ?_ ?_
   ·(simp only [SubF, List.set_cons_succ, List.set_cons_zero, show stK [] = [] from rfl, go_sem]; (try simp only [List.set_cons_succ, List.set_cons_zero, show stK [] = [] from rfl, go_sem]); repeat' (first | exact True.intro | with_reducible refine And.intro ?_ ?_ | rfl | omega))
   rintro ⟨k, T⟩ ⟨hk, hT, hTl⟩ L hL
   simp only at hk hT hTl
   have hq : ((k : Nat) : Int).toNat = k := by omega
   by_cases hlk : k < ed.length
   ·have a1 := z0p (l := ed) hlk [.int .i64 0, .int .i64 0, .int .i64 0]
    have a2 := z0p (l := ed) hlk []
    have hx := z01 ed k Edg.no hlk
    rw [z0H ed k Edg.no hlk, toF] at hT
    have hxr := zfu hF (ed.getD k Edg.no) (hEd ▸ hx)
    generalize ed.getD k Edg.no = x at *
    have b1 := z1K (l := n.trs) (k := x.ev.toNat) (by omega) [.int .i64 0, .nil, .nil]
    have b2 := z1K (l := n.trs) (k := x.ev.toNat) (by omega) []
    have hE1 : evOf n x.ev = (n.trs.getD x.ev.toNat Tr.no).event := rfl
    generalize n.trs.getD x.ev.toNat Tr.no = t at *
    rw [hE1] at hT
    have hfk := z4s x.src t.event T
    cases hl : lkS x.src t.event T with
    | some o =>
     rw [hl] at hT hfk
     simp only [Option.map_some] at hfk
     simp only at hT
     by_cases ho : o = x.dst
     ·subst ho
      rw [if_pos rfl] at hT
      have hset := z5l hl
      (simp only [List.set_cons_succ, List.set_cons_zero, go_sem] at hL ⊢)
      (repeat' (first | (with_reducible first | refine And.intro ?_ ?_ | refine aBl ?_ | (refine aS 24 [33, 32, 34, 60, 59, 61, 133, 132, 25, 134] ?_; intro K hK)) | ((with_reducible first | refine aGo ?_ | refine rP Ty_ok mixed 18 [0, 2, 4] [.mid [pe 1, pe 3, pe 5, pe 6, pe 7, pe 8, pe 9, ⟨10, 0, true, false, false, [], []⟩] 1, .one 11] ?_); simp only [hq, a1, a2, b1, b2, hfk, hset, Option.getD_some, Option.isSome_some, go_sem]) | ((with_reducible refine aCd ?_ ?_ (fun hb => ?_) (fun hb => ?_)); (iterate 2 simp only [hq, a1, a2, b1, b2, hfk, hset, Option.getD_some, Option.isSome_some, go_sem]); all_goals (simp only [hq, a1, a2, b1, b2, hfk, hset, Option.getD_some, Option.isSome_some, go_sem] at hb; try simp only [bls] at hb)) | ((iterate 6 try ((fail_if_success with_reducible refine hK _ ?_ ?_ ?_); clear hK K)); with_reducible refine hK _ ?_ ?_ ?_; rotate_left; (focus (simp only [hq, a1, a2, b1, b2, hfk, hset, Option.getD_some, Option.isSome_some, go_sem]; exact rfl)); clear hK K) | exact aZ | fail))
      all_goals first | omega | skip
      exact hL _ (k + 1, T) ⟨by simp only; omega, hT, by simp only; omega⟩ (by (simp only [SubF, List.set_cons_succ, List.set_cons_zero, go_sem]; (try simp only [List.set_cons_succ, List.set_cons_zero, go_sem]); repeat' (first | exact True.intro | with_reducible refine And.intro ?_ ?_ | rfl | omega))) (by simp only; omega)
     ·rw [if_neg ho] at hT
      rw [hT] at hR
      simp only at hR
      subst hR
      (simp only [List.set_cons_succ, List.set_cons_zero, go_sem] at hL ⊢)
      (repeat' (first | (with_reducible first | refine And.intro ?_ ?_ | refine aBl ?_ | (refine aS 24 [33, 32, 34, 60, 59, 61, 133, 132, 25, 134] ?_; intro K hK)) | ((with_reducible first | refine aGo ?_ | refine rP Ty_ok mixed 18 [0, 2, 4] [.mid [pe 1, pe 3, pe 5, pe 6, pe 7, pe 8, pe 9, ⟨10, 0, true, false, false, [], []⟩] 1, .one 11] ?_); simp only [hq, a1, a2, b1, b2, hfk, Option.getD_some, Option.isSome_some, go_sem]) | ((with_reducible refine aCd ?_ ?_ (fun hb => ?_) (fun hb => ?_)); (iterate 2 simp only [hq, a1, a2, b1, b2, hfk, Option.getD_some, Option.isSome_some, go_sem]); all_goals (simp only [hq, a1, a2, b1, b2, hfk, Option.getD_some, Option.isSome_some, go_sem] at hb; try simp only [bls] at hb)) | ((iterate 6 try ((fail_if_success with_reducible refine hK _ ?_ ?_ ?_); clear hK K)); with_reducible refine hK _ ?_ ?_ ?_; rotate_left; (focus (simp only [hq, a1, a2, b1, b2, hfk, Option.getD_some, Option.isSome_some, go_sem]; exact rfl)); clear hK K) | exact aZ | fail))
      all_goals first | omega | rfl | skip
    | none =>
     rw [hl] at hT hfk
     simp only [Option.map_none] at hfk
     simp only at hT
     have hset := z2Z x.dst hl
     (simp only [List.set_cons_succ, List.set_cons_zero, go_sem] at hL ⊢)
     (repeat' (first | (with_reducible first | refine And.intro ?_ ?_ | refine aBl ?_ | (refine aS 24 [33, 32, 34, 60, 59, 61, 133, 132, 25, 134] ?_; intro K hK)) | ((with_reducible first | refine aGo ?_ | refine rP Ty_ok mixed 18 [0, 2, 4] [.mid [pe 1, pe 3, pe 5, pe 6, pe 7, pe 8, pe 9, ⟨10, 0, true, false, false, [], []⟩] 1, .one 11] ?_); simp only [hq, a1, a2, b1, b2, hfk, hset, Option.getD_none, Option.isSome_none, go_sem]) | ((with_reducible refine aCd ?_ ?_ (fun hb => ?_) (fun hb => ?_)); (iterate 2 simp only [hq, a1, a2, b1, b2, hfk, hset, Option.getD_none, Option.isSome_none, go_sem]); all_goals (simp only [hq, a1, a2, b1, b2, hfk, hset, Option.getD_none, Option.isSome_none, go_sem] at hb; try simp only [bls] at hb)) | ((iterate 6 try ((fail_if_success with_reducible refine hK _ ?_ ?_ ?_); clear hK K)); with_reducible refine hK _ ?_ ?_ ?_; rotate_left; (focus (simp only [hq, a1, a2, b1, b2, hfk, hset, Option.getD_none, Option.isSome_none, go_sem]; exact rfl)); clear hK K) | exact aZ | fail))
     all_goals first | omega | skip
     exact hL _ (k + 1, T ++ [(x.src, t.event, x.dst)]) ⟨by simp only; omega, hT, by simp only [List.length_append, List.length_singleton]; omega⟩ (by (simp only [SubF, List.set_cons_succ, List.set_cons_zero, go_sem]; (try simp only [List.set_cons_succ, List.set_cons_zero, go_sem]); repeat' (first | exact True.intro | with_reducible refine And.intro ?_ ?_ | rfl | omega))) (by simp only; omega)
   have hkl : k = ed.length := by omega
   subst hkl
   rw [List.drop_length, toF] at hT
   rw [hT] at hR
   simp only at hR
   (simp only [List.set_cons_succ, List.set_cons_zero, go_sem] at hL ⊢)
   obtain ⟨hTs, hTc⟩ := zgv hT
   (repeat' (first | (with_reducible first | refine And.intro ?_ ?_ | refine aBl ?_ | (refine aS 24 [33, 32, 34, 60, 59, 61, 133, 132, 25, 134] ?_; intro K hK)) | ((with_reducible first | refine aGo ?_ | refine rP Ty_ok mixed 18 [0, 2, 4] [.mid [pe 1, pe 3, pe 5, pe 6, pe 7, pe 8, pe 9, ⟨10, 0, true, false, false, [], []⟩] 1, .one 11] ?_); simp only [go_sem]) | ((with_reducible refine aCd ?_ ?_ (fun hb => ?_) (fun hb => ?_)); (iterate 2 simp only [go_sem]); all_goals (simp only [go_sem] at hb; try simp only [bls] at hb)) | ((iterate 6 try ((fail_if_success with_reducible refine hK _ ?_ ?_ ?_); clear hK K)); with_reducible refine hK _ ?_ ?_ ?_; rotate_left; (focus (simp only [go_sem]; exact rfl)); clear hK K) | ((with_reducible refine xA ?_); simp only [go_sem]) | exact aZ | fail))
   all_goals first | omega | skip
   generalize hev2 : evsN n = evs at *
   have hOk := z7m hF
   have hlkT : ∀ s e, lkS s e T = lkE n s e (grE n nd) := fun s e => by rw [hTs, hEd]
   have hrng : ∀ s, ∀ x ∈ sucF (fun s e => lkS s e T) evs s, 0 ≤ x.2 ∧ x.2 < nd.length := fun s x hx => by
    have := z8v hF evs s x
    rw [show (fun s e => lkE n s e (grE n nd)) = fun s e => lkS s e T from funext fun s => funext fun e => (hlkT s e).symm] at this
    exact this hx
   have hO : autO n nd = bfs (sucF (fun s e => lkS s e T) evs) (nd.length + 1) 0 [0] [] := by
    rw [autO, hev2, show (fun s e => lkS s e T) = fun s e => lkE n s e (grE n nd) from funext fun s => funext fun e => hlkT s e]
   have hle := hF.le
   have hpos := z3d hF
   have hnodes := hF.nodes
   generalize hOO : autO n nd = O at *
   refine z14 [.cell 1 2 3 1, .cell 1 3 96 3] _ (by simp only [go_sem]; rfl) (Nat × Nat × List Int × List Edg) (fun s => O = bfs (sucF (fun s e => lkS s e T) evs) s.1 s.2.1 s.2.2.1 s.2.2.2 ∧ OrdOk nd.length s.2.2.1 ∧ s.2.1 ≤ s.2.2.1.length ∧ s.2.2.2.length ≤ 10 * s.2.1 ∧ s.1 + s.2.1 = nd.length + 1)
    (fun s => [(5, .one (.own 2)), (16, .one (.own 5)), (18, .one (.int .i64 s.2.1))])
    (fun s => [.var 32 [.list (ints n.init), .list (trsD n.trs)], .var 41 [.own 4, .int .i64 0, .own 7, .own 8], .row 29 1 (z0v ((s.2.2.1.take s.2.1).map (atM nd))), .map (.pair 3) (stK T), .row 3 1 (ints evs), .row 3 1 (ints s.2.2.1), .map (.int .i64) (ordK 0 s.2.2.1), .row 3 1 (ints (mkL nd mk s.2.2.1 s.2.1)), .row 96 3 (edgsD s.2.2.2)])
    (fun s => s.1) (nd.length + 1, 0, [0], []) ⟨hO, z8K hpos, by simp, by simp, by simp⟩ ?_ ?_
   ·have e0 : z0v (([0] : List Int).take 0 |>.map (atM nd)) = [] := rfl
    have e1 : ordK 0 [0] = [(.one (.int .i64 0), .one (.int .i64 0))] := rfl
    have e2 : ints (mkL nd mk [0] 0) = [] := rfl
    have e3 : edgsD [] = [] := rfl
    have e4 : ints [0] = [[.int .i64 0]] := rfl
    simp only [e0, e1, e2, e3, e4]
    (simp only [SubF, go_sem]; (try simp only [go_sem]); repeat' (first | exact True.intro | with_reducible refine And.intro ?_ ?_ | rfl | omega))
   rintro ⟨f, i, o, es⟩ ⟨hOe, hOo, hio, hes, hfi⟩ L hL
   simp only at hOe hOo hio hes hfi
   have hq : ((i : Nat) : Int).toNat = i := by omega
   have hol := hOo.le
   obtain ⟨f, rfl⟩ : ∃ g, f = g + 1 := ⟨f - 1, by omega⟩
   have htkl : ((o.take i).map (atM nd)).length = i := by rw [List.length_map, List.length_take]; omega
   have hmkl := zdv nd mk o i
   rw [zcR] at hOe
   by_cases hlt : i < o.length
   ·rw [if_pos hlt] at hOe
    have hs := hOo.rng _ (z01 o i 0 hlt)
    have ha := z0s (l := o) hlt
    have e1 : (o.take (i + 1)).map (atM nd) = (o.take i).map (atM nd) ++ [atM nd (o.getD i 0)] := by rw [z07 o i 0 hlt, List.map_append]; rfl
    have e2 := zh3 nd mk o i
    have hos : o.getD i 0 = o.getD i 0 := rfl
    generalize hss : o.getD i 0 = s at hOe hs ha e1 e2 hos
    have hsl : s.toNat < nd.length := by omega
    have a1 := z1X (l := nd) (k := s.toNat) hsl [.nil, .int .i64 0, .int .i64 0]
    have a2 := z1X (l := nd) (k := s.toNat) hsl []
    have hatM : atM nd s = (nd.getD s.toNat SN.no).m := rfl
    have hml2 := hnodes.len _ (z01 nd s.toNat SN.no hsl)
    rw [hatM] at e1 e2
    generalize nd.getD s.toNat SN.no = x at *
    have hCl := ACalls.frozen (z10 x.m (by omega))
    have hCF := z4a mk 33 [.ref [.list (ints x.m)]] (fun y => decide (y = x.m)) hmn (z42 _) (fun y hy => zjY x.m y (hml y hy))
    rw [zjd] at hCF
    (simp only [go_sem] at hL ⊢)
    (repeat' (first | (with_reducible first | refine And.intro ?_ ?_ | refine aBl ?_ | (refine aS 24 [33, 32, 34, 60, 59, 61, 133, 132, 25, 134] ?_; intro K hK)) | ((with_reducible first | refine aGo ?_ | refine rP Ty_ok mixed 29 [0, 4, 5] [.mid [pe 1, pe 2, pe 3, pe 6, pe 7, pe 8, pe 9, pe 10, ⟨11, 0, true, false, false, [], []⟩] 1, .one 12] ?_); simp only [hq, ha, a1, a2, htkl, go_sem]) | ((with_reducible refine aCd ?_ ?_ (fun hb => ?_) (fun hb => ?_)); (iterate 2 simp only [hq, ha, a1, a2, htkl, go_sem]); all_goals (simp only [hq, ha, a1, a2, htkl, go_sem] at hb; try simp only [bls] at hb)) | ((iterate 6 try ((fail_if_success with_reducible refine hK _ ?_ ?_ ?_); clear hK K)); with_reducible refine hK _ ?_ ?_ ?_; rotate_left; (focus (simp only [hq, ha, a1, a2, htkl, go_sem]; exact rfl)); clear hK K) | ((with_reducible refine xA ?_); simp only [hq, ha, a1, a2, htkl, go_sem]) | exact aZ | fail))
    all_goals first | omega | skip
    all_goals
     refine z02 _ (by simp only [go_sem]; rfl) (Nat × List Int × List Edg) (fun t => t.1 ≤ evs.length ∧ O = bfs (sucF (fun s e => lkS s e T) evs) f (i + 1) (bfsI i (sucF (fun s e => lkS s e T) (evs.drop t.1) s) t.2.1 t.2.2).1 (bfsI i (sucF (fun s e => lkS s e T) (evs.drop t.1) s) t.2.1 t.2.2).2 ∧ OrdOk nd.length t.2.1 ∧ o <+: t.2.1 ∧ t.2.2.length ≤ es.length + t.1)
      (fun t => [(16, .one (.own 5)), (134, .one (.int .i64 t.1))]) (fun t H => ((H.set 5 (.row 3 1 (ints t.2.1))).set 6 (.map (.int .i64) (ordK 0 t.2.1))).set 8 (.row 96 3 (edgsD t.2.2))) (fun t => evs.length - t.1) (0, o, es) ⟨by simp only; omega, by simpa using hOe, hOo, List.prefix_refl _, by simp only; omega⟩ ?_ ?_
     ·(simp only [SubF, List.set_cons_succ, List.set_cons_zero, go_sem]; (try simp only [List.set_cons_succ, List.set_cons_zero, go_sem]); repeat' (first | exact True.intro | with_reducible refine And.intro ?_ ?_ | rfl | omega))
     rintro ⟨j, o2, es2⟩ ⟨hj, hO2, hOo2, hpre, hes2⟩ L2 hL2
     simp only at hj hO2 hOo2 hpre hes2
     have hq2 : ((j : Nat) : Int).toNat = j := by omega
     have hol2 := hOo2.le
     have hi2 : i < o2.length := Nat.lt_of_lt_of_le hlt hpre.length_le
     have ha2 := z0s (l := o2) hi2
     rw [z8I hpre hlt, hss] at ha2
     by_cases hjl : j < evs.length
     ·have c1 := z0s (l := evs) hjl
      rw [z0H evs j 0 hjl, zc6] at hO2
      have hce := z01 evs j 0 hjl
      generalize evs.getD j 0 = e at c1 hO2 hce
      have hfk := z4s s e T
      have hrg := hrng s
      cases hlk : lkS s e T with
      | none =>
       rw [hlk] at hO2 hfk
       simp only [Option.map_none] at hfk
       simp only at hO2
       (simp only [List.set_cons_succ, List.set_cons_zero, go_sem] at hL2 ⊢)
       (repeat' (first | (with_reducible first | refine And.intro ?_ ?_ | refine aBl ?_ | (refine aS 24 [33, 32, 34, 60, 59, 61, 133, 132, 25, 134] ?_; intro K hK)) | ((with_reducible refine aGo ?_); simp only [hq2, hq, ha2, c1, hfk, Option.getD_none, Option.isSome_none, go_sem]) | ((with_reducible refine aCd ?_ ?_ (fun hb => ?_) (fun hb => ?_)); (iterate 2 simp only [hq2, hq, ha2, c1, hfk, Option.getD_none, Option.isSome_none, go_sem]); all_goals (simp only [hq2, hq, ha2, c1, hfk, Option.getD_none, Option.isSome_none, go_sem] at hb; try simp only [bls] at hb)) | ((iterate 6 try ((fail_if_success with_reducible refine hK _ ?_ ?_ ?_); clear hK K)); with_reducible refine hK _ ?_ ?_ ?_; rotate_left; (focus (simp only [hq2, hq, ha2, c1, hfk, Option.getD_none, Option.isSome_none, go_sem]; exact rfl)); clear hK K) | exact aZ | fail))
       all_goals first | omega | skip
       exact hL2 _ (j + 1, o2, es2) ⟨by simp only; omega, hO2, hOo2, hpre, by simp only; omega⟩ (by (simp only [SubF, List.set_cons_succ, List.set_cons_zero, go_sem]; (try simp only [List.set_cons_succ, List.set_cons_zero, go_sem]); repeat' (first | exact True.intro | with_reducible refine And.intro ?_ ?_ | rfl | omega))) (by simp only; omega)
      | some y =>
       rw [hlk] at hO2 hfk
       simp only [Option.map_some] at hfk
       simp only [zaI] at hO2
       have hfo := z2u y o2 0
       cases hix : ixF y 0 o2 with
       | some k =>
        rw [hix] at hO2 hfo
        simp only [Option.map_some] at hfo
        simp only at hO2
        have hkl := z5R hix
        (simp only [List.set_cons_succ, List.set_cons_zero, go_sem] at hL2 ⊢)
        (repeat' (first | (with_reducible first | refine And.intro ?_ ?_ | refine aBl ?_ | (refine aS 24 [33, 32, 34, 60, 59, 61, 133, 132, 25, 134] ?_; intro K hK)) | ((with_reducible refine aGo ?_); simp only [hq2, hq, ha2, c1, hfk, hfo, Option.getD_some, Option.isSome_some, go_sem]) | ((with_reducible refine aCd ?_ ?_ (fun hb => ?_) (fun hb => ?_)); (iterate 2 simp only [hq2, hq, ha2, c1, hfk, hfo, Option.getD_some, Option.isSome_some, go_sem]); all_goals (simp only [hq2, hq, ha2, c1, hfk, hfo, Option.getD_some, Option.isSome_some, go_sem] at hb; try simp only [bls] at hb)) | ((iterate 6 try ((fail_if_success with_reducible refine hK _ ?_ ?_ ?_); clear hK K)); with_reducible refine hK _ ?_ ?_ ?_; rotate_left; (focus (simp only [hq2, hq, ha2, c1, hfk, hfo, Option.getD_some, Option.isSome_some, go_sem]; exact rfl)); clear hK K) | exact aZ | fail))
        all_goals first | omega | skip
        refine hL2 _ (j + 1, o2, es2 ++ [⟨i, e, k⟩]) ⟨by simp only; omega, hO2, hOo2, hpre, by simp only [List.length_append, List.length_singleton]; omega⟩ ?_ (by simp only; omega)
        simp only [z2v]
        (simp only [SubF, List.set_cons_succ, List.set_cons_zero, go_sem]; (try simp only [List.set_cons_succ, List.set_cons_zero, go_sem]); repeat' (first | exact True.intro | with_reducible refine And.intro ?_ ?_ | rfl | omega))
       | none =>
        rw [hix] at hO2 hfo
        simp only [Option.map_none] at hfo
        simp only at hO2
        have hset := z6n hix
        rw [Nat.zero_add] at hset
        have hfo2 := z2u y (o2 ++ [y]) 0
        rw [z8Z (ixF_none.1 hix), Nat.zero_add] at hfo2
        simp only [Option.map_some] at hfo2
        (simp only [List.set_cons_succ, List.set_cons_zero, go_sem] at hL2 ⊢)
        (repeat' (first | (with_reducible first | refine And.intro ?_ ?_ | refine aBl ?_ | (refine aS 24 [33, 32, 34, 60, 59, 61, 133, 132, 25, 134] ?_; intro K hK)) | ((with_reducible refine aGo ?_); simp only [hq2, hq, ha2, c1, hfk, hfo, hset, hfo2, Option.getD_some, Option.isSome_some, Option.getD_none, Option.isSome_none, go_sem]) | ((with_reducible refine aCd ?_ ?_ (fun hb => ?_) (fun hb => ?_)); (iterate 2 simp only [hq2, hq, ha2, c1, hfk, hfo, hset, hfo2, Option.getD_some, Option.isSome_some, Option.getD_none, Option.isSome_none, go_sem]); all_goals (simp only [hq2, hq, ha2, c1, hfk, hfo, hset, hfo2, Option.getD_some, Option.isSome_some, Option.getD_none, Option.isSome_none, go_sem] at hb; try simp only [bls] at hb)) | ((iterate 6 try ((fail_if_success with_reducible refine hK _ ?_ ?_ ?_); clear hK K)); with_reducible refine hK _ ?_ ?_ ?_; rotate_left; (focus (simp only [hq2, hq, ha2, c1, hfk, hfo, hset, hfo2, Option.getD_some, Option.isSome_some, Option.getD_none, Option.isSome_none, go_sem]; exact rfl)); clear hK K) | exact aZ | fail))
        all_goals first | omega | skip
        refine hL2 _ (j + 1, o2 ++ [y], es2 ++ [⟨i, e, o2.length⟩]) ⟨by simp only; omega, hO2, hOo2.snoc (ixF_none.1 hix) (hrg (e, y) (by rw [sucF, List.mem_filterMap]; exact ⟨e, hce, by rw [hlk]; rfl⟩)), hpre.trans (List.prefix_append _ _), by simp only [List.length_append, List.length_singleton]; omega⟩ ?_ (by simp only; omega)
        simp only [z2v, ← z0f]
        (simp only [SubF, z0e, List.set_cons_succ, List.set_cons_zero, go_sem]; (try simp only [z0e, List.set_cons_succ, List.set_cons_zero, go_sem]); repeat' (first | exact True.intro | with_reducible refine And.intro ?_ ?_ | rfl | omega))
     have hjl2 : j = evs.length := by omega
     subst hjl2
     rw [List.drop_length, zih] at hO2
     (simp only [List.set_cons_succ, List.set_cons_zero, go_sem] at hL2 ⊢)
     (repeat' (first | (with_reducible first | refine And.intro ?_ ?_ | refine aBl ?_ | (refine aS 24 [33, 32, 34, 60, 59, 61, 133, 132, 25, 134] ?_; intro K hK)) | ((with_reducible refine aGo ?_); simp only [go_sem]) | ((with_reducible refine aCd ?_ ?_ (fun hb => ?_) (fun hb => ?_)); (iterate 2 simp only [go_sem]); all_goals (simp only [go_sem] at hb; try simp only [bls] at hb)) | ((iterate 6 try ((fail_if_success with_reducible refine hK _ ?_ ?_ ?_); clear hK K)); with_reducible refine hK _ ?_ ?_ ?_; rotate_left; (focus (simp only [go_sem]; exact rfl)); clear hK K) | exact aZ | fail))
     all_goals first | omega | skip
     have t1 : (o2.take (i + 1)).map (atM nd) = (o.take i).map (atM nd) ++ [x.m] := by rw [zgQ hpre (by omega), e1]
     have t2 : mkL nd mk o2 (i + 1) = mkL nd mk o i ++ if x.m ∈ mk then [(i : Int)] else [] := by rw [ziI hpre (by omega), e2]
     refine hL _ (f, i + 1, o2, es2) ⟨hO2, hOo2, by simp only; omega, by simp only; omega, by simp only; omega⟩ ?_ (by simp only; omega)
     first | rw [if_pos (by assumption)] at t2 | rw [if_neg (by assumption), List.append_nil] at t2
     simp only [t1, t2, z7H, ← z0f]
     (simp only [SubF, z0e, List.set_cons_succ, List.set_cons_zero, go_sem]; (try simp only [z0e, List.set_cons_succ, List.set_cons_zero, go_sem]); repeat' (first | exact True.intro | with_reducible refine And.intro ?_ ?_ | rfl | omega))
   ·rw [if_neg hlt] at hOe
    have hil : i = o.length := by omega
    subst hil
    have hA : autA n nd mk = ⟨evs, o.length, mkL nd mk o o.length, es⟩ := by rw [autA, hev2, hOO, hOe]
    have hMs : autM n nd = o.map (atM nd) := by rw [autM, hOO, hOe]
    rw [hA, hMs] at hR
    subst hR
    rw [List.take_length] at *
    simp only [auR, Aut.d]
    (simp only [go_sem] at hL ⊢)
    (repeat' (first | (with_reducible first | refine And.intro ?_ ?_ | refine aBl ?_ | (refine aS 24 [33, 32, 34, 60, 59, 61, 133, 132, 25, 134] ?_; intro K hK)) | ((with_reducible first | refine aGo ?_ | refine rP Ty_ok mixed 29 [0, 4, 5] [.mid [pe 1, pe 2, pe 3, pe 6, pe 7, pe 8, pe 9, pe 10, ⟨11, 0, true, false, false, [], []⟩] 1, .one 12] ?_); simp only [go_sem]) | ((with_reducible refine aCd ?_ ?_ (fun hb => ?_) (fun hb => ?_)); (iterate 2 simp only [go_sem]); all_goals (simp only [go_sem] at hb; try simp only [bls] at hb)) | ((iterate 6 try ((fail_if_success with_reducible refine hK _ ?_ ?_ ?_); clear hK K)); with_reducible refine hK _ ?_ ?_ ?_; rotate_left; (focus (simp only [go_sem]; exact rfl)); clear hK K) | exact aZ | fail))
    all_goals first | omega | rfl | skip
 ·have hR : autF n mk = .inl (netE n) := by rw [autF, if_pos hE]
  rw [hR]
  simp only [Net.d] at h1
  simp only [auR]
  (refine ACalls.of_body Ty_ok mixed Tryz.func9 rfl (by kernel_rfl) Tryz.ntmps9 (by simp) (congrArg Array.toList Tryz.results9) ?_)
  simp only [z00, Net.d]
  (repeat' (first | (with_reducible first | refine aBl ?_ | (refine aS 24 [33, 32, 34, 60, 59, 61, 133, 132, 25, 134] ?_; intro K hK)) | ((with_reducible refine aGo ?_); simp only [go_sem]) | ((with_reducible refine aCd ?_ ?_ (fun hb => ?_) (fun hb => ?_)); (iterate 2 simp only [go_sem]); all_goals (simp only [go_sem] at hb; try simp only [bls] at hb)) | ((iterate 6 try ((fail_if_success with_reducible refine hK _ ?_ ?_ ?_); clear hK K)); with_reducible refine hK _ ?_ ?_ ?_; rotate_left; (focus (simp only [go_sem]; exact rfl)); clear hK K) | ((with_reducible refine xA ?_); simp only [go_sem]) | exact aZ | fail))
  all_goals first | omega | rfl | skip
end Go.Proofs.YtkjllcmpjghmkaaGreatDoor
