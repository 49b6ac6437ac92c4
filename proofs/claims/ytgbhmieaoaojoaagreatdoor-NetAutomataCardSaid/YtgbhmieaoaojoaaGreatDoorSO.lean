/-
 Contracts: the law's own path and search.
-/
import Derived.Test.YtgbhmieaoaojoaaGreatDoorSN
set_option linter.unusedSimpArgs false
set_option linter.unusedVariables false
namespace Go.Proofs.YtgbhmieaoaojoaaGreatDoor
open Go.Eng Go.RowKit
def lsR : SOut → AV
 | .err e => .tup [.one (.list []), .one (.int .i64 (-1)), .one (.list []), .one (.int .i64 e)]
 | .pump nd _ _ => .tup [.one (.list (snsD nd)), .one (.int .i64 ((nd.length : Int) - 1)), .one (.list []), .one (.int .i64 0)]
 | .cont nd ed => .tup [.one (.list (snsD nd)), .one (.int .i64 (-1)), .one (.list (edgsD ed)), .one (.int .i64 0)]
theorem fine_tok {l : List Int} (h : ∀ x ∈ l, 0 ≤ x) : fineB l = !l.any tokB := by
 induction l with
 | nil => rfl
 | cons a l ih =>
  have h1 := h a (by simp)
  simp only [fineB, List.all_cons, List.any_cons, Bool.not_or] at ih ⊢
  rw [ih fun x hx => h x (by simp [hx])]
  congr 1
  rw [Bool.eq_iff_iff, decide_eq_true_eq, Bool.not_eq_true', tokB, Bool.or_eq_false_iff, decide_eq_false_iff_not, decide_eq_false_iff_not]
  omega
theorem fired_nonneg {m : List Int} {t : Tr} (h1 : ArcsIn m.length t.inn) (h2 : ArcsIn m.length t.out) (he : enB m t = true) (hm : ∀ x ∈ m, 0 ≤ x ∧ x ≤ 65536) : ∀ x ∈ firedL t m, 0 ≤ x ∧ x ≤ 65544 := fun x hx => by
 have := firedL_bound h1 h2 he hm x hx; omega
theorem fndF_drop {m : List Int} {l : List SN} {k : Nat} {r : Option Nat} (hk : k < l.length) (h : fndF m k (l.drop k) = r) : r = if (l.getD k SN.no).m = m then some k else fndF m (k + 1) (l.drop (k + 1)) := by
 rw [drop_getD l k SN.no hk, fndF] at h
 exact h.symm
set_option maxRecDepth 20000 in
set_option maxHeartbeats 64000000 in
theorem lawSearch_c (n : Net) (hn : NetOk n) : ACalls Tryz.prog 27 [.agg n.d, .one (.int .i64 60)] (lsR (searchF n 60)) [] := by
 have hi10 := hn.init
 have ht10 := hn.trs
 have hfit := hn.fits
 have hR : searchF n 60 = outerF n 60 62 0 [⟨n.init, -1, -1⟩] [] := rfl
 generalize searchF n 60 = R at *
 (refine ACalls.of_body Ty_ok mixed Tryz.func27 rfl (by kernel_rfl) Tryz.ntmps27 (by simp) (congrArg Array.toList Tryz.results27) ?_)
 simp only [slotsOf, Net.d]
 (repeat' (first | (with_reducible first | exact True.intro | refine And.intro ?_ ?_ | refine aBl ?_ | (refine aS 16 [] ?_; intro K hK)) | ((with_reducible first | refine aGo ?_ | refine rP Ty_ok mixed 9 [1, 2, 6] [.mid [pe 0, pe 3, pe 4, pe 5] 0, .one 7, .one 8] ?_ | refine rP Ty_ok mixed 10 [1, 2, 6] [.mid [pe 0, pe 3, pe 4, pe 5] 0, .one 7, .mid [pe 8, pe 9, pe 10, pe 11, pe 12] 0] ?_); simp only [go_sem]) | ((with_reducible refine aCd ?_ ?_ (fun hb => ?_) (fun hb => ?_)); (iterate 2 simp only [go_sem]); all_goals (simp only [go_sem] at hb; try simp only [bls] at hb)) | ((iterate 6 try ((fail_if_success with_reducible refine hK _ ?_ ?_ ?_); clear hK K)); with_reducible refine hK _ ?_ ?_ ?_; rotate_left; (focus (simp only [go_sem]; exact rfl)); clear hK K) | (with_reducible refine aGs (fun hg0 => ?_) (fun hg0 => ?_) <;> first | (with_reducible first | exact aF1 hg0 | exact aF2 hg0) | (simp only [hg0, go_sem])) | (with_reducible refine aNk ?_; intro bnil hnil; try simp only []) | exact aZ | fail))
 refine awp_loop _ (by simp only [go_sem]; rfl) (Nat × Nat × List SN × List Edg)
  (fun s => R = outerF n 60 s.1 s.2.1 s.2.2.1 s.2.2.2 ∧ NodesOk n.init.length s.2.2.1 ∧ s.2.1 ≤ s.2.2.1.length ∧ s.2.2.1.length ≤ 60 ∧ s.2.2.2.length ≤ 10 * s.2.1 ∧ s.1 + s.2.1 = 62)
  (fun s => [(8, .one (.own 3)), (9, .one (.own 4)), (10, .one (.int .i64 s.2.1))])
  (fun s H => (H.set 3 (.row 141 3 (snsD s.2.2.1))).set 4 (.row 88 3 (edgsD s.2.2.2)))
  (fun s => s.1) (62, 0, [⟨n.init, -1, -1⟩], []) ⟨hR, nodesOk_one hn.tok, by simp only; omega, by simp only [List.length_singleton]; omega, by simp only [List.length_nil]; omega, rfl⟩ ?_ ?_
 ·rw [show edgsD [] = [] from rfl, ← sns_one]
  (simp only [SubF, List.set_cons_succ, List.set_cons_zero, go_sem]; (try simp only [List.set_cons_succ, List.set_cons_zero, go_sem]); repeat' (first | exact True.intro | with_reducible refine And.intro ?_ ?_ | rfl | omega))
 rintro ⟨f, i, nodes, edges⟩ ⟨hres, hN, hi, hl, he, hf⟩ L hL
 simp only at hres hN hi hl he hf
 by_cases hik : i < nodes.length
 ·have hml := hN.len _ (getD_mem nodes i SN.no hik)
  have hmt := hN.tok _ (getD_mem nodes i SN.no hik)
  obtain ⟨f, rfl⟩ : ∃ g, f = g + 1 := ⟨f - 1, by omega⟩
  rw [outer_succ, if_pos hik, ← ablD_all] at hres
  have hx : nodes.getD i SN.no = nodes.getD i SN.no := rfl
  generalize hxx : nodes.getD i SN.no = x at hres hml hmt
  (simp only [List.set_cons_succ, List.set_cons_zero, go_sem] at hL ⊢)
  (repeat' (first | (with_reducible first | exact True.intro | refine And.intro ?_ ?_ | refine aBl ?_ | (refine aS 16 [] ?_; intro K hK)) | ((with_reducible first | refine aGo ?_ | refine rP Ty_ok mixed 9 [1, 2, 6] [.mid [pe 0, pe 3, pe 4, pe 5] 0, .one 7, .one 8] ?_ | refine rP Ty_ok mixed 10 [1, 2, 6] [.mid [pe 0, pe 3, pe 4, pe 5] 0, .one 7, .mid [pe 8, pe 9, pe 10, pe 11, pe 12] 0] ?_); simp only [Int.toNat_natCast, go_sem]) | ((with_reducible refine aCd ?_ ?_ (fun hb => ?_) (fun hb => ?_)); (iterate 2 simp only [Int.toNat_natCast, go_sem]); all_goals (simp only [Int.toNat_natCast, go_sem] at hb; try simp only [bls] at hb)) | ((iterate 6 try ((fail_if_success with_reducible refine hK _ ?_ ?_ ?_); clear hK K)); with_reducible refine hK _ ?_ ?_ ?_; rotate_left; (focus (simp only [Int.toNat_natCast, go_sem]; exact rfl)); clear hK K) | (with_reducible refine aGs (fun hg0 => ?_) (fun hg0 => ?_) <;> first | (with_reducible first | exact aF1 hg0 | exact aF2 hg0) | (simp only [hg0, Int.toNat_natCast, go_sem])) | (with_reducible refine aNk ?_; intro bnil hnil; try simp only []) | exact aZ | fail))
  all_goals first | omega | skip
  refine awp_loop _ (by simp only [go_sem]; rfl) (Nat × List SN × List Edg)
   (fun s => s.1 ≤ n.trs.length ∧ R = restF n 60 f i (ablD n x.m (n.trs.length - s.1) s.1) s.2.1 s.2.2 ∧ NodesOk n.init.length s.2.1 ∧ i < s.2.1.length ∧ s.2.1.length ≤ 60 ∧ s.2.2.length ≤ 10 * i + s.1 ∧ s.2.1.getD i SN.no = x)
   (fun s => [(8, .one (.own 3)), (9, .one (.own 4)), (11, .one (.int .i64 s.1))])
   (fun s H => (H.set 3 (.row 141 3 (snsD s.2.1))).set 4 (.row 88 3 (edgsD s.2.2)))
   (fun s => n.trs.length - s.1) (0, nodes, edges) ⟨by simp only; omega, by simpa using hres, hN, hik, hl, by simp only; omega, hxx⟩ ?_ ?_
  ·(simp only [SubF, List.set_cons_succ, List.set_cons_zero, go_sem]; (try simp only [List.set_cons_succ, List.set_cons_zero, go_sem]); repeat' (first | exact True.intro | with_reducible refine And.intro ?_ ?_ | rfl | omega))
  clear hres hN he hl hik hx hxx hi
  rintro ⟨j, nd, es⟩ ⟨hj, hres, hN, hik, hl, he, hxx⟩ L2 hL2
  simp only at hj hres hN hik hl he hxx
  have hq : ((j : Nat) : Int).toNat = j := by omega
  by_cases hjl : j < n.trs.length
  ·obtain ⟨r, hr⟩ : ∃ r, n.trs.length - j = r + 1 := ⟨n.trs.length - j - 1, by omega⟩
   rw [hr, ablD] at hres
   have hat := sns_at (l := nd) (k := i) hik [.nil, .int .i64 0, .int .i64 0]
   have hat2 := sns_at (l := nd) (k := i) hik []
   rw [hxx] at hat hat2
   have hmem := getD_mem n.trs j Tr.no hjl
   have hin := hn.inn _ hmem
   have hout := hn.out _ hmem
   have hEn := lawEn_c n x.m j hfit (by omega) (by omega)
   have hFi := lawFire_c n x.m j hfit (by omega) ⟨fun y hy => by have := hmt y hy; omega⟩ (by omega) (by rw [hq]; exact hin.weight) (by rw [hq]; exact hout.weight)
   rw [hq] at hEn hFi
   rw [← hml] at hin hout
   rw [enW_enB hin fun y hy => (hmt y hy).1] at hEn
   rw [fireW_fired hin hout] at hFi
   have hst : stepF n 60 i j nd es = if (firedL (n.trs.getD j Tr.no) x.m).any tokB = true then .err 3 else match fndF (firedL (n.trs.getD j Tr.no) x.m) 0 nd with
    | some k => .cont nd (es ++ [(⟨i, j, k⟩ : Edg)])
    | none => if 0 ≤ pumpsF (nd ++ [(⟨firedL (n.trs.getD j Tr.no) x.m, i, j⟩ : SN)]) then .pump (nd ++ [(⟨firedL (n.trs.getD j Tr.no) x.m, i, j⟩ : SN)]) es (pumpsF (nd ++ [(⟨firedL (n.trs.getD j Tr.no) x.m, i, j⟩ : SN)])) else if 60 < (nd ++ [(⟨firedL (n.trs.getD j Tr.no) x.m, i, j⟩ : SN)]).length then .err 3 else .cont (nd ++ [(⟨firedL (n.trs.getD j Tr.no) x.m, i, j⟩ : SN)]) (es ++ [(⟨i, j, nd.length⟩ : Edg)]) := by
    rw [← hxx]; rfl
   generalize n.trs.getD j Tr.no = tr at *
   have hfl := firedL_length tr x.m
   cases hE : enB x.m tr
   ·rw [hE, if_neg (by decide)] at hres
    rw [hE] at hEn
    simp only [Net.d] at hEn
    (simp only [List.set_cons_succ, List.set_cons_zero, go_sem] at hL2 ⊢)
    (repeat' (first | (with_reducible first | exact True.intro | refine And.intro ?_ ?_ | refine aBl ?_ | (refine aS 16 [] ?_; intro K hK)) | ((with_reducible first | refine aGo ?_ | refine rP Ty_ok mixed 9 [1, 2, 6] [.mid [pe 0, pe 3, pe 4, pe 5] 0, .one 7, .one 8] ?_ | refine rP Ty_ok mixed 10 [1, 2, 6] [.mid [pe 0, pe 3, pe 4, pe 5] 0, .one 7, .mid [pe 8, pe 9, pe 10, pe 11, pe 12] 0] ?_); simp only [hq, hat, hat2, Int.toNat_natCast, go_sem]) | ((with_reducible refine aCd ?_ ?_ (fun hb => ?_) (fun hb => ?_)); (iterate 2 simp only [hq, hat, hat2, Int.toNat_natCast, go_sem]); all_goals (simp only [hq, hat, hat2, Int.toNat_natCast, go_sem] at hb; try simp only [bls] at hb)) | ((iterate 6 try ((fail_if_success with_reducible refine hK _ ?_ ?_ ?_); clear hK K)); with_reducible refine hK _ ?_ ?_ ?_; rotate_left; (focus (simp only [hq, hat, hat2, Int.toNat_natCast, go_sem]; exact rfl)); clear hK K) | ((first | (with_reducible first | refine xA ?_ | refine xD ?_ | refine xO ?_ | refine xR ?_ | refine xG ?_ | refine xH ?_ | refine xM ?_) | ((with_reducible refine gA ?_); refine xA ?_) | ((with_reducible refine gD ?_); refine xD ?_) | ((with_reducible refine gG ?_); refine xG ?_)); simp only [hq, hat, hat2, Int.toNat_natCast, go_sem]) | (with_reducible refine aGs (fun hg0 => ?_) (fun hg0 => ?_) <;> first | (with_reducible first | exact aF1 hg0 | exact aF2 hg0) | (simp only [hg0, hq, hat, hat2, Int.toNat_natCast, go_sem])) | (with_reducible refine aNk ?_; intro bnil hnil; try simp only []) | exact aZ | fail))
    all_goals first | omega | skip
    refine hL2 _ (j + 1, nd, es) ⟨by simp only; omega, by rw [show n.trs.length - (j + 1) = r by omega]; exact hres, hN, hik, hl, by simp only; omega, hxx⟩ ?_ (by simp only; omega)
    (simp only [SubF, List.set_cons_succ, List.set_cons_zero, go_sem]; (try simp only [List.set_cons_succ, List.set_cons_zero, go_sem]); repeat' (first | exact True.intro | with_reducible refine And.intro ?_ ?_ | rfl | omega))
   ·rw [hE, if_pos rfl, rest_cons, hst] at hres
    clear hst
    rw [hE] at hEn
    have hnn := fired_nonneg hin hout hE hmt
    rw [fine_tok fun y hy => (hnn y hy).1] at hFi
    simp only [Net.d] at hEn hFi
    cases hbad : (firedL tr x.m).any tokB
    ·rw [hbad, if_neg (by decide)] at hres
     rw [hbad] at hFi
     have hok : ∀ y ∈ firedL tr x.m, 0 ≤ y ∧ y ≤ 65536 := any_tokF hbad
     generalize firedL tr x.m = m at *
     (simp only [List.set_cons_succ, List.set_cons_zero, go_sem] at hL2 ⊢)
     (repeat' (first | (with_reducible first | exact True.intro | refine And.intro ?_ ?_ | refine aBl ?_ | (refine aS 16 [] ?_; intro K hK)) | ((with_reducible first | refine aGo ?_ | refine rP Ty_ok mixed 9 [1, 2, 6] [.mid [pe 0, pe 3, pe 4, pe 5] 0, .one 7, .one 8] ?_ | refine rP Ty_ok mixed 10 [1, 2, 6] [.mid [pe 0, pe 3, pe 4, pe 5] 0, .one 7, .mid [pe 8, pe 9, pe 10, pe 11, pe 12] 0] ?_); simp only [hq, hat, hat2, Int.toNat_natCast, go_sem]) | ((with_reducible refine aCd ?_ ?_ (fun hb => ?_) (fun hb => ?_)); (iterate 2 simp only [hq, hat, hat2, Int.toNat_natCast, go_sem]); all_goals (simp only [hq, hat, hat2, Int.toNat_natCast, go_sem] at hb; try simp only [bls] at hb)) | ((iterate 6 try ((fail_if_success with_reducible refine hK _ ?_ ?_ ?_); clear hK K)); with_reducible refine hK _ ?_ ?_ ?_; rotate_left; (focus (simp only [hq, hat, hat2, Int.toNat_natCast, go_sem]; exact rfl)); clear hK K) | ((first | (with_reducible first | refine xA ?_ | refine xD ?_ | refine xO ?_ | refine xR ?_ | refine xG ?_ | refine xH ?_ | refine xM ?_) | ((with_reducible refine gA ?_); refine xA ?_) | ((with_reducible refine gD ?_); refine xD ?_) | ((with_reducible refine gG ?_); refine xG ?_)); simp only [hq, hat, hat2, Int.toNat_natCast, go_sem]) | (with_reducible refine aGs (fun hg0 => ?_) (fun hg0 => ?_) <;> first | (with_reducible first | exact aF1 hg0 | exact aF2 hg0) | (simp only [hg0, hq, hat, hat2, Int.toNat_natCast, go_sem])) | (with_reducible refine aNk ?_; intro bnil hnil; try simp only []) | exact aZ | fail))
     all_goals first | omega | skip
     refine awp_loop _ (by simp only [go_sem]; rfl) Nat (fun k => k ≤ nd.length ∧ fndF m k (nd.drop k) = fndF m 0 nd) (fun k => [(14, .one (.int .i64 k))]) (fun _ H => H) (fun k => nd.length - k) 0 ⟨Nat.zero_le _, rfl⟩ ?_ ?_
     ·(simp only [SubF, go_sem]; (try simp only [go_sem]); repeat' (first | exact True.intro | with_reducible refine And.intro ?_ ?_ | rfl | omega))
     rintro k ⟨hk, hkf⟩ L3 hL3
     have hqk : ((k : Nat) : Int).toNat = k := by omega
     by_cases hkl : k < nd.length
     ·have ht := fndF_drop hkl hkf
      have b1 := sns_at (l := nd) (k := k) hkl [.nil, .int .i64 0, .int .i64 0]
      have b2 := sns_at (l := nd) (k := k) hkl []
      have hSI := SameInts_c (nd.getD k SN.no).m m (by rw [hN.len _ (getD_mem nd k SN.no hkl)]; omega)
      by_cases heq : (nd.getD k SN.no).m = m
      ·rw [if_pos heq] at ht
       rw [decide_eq_true heq] at hSI
       rw [ht] at hres
       simp only at hres
       (simp only [go_sem] at hL ⊢)
       (repeat' (first | (with_reducible first | exact True.intro | refine And.intro ?_ ?_ | refine aBl ?_ | (refine aS 16 [] ?_; intro K hK)) | ((with_reducible first | refine aGo ?_ | refine rP Ty_ok mixed 9 [1, 2, 6] [.mid [pe 0, pe 3, pe 4, pe 5] 0, .one 7, .one 8] ?_ | refine rP Ty_ok mixed 10 [1, 2, 6] [.mid [pe 0, pe 3, pe 4, pe 5] 0, .one 7, .mid [pe 8, pe 9, pe 10, pe 11, pe 12] 0] ?_); simp only [hq, hqk, hat, hat2, b1, b2, Int.toNat_natCast, go_sem]) | ((with_reducible refine aCd ?_ ?_ (fun hb => ?_) (fun hb => ?_)); (iterate 2 simp only [hq, hqk, hat, hat2, b1, b2, Int.toNat_natCast, go_sem]); all_goals (simp only [hq, hqk, hat, hat2, b1, b2, Int.toNat_natCast, go_sem] at hb; try simp only [bls] at hb)) | ((iterate 6 try ((fail_if_success with_reducible refine hK _ ?_ ?_ ?_); clear hK K)); with_reducible refine hK _ ?_ ?_ ?_; rotate_left; (focus (simp only [hq, hqk, hat, hat2, b1, b2, Int.toNat_natCast, go_sem]; exact rfl)); clear hK K) | ((first | (with_reducible first | refine xA ?_ | refine xD ?_ | refine xO ?_ | refine xR ?_ | refine xG ?_ | refine xH ?_ | refine xM ?_) | ((with_reducible refine gA ?_); refine xA ?_) | ((with_reducible refine gD ?_); refine xD ?_) | ((with_reducible refine gG ?_); refine xG ?_)); simp only [hq, hqk, hat, hat2, b1, b2, Int.toNat_natCast, go_sem]) | (with_reducible refine aGs (fun hg0 => ?_) (fun hg0 => ?_) <;> first | (with_reducible first | exact aF1 hg0 | exact aF2 hg0) | (simp only [hg0, hq, hqk, hat, hat2, b1, b2, Int.toNat_natCast, go_sem])) | (with_reducible refine aNk ?_; intro bnil hnil; try simp only []) | exact aZ | fail))
       all_goals first | omega | skip
       refine hL2 _ (j + 1, nd, es ++ [(⟨i, j, k⟩ : Edg)]) ⟨by simp only; omega, by rw [show n.trs.length - (j + 1) = r by omega]; exact hres, hN, hik, hl, by simp only [List.length_append, List.length_singleton]; omega, hxx⟩ ?_ (by simp only; omega)
       simp only [edgs_snoc]
       (simp only [SubF, List.set_cons_succ, List.set_cons_zero, go_sem]; (try simp only [List.set_cons_succ, List.set_cons_zero, go_sem]); repeat' (first | exact True.intro | with_reducible refine And.intro ?_ ?_ | rfl | omega))
      ·rw [if_neg heq] at ht
       rw [decide_eq_false heq] at hSI
       (simp only [go_sem] at hL ⊢)
       (repeat' (first | (with_reducible first | exact True.intro | refine And.intro ?_ ?_ | refine aBl ?_ | (refine aS 16 [] ?_; intro K hK)) | ((with_reducible first | refine aGo ?_ | refine rP Ty_ok mixed 9 [1, 2, 6] [.mid [pe 0, pe 3, pe 4, pe 5] 0, .one 7, .one 8] ?_ | refine rP Ty_ok mixed 10 [1, 2, 6] [.mid [pe 0, pe 3, pe 4, pe 5] 0, .one 7, .mid [pe 8, pe 9, pe 10, pe 11, pe 12] 0] ?_); simp only [hq, hqk, hat, hat2, b1, b2, Int.toNat_natCast, go_sem]) | ((with_reducible refine aCd ?_ ?_ (fun hb => ?_) (fun hb => ?_)); (iterate 2 simp only [hq, hqk, hat, hat2, b1, b2, Int.toNat_natCast, go_sem]); all_goals (simp only [hq, hqk, hat, hat2, b1, b2, Int.toNat_natCast, go_sem] at hb; try simp only [bls] at hb)) | ((iterate 6 try ((fail_if_success with_reducible refine hK _ ?_ ?_ ?_); clear hK K)); with_reducible refine hK _ ?_ ?_ ?_; rotate_left; (focus (simp only [hq, hqk, hat, hat2, b1, b2, Int.toNat_natCast, go_sem]; exact rfl)); clear hK K) | ((first | (with_reducible first | refine xA ?_ | refine xD ?_ | refine xO ?_ | refine xR ?_ | refine xG ?_ | refine xH ?_ | refine xM ?_) | ((with_reducible refine gA ?_); refine xA ?_) | ((with_reducible refine gD ?_); refine xD ?_) | ((with_reducible refine gG ?_); refine xG ?_)); simp only [hq, hqk, hat, hat2, b1, b2, Int.toNat_natCast, go_sem]) | (with_reducible refine aGs (fun hg0 => ?_) (fun hg0 => ?_) <;> first | (with_reducible first | exact aF1 hg0 | exact aF2 hg0) | (simp only [hg0, hq, hqk, hat, hat2, b1, b2, Int.toNat_natCast, go_sem])) | (with_reducible refine aNk ?_; intro bnil hnil; try simp only []) | exact aZ | fail))
       all_goals first | omega | skip
       exact hL3 _ (k + 1) ⟨by omega, ht.symm⟩ (by (simp only [SubF, go_sem]; (try simp only [go_sem]); repeat' (first | exact True.intro | with_reducible refine And.intro ?_ ?_ | rfl | omega))) (by omega)
     ·have hkn : k = nd.length := by omega
      subst hkn
      rw [List.drop_length, fndF] at hkf
      rw [← hkf] at hres
      simp only at hres
      have hN2 := hN.snoc (m := m) (i := i) (t := (j : Int)) (by omega) hok hik
      have hnl : (nd ++ [(⟨m, (i : Int), (j : Int)⟩ : SN)]).length = nd.length + 1 := by simp
      have hps : pumpsF (nd ++ [(⟨m, (i : Int), (j : Int)⟩ : SN)]) = pumpF (nd ++ [(⟨m, (i : Int), (j : Int)⟩ : SN)]) m (nd.length + 2) i (-1) := by
       rw [pumpsF, hnl, Nat.add_sub_cancel, getD_append_last]
      have hap := any_pump (nd ++ [(⟨m, (i : Int), (j : Int)⟩ : SN)]) m (nd.length + 2) i (-1)
      rw [← hps] at hap
      have hxx2 : (nd ++ [(⟨m, (i : Int), (j : Int)⟩ : SN)]).getD i SN.no = x := by rw [getD_append_lt _ _ _ _ hik]; exact hxx
      have hsn := sns_snoc nd m i j
      generalize nd ++ [(⟨m, (i : Int), (j : Int)⟩ : SN)] = nd2 at *
      generalize pumpsF nd2 = pv at *
      generalize hA : anyF nd2 m (nd.length + 2) i = A at hap
      (simp only [go_sem] at hL ⊢)
      (repeat' (first | (with_reducible first | exact True.intro | refine And.intro ?_ ?_ | refine aBl ?_ | (refine aS 16 [] ?_; intro K hK)) | ((with_reducible first | refine aGo ?_ | refine rP Ty_ok mixed 9 [1, 2, 6] [.mid [pe 0, pe 3, pe 4, pe 5] 0, .one 7, .one 8] ?_ | refine rP Ty_ok mixed 10 [1, 2, 6] [.mid [pe 0, pe 3, pe 4, pe 5] 0, .one 7, .mid [pe 8, pe 9, pe 10, pe 11, pe 12] 0] ?_); simp only [hq, hqk, hat, hat2, Int.toNat_natCast, go_sem]) | ((with_reducible refine aCd ?_ ?_ (fun hb => ?_) (fun hb => ?_)); (iterate 2 simp only [hq, hqk, hat, hat2, Int.toNat_natCast, go_sem]); all_goals (simp only [hq, hqk, hat, hat2, Int.toNat_natCast, go_sem] at hb; try simp only [bls] at hb)) | ((iterate 6 try ((fail_if_success with_reducible refine hK _ ?_ ?_ ?_); clear hK K)); with_reducible refine hK _ ?_ ?_ ?_; rotate_left; (focus (simp only [hq, hqk, hat, hat2, Int.toNat_natCast, go_sem]; exact rfl)); clear hK K) | (with_reducible refine aGs (fun hg0 => ?_) (fun hg0 => ?_) <;> first | (with_reducible first | exact aF1 hg0 | exact aF2 hg0) | (simp only [hg0, hq, hqk, hat, hat2, Int.toNat_natCast, go_sem])) | (with_reducible refine aNk ?_; intro bnil hnil; try simp only []) | exact aZ | fail))
      all_goals first | omega | skip
      refine GCallAt_split (.one (.bool false)) (fun hg => absurd hg (by simp)) (fun hg => ?_)
      have hz : decide (((nd.length : Nat) : Int) < ((nd.length : Nat) : Int)) = false := by simp
      simp only [go_sem, hz]
      (repeat' (first | (with_reducible first | exact True.intro | refine And.intro ?_ ?_ | refine aBl ?_ | (refine aS 16 [] ?_; intro K hK)) | ((with_reducible first | refine aGo ?_ | refine rP Ty_ok mixed 9 [1, 2, 6] [.mid [pe 0, pe 3, pe 4, pe 5] 0, .one 7, .one 8] ?_ | refine rP Ty_ok mixed 10 [1, 2, 6] [.mid [pe 0, pe 3, pe 4, pe 5] 0, .one 7, .mid [pe 8, pe 9, pe 10, pe 11, pe 12] 0] ?_); simp only [hq, hqk, hat, hat2, Int.toNat_natCast, List.set_cons_succ, List.set_cons_zero, go_sem]) | ((with_reducible refine aCd ?_ ?_ (fun hb => ?_) (fun hb => ?_)); (iterate 2 simp only [hq, hqk, hat, hat2, Int.toNat_natCast, List.set_cons_succ, List.set_cons_zero, go_sem]); all_goals (simp only [hq, hqk, hat, hat2, Int.toNat_natCast, List.set_cons_succ, List.set_cons_zero, go_sem] at hb; try simp only [bls] at hb)) | ((iterate 6 try ((fail_if_success with_reducible refine hK _ ?_ ?_ ?_); clear hK K)); with_reducible refine hK _ ?_ ?_ ?_; rotate_left; (focus (simp only [hq, hqk, hat, hat2, Int.toNat_natCast, List.set_cons_succ, List.set_cons_zero, go_sem]; exact rfl)); clear hK K) | (with_reducible refine aGs (fun hg0 => ?_) (fun hg0 => ?_) <;> first | (with_reducible first | exact aF1 hg0 | exact aF2 hg0) | (simp only [hg0, hq, hqk, hat, hat2, Int.toNat_natCast, List.set_cons_succ, List.set_cons_zero, go_sem])) | (with_reducible refine aNk ?_; intro bnil hnil; try simp only []) | exact aZ | fail))
      all_goals first | omega | skip
      rw [← hsn]
      refine awp_loop _ (by simp only [go_sem]; rfl) (Nat × Int) (fun s => A = anyF nd2 m s.1 s.2 ∧ -1 ≤ s.2 ∧ s.2 < nd2.length ∧ s.2 < s.1) (fun s => [(15, .one (.int .i64 s.2))]) (fun _ H => H) (fun s => s.1) (nd.length + 2, i) ⟨hA.symm, by simp only; omega, by simp only; omega, by simp only; omega⟩ ?_ ?_
      ·(simp only [SubF, go_sem]; (try simp only [go_sem]); repeat' (first | exact True.intro | with_reducible refine And.intro ?_ ?_ | rfl | omega))
      rintro ⟨f4, at4⟩ ⟨hA4, h41, h42, h43⟩ L hL
      simp only at hA4 h41 h42 h43
      by_cases h0 : 0 ≤ at4
      ·obtain ⟨g, rfl⟩ : ∃ g, f4 = g + 1 := ⟨f4 - 1, by omega⟩
       rw [anyF, if_pos h0] at hA4
       have c1 := sns_at (l := nd2) (k := at4.toNat) (by omega) [.nil, .int .i64 0, .int .i64 0]
       have c2 := sns_at (l := nd2) (k := at4.toNat) (by omega) []
       have hbk := hN2.back at4.toNat (by omega)
       have hnl4 := hN2.len _ (getD_mem nd2 at4.toNat SN.no (by omega))
       generalize nd2.getD at4.toNat SN.no = y at *
       have hMo := most_c y.m m (by omega) (by omega)
       rw [most_leq (by omega)] at hMo
       cases hlq : leqB y.m m
       ·rw [hlq] at hMo hA4
        rw [Bool.false_or] at hA4
        (simp only [go_sem] at hL ⊢)
        (repeat' (first | (with_reducible first | exact True.intro | refine And.intro ?_ ?_ | refine aBl ?_ | (refine aS 16 [] ?_; intro K hK)) | ((with_reducible first | refine aGo ?_ | refine rP Ty_ok mixed 9 [1, 2, 6] [.mid [pe 0, pe 3, pe 4, pe 5] 0, .one 7, .one 8] ?_ | refine rP Ty_ok mixed 10 [1, 2, 6] [.mid [pe 0, pe 3, pe 4, pe 5] 0, .one 7, .mid [pe 8, pe 9, pe 10, pe 11, pe 12] 0] ?_); simp only [hq, c1, c2, go_sem]) | ((with_reducible refine aCd ?_ ?_ (fun hb => ?_) (fun hb => ?_)); (iterate 2 simp only [hq, c1, c2, go_sem]); all_goals (simp only [hq, c1, c2, go_sem] at hb; try simp only [bls] at hb)) | ((iterate 6 try ((fail_if_success with_reducible refine hK _ ?_ ?_ ?_); clear hK K)); with_reducible refine hK _ ?_ ?_ ?_; rotate_left; (focus (simp only [hq, c1, c2, go_sem]; exact rfl)); clear hK K) | ((first | (with_reducible first | refine xA ?_ | refine xD ?_ | refine xO ?_ | refine xR ?_ | refine xG ?_ | refine xH ?_ | refine xM ?_) | ((with_reducible refine gA ?_); refine xA ?_) | ((with_reducible refine gD ?_); refine xD ?_) | ((with_reducible refine gG ?_); refine xG ?_)); simp only [hq, c1, c2, go_sem]) | (with_reducible refine aGs (fun hg0 => ?_) (fun hg0 => ?_) <;> first | (with_reducible first | exact aF1 hg0 | exact aF2 hg0) | (simp only [hg0, hq, c1, c2, go_sem])) | (with_reducible refine aNk ?_; intro bnil hnil; try simp only []) | exact aZ | fail))
        all_goals first | omega | skip
        exact hL _ (g, y.before) ⟨hA4, by simp only; omega, by simp only; omega, by simp only; omega⟩ (by (simp only [SubF, go_sem]; (try simp only [go_sem]); repeat' (first | exact True.intro | with_reducible refine And.intro ?_ ?_ | rfl | omega))) (by simp only; omega)
       ·rw [hlq] at hMo hA4
        rw [Bool.true_or] at hA4
        have hpv := hap.2 hA4
        rw [if_pos hpv] at hres
        subst hres
        simp only [lsR]
        (simp only [go_sem] at hL ⊢)
        (repeat' (first | (with_reducible first | exact True.intro | refine And.intro ?_ ?_ | refine aBl ?_ | (refine aS 16 [] ?_; intro K hK)) | ((with_reducible first | refine aGo ?_ | refine rP Ty_ok mixed 9 [1, 2, 6] [.mid [pe 0, pe 3, pe 4, pe 5] 0, .one 7, .one 8] ?_ | refine rP Ty_ok mixed 10 [1, 2, 6] [.mid [pe 0, pe 3, pe 4, pe 5] 0, .one 7, .mid [pe 8, pe 9, pe 10, pe 11, pe 12] 0] ?_); simp only [hq, c1, c2, go_sem]) | ((with_reducible refine aCd ?_ ?_ (fun hb => ?_) (fun hb => ?_)); (iterate 2 simp only [hq, c1, c2, go_sem]); all_goals (simp only [hq, c1, c2, go_sem] at hb; try simp only [bls] at hb)) | ((iterate 6 try ((fail_if_success with_reducible refine hK _ ?_ ?_ ?_); clear hK K)); with_reducible refine hK _ ?_ ?_ ?_; rotate_left; (focus (simp only [hq, c1, c2, go_sem]; exact rfl)); clear hK K) | ((first | (with_reducible first | refine xA ?_ | refine xD ?_ | refine xO ?_ | refine xR ?_ | refine xG ?_ | refine xH ?_ | refine xM ?_) | ((with_reducible refine gA ?_); refine xA ?_) | ((with_reducible refine gD ?_); refine xD ?_) | ((with_reducible refine gG ?_); refine xG ?_)); simp only [hq, c1, c2, go_sem]) | (with_reducible refine aGs (fun hg0 => ?_) (fun hg0 => ?_) <;> first | (with_reducible first | exact aF1 hg0 | exact aF2 hg0) | (simp only [hg0, hq, c1, c2, go_sem])) | (with_reducible refine aNk ?_; intro bnil hnil; try simp only []) | exact aZ | fail))
        all_goals first | omega | skip
      ·have ha4 : A = false := by
        rw [hA4]
        cases f4 with
        | zero => rfl
        | succ g => rw [anyF, if_neg h0]
       have hpv := hap.1 ha4
       subst hpv
       rw [if_neg (by omega)] at hres
       by_cases h60 : 60 < nd2.length
       ·rw [if_pos h60] at hres
        simp only at hres
        subst hres
        (simp only [go_sem] at hL ⊢)
        (repeat' (first | (with_reducible first | exact True.intro | refine And.intro ?_ ?_ | refine aBl ?_ | (refine aS 16 [] ?_; intro K hK)) | ((with_reducible first | refine aGo ?_ | refine rP Ty_ok mixed 9 [1, 2, 6] [.mid [pe 0, pe 3, pe 4, pe 5] 0, .one 7, .one 8] ?_ | refine rP Ty_ok mixed 10 [1, 2, 6] [.mid [pe 0, pe 3, pe 4, pe 5] 0, .one 7, .mid [pe 8, pe 9, pe 10, pe 11, pe 12] 0] ?_); simp only [hq, hnl, go_sem]) | ((with_reducible refine aCd ?_ ?_ (fun hb => ?_) (fun hb => ?_)); (iterate 2 simp only [hq, hnl, go_sem]); all_goals (simp only [hq, hnl, go_sem] at hb; try simp only [bls] at hb)) | ((iterate 6 try ((fail_if_success with_reducible refine hK _ ?_ ?_ ?_); clear hK K)); with_reducible refine hK _ ?_ ?_ ?_; rotate_left; (focus (simp only [hq, hnl, go_sem]; exact rfl)); clear hK K) | (with_reducible refine aGs (fun hg0 => ?_) (fun hg0 => ?_) <;> first | (with_reducible first | exact aF1 hg0 | exact aF2 hg0) | (simp only [hg0, hq, hnl, go_sem])) | (with_reducible refine aNk ?_; intro bnil hnil; try simp only []) | exact aZ | fail))
        all_goals first | omega | rfl | skip
       ·rw [if_neg h60] at hres
        simp only at hres
        (simp only [go_sem] at hL ⊢)
        (repeat' (first | (with_reducible first | exact True.intro | refine And.intro ?_ ?_ | refine aBl ?_ | (refine aS 16 [] ?_; intro K hK)) | ((with_reducible first | refine aGo ?_ | refine rP Ty_ok mixed 9 [1, 2, 6] [.mid [pe 0, pe 3, pe 4, pe 5] 0, .one 7, .one 8] ?_ | refine rP Ty_ok mixed 10 [1, 2, 6] [.mid [pe 0, pe 3, pe 4, pe 5] 0, .one 7, .mid [pe 8, pe 9, pe 10, pe 11, pe 12] 0] ?_); simp only [hq, hnl, go_sem]) | ((with_reducible refine aCd ?_ ?_ (fun hb => ?_) (fun hb => ?_)); (iterate 2 simp only [hq, hnl, go_sem]); all_goals (simp only [hq, hnl, go_sem] at hb; try simp only [bls] at hb)) | ((iterate 6 try ((fail_if_success with_reducible refine hK _ ?_ ?_ ?_); clear hK K)); with_reducible refine hK _ ?_ ?_ ?_; rotate_left; (focus (simp only [hq, hnl, go_sem]; exact rfl)); clear hK K) | (with_reducible refine aGs (fun hg0 => ?_) (fun hg0 => ?_) <;> first | (with_reducible first | exact aF1 hg0 | exact aF2 hg0) | (simp only [hg0, hq, hnl, go_sem])) | (with_reducible refine aNk ?_; intro bnil hnil; try simp only []) | exact aZ | fail))
        all_goals first | omega | skip
        refine hL2 _ (j + 1, nd2, es ++ [(⟨i, j, nd.length⟩ : Edg)]) ⟨by simp only; omega, by rw [show n.trs.length - (j + 1) = r by omega]; exact hres, hN2, by simp only; omega, by simp only; omega, by simp only [List.length_append, List.length_singleton]; omega, hxx2⟩ ?_ (by simp only; omega)
        simp only [edgs_snoc]
        (simp only [SubF, List.set_cons_succ, List.set_cons_zero, go_sem]; (try simp only [List.set_cons_succ, List.set_cons_zero, go_sem]); repeat' (first | exact True.intro | with_reducible refine And.intro ?_ ?_ | rfl | omega))
    ·rw [hbad, if_pos rfl] at hres
     rw [hbad] at hFi
     simp only at hres
     subst hres
     (simp only [List.set_cons_succ, List.set_cons_zero, go_sem] at hL2 ⊢)
     (repeat' (first | (with_reducible first | exact True.intro | refine And.intro ?_ ?_ | refine aBl ?_ | (refine aS 16 [] ?_; intro K hK)) | ((with_reducible first | refine aGo ?_ | refine rP Ty_ok mixed 9 [1, 2, 6] [.mid [pe 0, pe 3, pe 4, pe 5] 0, .one 7, .one 8] ?_ | refine rP Ty_ok mixed 10 [1, 2, 6] [.mid [pe 0, pe 3, pe 4, pe 5] 0, .one 7, .mid [pe 8, pe 9, pe 10, pe 11, pe 12] 0] ?_); simp only [hq, hat, hat2, Int.toNat_natCast, go_sem]) | ((with_reducible refine aCd ?_ ?_ (fun hb => ?_) (fun hb => ?_)); (iterate 2 simp only [hq, hat, hat2, Int.toNat_natCast, go_sem]); all_goals (simp only [hq, hat, hat2, Int.toNat_natCast, go_sem] at hb; try simp only [bls] at hb)) | ((iterate 6 try ((fail_if_success with_reducible refine hK _ ?_ ?_ ?_); clear hK K)); with_reducible refine hK _ ?_ ?_ ?_; rotate_left; (focus (simp only [hq, hat, hat2, Int.toNat_natCast, go_sem]; exact rfl)); clear hK K) | ((first | (with_reducible first | refine xA ?_ | refine xD ?_ | refine xO ?_ | refine xR ?_ | refine xG ?_ | refine xH ?_ | refine xM ?_) | ((with_reducible refine gA ?_); refine xA ?_) | ((with_reducible refine gD ?_); refine xD ?_) | ((with_reducible refine gG ?_); refine xG ?_)); simp only [hq, hat, hat2, Int.toNat_natCast, go_sem]) | (with_reducible refine aGs (fun hg0 => ?_) (fun hg0 => ?_) <;> first | (with_reducible first | exact aF1 hg0 | exact aF2 hg0) | (simp only [hg0, hq, hat, hat2, Int.toNat_natCast, go_sem])) | (with_reducible refine aNk ?_; intro bnil hnil; try simp only []) | exact aZ | fail))
     all_goals first | omega | rfl | skip
  ·have hjj : j = n.trs.length := by omega
   subst hjj
   rw [Nat.sub_self, ablD, rest_nil] at hres
   (simp only [List.set_cons_succ, List.set_cons_zero, go_sem] at hL2 ⊢)
   (repeat' (first | (with_reducible first | exact True.intro | refine And.intro ?_ ?_ | refine aBl ?_ | (refine aS 16 [] ?_; intro K hK)) | ((with_reducible first | refine aGo ?_ | refine rP Ty_ok mixed 9 [1, 2, 6] [.mid [pe 0, pe 3, pe 4, pe 5] 0, .one 7, .one 8] ?_ | refine rP Ty_ok mixed 10 [1, 2, 6] [.mid [pe 0, pe 3, pe 4, pe 5] 0, .one 7, .mid [pe 8, pe 9, pe 10, pe 11, pe 12] 0] ?_); simp only [go_sem]) | ((with_reducible refine aCd ?_ ?_ (fun hb => ?_) (fun hb => ?_)); (iterate 2 simp only [go_sem]); all_goals (simp only [go_sem] at hb; try simp only [bls] at hb)) | ((iterate 6 try ((fail_if_success with_reducible refine hK _ ?_ ?_ ?_); clear hK K)); with_reducible refine hK _ ?_ ?_ ?_; rotate_left; (focus (simp only [go_sem]; exact rfl)); clear hK K) | (with_reducible refine aGs (fun hg0 => ?_) (fun hg0 => ?_) <;> first | (with_reducible first | exact aF1 hg0 | exact aF2 hg0) | (simp only [hg0, go_sem])) | (with_reducible refine aNk ?_; intro bnil hnil; try simp only []) | exact aZ | fail))
   all_goals first | omega | skip
   refine hL _ (f, i + 1, nd, es) ⟨hres, hN, by simp only; omega, hl, by simp only; omega, by simp only; omega⟩ ?_ (by simp only; omega)
   (simp only [SubF, List.set_cons_succ, List.set_cons_zero, go_sem]; (try simp only [List.set_cons_succ, List.set_cons_zero, go_sem]); repeat' (first | exact True.intro | with_reducible refine And.intro ?_ ?_ | rfl | omega))
 ·have hil : i = nodes.length := by omega
  obtain ⟨f, rfl⟩ : ∃ g, f = g + 1 := ⟨f - 1, by omega⟩
  rw [outer_succ, if_neg hik] at hres
  subst hres
  (simp only [List.set_cons_succ, List.set_cons_zero, go_sem] at hL ⊢)
  (repeat' (first | (with_reducible first | exact True.intro | refine And.intro ?_ ?_ | refine aBl ?_ | (refine aS 16 [] ?_; intro K hK)) | ((with_reducible first | refine aGo ?_ | refine rP Ty_ok mixed 9 [1, 2, 6] [.mid [pe 0, pe 3, pe 4, pe 5] 0, .one 7, .one 8] ?_ | refine rP Ty_ok mixed 10 [1, 2, 6] [.mid [pe 0, pe 3, pe 4, pe 5] 0, .one 7, .mid [pe 8, pe 9, pe 10, pe 11, pe 12] 0] ?_); simp only [go_sem]) | ((with_reducible refine aCd ?_ ?_ (fun hb => ?_) (fun hb => ?_)); (iterate 2 simp only [go_sem]); all_goals (simp only [go_sem] at hb; try simp only [bls] at hb)) | ((iterate 6 try ((fail_if_success with_reducible refine hK _ ?_ ?_ ?_); clear hK K)); with_reducible refine hK _ ?_ ?_ ?_; rotate_left; (focus (simp only [go_sem]; exact rfl)); clear hK K) | (with_reducible refine aGs (fun hg0 => ?_) (fun hg0 => ?_) <;> first | (with_reducible first | exact aF1 hg0 | exact aF2 hg0) | (simp only [hg0, go_sem])) | (with_reducible refine aNk ?_; intro bnil hnil; try simp only []) | exact aZ | fail))
  all_goals first | omega | rfl | skip
end Go.Proofs.YtgbhmieaoaojoaaGreatDoor
