/-
 Chapter 23: conditions with components by their indices.
-/
import Derived.Test.YtkjnjkdcpbgabaaGreatDoorUB
set_option linter.unusedSimpArgs false
set_option linter.unusedVariables false
namespace Go.Proofs.YtkjnjkdcpbgabaaGreatDoor
open Go.Eng Go.RowKit
theorem Index_c (l : List Int) (x : Int) (hn : l.length ≤ 1000000) : ACalls Tryz.prog 113 [.one (.list (ints l)), .one (.int .i64 x)] (.one (.int .i64 (ixFrom (fun z => decide (x = z)) 0 l))) [] := by
 (refine ACalls.of_body Ty_ok mixed Tryz.func113 rfl (by kernel_rfl) Tryz.ntmps113 (by simp) (congrArg Array.toList Tryz.results113) ?_)
 simp only [slotsOf]
 (repeat' (first | (with_reducible first | exact True.intro | refine And.intro ?_ ?_ | refine aBl ?_ | (refine aS 6 [7, 8] ?_; intro K hK)) | ((with_reducible first | refine aGo ?_); simp only [go_sem]) | ((with_reducible refine aCd ?_ ?_ (fun hb => ?_) (fun hb => ?_)); (iterate 2 simp only [go_sem]); all_goals (simp only [go_sem] at hb; try simp only [bls] at hb)) | ((iterate 6 try ((fail_if_success with_reducible refine hK _ ?_ ?_ ?_); clear hK K)); with_reducible refine hK _ ?_ ?_ ?_; rotate_left; (focus (simp only [go_sem]; exact rfl)); clear hK K) | (with_reducible refine aGs (fun hg0 => ?_) (fun hg0 => ?_) <;> first | (with_reducible first | exact aF1 hg0 | exact aF2 hg0) | (simp only [hg0, go_sem])) | (with_reducible refine aNk ?_; intro bnil hnil; try simp only []) | exact aZ | fail))
 refine awp_loop _ (by simp only [go_sem]; rfl) Nat (fun k => k ≤ l.length ∧ ixFrom (fun z => decide (x = z)) 0 l = ixFrom (fun z => decide (x = z)) k (l.drop k)) (fun k => [(8, .one (.int .i64 k))]) (fun _ H => H) (fun k => l.length - k) 0 ⟨by omega, by simp⟩ ?_ ?_
 ·(simp only [SubF, go_sem]; (try simp only [go_sem]); repeat' (first | exact True.intro | with_reducible refine And.intro ?_ ?_ | rfl | omega))
 ·rintro k ⟨hk, hres⟩ L hL
  (simp only [go_sem] at hL ⊢)
  (repeat' (first | (with_reducible first | exact True.intro | refine And.intro ?_ ?_ | refine aBl ?_ | (refine aS 6 [7, 8] ?_; intro K hK)) | ((with_reducible first | refine aGo ?_); simp only [go_sem]) | ((with_reducible refine aCd ?_ ?_ (fun hb => ?_) (fun hb => ?_)); (iterate 2 simp only [go_sem]); all_goals (simp only [go_sem] at hb; try simp only [bls] at hb)) | ((iterate 6 try ((fail_if_success with_reducible refine hK _ ?_ ?_ ?_); clear hK K)); with_reducible refine hK _ ?_ ?_ ?_; rotate_left; (focus (simp only [go_sem]; exact rfl)); clear hK K) | (with_reducible refine aGs (fun hg0 => ?_) (fun hg0 => ?_) <;> first | (with_reducible first | exact aF1 hg0 | exact aF2 hg0) | (simp only [hg0, go_sem])) | (with_reducible refine aNk ?_; intro bnil hnil; try simp only []) | exact aZ | fail))
  ·rw [ix_step (d := 0) (by omega) hres, if_pos (by simpa using hb)]
  ·have h1 := ix_step (d := 0) (by omega) hres
   rw [if_neg (by simpa using hb)] at h1
   exact hL _ (k + 1) ⟨by omega, h1⟩ (by (simp only [SubF, go_sem]; (try simp only [go_sem]); repeat' (first | exact True.intro | with_reducible refine And.intro ?_ ?_ | rfl | omega))) (by omega)
  ·rw [hres, drop_end l k (by omega)]; rfl
theorem sContains_c (l : List Int) (x : Int) (hn : l.length ≤ 1000000) : ACalls Tryz.prog 101 [.one (.list (ints l)), .one (.int .i64 x)] (.one (.bool (decide (x ∈ l)))) [] := by
 have e : decide (x ∈ l) = decide (0 ≤ ixFrom (fun z => decide (x = z)) 0 l) := by
  rw [ix_any, Bool.eq_iff_iff]
  simp
 rw [e]
 (refine ACalls.of_body Ty_ok mixed Tryz.func101 rfl (by kernel_rfl) Tryz.ntmps101 (by simp) (congrArg Array.toList Tryz.results101) ?_)
 simp only [slotsOf]
 (repeat' (first | (with_reducible first | exact True.intro | refine And.intro ?_ ?_ | refine aBl ?_ | (refine aS 5 [] ?_; intro K hK)) | ((with_reducible first | refine aGo ?_); simp only [go_sem]) | ((with_reducible refine aCd ?_ ?_ (fun hb => ?_) (fun hb => ?_)); (iterate 2 simp only [go_sem]); all_goals (simp only [go_sem] at hb; try simp only [bls] at hb)) | ((iterate 6 try ((fail_if_success with_reducible refine hK _ ?_ ?_ ?_); clear hK K)); with_reducible refine hK _ ?_ ?_ ?_; rotate_left; (focus (simp only [go_sem]; exact rfl)); clear hK K) | ((first | (with_reducible first | refine cA (Index_c l x hn) ?_ | refine cD (Index_c l x hn) ?_ | refine cO (Index_c l x hn) ?_ | refine cR (Index_c l x hn) ?_ | refine cG (fun hg => (Index_c l x hn)) ?_ | refine cH (fun hg => (Index_c l x hn)) ?_ | refine cM (fun hg => (Index_c l x hn)) ?_) | ((with_reducible refine gA ?_); refine cA (Index_c l x hn) ?_) | ((with_reducible refine gD ?_); refine cD (Index_c l x hn) ?_) | ((with_reducible refine gG ?_); refine cG (fun hg => (Index_c l x hn)) ?_)); simp only [go_sem]) | (with_reducible refine aGs (fun hg0 => ?_) (fun hg0 => ?_) <;> first | (with_reducible first | exact aF1 hg0 | exact aF2 hg0) | (simp only [hg0, go_sem])) | (with_reducible refine aNk ?_; intro bnil hnil; try simp only []) | exact aZ | fail))
def compE (l : List It) (s : List UInt8) (taken : List Int) : Int := if findI l 1 s < 0 then 9 else if findI l 1 s ∈ taken then 8 else 0
theorem component_c (l : List It) (s : List UInt8) (taken : List Int) (hl : l.length ≤ 1000) (ht : taken.length ≤ 1000) : ACalls Tryz.prog 91 [.one (.list (itD l)), .one (.str s), .one (.list (ints taken))] (.tup [.one (.int .i64 (if compE l s taken = 0 then findI l 1 s else 0)), .one (.int .i64 (compE l s taken))]) [] := by
 have hF := Find_c l 1 s (by omega)
 have hE : compE l s taken = if findI l 1 s < 0 then 9 else if findI l 1 s ∈ taken then 8 else 0 := rfl
 have hC := sContains_c taken (findI l 1 s) (by omega)
 generalize compE l s taken = e at *
 generalize findI l 1 s = f at *
 by_cases h0 : f < 0
 ·rw [if_pos h0] at hE
  subst hE
  rw [if_neg (by decide)]
  (refine ACalls.of_body Ty_ok mixed Tryz.func91 rfl (by kernel_rfl) Tryz.ntmps91 (by simp) (congrArg Array.toList Tryz.results91) ?_)
  simp only [slotsOf]
  (repeat' (first | (with_reducible first | exact True.intro | refine And.intro ?_ ?_ | refine aBl ?_ | (refine aS 10 [] ?_; intro K hK)) | ((with_reducible first | refine aGo ?_); simp only [go_sem]) | ((with_reducible refine aCd ?_ ?_ (fun hb => ?_) (fun hb => ?_)); (iterate 2 simp only [go_sem]); all_goals (simp only [go_sem] at hb; try simp only [bls] at hb)) | ((iterate 6 try ((fail_if_success with_reducible refine hK _ ?_ ?_ ?_); clear hK K)); with_reducible refine hK _ ?_ ?_ ?_; rotate_left; (focus (simp only [go_sem]; exact rfl)); clear hK K) | ((first | (with_reducible first | refine xA ?_ | refine xD ?_ | refine xO ?_ | refine xR ?_ | refine xG ?_ | refine xH ?_ | refine xM ?_) | ((with_reducible refine gA ?_); refine xA ?_) | ((with_reducible refine gD ?_); refine xD ?_) | ((with_reducible refine gG ?_); refine xG ?_)); simp only [go_sem]) | (with_reducible refine aGs (fun hg0 => ?_) (fun hg0 => ?_) <;> first | (with_reducible first | exact aF1 hg0 | exact aF2 hg0) | (simp only [hg0, go_sem])) | (with_reducible refine aNk ?_; intro bnil hnil; try simp only []) | exact aZ | fail))
  all_goals first | omega | rfl | skip
 ·rw [if_neg h0] at hE
  have hm : max f 0 = f := by omega
  rw [hm] at hF
  by_cases h1 : f ∈ taken
  ·rw [if_pos h1] at hE
   rw [decide_eq_true h1] at hC
   subst hE
   rw [if_neg (by decide)]
   (refine ACalls.of_body Ty_ok mixed Tryz.func91 rfl (by kernel_rfl) Tryz.ntmps91 (by simp) (congrArg Array.toList Tryz.results91) ?_)
   simp only [slotsOf]
   (repeat' (first | (with_reducible first | exact True.intro | refine And.intro ?_ ?_ | refine aBl ?_ | (refine aS 10 [] ?_; intro K hK)) | ((with_reducible first | refine aGo ?_); simp only [go_sem]) | ((with_reducible refine aCd ?_ ?_ (fun hb => ?_) (fun hb => ?_)); (iterate 2 simp only [go_sem]); all_goals (simp only [go_sem] at hb; try simp only [bls] at hb)) | ((iterate 6 try ((fail_if_success with_reducible refine hK _ ?_ ?_ ?_); clear hK K)); with_reducible refine hK _ ?_ ?_ ?_; rotate_left; (focus (simp only [go_sem]; exact rfl)); clear hK K) | ((first | (with_reducible first | refine xA ?_ | refine xD ?_ | refine xO ?_ | refine xR ?_ | refine xG ?_ | refine xH ?_ | refine xM ?_) | ((with_reducible refine gA ?_); refine xA ?_) | ((with_reducible refine gD ?_); refine xD ?_) | ((with_reducible refine gG ?_); refine xG ?_)); simp only [go_sem]) | (with_reducible refine aGs (fun hg0 => ?_) (fun hg0 => ?_) <;> first | (with_reducible first | exact aF1 hg0 | exact aF2 hg0) | (simp only [hg0, go_sem])) | (with_reducible refine aNk ?_; intro bnil hnil; try simp only []) | exact aZ | fail))
   all_goals first | omega | rfl | skip
  ·rw [if_neg h1] at hE
   rw [decide_eq_false h1] at hC
   subst hE
   rw [if_pos rfl]
   (refine ACalls.of_body Ty_ok mixed Tryz.func91 rfl (by kernel_rfl) Tryz.ntmps91 (by simp) (congrArg Array.toList Tryz.results91) ?_)
   simp only [slotsOf]
   (repeat' (first | (with_reducible first | exact True.intro | refine And.intro ?_ ?_ | refine aBl ?_ | (refine aS 10 [] ?_; intro K hK)) | ((with_reducible first | refine aGo ?_); simp only [go_sem]) | ((with_reducible refine aCd ?_ ?_ (fun hb => ?_) (fun hb => ?_)); (iterate 2 simp only [go_sem]); all_goals (simp only [go_sem] at hb; try simp only [bls] at hb)) | ((iterate 6 try ((fail_if_success with_reducible refine hK _ ?_ ?_ ?_); clear hK K)); with_reducible refine hK _ ?_ ?_ ?_; rotate_left; (focus (simp only [go_sem]; exact rfl)); clear hK K) | ((first | (with_reducible first | refine xA ?_ | refine xD ?_ | refine xO ?_ | refine xR ?_ | refine xG ?_ | refine xH ?_ | refine xM ?_) | ((with_reducible refine gA ?_); refine xA ?_) | ((with_reducible refine gD ?_); refine xD ?_) | ((with_reducible refine gG ?_); refine xG ?_)); simp only [go_sem]) | (with_reducible refine aGs (fun hg0 => ?_) (fun hg0 => ?_) <;> first | (with_reducible first | exact aF1 hg0 | exact aF2 hg0) | (simp only [hg0, go_sem])) | (with_reducible refine aNk ?_; intro bnil hnil; try simp only []) | exact aZ | fail))
   all_goals first | omega | rfl | skip
def locGo (l : List It) : List Lt → List Pr → List Pr × Int
 | [], p => (p, 0)
 | y :: r, p => if compE l y.name (p.map Pr.comp) ≠ 0 then ([], compE l y.name (p.map Pr.comp)) else locGo l r (p ++ [⟨findI l 1 y.name, y.val⟩])
def locR (l : List It) (ys : List Lt) : List Pr × Int := if (locGo l ys []).2 = 0 then (sortP (locGo l ys []).1, 0) else ([], (locGo l ys []).2)
structure LocOk (l : List It) (p : List Pr) : Prop where
 rng : ∀ e ∈ p, 0 ≤ e.comp ∧ e.comp < l.length
 dist : DistP p
theorem locOk_nil (l : List It) : LocOk l [] := ⟨fun e he => by simp at he, .nil⟩
theorem locOk_snoc {l : List It} {p : List Pr} {s : List UInt8} {v : Int} (h : LocOk l p) (he : compE l s (p.map Pr.comp) = 0) : LocOk l (p ++ [⟨findI l 1 s, v⟩]) := by
 unfold compE at he
 split at he
 ·cases he
 ·rename_i h0
  split at he
  ·cases he
  ·rename_i h1
   have hr := findI_range l 1 s
   refine ⟨fun e he => ?_, ?_⟩
   ·rcases List.mem_append.1 he with he | he
    ·exact h.rng e he
    ·obtain rfl := List.mem_singleton.1 he
     exact ⟨by show 0 ≤ findI l 1 s; omega, hr.2⟩
   ·unfold DistP
    rw [List.map_append, List.nodup_append]
    refine ⟨h.dist, by simp, fun a ha b hb => ?_⟩
    have hb' : b = findI l 1 s := by simpa using hb
    rintro rfl
    exact h1 (hb' ▸ ha)
set_option maxHeartbeats 16000000 in
theorem locals_c (l : List It) (x : It) (hl : l.length ≤ 1000) (hx : x.locs.length ≤ 1000) : ACalls Tryz.prog 57 [.one (.list (itD l)), .agg x.d] (.tup [.one (.list (prD (locR l x.locs).1)), .one (.int .i64 (locR l x.locs).2)]) [] := by
 have hR : locR l x.locs = if (locGo l x.locs []).2 = 0 then (sortP (locGo l x.locs []).1, 0) else ([], (locGo l x.locs []).2) := rfl
 generalize locR l x.locs = R at *
 generalize hG : locGo l x.locs [] = G at hR
 have ep : prD [] = [] := rfl
 (refine ACalls.of_body Ty_ok mixed Tryz.func57 rfl (by kernel_rfl) Tryz.ntmps57 (by simp) (congrArg Array.toList Tryz.results57) ?_)
 simp only [slotsOf, It.d]
 (repeat' (first | (with_reducible first | exact True.intro | refine And.intro ?_ ?_ | refine aBl ?_ | (refine aS 12 [14, 13, 15] ?_; intro K hK)) | ((with_reducible first | refine aGo ?_); simp only [go_sem]) | ((with_reducible refine aCd ?_ ?_ (fun hb => ?_) (fun hb => ?_)); (iterate 2 simp only [go_sem]); all_goals (simp only [go_sem] at hb; try simp only [bls] at hb)) | ((iterate 6 try ((fail_if_success with_reducible refine hK _ ?_ ?_ ?_); clear hK K)); with_reducible refine hK _ ?_ ?_ ?_; rotate_left; (focus (simp only [go_sem]; exact rfl)); clear hK K) | (with_reducible refine aGs (fun hg0 => ?_) (fun hg0 => ?_) <;> first | (with_reducible first | exact aF1 hg0 | exact aF2 hg0) | (simp only [hg0, go_sem])) | (with_reducible refine aNk ?_; intro bnil hnil; try simp only []) | exact aZ | fail))
 all_goals first | omega | skip
 refine awp_loop _ (by simp only [go_sem]; rfl) (Nat × List Pr) (fun s => s.1 ≤ x.locs.length ∧ G = locGo l (x.locs.drop s.1) s.2 ∧ s.2.length = s.1 ∧ LocOk l s.2) (fun s => [(6, .one (.own 2)), (7, .one (.own 3)), (15, .one (.int .i64 s.1))]) (fun s H => (H.set 2 (.row 104 2 (prD s.2))).set 3 (.row 3 1 (ints (s.2.map Pr.comp)))) (fun s => x.locs.length - s.1) (0, []) ⟨by omega, hG.symm, rfl, locOk_nil l⟩ ?_ ?_
 ·have e1 : ints (([] : List Pr).map Pr.comp) = [] := rfl
  rw [e1, ep]
  (simp only [SubF, List.set_cons_succ, List.set_cons_zero, go_sem]; (try simp only [List.set_cons_succ, List.set_cons_zero, go_sem]); repeat' (first | exact True.intro | with_reducible refine And.intro ?_ ?_ | rfl | omega))
 rintro ⟨k, p⟩ ⟨hk, hres, hpl, hok⟩ L hL
 dsimp only at hk hres hpl hok
 have hq : ((k : Nat) : Int).toNat = k := by omega
 have hml : (p.map Pr.comp).length = k := by rw [List.length_map]; exact hpl
 by_cases hlt : k < x.locs.length
 ·rw [drop_getD x.locs k Lt.no hlt, locGo] at hres
  have hc := component_c l (x.locs.getD k Lt.no).name (p.map Pr.comp) hl (by omega)
  have hsn := @locOk_snoc l p (x.locs.getD k Lt.no).name (x.locs.getD k Lt.no).val hok
  generalize hyd : x.locs.getD k Lt.no = y at *
  generalize findI l 1 y.name = f at *
  generalize compE l y.name (p.map Pr.comp) = e at *
  by_cases he : e = 0
  ·subst he
   rw [if_neg (by decide)] at hres
   rw [if_pos rfl] at hc
   (simp only [List.set_cons_succ, List.set_cons_zero, go_sem] at hL ⊢)
   (repeat' (first | (with_reducible first | exact True.intro | refine And.intro ?_ ?_ | refine aBl ?_ | (refine aS 12 [14, 13, 15] ?_; intro K hK)) | ((with_reducible first | refine aGo ?_); simp only [hq, hyd, go_sem]) | ((with_reducible refine aCd ?_ ?_ (fun hb => ?_) (fun hb => ?_)); (iterate 2 simp only [hq, hyd, go_sem]); all_goals (simp only [hq, hyd, go_sem] at hb; try simp only [bls] at hb)) | ((iterate 6 try ((fail_if_success with_reducible refine hK _ ?_ ?_ ?_); clear hK K)); with_reducible refine hK _ ?_ ?_ ?_; rotate_left; (focus (simp only [hq, hyd, go_sem]; exact rfl)); clear hK K) | ((first | (with_reducible first | refine xA ?_ | refine xD ?_ | refine xO ?_ | refine xR ?_ | refine xG ?_ | refine xH ?_ | refine xM ?_) | ((with_reducible refine gA ?_); refine xA ?_) | ((with_reducible refine gD ?_); refine xD ?_) | ((with_reducible refine gG ?_); refine xG ?_)); simp only [hq, hyd, go_sem]) | (with_reducible refine aGs (fun hg0 => ?_) (fun hg0 => ?_) <;> first | (with_reducible first | exact aF1 hg0 | exact aF2 hg0) | (simp only [hg0, hq, hyd, go_sem])) | (with_reducible refine aNk ?_; intro bnil hnil; try simp only []) | exact aZ | fail))
   all_goals first | omega | skip
   refine hL _ (k + 1, p ++ [⟨f, y.val⟩]) ⟨by omega, hres, by simp; omega, hsn rfl⟩ ?_ (by omega)
   have e2 : ints ((p ++ [(⟨f, y.val⟩ : Pr)]).map Pr.comp) = ints (p.map Pr.comp) ++ [[.int .i64 f]] := by rw [List.map_append, ← ints_append]; rfl
   rw [e2, ← prs_append, ← prs_one]
   (simp only [SubF, List.set_cons_succ, List.set_cons_zero, go_sem]; (try simp only [List.set_cons_succ, List.set_cons_zero, go_sem]); repeat' (first | exact True.intro | with_reducible refine And.intro ?_ ?_ | rfl | omega))
  ·rw [if_pos he] at hres
   rw [if_neg he] at hc
   subst hres
   rw [if_neg he] at hR
   subst hR
   (simp only [List.set_cons_succ, List.set_cons_zero, go_sem] at hL ⊢)
   (repeat' (first | (with_reducible first | exact True.intro | refine And.intro ?_ ?_ | refine aBl ?_ | (refine aS 12 [14, 13, 15] ?_; intro K hK)) | ((with_reducible first | refine aGo ?_); simp only [hq, hyd, go_sem]) | ((with_reducible refine aCd ?_ ?_ (fun hb => ?_) (fun hb => ?_)); (iterate 2 simp only [hq, hyd, go_sem]); all_goals (simp only [hq, hyd, go_sem] at hb; try simp only [bls] at hb)) | ((iterate 6 try ((fail_if_success with_reducible refine hK _ ?_ ?_ ?_); clear hK K)); with_reducible refine hK _ ?_ ?_ ?_; rotate_left; (focus (simp only [hq, hyd, go_sem]; exact rfl)); clear hK K) | ((first | (with_reducible first | refine xA ?_ | refine xD ?_ | refine xO ?_ | refine xR ?_ | refine xG ?_ | refine xH ?_ | refine xM ?_) | ((with_reducible refine gA ?_); refine xA ?_) | ((with_reducible refine gD ?_); refine xD ?_) | ((with_reducible refine gG ?_); refine xG ?_)); simp only [hq, hyd, go_sem]) | (with_reducible refine aGs (fun hg0 => ?_) (fun hg0 => ?_) <;> first | (with_reducible first | exact aF1 hg0 | exact aF2 hg0) | (simp only [hg0, hq, hyd, go_sem])) | (with_reducible refine aNk ?_; intro bnil hnil; try simp only []) | exact aZ | fail))
   all_goals first | omega | rfl | skip
 have hkl : k = x.locs.length := by omega
 subst hkl
 rw [List.drop_length, locGo] at hres
 subst hres
 rw [if_pos rfl] at hR
 subst hR
 have hsm : Small1 p := fun e he => by have := hok.rng e he; omega
 (simp only [List.set_cons_succ, List.set_cons_zero, go_sem] at hL ⊢)
 (repeat' (first | (with_reducible first | exact True.intro | refine And.intro ?_ ?_ | refine aBl ?_ | (refine aS 12 [14, 13, 15] ?_; intro K hK)) | ((with_reducible first | refine aGo ?_); simp only [go_sem]) | ((with_reducible refine aCd ?_ ?_ (fun hb => ?_) (fun hb => ?_)); (iterate 2 simp only [go_sem]); all_goals (simp only [go_sem] at hb; try simp only [bls] at hb)) | ((iterate 6 try ((fail_if_success with_reducible refine hK _ ?_ ?_ ?_); clear hK K)); with_reducible refine hK _ ?_ ?_ ?_; rotate_left; (focus (simp only [go_sem]; exact rfl)); clear hK K) | (with_reducible refine aGs (fun hg0 => ?_) (fun hg0 => ?_) <;> first | (with_reducible first | exact aF1 hg0 | exact aF2 hg0) | (simp only [hg0, go_sem])) | (with_reducible refine aNk ?_; intro bnil hnil; try simp only []) | exact aZ | fail))
 all_goals first | omega | skip
 by_cases h0 : p = []
 ·subst h0
  have e3 : sortP [] = [] := by simp [sortP]
  have hso := SortLocals0_c
  simp only [e3, ep]
  (refine MCallAt_i [] [2] (hso) ?_ ?_; (focus (simp only [mside, handOk, go_sem]; (first | done | exact (by decide) | exact ⟨by decide, fun t ht => ht.elim⟩ | (refine ⟨by decide, ?_⟩; simp; done)))); simp only [go_sem])
  (repeat' (first | (with_reducible first | exact True.intro | refine And.intro ?_ ?_ | refine aBl ?_ | (refine aS 12 [14, 13, 15] ?_; intro K hK)) | ((with_reducible first | refine aGo ?_); simp only [go_sem]) | ((with_reducible refine aCd ?_ ?_ (fun hb => ?_) (fun hb => ?_)); (iterate 2 simp only [go_sem]); all_goals (simp only [go_sem] at hb; try simp only [bls] at hb)) | ((iterate 6 try ((fail_if_success with_reducible refine hK _ ?_ ?_ ?_); clear hK K)); with_reducible refine hK _ ?_ ?_ ?_; rotate_left; (focus (simp only [go_sem]; exact rfl)); clear hK K) | (with_reducible refine aGs (fun hg0 => ?_) (fun hg0 => ?_) <;> first | (with_reducible first | exact aF1 hg0 | exact aF2 hg0) | (simp only [hg0, go_sem])) | (with_reducible refine aNk ?_; intro bnil hnil; try simp only []) | exact aZ | fail))
  all_goals first | omega | rfl | (rw [e3]; rfl) | skip
 ·have hso := SortLocals_c p h0 (by omega) hsm hok.dist
  (refine MCallAt_i [] [2] (hso) ?_ ?_; (focus (simp only [mside, handOk, go_sem]; (first | done | exact (by decide) | exact ⟨by decide, fun t ht => ht.elim⟩ | (refine ⟨by decide, ?_⟩; simp; done)))); simp only [go_sem])
  (repeat' (first | (with_reducible first | exact True.intro | refine And.intro ?_ ?_ | refine aBl ?_ | (refine aS 12 [14, 13, 15] ?_; intro K hK)) | ((with_reducible first | refine aGo ?_); simp only [go_sem]) | ((with_reducible refine aCd ?_ ?_ (fun hb => ?_) (fun hb => ?_)); (iterate 2 simp only [go_sem]); all_goals (simp only [go_sem] at hb; try simp only [bls] at hb)) | ((iterate 6 try ((fail_if_success with_reducible refine hK _ ?_ ?_ ?_); clear hK K)); with_reducible refine hK _ ?_ ?_ ?_; rotate_left; (focus (simp only [go_sem]; exact rfl)); clear hK K) | (with_reducible refine aGs (fun hg0 => ?_) (fun hg0 => ?_) <;> first | (with_reducible first | exact aF1 hg0 | exact aF2 hg0) | (simp only [hg0, go_sem])) | (with_reducible refine aNk ?_; intro bnil hnil; try simp only []) | exact aZ | fail))
  all_goals first | omega | rfl | skip
set_option maxHeartbeats 16000000 in
theorem terms_c (l : List It) (x : It) (hl : l.length ≤ 1000) (hx : x.terms.length ≤ 1000) : ACalls Tryz.prog 58 [.one (.list (itD l)), .agg x.d] (.tup [.one (.list (prD (locR l x.terms).1)), .one (.int .i64 (locR l x.terms).2)]) [] := by
 have hR : locR l x.terms = if (locGo l x.terms []).2 = 0 then (sortP (locGo l x.terms []).1, 0) else ([], (locGo l x.terms []).2) := rfl
 generalize locR l x.terms = R at *
 generalize hG : locGo l x.terms [] = G at hR
 have ep : prD [] = [] := rfl
 (refine ACalls.of_body Ty_ok mixed Tryz.func58 rfl (by kernel_rfl) Tryz.ntmps58 (by simp) (congrArg Array.toList Tryz.results58) ?_)
 simp only [slotsOf, It.d]
 (repeat' (first | (with_reducible first | exact True.intro | refine And.intro ?_ ?_ | refine aBl ?_ | (refine aS 12 [14, 13, 15] ?_; intro K hK)) | ((with_reducible first | refine aGo ?_); simp only [go_sem]) | ((with_reducible refine aCd ?_ ?_ (fun hb => ?_) (fun hb => ?_)); (iterate 2 simp only [go_sem]); all_goals (simp only [go_sem] at hb; try simp only [bls] at hb)) | ((iterate 6 try ((fail_if_success with_reducible refine hK _ ?_ ?_ ?_); clear hK K)); with_reducible refine hK _ ?_ ?_ ?_; rotate_left; (focus (simp only [go_sem]; exact rfl)); clear hK K) | (with_reducible refine aGs (fun hg0 => ?_) (fun hg0 => ?_) <;> first | (with_reducible first | exact aF1 hg0 | exact aF2 hg0) | (simp only [hg0, go_sem])) | (with_reducible refine aNk ?_; intro bnil hnil; try simp only []) | exact aZ | fail))
 all_goals first | omega | skip
 refine awp_loop _ (by simp only [go_sem]; rfl) (Nat × List Pr) (fun s => s.1 ≤ x.terms.length ∧ G = locGo l (x.terms.drop s.1) s.2 ∧ s.2.length = s.1 ∧ LocOk l s.2) (fun s => [(6, .one (.own 2)), (7, .one (.own 3)), (15, .one (.int .i64 s.1))]) (fun s H => (H.set 2 (.row 106 2 (prD s.2))).set 3 (.row 3 1 (ints (s.2.map Pr.comp)))) (fun s => x.terms.length - s.1) (0, []) ⟨by omega, hG.symm, rfl, locOk_nil l⟩ ?_ ?_
 ·have e1 : ints (([] : List Pr).map Pr.comp) = [] := rfl
  rw [e1, ep]
  (simp only [SubF, List.set_cons_succ, List.set_cons_zero, go_sem]; (try simp only [List.set_cons_succ, List.set_cons_zero, go_sem]); repeat' (first | exact True.intro | with_reducible refine And.intro ?_ ?_ | rfl | omega))
 rintro ⟨k, p⟩ ⟨hk, hres, hpl, hok⟩ L hL
 dsimp only at hk hres hpl hok
 have hq : ((k : Nat) : Int).toNat = k := by omega
 have hml : (p.map Pr.comp).length = k := by rw [List.length_map]; exact hpl
 by_cases hlt : k < x.terms.length
 ·rw [drop_getD x.terms k Lt.no hlt, locGo] at hres
  have hc := component_c l (x.terms.getD k Lt.no).name (p.map Pr.comp) hl (by omega)
  have hsn := @locOk_snoc l p (x.terms.getD k Lt.no).name (x.terms.getD k Lt.no).val hok
  generalize hyd : x.terms.getD k Lt.no = y at *
  generalize findI l 1 y.name = f at *
  generalize compE l y.name (p.map Pr.comp) = e at *
  by_cases he : e = 0
  ·subst he
   rw [if_neg (by decide)] at hres
   rw [if_pos rfl] at hc
   (simp only [List.set_cons_succ, List.set_cons_zero, go_sem] at hL ⊢)
   (repeat' (first | (with_reducible first | exact True.intro | refine And.intro ?_ ?_ | refine aBl ?_ | (refine aS 12 [14, 13, 15] ?_; intro K hK)) | ((with_reducible first | refine aGo ?_); simp only [hq, hyd, go_sem]) | ((with_reducible refine aCd ?_ ?_ (fun hb => ?_) (fun hb => ?_)); (iterate 2 simp only [hq, hyd, go_sem]); all_goals (simp only [hq, hyd, go_sem] at hb; try simp only [bls] at hb)) | ((iterate 6 try ((fail_if_success with_reducible refine hK _ ?_ ?_ ?_); clear hK K)); with_reducible refine hK _ ?_ ?_ ?_; rotate_left; (focus (simp only [hq, hyd, go_sem]; exact rfl)); clear hK K) | ((first | (with_reducible first | refine xA ?_ | refine xD ?_ | refine xO ?_ | refine xR ?_ | refine xG ?_ | refine xH ?_ | refine xM ?_) | ((with_reducible refine gA ?_); refine xA ?_) | ((with_reducible refine gD ?_); refine xD ?_) | ((with_reducible refine gG ?_); refine xG ?_)); simp only [hq, hyd, go_sem]) | (with_reducible refine aGs (fun hg0 => ?_) (fun hg0 => ?_) <;> first | (with_reducible first | exact aF1 hg0 | exact aF2 hg0) | (simp only [hg0, hq, hyd, go_sem])) | (with_reducible refine aNk ?_; intro bnil hnil; try simp only []) | exact aZ | fail))
   all_goals first | omega | skip
   refine hL _ (k + 1, p ++ [⟨f, y.val⟩]) ⟨by omega, hres, by simp; omega, hsn rfl⟩ ?_ (by omega)
   have e2 : ints ((p ++ [(⟨f, y.val⟩ : Pr)]).map Pr.comp) = ints (p.map Pr.comp) ++ [[.int .i64 f]] := by rw [List.map_append, ← ints_append]; rfl
   rw [e2, ← prs_append, ← prs_one]
   (simp only [SubF, List.set_cons_succ, List.set_cons_zero, go_sem]; (try simp only [List.set_cons_succ, List.set_cons_zero, go_sem]); repeat' (first | exact True.intro | with_reducible refine And.intro ?_ ?_ | rfl | omega))
  ·rw [if_pos he] at hres
   rw [if_neg he] at hc
   subst hres
   rw [if_neg he] at hR
   subst hR
   (simp only [List.set_cons_succ, List.set_cons_zero, go_sem] at hL ⊢)
   (repeat' (first | (with_reducible first | exact True.intro | refine And.intro ?_ ?_ | refine aBl ?_ | (refine aS 12 [14, 13, 15] ?_; intro K hK)) | ((with_reducible first | refine aGo ?_); simp only [hq, hyd, go_sem]) | ((with_reducible refine aCd ?_ ?_ (fun hb => ?_) (fun hb => ?_)); (iterate 2 simp only [hq, hyd, go_sem]); all_goals (simp only [hq, hyd, go_sem] at hb; try simp only [bls] at hb)) | ((iterate 6 try ((fail_if_success with_reducible refine hK _ ?_ ?_ ?_); clear hK K)); with_reducible refine hK _ ?_ ?_ ?_; rotate_left; (focus (simp only [hq, hyd, go_sem]; exact rfl)); clear hK K) | ((first | (with_reducible first | refine xA ?_ | refine xD ?_ | refine xO ?_ | refine xR ?_ | refine xG ?_ | refine xH ?_ | refine xM ?_) | ((with_reducible refine gA ?_); refine xA ?_) | ((with_reducible refine gD ?_); refine xD ?_) | ((with_reducible refine gG ?_); refine xG ?_)); simp only [hq, hyd, go_sem]) | (with_reducible refine aGs (fun hg0 => ?_) (fun hg0 => ?_) <;> first | (with_reducible first | exact aF1 hg0 | exact aF2 hg0) | (simp only [hg0, hq, hyd, go_sem])) | (with_reducible refine aNk ?_; intro bnil hnil; try simp only []) | exact aZ | fail))
   all_goals first | omega | rfl | skip
 have hkl : k = x.terms.length := by omega
 subst hkl
 rw [List.drop_length, locGo] at hres
 subst hres
 rw [if_pos rfl] at hR
 subst hR
 have hsm : Small1 p := fun e he => by have := hok.rng e he; omega
 (simp only [List.set_cons_succ, List.set_cons_zero, go_sem] at hL ⊢)
 (repeat' (first | (with_reducible first | exact True.intro | refine And.intro ?_ ?_ | refine aBl ?_ | (refine aS 12 [14, 13, 15] ?_; intro K hK)) | ((with_reducible first | refine aGo ?_); simp only [go_sem]) | ((with_reducible refine aCd ?_ ?_ (fun hb => ?_) (fun hb => ?_)); (iterate 2 simp only [go_sem]); all_goals (simp only [go_sem] at hb; try simp only [bls] at hb)) | ((iterate 6 try ((fail_if_success with_reducible refine hK _ ?_ ?_ ?_); clear hK K)); with_reducible refine hK _ ?_ ?_ ?_; rotate_left; (focus (simp only [go_sem]; exact rfl)); clear hK K) | (with_reducible refine aGs (fun hg0 => ?_) (fun hg0 => ?_) <;> first | (with_reducible first | exact aF1 hg0 | exact aF2 hg0) | (simp only [hg0, go_sem])) | (with_reducible refine aNk ?_; intro bnil hnil; try simp only []) | exact aZ | fail))
 all_goals first | omega | skip
 by_cases h0 : p = []
 ·subst h0
  have e3 : sortP [] = [] := by simp [sortP]
  have hso := SortTerms0_c
  simp only [e3, ep]
  (refine MCallAt_i [] [2] (hso) ?_ ?_; (focus (simp only [mside, handOk, go_sem]; (first | done | exact (by decide) | exact ⟨by decide, fun t ht => ht.elim⟩ | (refine ⟨by decide, ?_⟩; simp; done)))); simp only [go_sem])
  (repeat' (first | (with_reducible first | exact True.intro | refine And.intro ?_ ?_ | refine aBl ?_ | (refine aS 12 [14, 13, 15] ?_; intro K hK)) | ((with_reducible first | refine aGo ?_); simp only [go_sem]) | ((with_reducible refine aCd ?_ ?_ (fun hb => ?_) (fun hb => ?_)); (iterate 2 simp only [go_sem]); all_goals (simp only [go_sem] at hb; try simp only [bls] at hb)) | ((iterate 6 try ((fail_if_success with_reducible refine hK _ ?_ ?_ ?_); clear hK K)); with_reducible refine hK _ ?_ ?_ ?_; rotate_left; (focus (simp only [go_sem]; exact rfl)); clear hK K) | (with_reducible refine aGs (fun hg0 => ?_) (fun hg0 => ?_) <;> first | (with_reducible first | exact aF1 hg0 | exact aF2 hg0) | (simp only [hg0, go_sem])) | (with_reducible refine aNk ?_; intro bnil hnil; try simp only []) | exact aZ | fail))
  all_goals first | omega | rfl | (rw [e3]; rfl) | skip
 ·have hso := SortTerms_c p h0 (by omega) hsm hok.dist
  (refine MCallAt_i [] [2] (hso) ?_ ?_; (focus (simp only [mside, handOk, go_sem]; (first | done | exact (by decide) | exact ⟨by decide, fun t ht => ht.elim⟩ | (refine ⟨by decide, ?_⟩; simp; done)))); simp only [go_sem])
  (repeat' (first | (with_reducible first | exact True.intro | refine And.intro ?_ ?_ | refine aBl ?_ | (refine aS 12 [14, 13, 15] ?_; intro K hK)) | ((with_reducible first | refine aGo ?_); simp only [go_sem]) | ((with_reducible refine aCd ?_ ?_ (fun hb => ?_) (fun hb => ?_)); (iterate 2 simp only [go_sem]); all_goals (simp only [go_sem] at hb; try simp only [bls] at hb)) | ((iterate 6 try ((fail_if_success with_reducible refine hK _ ?_ ?_ ?_); clear hK K)); with_reducible refine hK _ ?_ ?_ ?_; rotate_left; (focus (simp only [go_sem]; exact rfl)); clear hK K) | (with_reducible refine aGs (fun hg0 => ?_) (fun hg0 => ?_) <;> first | (with_reducible first | exact aF1 hg0 | exact aF2 hg0) | (simp only [hg0, go_sem])) | (with_reducible refine aNk ?_; intro bnil hnil; try simp only []) | exact aZ | fail))
  all_goals first | omega | rfl | skip
end Go.Proofs.YtkjnjkdcpbgabaaGreatDoor
