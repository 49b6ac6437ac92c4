/-
 Chapter 23: the law's apply.
-/
import Derived.Test.YtkjnjkdcpbgabaaGreatDoorUH
set_option linter.unusedSimpArgs false
set_option linter.unusedVariables false
namespace Go.Proofs.YtkjnjkdcpbgabaaGreatDoor
open Go.Eng Go.RowKit
def lawGo : List It → List Edt → List It × Int
 | l, [] => (l, 0)
 | l, x :: r =>
  if x.drop = true then (if findI l x.it.kind x.it.name < 0 then ([], 10) else lawGo (dropL l x.it.kind x.it.name) r)
  else if chkL [x.it] ≠ 0 then ([], chkL [x.it]) else if 76 < (lawPut l x.it).length then ([], 3) else lawGo (lawPut l x.it) r
theorem insL_fits {l : List It} (h : LFits l) {x : It} (hx : x.Fits) (i : Nat) (hl : (insL l i x).length ≤ 1000) : LFits (insL l i x) :=
 ⟨hl, fun y hy => by
  rw [insL] at hy
  rcases List.mem_append.1 hy with hy | hy
  ·exact h.it y (List.mem_of_mem_take hy)
  ·rcases List.mem_cons.1 hy with rfl | hy
   ·exact hx
   ·exact h.it y (List.mem_of_mem_drop hy)⟩
theorem lawPut_fits {l : List It} (h : LFits l) {x : It} (hx : x.Fits) (hl : (lawPut l x).length ≤ 1000) : LFits (lawPut l x) := by
 rw [lawPut] at hl ⊢
 by_cases hf : 0 ≤ findI l x.kind x.name
 ·rw [if_pos hf] at hl ⊢
  exact ⟨hl, fun y hy => by
   rcases List.mem_or_eq_of_mem_set hy with hy | rfl
   ·exact h.it y hy
   ·exact hx⟩
 ·rw [if_neg hf] at hl ⊢
  exact insL_fits h hx _ hl
theorem dropL_fits {l : List It} (h : LFits l) (k : Int) (s : List UInt8) : LFits (dropL l k s) := by
 rw [dropL]
 exact ⟨by have := h.len; simp only [List.length_append, List.length_take, List.length_drop]; omega, fun x hx => by
  rcases List.mem_append.1 hx with hx | hx
  ·exact h.it x (List.mem_of_mem_take hx)
  ·exact h.it x (List.mem_of_mem_drop hx)⟩
set_option maxHeartbeats 16000000 in
theorem lawapply_c (l : List It) (es : List Edt) (hf : LFits l) (hl2 : es.length ≤ 1000000) (he : ∀ e ∈ es, e.it.Fits) : ACalls Tryz.prog 18 [.one (.list (itD l)), .one (.list (edtD es))] (.tup [.one (.list (itD (lawGo l es).1)), .one (.int .i64 (lawGo l es).2)]) [] := by
 have hl := hf.len
 generalize hR : lawGo l es = R at *
 have e0 : itD [] = [] := rfl
 (refine ACalls.of_body Ty_ok mixed Tryz.func18 rfl (by kernel_rfl) Tryz.ntmps18 (by simp) (congrArg Array.toList Tryz.results18) ?_)
 simp only [slotsOf]
 (repeat' (first | (with_reducible first | exact True.intro | refine And.intro ?_ ?_ | refine awp_block ?_ | ((first | refine awp_seq1 10 [] ?_ | refine awp_seq2 10 [] ?_ | refine awp_seq3 10 [] ?_ | refine awp_seq4 10 [] ?_ | refine awp_seq 10 [] ?_); intro K hK)) | ((with_reducible first | refine awp_reg ?_ | refine awp_exit ?_ | refine awp_skip ?_ | refine likeK_i ?_ | refine otWR_i ?_ | refine rP Ty_ok mixed 9 [1, 2, 5, 6] [.mid [pe 0, pe 3, ⟨4, 0, true, false, false, [], []⟩, ⟨7, 1, false, false, false, [0], []⟩, ⟨8, 1, false, false, false, [0], []⟩, ⟨9, 1, true, false, false, [], [0]⟩, ⟨10, 2, false, false, false, [0], []⟩] 2] ?_); simp only [go_sem]) | (with_reducible refine awp_ret ?_; simp only [retF, retM, retL, resV, resW, retO, resAV, AV.bor, D.bor, D.bor1, D.bor0, AV.flatOwn, D.flatOwn, D.flat, AV.tagged, D.tagged, AObj.plain, go_sem]) | ((with_reducible refine awp_cond' ?_ ?_ (fun hb => ?_) (fun hb => ?_)); (simp only [go_sem]); (simp only [go_sem]); all_goals (simp only [go_sem] at hb; try simp only [bls] at hb)) | ((iterate 6 try ((fail_if_success with_reducible refine hK _ ?_ ?_ ?_); clear hK K)); with_reducible refine hK _ ?_ ?_ ?_; rotate_left; (focus (simp only [go_sem]; exact rfl)); clear hK K) | (with_reducible refine gsplit_i (fun hg0 => ?_) (fun hg0 => ?_) <;> first | (with_reducible first | exact absurd hg0 Bool.false_ne_true | exact absurd hg0.symm Bool.false_ne_true) | (simp only [hg0, go_sem])) | (with_reducible refine nilK_i ?_; intro bnil hnil; try simp only []) | (omega; done) | (intro hv; (try simp only [bls] at hv); (try simp only [bls]); omega) | (intro hg; (simp only [hg, Bool.true_and, true_and, implies_true]; try (intro hg2; simp only [hg2, Bool.not_false, Bool.not_true])); done)))
 all_goals first | omega | skip
 refine awp_loop _ (by simp only [go_sem]; rfl) (Nat × List It) (fun z => z.1 ≤ es.length ∧ R = lawGo z.2 (es.drop z.1) ∧ LFits z.2) (fun z => [(0, .one (.list (itD z.2))), (6, .one (.int .i64 z.1))]) (fun _ H => H) (fun z => es.length - z.1) (0, l) ⟨by omega, by simpa using hR.symm, hf⟩ ?_ ?_
 ·(simp only [SubF, go_sem]; (try simp only [go_sem]); repeat' (first | exact True.intro | with_reducible refine And.intro ?_ ?_ | rfl | omega))
 rintro ⟨k, o⟩ ⟨hk, hres, hfo⟩ L hL
 dsimp only at hk hres hfo
 have hol := hfo.len
 have hq : ((k : Nat) : Int).toNat = k := by omega
 by_cases hlt : k < es.length
 ·have hlf : decide ((k : Int) < es.length) = true := decide_eq_true (by omega)
  have hg := edtD_get hlt [.bool false, .int .i64 0, .str [], .nil, .int .i64 0, .nil, .nil, .nil, .nil, .int .i64 0]
  have hye := he _ (getD_mem es k Edt.no hlt)
  rw [drop_getD es k Edt.no hlt, lawGo] at hres
  generalize es.getD k Edt.no = y at *
  have c1 := lawfind_c o y.it.kind y.it.name (by omega)
  have c2 := lawput_c o y.it hfo
  have c3 := lawcheck_c [y.it] ⟨by simp, fun z hz => by rw [List.mem_singleton.1 hz]; exact hye⟩
  obtain ⟨hr1, hr2⟩ := findI_range o y.it.kind y.it.name
  have f1 := dropL_fits hfo y.it.kind y.it.name
  have f2 := lawPut_fits hfo hye
  have hD : dropL o y.it.kind y.it.name = o.take (findI o y.it.kind y.it.name).toNat ++ o.drop ((findI o y.it.kind y.it.name).toNat + 1) := rfl
  have e1 : itD [y.it] = [y.it.d] := rfl
  rw [e1] at c3
  generalize dropL o y.it.kind y.it.name = dR at *
  generalize lawPut o y.it = pR at *
  generalize findI o y.it.kind y.it.name = f at *
  generalize chkL [y.it] = c at *
  simp only [Edt.d] at hg
  simp only [It.d] at c2 c3
  by_cases hdr : y.drop = true
  ·rw [if_pos hdr] at hres
   (simp only [go_sem] at hL ⊢)
   (repeat' (first | (with_reducible first | exact True.intro | refine And.intro ?_ ?_ | refine awp_block ?_ | ((first | refine awp_seq1 10 [] ?_ | refine awp_seq2 10 [] ?_ | refine awp_seq3 10 [] ?_ | refine awp_seq4 10 [] ?_ | refine awp_seq 10 [] ?_); intro K hK)) | ((with_reducible first | refine awp_reg ?_ | refine awp_exit ?_ | refine awp_skip ?_ | refine likeK_i ?_ | refine otWR_i ?_ | refine rP Ty_ok mixed 9 [1, 2, 5, 6] [.mid [pe 0, pe 3, ⟨4, 0, true, false, false, [], []⟩, ⟨7, 1, false, false, false, [0], []⟩, ⟨8, 1, false, false, false, [0], []⟩, ⟨9, 1, true, false, false, [], [0]⟩, ⟨10, 2, false, false, false, [0], []⟩] 2] ?_); simp only [hg, hq, hlf, hdr, go_sem]) | (with_reducible refine awp_ret ?_; simp only [retF, retM, retL, resV, resW, retO, resAV, AV.bor, D.bor, D.bor1, D.bor0, AV.flatOwn, D.flatOwn, D.flat, AV.tagged, D.tagged, AObj.plain, hg, hq, hlf, hdr, go_sem]) | ((with_reducible refine awp_cond' ?_ ?_ (fun hb => ?_) (fun hb => ?_)); (simp only [hg, hq, hlf, hdr, go_sem]); (simp only [hg, hq, hlf, hdr, go_sem]); all_goals (simp only [hg, hq, hlf, hdr, go_sem] at hb; try simp only [bls] at hb)) | ((iterate 6 try ((fail_if_success with_reducible refine hK _ ?_ ?_ ?_); clear hK K)); with_reducible refine hK _ ?_ ?_ ?_; rotate_left; (focus (simp only [hg, hq, hlf, hdr, go_sem]; exact rfl)); clear hK K) | ((first | (with_reducible first | refine cA c1 ?_ | refine cD c1 ?_ | refine cO c1 ?_ | refine cR c1 ?_ | refine cG (fun hg => c1) ?_ | refine cH (fun hg => c1) ?_ | refine cM (fun hg => c1) ?_) | (guard_target = CallAt _ _ _ _ _ _ _ _ _ _; refine cA c1 ?_) | (guard_target = DCallAt _ _ _ _ _ _ _ _; refine cD c1 ?_) | (guard_target = GCallAt _ _ _ _ _ _ _ _ _ _ _; refine cG (fun hg => c1) ?_)); simp only [hg, hq, hlf, hdr, go_sem]) | (with_reducible refine gsplit_i (fun hg0 => ?_) (fun hg0 => ?_) <;> first | (with_reducible first | exact absurd hg0 Bool.false_ne_true | exact absurd hg0.symm Bool.false_ne_true) | (simp only [hg0, hg, hq, hlf, hdr, go_sem])) | (with_reducible refine nilK_i ?_; intro bnil hnil; try simp only []) | (omega; done) | (intro hv; (try simp only [bls] at hv); (try simp only [bls]); omega) | (intro hg; (simp only [hg, Bool.true_and, true_and, implies_true]; try (intro hg2; simp only [hg2, Bool.not_false, Bool.not_true])); done)))
   all_goals first | omega | (simp only [itD_length, List.length_append, List.length_take, List.length_drop, List.length_cons, List.length_nil]; omega) | skip
   ·rw [if_pos (by assumption)] at hres; subst hres; rfl
   ·rw [if_pos (by assumption)] at hres; subst hres; rfl
   ·rw [if_neg (by omega)] at hres
    have e2 : itD (List.take f.toNat o) ++ itD (List.drop (f + 1).toNat (List.take o.length o)) = itD dR := by
     rw [hD, List.take_length, show (f + 1).toNat = f.toNat + 1 by omega, itD_append]
    rw [e2]
    refine hL _ (k + 1, dR) ⟨by omega, hres, f1⟩ ?_ (by dsimp only; omega)
    (simp only [SubF, go_sem]; (try simp only [go_sem]); repeat' (first | exact True.intro | with_reducible refine And.intro ?_ ?_ | rfl | omega))
  ·rw [if_neg hdr] at hres
   have hdr2 : y.drop = false := by simpa using hdr
   (simp only [go_sem] at hL ⊢)
   (repeat' (first | (with_reducible first | exact True.intro | refine And.intro ?_ ?_ | refine awp_block ?_ | ((first | refine awp_seq1 10 [] ?_ | refine awp_seq2 10 [] ?_ | refine awp_seq3 10 [] ?_ | refine awp_seq4 10 [] ?_ | refine awp_seq 10 [] ?_); intro K hK)) | ((with_reducible first | refine awp_reg ?_ | refine awp_exit ?_ | refine awp_skip ?_ | refine likeK_i ?_ | refine otWR_i ?_ | refine rP Ty_ok mixed 9 [1, 2, 5, 6] [.mid [pe 0, pe 3, ⟨4, 0, true, false, false, [], []⟩, ⟨7, 1, false, false, false, [0], []⟩, ⟨8, 1, false, false, false, [0], []⟩, ⟨9, 1, true, false, false, [], [0]⟩, ⟨10, 2, false, false, false, [0], []⟩] 2] ?_); simp only [hg, hq, hlf, hdr2, go_sem]) | (with_reducible refine awp_ret ?_; simp only [retF, retM, retL, resV, resW, retO, resAV, AV.bor, D.bor, D.bor1, D.bor0, AV.flatOwn, D.flatOwn, D.flat, AV.tagged, D.tagged, AObj.plain, hg, hq, hlf, hdr2, go_sem]) | ((with_reducible refine awp_cond' ?_ ?_ (fun hb => ?_) (fun hb => ?_)); (simp only [hg, hq, hlf, hdr2, go_sem]); (simp only [hg, hq, hlf, hdr2, go_sem]); all_goals (simp only [hg, hq, hlf, hdr2, go_sem] at hb; try simp only [bls] at hb)) | ((iterate 6 try ((fail_if_success with_reducible refine hK _ ?_ ?_ ?_); clear hK K)); with_reducible refine hK _ ?_ ?_ ?_; rotate_left; (focus (simp only [hg, hq, hlf, hdr2, go_sem]; exact rfl)); clear hK K) | ((first | (with_reducible first | refine cA c1 ?_ | refine cA c2 ?_ | refine cA c3 ?_ | refine cD c1 ?_ | refine cD c2 ?_ | refine cD c3 ?_ | refine cO c1 ?_ | refine cO c2 ?_ | refine cO c3 ?_ | refine cR c1 ?_ | refine cR c2 ?_ | refine cR c3 ?_ | refine cG (fun hg => c1) ?_ | refine cG (fun hg => c2) ?_ | refine cG (fun hg => c3) ?_ | refine cH (fun hg => c1) ?_ | refine cH (fun hg => c2) ?_ | refine cH (fun hg => c3) ?_ | refine cM (fun hg => c1) ?_ | refine cM (fun hg => c2) ?_ | refine cM (fun hg => c3) ?_) | (guard_target = CallAt _ _ _ _ _ _ _ _ _ _; first | refine cA c1 ?_ | refine cA c2 ?_ | refine cA c3 ?_) | (guard_target = DCallAt _ _ _ _ _ _ _ _; first | refine cD c1 ?_ | refine cD c2 ?_ | refine cD c3 ?_) | (guard_target = GCallAt _ _ _ _ _ _ _ _ _ _ _; first | refine cG (fun hg => c1) ?_ | refine cG (fun hg => c2) ?_ | refine cG (fun hg => c3) ?_)); simp only [hg, hq, hlf, hdr2, go_sem]) | (with_reducible refine gsplit_i (fun hg0 => ?_) (fun hg0 => ?_) <;> first | (with_reducible first | exact absurd hg0 Bool.false_ne_true | exact absurd hg0.symm Bool.false_ne_true) | (simp only [hg0, hg, hq, hlf, hdr2, go_sem])) | (with_reducible refine nilK_i ?_; intro bnil hnil; try simp only []) | (omega; done) | (intro hv; (try simp only [bls] at hv); (try simp only [bls]); omega) | (intro hg; (simp only [hg, Bool.true_and, true_and, implies_true]; try (intro hg2; simp only [hg2, Bool.not_false, Bool.not_true])); done)))
   all_goals first | omega | skip
   ·rw [if_pos (by assumption)] at hres; subst hres; rfl
   ·rw [if_pos (by assumption)] at hres; subst hres; rfl
   ·rw [if_neg (by omega), if_pos (by omega)] at hres; subst hres; rfl
   ·rw [if_neg (by omega), if_pos (by omega)] at hres; subst hres; rfl
   ·rw [if_neg (by omega), if_neg (by omega)] at hres
    refine hL _ (k + 1, pR) ⟨by omega, hres, f2 (by omega)⟩ ?_ (by dsimp only; omega)
    (simp only [SubF, go_sem]; (try simp only [go_sem]); repeat' (first | exact True.intro | with_reducible refine And.intro ?_ ?_ | rfl | omega))
 have hkl : k = es.length := by omega
 subst hkl
 have hlf : decide ((es.length : Int) < es.length) = false := decide_eq_false (by omega)
 rw [List.drop_length, lawGo] at hres
 subst hres
 (simp only [go_sem] at hL ⊢)
 (repeat' (first | (with_reducible first | exact True.intro | refine And.intro ?_ ?_ | refine awp_block ?_ | ((first | refine awp_seq1 10 [] ?_ | refine awp_seq2 10 [] ?_ | refine awp_seq3 10 [] ?_ | refine awp_seq4 10 [] ?_ | refine awp_seq 10 [] ?_); intro K hK)) | ((with_reducible first | refine awp_reg ?_ | refine awp_exit ?_ | refine awp_skip ?_ | refine likeK_i ?_ | refine otWR_i ?_ | refine rP Ty_ok mixed 9 [1, 2, 5, 6] [.mid [pe 0, pe 3, ⟨4, 0, true, false, false, [], []⟩, ⟨7, 1, false, false, false, [0], []⟩, ⟨8, 1, false, false, false, [0], []⟩, ⟨9, 1, true, false, false, [], [0]⟩, ⟨10, 2, false, false, false, [0], []⟩] 2] ?_); simp only [hlf, go_sem]) | (with_reducible refine awp_ret ?_; simp only [retF, retM, retL, resV, resW, retO, resAV, AV.bor, D.bor, D.bor1, D.bor0, AV.flatOwn, D.flatOwn, D.flat, AV.tagged, D.tagged, AObj.plain, hlf, go_sem]) | ((with_reducible refine awp_cond' ?_ ?_ (fun hb => ?_) (fun hb => ?_)); (simp only [hlf, go_sem]); (simp only [hlf, go_sem]); all_goals (simp only [hlf, go_sem] at hb; try simp only [bls] at hb)) | ((iterate 6 try ((fail_if_success with_reducible refine hK _ ?_ ?_ ?_); clear hK K)); with_reducible refine hK _ ?_ ?_ ?_; rotate_left; (focus (simp only [hlf, go_sem]; exact rfl)); clear hK K) | (with_reducible refine gsplit_i (fun hg0 => ?_) (fun hg0 => ?_) <;> first | (with_reducible first | exact absurd hg0 Bool.false_ne_true | exact absurd hg0.symm Bool.false_ne_true) | (simp only [hg0, hlf, go_sem])) | (with_reducible refine nilK_i ?_; intro bnil hnil; try simp only []) | (omega; done) | (intro hv; (try simp only [bls] at hv); (try simp only [bls]); omega) | (intro hg; (simp only [hg, Bool.true_and, true_and, implies_true]; try (intro hg2; simp only [hg2, Bool.not_false, Bool.not_true])); done)))
 all_goals first | omega | rfl | skip
end Go.Proofs.YtkjnjkdcpbgabaaGreatDoor
