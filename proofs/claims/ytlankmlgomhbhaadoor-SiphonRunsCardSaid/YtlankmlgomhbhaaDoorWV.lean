/-
 Chapter 49: the law's statement SiphonRuns.
-/
import Derived.Test.YtlankmlgomhbhaaDoorWS
set_option linter.unusedSimpArgs false
set_option linter.unusedVariables false
namespace Go.Proofs.YtlankmlgomhbhaaDoor
open Go.Eng Go.RowKit
theorem step_prefix {n : Net} {lim i : Nat} {t : Int} {nodes nd : List SN} {edges ed : List Edg} (h : stepF n lim i t nodes edges = .cont nd ed) : ∃ r, nd = nodes ++ r := by
 unfold stepF at h
 simp only at h
 split at h
 ·cases h
 ·split at h
  ·cases h; exact ⟨[], by simp⟩
  ·split at h
   ·cases h
   ·split at h
    ·cases h
    ·cases h; exact ⟨_, rfl⟩
theorem rest_prefix {n : Net} {lim : Nat} : ∀ (f i : Nat) (ts : List Int) {nodes nd : List SN} {edges ed : List Edg}, restF n lim f i ts nodes edges = .cont nd ed → ∃ r, nd = nodes ++ r := by
 have inner : ∀ (i : Nat) (ts : List Int) {nodes nd : List SN} {edges ed : List Edg}, innerF n lim i ts nodes edges = .cont nd ed → ∃ r, nd = nodes ++ r := by
  intro i ts
  induction ts with
  | nil => intro nodes nd edges ed h; cases h; exact ⟨[], by simp⟩
  | cons t ts ih =>
   intro nodes nd edges ed h
   rw [innerF] at h
   cases hst : stepF n lim i t nodes edges with
   | err e => rw [hst] at h; cases h
   | pump a b c => rw [hst] at h; cases h
   | cont a b =>
    rw [hst] at h
    obtain ⟨r1, rfl⟩ := step_prefix hst
    obtain ⟨r2, rfl⟩ := ih h
    exact ⟨r1 ++ r2, by simp⟩
 have outer : ∀ (f i : Nat) {nodes nd : List SN} {edges ed : List Edg}, outerF n lim f i nodes edges = .cont nd ed → ∃ r, nd = nodes ++ r := by
  intro f
  induction f with
  | zero => intro i nodes nd edges ed h; cases h
  | succ f ih =>
   intro i nodes nd edges ed h
   rw [outerF] at h
   split at h
   ·cases hst : innerF n lim i (ableL n (nodes.getD i SN.no).m n.trs.length) nodes edges with
    | err e => rw [hst] at h; cases h
    | pump a b c => rw [hst] at h; cases h
    | cont a b =>
     rw [hst] at h
     obtain ⟨r1, rfl⟩ := inner _ _ hst
     obtain ⟨r2, rfl⟩ := ih _ h
     exact ⟨r1 ++ r2, by simp⟩
   ·cases h; exact ⟨[], by simp⟩
 intro f i ts nodes nd edges ed h
 unfold restF at h
 cases hst : innerF n lim i ts nodes edges with
 | err e => rw [hst] at h; cases h
 | pump a b c => rw [hst] at h; cases h
 | cont a b =>
  rw [hst] at h
  obtain ⟨r1, rfl⟩ := inner _ _ hst
  obtain ⟨r2, rfl⟩ := outer _ _ h
  exact ⟨r1 ++ r2, by simp⟩
theorem outer_prefix {n : Net} {lim f i : Nat} {nodes nd : List SN} {edges ed : List Edg} (h : outerF n lim f i nodes edges = .cont nd ed) : ∃ r, nd = nodes ++ r := by
 cases f with
 | zero => cases h
 | succ f =>
  rw [outer_succ] at h
  split at h
  ·exact rest_prefix _ _ _ h
  ·cases h; exact ⟨[], by simp⟩
theorem backF_more {l : List SN} {pl : Nat} (hN : NodesOk pl l) (r : List SN) : ∀ (f : Nat) (i : Int), 0 ≤ i → i < l.length → backF (l ++ r) f i = backF l f i
 | 0, _, _, _ => rfl
 | f + 1, i, h0, h1 => by
  have hb := hN.back i.toNat (by omega)
  simp only [backF]
  rw [getD_append_lt _ _ _ _ (show i.toNat < l.length by omega)]
  split
  ·rw [backF_more hN r f _ (by assumption) (by omega)]
  ·rfl
set_option maxRecDepth 100000 in
set_option maxHeartbeats 64000000 in
theorem SiphonRuns_c (s : Nat → Int) (hs : Bytes s) (B : Nat) (hB : B < 256) : ACalls Tryd.prog 3 [.agg (bytesD 37 s), .one (.int .u8 B)] (.one (.bool true)) [] := by
 obtain ⟨hf, hok, hp1, hp5, hE, hne⟩ := shape_net s hs
 have hmk := Make_c s hs
 have hKn := known_c
 generalize makeNet s = n at *
 have hse : ∀ nd ed, bndF n = .inr (nd, ed) → searchF n 4096 = .cont nd ed ∧ NodesOk n.init.length nd ∧ nd.length ≤ 4096 := fun nd ed h => by
  have hS := (search_ok n hok).2
  unfold bndF at h
  rw [if_neg (by omega)] at h
  cases hss : searchF n 4096 with
  | err e => rw [hss] at h; cases h
  | pump a b c => rw [hss] at h; cases h
  | cont a b => rw [hss] at h; cases h; exact ⟨rfl, hS _ _ hss⟩
 have hG := Graph_c n hf hne (fun nd ed h => ⟨(hse nd ed h).2.2, fun x hx => by have := (hse nd ed h).2.1.len x hx; have := hok.init; omega⟩)
 have hset : checkSet (bitsL B n.init.length) n.init.length = 0 := checkSet_ok (bitsL_pw _ _) fun x hx => by
  obtain ⟨i, hi, rfl, _⟩ := mem_bitsL.1 hx
  omega
 have hsi : siE n (bitsL B n.init.length) 1 = 0 := by rw [siE, if_neg (by omega), if_neg (by omega)]; rfl
 have hbl := bitsL_length B n.init.length
 have hEm := Emptied_c n (bitsL B n.init.length) hf (fun _ => hne) (by omega)
 have hEx : emX n (bitsL B n.init.length) = match bndF n with
  | .inl e => ([], false, e)
  | .inr (nd, _) => if 0 ≤ emT (bitsL B n.init.length) nd then (pathF nd (emT (bitsL B n.init.length) nd), true, 0) else ([], false, 0) := by rw [emX, if_neg (by omega)]; rfl
 rw [hEx] at hEm
 have hbne := fun e => bnd_ne (n := n) (e := e)
 simp only [Net.d] at hmk hG hEm
 (refine ACalls.of_body Ty_ok mixed Tryd.func3 rfl (by kernel_rfl) Tryd.ntmps3 (by simp) (congrArg Array.toList Tryd.results3) ?_)
 simp only [slotsOf]
 (repeat' (first | (with_reducible first | exact True.intro | refine And.intro ?_ ?_ | refine awp_block ?_ | ((first | refine awp_seq1 8 [25, 26, 9, 10, 103, 18, 17, 14, 16, 104, 15, 13, 12, 11] ?_ | refine awp_seq2 8 [25, 26, 9, 10, 103, 18, 17, 14, 16, 104, 15, 13, 12, 11] ?_ | refine awp_seq3 8 [25, 26, 9, 10, 103, 18, 17, 14, 16, 104, 15, 13, 12, 11] ?_ | refine awp_seq4 8 [25, 26, 9, 10, 103, 18, 17, 14, 16, 104, 15, 13, 12, 11] ?_ | refine awp_seq 8 [25, 26, 9, 10, 103, 18, 17, 14, 16, 104, 15, 13, 12, 11] ?_); intro K hK)) | ((with_reducible first | refine awp_reg ?_ | refine awp_exit ?_ | refine awp_skip ?_ | refine likeK_i ?_ | refine rP Ty_ok mixed 28 [0, 2, 3, 8] [.mid [pe 1, pe 4, pe 5, pe 6, ⟨7, 0, true, false, false, [], []⟩, ⟨9, 1, false, false, false, [0], []⟩, ⟨10, 1, true, false, true, [], [0]⟩, ⟨11, 2, false, false, false, [0], []⟩, ⟨12, 2, false, false, false, [0], []⟩] 2, .one 13, .one 14] ?_ | refine rP Ty_ok mixed 26 [1, 2, 6] [.mid [pe 0, pe 3, pe 4, pe 5, ⟨7, 0, true, false, false, [], []⟩, ⟨8, 1, false, false, false, [], []⟩, ⟨9, 1, false, false, false, [], []⟩, ⟨10, 1, false, true, false, [], []⟩, ⟨11, 1, true, false, false, [0], []⟩] 2, .one 12, .one 13] ?_); simp only [go_sem]) | (with_reducible refine awp_ret ?_; simp only [retF, retM, retL, resV, resW, retO, resAV, AV.bor, D.bor, D.bor1, D.bor0, AV.flatOwn, D.flatOwn, D.flat, AV.tagged, D.tagged, AObj.plain, go_sem]) | ((with_reducible refine awp_cond' ?_ ?_ (fun hb => ?_) (fun hb => ?_)); (simp only [go_sem]); (simp only [go_sem]); all_goals (simp only [go_sem] at hb; try simp only [bls] at hb)) | ((iterate 6 try ((fail_if_success with_reducible refine hK _ ?_ ?_ ?_); clear hK K)); with_reducible refine hK _ ?_ ?_ ?_; rotate_left; (focus (simp only [go_sem]; exact rfl)); clear hK K) | ((first | (with_reducible first | refine cA hKn ?_ | refine cA hmk ?_ | refine cD hKn ?_ | refine cD hmk ?_ | refine cO hKn ?_ | refine cO hmk ?_ | refine cR hKn ?_ | refine cR hmk ?_ | refine cG (fun hg => hKn) ?_ | refine cG (fun hg => hmk) ?_ | refine cH (fun hg => hKn) ?_ | refine cH (fun hg => hmk) ?_ | refine cM (fun hg => hKn) ?_ | refine cM (fun hg => hmk) ?_) | (guard_target = CallAt _ _ _ _ _ _ _ _ _ _; first | refine cA hKn ?_ | refine cA hmk ?_) | (guard_target = DCallAt _ _ _ _ _ _ _ _; first | refine cD hKn ?_ | refine cD hmk ?_) | (guard_target = GCallAt _ _ _ _ _ _ _ _ _ _ _; first | refine cG (fun hg => hKn) ?_ | refine cG (fun hg => hmk) ?_)); simp only [go_sem]) | (with_reducible refine gsplit_i (fun hg0 => ?_) (fun hg0 => ?_) <;> first | (with_reducible first | exact absurd hg0 Bool.false_ne_true | exact absurd hg0.symm Bool.false_ne_true) | (simp only [hg0, go_sem])) | (with_reducible refine nilK_i ?_; intro bnil hnil; try simp only []) | (omega; done) | (intro hv; (try simp only [bls] at hv); (try simp only [bls]); omega) | (intro hg; (simp only [hg, Bool.true_and, true_and, implies_true]; try (intro hg2; simp only [hg2, Bool.not_false, Bool.not_true])); done)))
 all_goals first | omega | skip
 refine awp_loop _ (by simp only [go_sem]; rfl) Nat (fun k => k ≤ n.init.length) (fun k => [(6, .one (.own 2)), (26, .one (.int .i64 k))]) (fun k _ => [.var 25 (bytesD 37 s), .var 30 [.list (ints n.init), .list (trsD n.trs)], .row 3 1 (ints (bitsL B k))]) (fun k => n.init.length - k) 0 (by omega) ?_ ?_
 ·have e1 : ints (bitsL B 0) = [] := rfl
  rw [e1]
  (simp only [SubF, go_sem]; (try simp only [go_sem]); repeat' (first | exact True.intro | with_reducible refine And.intro ?_ ?_ | rfl | omega))
 rintro k hk L hL
 have hbk := bitsL_length B k
 by_cases hlt : k < n.init.length
 ·have hbit := bit_u8 B k hB (by omega)
  have e2 := bitsL_succ B k
  (simp only [go_sem] at hL ⊢)
  (repeat' (first | (with_reducible first | exact True.intro | refine And.intro ?_ ?_ | refine awp_block ?_ | ((first | refine awp_seq1 8 [25, 26, 9, 10, 103, 18, 17, 14, 16, 104, 15, 13, 12, 11] ?_ | refine awp_seq2 8 [25, 26, 9, 10, 103, 18, 17, 14, 16, 104, 15, 13, 12, 11] ?_ | refine awp_seq3 8 [25, 26, 9, 10, 103, 18, 17, 14, 16, 104, 15, 13, 12, 11] ?_ | refine awp_seq4 8 [25, 26, 9, 10, 103, 18, 17, 14, 16, 104, 15, 13, 12, 11] ?_ | refine awp_seq 8 [25, 26, 9, 10, 103, 18, 17, 14, 16, 104, 15, 13, 12, 11] ?_); intro K hK)) | ((with_reducible first | refine awp_reg ?_ | refine awp_exit ?_ | refine awp_skip ?_ | refine likeK_i ?_ | refine rP Ty_ok mixed 28 [0, 2, 3, 8] [.mid [pe 1, pe 4, pe 5, pe 6, ⟨7, 0, true, false, false, [], []⟩, ⟨9, 1, false, false, false, [0], []⟩, ⟨10, 1, true, false, true, [], [0]⟩, ⟨11, 2, false, false, false, [0], []⟩, ⟨12, 2, false, false, false, [0], []⟩] 2, .one 13, .one 14] ?_ | refine rP Ty_ok mixed 26 [1, 2, 6] [.mid [pe 0, pe 3, pe 4, pe 5, ⟨7, 0, true, false, false, [], []⟩, ⟨8, 1, false, false, false, [], []⟩, ⟨9, 1, false, false, false, [], []⟩, ⟨10, 1, false, true, false, [], []⟩, ⟨11, 1, true, false, false, [0], []⟩] 2, .one 12, .one 13] ?_); simp only [go_sem]) | (with_reducible refine awp_ret ?_; simp only [retF, retM, retL, resV, resW, retO, resAV, AV.bor, D.bor, D.bor1, D.bor0, AV.flatOwn, D.flatOwn, D.flat, AV.tagged, D.tagged, AObj.plain, go_sem]) | ((with_reducible refine awp_cond' ?_ ?_ (fun hb => ?_) (fun hb => ?_)); (simp only [go_sem]); (simp only [go_sem]); all_goals (simp only [go_sem] at hb; try simp only [bls] at hb)) | ((iterate 6 try ((fail_if_success with_reducible refine hK _ ?_ ?_ ?_); clear hK K)); with_reducible refine hK _ ?_ ?_ ?_; rotate_left; (focus (simp only [go_sem]; exact rfl)); clear hK K) | (with_reducible refine gsplit_i (fun hg0 => ?_) (fun hg0 => ?_) <;> first | (with_reducible first | exact absurd hg0 Bool.false_ne_true | exact absurd hg0.symm Bool.false_ne_true) | (simp only [hg0, go_sem])) | (with_reducible refine nilK_i ?_; intro bnil hnil; try simp only []) | (omega; done) | (intro hv; (try simp only [bls] at hv); (try simp only [bls]); omega) | (intro hg; (simp only [hg, Bool.true_and, true_and, implies_true]; try (intro hg2; simp only [hg2, Bool.not_false, Bool.not_true])); done)))
  all_goals first | omega | skip
  ·rw [hbit] at hb
   rw [if_pos hb] at e2
   simp only [ints_one, ints_append, ← e2]
   exact hL _ (k + 1) (by omega) (by (simp only [SubF, go_sem]; (try simp only [go_sem]); repeat' (first | exact True.intro | with_reducible refine And.intro ?_ ?_ | rfl | omega))) (by omega)
  ·rw [hbit] at hb
   rw [if_neg hb, List.append_nil] at e2
   simp only [← e2]
   exact hL _ (k + 1) (by omega) (by (simp only [SubF, go_sem]; (try simp only [go_sem]); repeat' (first | exact True.intro | with_reducible refine And.intro ?_ ?_ | rfl | omega))) (by omega)
 have hkn : k = n.init.length := by omega
 subst hkn
 have hin : ∀ x ∈ bitsL B n.init.length, 0 ≤ x ∧ x < n.init.length := checkSet_in hset
 generalize bitsL B n.init.length = set at *
 cases hbb : bndF n with
 | inl e =>
  have hne0 := hbne e hbb
  rw [hbb] at hG hEm
  simp only [grR] at hG
  simp only at hEm
  (simp only [go_sem] at hL ⊢)
  (repeat' (first | (with_reducible first | exact True.intro | refine And.intro ?_ ?_ | refine awp_block ?_ | ((first | refine awp_seq1 8 [25, 26, 9, 10, 103, 18, 17, 14, 16, 104, 15, 13, 12, 11] ?_ | refine awp_seq2 8 [25, 26, 9, 10, 103, 18, 17, 14, 16, 104, 15, 13, 12, 11] ?_ | refine awp_seq3 8 [25, 26, 9, 10, 103, 18, 17, 14, 16, 104, 15, 13, 12, 11] ?_ | refine awp_seq4 8 [25, 26, 9, 10, 103, 18, 17, 14, 16, 104, 15, 13, 12, 11] ?_ | refine awp_seq 8 [25, 26, 9, 10, 103, 18, 17, 14, 16, 104, 15, 13, 12, 11] ?_); intro K hK)) | ((with_reducible first | refine awp_reg ?_ | refine awp_exit ?_ | refine awp_skip ?_ | refine likeK_i ?_ | refine rP Ty_ok mixed 28 [0, 2, 3, 8] [.mid [pe 1, pe 4, pe 5, pe 6, ⟨7, 0, true, false, false, [], []⟩, ⟨9, 1, false, false, false, [0], []⟩, ⟨10, 1, true, false, true, [], [0]⟩, ⟨11, 2, false, false, false, [0], []⟩, ⟨12, 2, false, false, false, [0], []⟩] 2, .one 13, .one 14] ?_ | refine rP Ty_ok mixed 26 [1, 2, 6] [.mid [pe 0, pe 3, pe 4, pe 5, ⟨7, 0, true, false, false, [], []⟩, ⟨8, 1, false, false, false, [], []⟩, ⟨9, 1, false, false, false, [], []⟩, ⟨10, 1, false, true, false, [], []⟩, ⟨11, 1, true, false, false, [0], []⟩] 2, .one 12, .one 13] ?_); simp only [go_sem]) | (with_reducible refine awp_ret ?_; simp only [retF, retM, retL, resV, resW, retO, resAV, AV.bor, D.bor, D.bor1, D.bor0, AV.flatOwn, D.flatOwn, D.flat, AV.tagged, D.tagged, AObj.plain, go_sem]) | ((with_reducible refine awp_cond' ?_ ?_ (fun hb => ?_) (fun hb => ?_)); (simp only [go_sem]); (simp only [go_sem]); all_goals (simp only [go_sem] at hb; try simp only [bls] at hb)) | ((iterate 6 try ((fail_if_success with_reducible refine hK _ ?_ ?_ ?_); clear hK K)); with_reducible refine hK _ ?_ ?_ ?_; rotate_left; (focus (simp only [go_sem]; exact rfl)); clear hK K) | ((first | (with_reducible first | refine cA hG ?_ | refine cD hG ?_ | refine cO hG ?_ | refine cR hG ?_ | refine cG (fun hg => hG) ?_ | refine cH (fun hg => hG) ?_ | refine cM (fun hg => hG) ?_) | (guard_target = CallAt _ _ _ _ _ _ _ _ _ _; refine cA hG ?_) | (guard_target = DCallAt _ _ _ _ _ _ _ _; refine cD hG ?_) | (guard_target = GCallAt _ _ _ _ _ _ _ _ _ _ _; refine cG (fun hg => hG) ?_)); simp only [go_sem]) | (with_reducible refine gsplit_i (fun hg0 => ?_) (fun hg0 => ?_) <;> first | (with_reducible first | exact absurd hg0 Bool.false_ne_true | exact absurd hg0.symm Bool.false_ne_true) | (simp only [hg0, go_sem])) | (with_reducible refine nilK_i ?_; intro bnil hnil; try simp only []) | (omega; done) | (intro hv; (try simp only [bls] at hv); (try simp only [bls]); omega) | (intro hg; (simp only [hg, Bool.true_and, true_and, implies_true]; try (intro hg2; simp only [hg2, Bool.not_false, Bool.not_true])); done)))
  all_goals first | omega | skip
  (refine MCallAt_i [2] [] (calls_toM hEm) ?_ ?_; (focus (simp only [mside, handOk, go_sem]; (first | done | exact (by decide) | exact ⟨by decide, fun t ht => ht.elim⟩ | (refine ⟨by decide, ?_⟩; simp; done)))); simp only [go_sem])
  (repeat' (first | (with_reducible first | exact True.intro | refine And.intro ?_ ?_ | refine awp_block ?_ | ((first | refine awp_seq1 8 [25, 26, 9, 10, 103, 18, 17, 14, 16, 104, 15, 13, 12, 11] ?_ | refine awp_seq2 8 [25, 26, 9, 10, 103, 18, 17, 14, 16, 104, 15, 13, 12, 11] ?_ | refine awp_seq3 8 [25, 26, 9, 10, 103, 18, 17, 14, 16, 104, 15, 13, 12, 11] ?_ | refine awp_seq4 8 [25, 26, 9, 10, 103, 18, 17, 14, 16, 104, 15, 13, 12, 11] ?_ | refine awp_seq 8 [25, 26, 9, 10, 103, 18, 17, 14, 16, 104, 15, 13, 12, 11] ?_); intro K hK)) | ((with_reducible first | refine awp_reg ?_ | refine awp_exit ?_ | refine awp_skip ?_ | refine likeK_i ?_ | refine rP Ty_ok mixed 28 [0, 2, 3, 8] [.mid [pe 1, pe 4, pe 5, pe 6, ⟨7, 0, true, false, false, [], []⟩, ⟨9, 1, false, false, false, [0], []⟩, ⟨10, 1, true, false, true, [], [0]⟩, ⟨11, 2, false, false, false, [0], []⟩, ⟨12, 2, false, false, false, [0], []⟩] 2, .one 13, .one 14] ?_ | refine rP Ty_ok mixed 26 [1, 2, 6] [.mid [pe 0, pe 3, pe 4, pe 5, ⟨7, 0, true, false, false, [], []⟩, ⟨8, 1, false, false, false, [], []⟩, ⟨9, 1, false, false, false, [], []⟩, ⟨10, 1, false, true, false, [], []⟩, ⟨11, 1, true, false, false, [0], []⟩] 2, .one 12, .one 13] ?_); simp only [go_sem]) | (with_reducible refine awp_ret ?_; simp only [retF, retM, retL, resV, resW, retO, resAV, AV.bor, D.bor, D.bor1, D.bor0, AV.flatOwn, D.flatOwn, D.flat, AV.tagged, D.tagged, AObj.plain, go_sem]) | ((with_reducible refine awp_cond' ?_ ?_ (fun hb => ?_) (fun hb => ?_)); (simp only [go_sem]); (simp only [go_sem]); all_goals (simp only [go_sem] at hb; try simp only [bls] at hb)) | ((iterate 6 try ((fail_if_success with_reducible refine hK _ ?_ ?_ ?_); clear hK K)); with_reducible refine hK _ ?_ ?_ ?_; rotate_left; (focus (simp only [go_sem]; exact rfl)); clear hK K) | (with_reducible refine gsplit_i (fun hg0 => ?_) (fun hg0 => ?_) <;> first | (with_reducible first | exact absurd hg0 Bool.false_ne_true | exact absurd hg0.symm Bool.false_ne_true) | (simp only [hg0, go_sem])) | (with_reducible refine nilK_i ?_; intro bnil hnil; try simp only []) | (omega; done) | (intro hv; (try simp only [bls] at hv); (try simp only [bls]); omega) | (intro hg; (simp only [hg, Bool.true_and, true_and, implies_true]; try (intro hg2; simp only [hg2, Bool.not_false, Bool.not_true])); done)))
  all_goals first | omega | skip
 | inr r =>
  obtain ⟨nd, ed⟩ := r
  obtain ⟨hS, hNd, hl4⟩ := hse nd ed hbb
  rw [hbb] at hG hEm
  simp only [grR] at hG
  simp only at hEm
  by_cases h60 : 60 < nd.length
  ·(simp only [go_sem] at hL ⊢)
   (repeat' (first | (with_reducible first | exact True.intro | refine And.intro ?_ ?_ | refine awp_block ?_ | ((first | refine awp_seq1 8 [25, 26, 9, 10, 103, 18, 17, 14, 16, 104, 15, 13, 12, 11] ?_ | refine awp_seq2 8 [25, 26, 9, 10, 103, 18, 17, 14, 16, 104, 15, 13, 12, 11] ?_ | refine awp_seq3 8 [25, 26, 9, 10, 103, 18, 17, 14, 16, 104, 15, 13, 12, 11] ?_ | refine awp_seq4 8 [25, 26, 9, 10, 103, 18, 17, 14, 16, 104, 15, 13, 12, 11] ?_ | refine awp_seq 8 [25, 26, 9, 10, 103, 18, 17, 14, 16, 104, 15, 13, 12, 11] ?_); intro K hK)) | ((with_reducible first | refine awp_reg ?_ | refine awp_exit ?_ | refine awp_skip ?_ | refine likeK_i ?_ | refine rP Ty_ok mixed 28 [0, 2, 3, 8] [.mid [pe 1, pe 4, pe 5, pe 6, ⟨7, 0, true, false, false, [], []⟩, ⟨9, 1, false, false, false, [0], []⟩, ⟨10, 1, true, false, true, [], [0]⟩, ⟨11, 2, false, false, false, [0], []⟩, ⟨12, 2, false, false, false, [0], []⟩] 2, .one 13, .one 14] ?_ | refine rP Ty_ok mixed 26 [1, 2, 6] [.mid [pe 0, pe 3, pe 4, pe 5, ⟨7, 0, true, false, false, [], []⟩, ⟨8, 1, false, false, false, [], []⟩, ⟨9, 1, false, false, false, [], []⟩, ⟨10, 1, false, true, false, [], []⟩, ⟨11, 1, true, false, false, [0], []⟩] 2, .one 12, .one 13] ?_); simp only [List.length_map, go_sem]) | (with_reducible refine awp_ret ?_; simp only [retF, retM, retL, resV, resW, retO, resAV, AV.bor, D.bor, D.bor1, D.bor0, AV.flatOwn, D.flatOwn, D.flat, AV.tagged, D.tagged, AObj.plain, List.length_map, go_sem]) | ((with_reducible refine awp_cond' ?_ ?_ (fun hb => ?_) (fun hb => ?_)); (simp only [List.length_map, go_sem]); (simp only [List.length_map, go_sem]); all_goals (simp only [List.length_map, go_sem] at hb; try simp only [bls] at hb)) | ((iterate 6 try ((fail_if_success with_reducible refine hK _ ?_ ?_ ?_); clear hK K)); with_reducible refine hK _ ?_ ?_ ?_; rotate_left; (focus (simp only [List.length_map, go_sem]; exact rfl)); clear hK K) | ((first | (with_reducible first | refine cA hG ?_ | refine cD hG ?_ | refine cO hG ?_ | refine cR hG ?_ | refine cG (fun hg => hG) ?_ | refine cH (fun hg => hG) ?_ | refine cM (fun hg => hG) ?_) | (guard_target = CallAt _ _ _ _ _ _ _ _ _ _; refine cA hG ?_) | (guard_target = DCallAt _ _ _ _ _ _ _ _; refine cD hG ?_) | (guard_target = GCallAt _ _ _ _ _ _ _ _ _ _ _; refine cG (fun hg => hG) ?_)); simp only [List.length_map, go_sem]) | (with_reducible refine gsplit_i (fun hg0 => ?_) (fun hg0 => ?_) <;> first | (with_reducible first | exact absurd hg0 Bool.false_ne_true | exact absurd hg0.symm Bool.false_ne_true) | (simp only [hg0, List.length_map, go_sem])) | (with_reducible refine nilK_i ?_; intro bnil hnil; try simp only []) | (omega; done) | (intro hv; (try simp only [bls] at hv); (try simp only [bls]); omega) | (intro hg; (simp only [hg, Bool.true_and, true_and, implies_true]; try (intro hg2; simp only [hg2, Bool.not_false, Bool.not_true])); done)))
   all_goals first | omega | skip
  ·obtain ⟨R, hR⟩ : ∃ R : List Int × Bool × Int, R = if 0 ≤ emT set nd then (pathF nd (emT set nd), true, 0) else ([], false, 0) := ⟨_, rfl⟩
   rw [← hR] at hEm
   have hR3 : R.2.2 = 0 := by rw [hR]; split <;> rfl
   rw [hR3] at hEm
   (simp only [go_sem] at hL ⊢)
   (repeat' (first | (with_reducible first | exact True.intro | refine And.intro ?_ ?_ | refine awp_block ?_ | ((first | refine awp_seq1 8 [25, 26, 9, 10, 103, 18, 17, 14, 16, 104, 15, 13, 12, 11] ?_ | refine awp_seq2 8 [25, 26, 9, 10, 103, 18, 17, 14, 16, 104, 15, 13, 12, 11] ?_ | refine awp_seq3 8 [25, 26, 9, 10, 103, 18, 17, 14, 16, 104, 15, 13, 12, 11] ?_ | refine awp_seq4 8 [25, 26, 9, 10, 103, 18, 17, 14, 16, 104, 15, 13, 12, 11] ?_ | refine awp_seq 8 [25, 26, 9, 10, 103, 18, 17, 14, 16, 104, 15, 13, 12, 11] ?_); intro K hK)) | ((with_reducible first | refine awp_reg ?_ | refine awp_exit ?_ | refine awp_skip ?_ | refine likeK_i ?_ | refine rP Ty_ok mixed 28 [0, 2, 3, 8] [.mid [pe 1, pe 4, pe 5, pe 6, ⟨7, 0, true, false, false, [], []⟩, ⟨9, 1, false, false, false, [0], []⟩, ⟨10, 1, true, false, true, [], [0]⟩, ⟨11, 2, false, false, false, [0], []⟩, ⟨12, 2, false, false, false, [0], []⟩] 2, .one 13, .one 14] ?_ | refine rP Ty_ok mixed 26 [1, 2, 6] [.mid [pe 0, pe 3, pe 4, pe 5, ⟨7, 0, true, false, false, [], []⟩, ⟨8, 1, false, false, false, [], []⟩, ⟨9, 1, false, false, false, [], []⟩, ⟨10, 1, false, true, false, [], []⟩, ⟨11, 1, true, false, false, [0], []⟩] 2, .one 12, .one 13] ?_); simp only [List.length_map, go_sem]) | (with_reducible refine awp_ret ?_; simp only [retF, retM, retL, resV, resW, retO, resAV, AV.bor, D.bor, D.bor1, D.bor0, AV.flatOwn, D.flatOwn, D.flat, AV.tagged, D.tagged, AObj.plain, List.length_map, go_sem]) | ((with_reducible refine awp_cond' ?_ ?_ (fun hb => ?_) (fun hb => ?_)); (simp only [List.length_map, go_sem]); (simp only [List.length_map, go_sem]); all_goals (simp only [List.length_map, go_sem] at hb; try simp only [bls] at hb)) | ((iterate 6 try ((fail_if_success with_reducible refine hK _ ?_ ?_ ?_); clear hK K)); with_reducible refine hK _ ?_ ?_ ?_; rotate_left; (focus (simp only [List.length_map, go_sem]; exact rfl)); clear hK K) | ((first | (with_reducible first | refine cA hG ?_ | refine cD hG ?_ | refine cO hG ?_ | refine cR hG ?_ | refine cG (fun hg => hG) ?_ | refine cH (fun hg => hG) ?_ | refine cM (fun hg => hG) ?_) | (guard_target = CallAt _ _ _ _ _ _ _ _ _ _; refine cA hG ?_) | (guard_target = DCallAt _ _ _ _ _ _ _ _; refine cD hG ?_) | (guard_target = GCallAt _ _ _ _ _ _ _ _ _ _ _; refine cG (fun hg => hG) ?_)); simp only [List.length_map, go_sem]) | (with_reducible refine gsplit_i (fun hg0 => ?_) (fun hg0 => ?_) <;> first | (with_reducible first | exact absurd hg0 Bool.false_ne_true | exact absurd hg0.symm Bool.false_ne_true) | (simp only [hg0, List.length_map, go_sem])) | (with_reducible refine nilK_i ?_; intro bnil hnil; try simp only []) | (omega; done) | (intro hv; (try simp only [bls] at hv); (try simp only [bls]); omega) | (intro hg; (simp only [hg, Bool.true_and, true_and, implies_true]; try (intro hg2; simp only [hg2, Bool.not_false, Bool.not_true])); done)))
   all_goals first | omega | skip
   (refine MCallAt_i [2] [] (calls_toM hEm) ?_ ?_; (focus (simp only [mside, handOk, go_sem]; (first | done | exact (by decide) | exact ⟨by decide, fun t ht => ht.elim⟩ | (refine ⟨by decide, ?_⟩; simp; done)))); simp only [go_sem])
   (repeat' (first | (with_reducible first | exact True.intro | refine And.intro ?_ ?_ | refine awp_block ?_ | ((first | refine awp_seq1 8 [25, 26, 9, 10, 103, 18, 17, 14, 16, 104, 15, 13, 12, 11] ?_ | refine awp_seq2 8 [25, 26, 9, 10, 103, 18, 17, 14, 16, 104, 15, 13, 12, 11] ?_ | refine awp_seq3 8 [25, 26, 9, 10, 103, 18, 17, 14, 16, 104, 15, 13, 12, 11] ?_ | refine awp_seq4 8 [25, 26, 9, 10, 103, 18, 17, 14, 16, 104, 15, 13, 12, 11] ?_ | refine awp_seq 8 [25, 26, 9, 10, 103, 18, 17, 14, 16, 104, 15, 13, 12, 11] ?_); intro K hK)) | ((with_reducible first | refine awp_reg ?_ | refine awp_exit ?_ | refine awp_skip ?_ | refine likeK_i ?_ | refine rP Ty_ok mixed 28 [0, 2, 3, 8] [.mid [pe 1, pe 4, pe 5, pe 6, ⟨7, 0, true, false, false, [], []⟩, ⟨9, 1, false, false, false, [0], []⟩, ⟨10, 1, true, false, true, [], [0]⟩, ⟨11, 2, false, false, false, [0], []⟩, ⟨12, 2, false, false, false, [0], []⟩] 2, .one 13, .one 14] ?_ | refine rP Ty_ok mixed 26 [1, 2, 6] [.mid [pe 0, pe 3, pe 4, pe 5, ⟨7, 0, true, false, false, [], []⟩, ⟨8, 1, false, false, false, [], []⟩, ⟨9, 1, false, false, false, [], []⟩, ⟨10, 1, false, true, false, [], []⟩, ⟨11, 1, true, false, false, [0], []⟩] 2, .one 12, .one 13] ?_); simp only [go_sem]) | (with_reducible refine awp_ret ?_; simp only [retF, retM, retL, resV, resW, retO, resAV, AV.bor, D.bor, D.bor1, D.bor0, AV.flatOwn, D.flatOwn, D.flat, AV.tagged, D.tagged, AObj.plain, go_sem]) | ((with_reducible refine awp_cond' ?_ ?_ (fun hb => ?_) (fun hb => ?_)); (simp only [go_sem]); (simp only [go_sem]); all_goals (simp only [go_sem] at hb; try simp only [bls] at hb)) | ((iterate 6 try ((fail_if_success with_reducible refine hK _ ?_ ?_ ?_); clear hK K)); with_reducible refine hK _ ?_ ?_ ?_; rotate_left; (focus (simp only [go_sem]; exact rfl)); clear hK K) | (with_reducible refine gsplit_i (fun hg0 => ?_) (fun hg0 => ?_) <;> first | (with_reducible first | exact absurd hg0 Bool.false_ne_true | exact absurd hg0.symm Bool.false_ne_true) | (simp only [hg0, go_sem])) | (with_reducible refine nilK_i ?_; intro bnil hnil; try simp only []) | (omega; done) | (intro hv; (try simp only [bls] at hv); (try simp only [bls]); omega) | (intro hg; (simp only [hg, Bool.true_and, true_and, implies_true]; try (intro hg2; simp only [hg2, Bool.not_false, Bool.not_true])); done)))
   all_goals first | omega | skip
   clear hL hG hEm hbne hEx
   have hi10 := hok.init
   have ht10 := hok.trs
   have hset6 : set.length ≤ 5 := by omega
   refine awp_loop _ (by simp only [go_sem]; rfl) (Nat × Nat × List SN × List Edg)
    (fun u => outerF n 4096 u.1 u.2.1 u.2.2.1 u.2.2.2 = .cont nd ed ∧ NodesOk n.init.length u.2.2.1 ∧ u.2.1 ≤ u.2.2.1.length ∧ ∀ j, j < u.2.1 → sumAt (u.2.2.1.getD j SN.no).m set ≠ 0)
    (fun u => [(14, .one (.own 3)), (15, .one (.int .i64 u.2.1))])
    (fun u H => H.set 3 (.row 40 2 (plsD (plOf u.2.2.1))))
    (fun u => u.1) (4098, 0, [⟨n.init, -1, -1⟩], []) ⟨hS, nodesOk_one hok.tok, by simp only; omega, fun j hj => by simp only at hj; omega⟩ ?_ ?_
   ·have e0 : plsD (plOf [⟨n.init, -1, -1⟩]) = [[.list (ints n.init), .nil]] := rfl
    rw [e0]
    (simp only [SubF, List.set_cons_succ, List.set_cons_zero, go_sem]; (try simp only [List.set_cons_succ, List.set_cons_zero, go_sem]); repeat' (first | exact True.intro | with_reducible refine And.intro ?_ ?_ | rfl | omega))
   rintro ⟨f, i, nodes, edges⟩ ⟨hres, hN, hi, hz⟩ L hL
   simp only at hres hN hi hz
   obtain ⟨rr, hpre⟩ := outer_prefix hres
   have hnl0 : nd.length = nodes.length + rr.length := by rw [hpre]; simp
   have hnl : nodes.length ≤ 60 := by omega
   cases f with
   | zero => cases hres
   | succ f =>
   rw [outer_succ] at hres
   by_cases hik : i < nodes.length
   ·rw [if_pos hik, ← ablG_all] at hres
    have hml := hN.len _ (getD_mem nodes i SN.no hik)
    have hmt := hN.tok _ (getD_mem nodes i SN.no hik)
    have hg := pls_at (l := plOf nodes) (k := i) (by rw [plOf_length]; exact hik) []
    rw [plOf_get hik] at hg
    simp only at hg
    have hsu := lSum_c (nodes.getD i SN.no).m set hmt (by rw [hml]; exact hin) (by omega) (by omega)
    have hpl := pathF_len' nodes i
    have heq := EqualInts_c (pathF nodes i) (pathF nodes i) (by omega)
    rw [decide_eq_true rfl] at heq
    have hpll := plOf_length nodes
    have hq : ((i : Nat) : Int).toNat = i := by omega
    by_cases hzero : sumAt (nodes.getD i SN.no).m set = 0
    ·have hgd : ∀ j, j < nodes.length → nd.getD j SN.no = nodes.getD j SN.no := fun j hj => by rw [hpre, getD_append_lt _ _ _ _ hj]
     have hlen2 : nd.length = nodes.length + rr.length := by rw [hpre]; simp
     have hem := emT_at set nd i (by omega) (fun j hj => by rw [hgd j (by omega)]; exact hz j hj) (by rw [hgd i hik]; exact hzero)
     have hpe : pathF nd i = pathF nodes i := by rw [pathF, pathF, hpre, backF_more hN rr _ _ (by omega) (by omega)]
     rw [hem, if_pos (by omega), hpe] at hR
     rw [hzero] at hsu
     cases hrun : pathF nodes i with
     | nil =>
      rw [hrun] at hg hR heq
      simp only [runD] at hg
      subst hR
      (simp only [List.set_cons_succ, List.set_cons_zero, go_sem] at hL ⊢)
      (repeat' (first | (with_reducible first | exact True.intro | refine And.intro ?_ ?_ | refine awp_block ?_ | ((first | refine awp_seq1 8 [25, 26, 9, 10, 103, 18, 17, 14, 16, 104, 15, 13, 12, 11] ?_ | refine awp_seq2 8 [25, 26, 9, 10, 103, 18, 17, 14, 16, 104, 15, 13, 12, 11] ?_ | refine awp_seq3 8 [25, 26, 9, 10, 103, 18, 17, 14, 16, 104, 15, 13, 12, 11] ?_ | refine awp_seq4 8 [25, 26, 9, 10, 103, 18, 17, 14, 16, 104, 15, 13, 12, 11] ?_ | refine awp_seq 8 [25, 26, 9, 10, 103, 18, 17, 14, 16, 104, 15, 13, 12, 11] ?_); intro K hK)) | ((with_reducible first | refine awp_reg ?_ | refine awp_exit ?_ | refine awp_skip ?_ | refine likeK_i ?_ | refine rP Ty_ok mixed 28 [0, 2, 3, 8] [.mid [pe 1, pe 4, pe 5, pe 6, ⟨7, 0, true, false, false, [], []⟩, ⟨9, 1, false, false, false, [0], []⟩, ⟨10, 1, true, false, true, [], [0]⟩, ⟨11, 2, false, false, false, [0], []⟩, ⟨12, 2, false, false, false, [0], []⟩] 2, .one 13, .one 14] ?_ | refine rP Ty_ok mixed 26 [1, 2, 6] [.mid [pe 0, pe 3, pe 4, pe 5, ⟨7, 0, true, false, false, [], []⟩, ⟨8, 1, false, false, false, [], []⟩, ⟨9, 1, false, false, false, [], []⟩, ⟨10, 1, false, true, false, [], []⟩, ⟨11, 1, true, false, false, [0], []⟩] 2, .one 12, .one 13] ?_); simp only [hq, hg, hpll, go_sem]) | (with_reducible refine awp_ret ?_; simp only [retF, retM, retL, resV, resW, retO, resAV, AV.bor, D.bor, D.bor1, D.bor0, AV.flatOwn, D.flatOwn, D.flat, AV.tagged, D.tagged, AObj.plain, hq, hg, hpll, go_sem]) | ((with_reducible refine awp_cond' ?_ ?_ (fun hb => ?_) (fun hb => ?_)); (simp only [hq, hg, hpll, go_sem]); (simp only [hq, hg, hpll, go_sem]); all_goals (simp only [hq, hg, hpll, go_sem] at hb; try simp only [bls] at hb)) | ((iterate 6 try ((fail_if_success with_reducible refine hK _ ?_ ?_ ?_); clear hK K)); with_reducible refine hK _ ?_ ?_ ?_; rotate_left; (focus (simp only [hq, hg, hpll, go_sem]; exact rfl)); clear hK K) | ((first | (with_reducible first | refine cA hsu ?_ | refine cA heq ?_ | refine cD hsu ?_ | refine cD heq ?_ | refine cO hsu ?_ | refine cO heq ?_ | refine cR hsu ?_ | refine cR heq ?_ | refine cG (fun hg => hsu) ?_ | refine cG (fun hg => heq) ?_ | refine cH (fun hg => hsu) ?_ | refine cH (fun hg => heq) ?_ | refine cM (fun hg => hsu) ?_ | refine cM (fun hg => heq) ?_) | (guard_target = CallAt _ _ _ _ _ _ _ _ _ _; first | refine cA hsu ?_ | refine cA heq ?_) | (guard_target = DCallAt _ _ _ _ _ _ _ _; first | refine cD hsu ?_ | refine cD heq ?_) | (guard_target = GCallAt _ _ _ _ _ _ _ _ _ _ _; first | refine cG (fun hg => hsu) ?_ | refine cG (fun hg => heq) ?_)); simp only [hq, hg, hpll, go_sem]) | (with_reducible refine gsplit_i (fun hg0 => ?_) (fun hg0 => ?_) <;> first | (with_reducible first | exact absurd hg0 Bool.false_ne_true | exact absurd hg0.symm Bool.false_ne_true) | (simp only [hg0, hq, hg, hpll, go_sem])) | (with_reducible refine nilK_i ?_; intro bnil hnil; try simp only []) | (omega; done) | (intro hv; (try simp only [bls] at hv); (try simp only [bls]); omega) | (intro hg; (simp only [hg, Bool.true_and, true_and, implies_true]; try (intro hg2; simp only [hg2, Bool.not_false, Bool.not_true])); done)))
      all_goals first | omega | skip
     | cons y r =>
      rw [hrun] at hg hR heq
      simp only [runD] at hg
      subst hR
      (simp only [List.set_cons_succ, List.set_cons_zero, go_sem] at hL ⊢)
      (repeat' (first | (with_reducible first | exact True.intro | refine And.intro ?_ ?_ | refine awp_block ?_ | ((first | refine awp_seq1 8 [25, 26, 9, 10, 103, 18, 17, 14, 16, 104, 15, 13, 12, 11] ?_ | refine awp_seq2 8 [25, 26, 9, 10, 103, 18, 17, 14, 16, 104, 15, 13, 12, 11] ?_ | refine awp_seq3 8 [25, 26, 9, 10, 103, 18, 17, 14, 16, 104, 15, 13, 12, 11] ?_ | refine awp_seq4 8 [25, 26, 9, 10, 103, 18, 17, 14, 16, 104, 15, 13, 12, 11] ?_ | refine awp_seq 8 [25, 26, 9, 10, 103, 18, 17, 14, 16, 104, 15, 13, 12, 11] ?_); intro K hK)) | ((with_reducible first | refine awp_reg ?_ | refine awp_exit ?_ | refine awp_skip ?_ | refine likeK_i ?_ | refine rP Ty_ok mixed 28 [0, 2, 3, 8] [.mid [pe 1, pe 4, pe 5, pe 6, ⟨7, 0, true, false, false, [], []⟩, ⟨9, 1, false, false, false, [0], []⟩, ⟨10, 1, true, false, true, [], [0]⟩, ⟨11, 2, false, false, false, [0], []⟩, ⟨12, 2, false, false, false, [0], []⟩] 2, .one 13, .one 14] ?_ | refine rP Ty_ok mixed 26 [1, 2, 6] [.mid [pe 0, pe 3, pe 4, pe 5, ⟨7, 0, true, false, false, [], []⟩, ⟨8, 1, false, false, false, [], []⟩, ⟨9, 1, false, false, false, [], []⟩, ⟨10, 1, false, true, false, [], []⟩, ⟨11, 1, true, false, false, [0], []⟩] 2, .one 12, .one 13] ?_); simp only [hq, hg, hpll, go_sem]) | (with_reducible refine awp_ret ?_; simp only [retF, retM, retL, resV, resW, retO, resAV, AV.bor, D.bor, D.bor1, D.bor0, AV.flatOwn, D.flatOwn, D.flat, AV.tagged, D.tagged, AObj.plain, hq, hg, hpll, go_sem]) | ((with_reducible refine awp_cond' ?_ ?_ (fun hb => ?_) (fun hb => ?_)); (simp only [hq, hg, hpll, go_sem]); (simp only [hq, hg, hpll, go_sem]); all_goals (simp only [hq, hg, hpll, go_sem] at hb; try simp only [bls] at hb)) | ((iterate 6 try ((fail_if_success with_reducible refine hK _ ?_ ?_ ?_); clear hK K)); with_reducible refine hK _ ?_ ?_ ?_; rotate_left; (focus (simp only [hq, hg, hpll, go_sem]; exact rfl)); clear hK K) | ((first | (with_reducible first | refine cA hsu ?_ | refine cA heq ?_ | refine cD hsu ?_ | refine cD heq ?_ | refine cO hsu ?_ | refine cO heq ?_ | refine cR hsu ?_ | refine cR heq ?_ | refine cG (fun hg => hsu) ?_ | refine cG (fun hg => heq) ?_ | refine cH (fun hg => hsu) ?_ | refine cH (fun hg => heq) ?_ | refine cM (fun hg => hsu) ?_ | refine cM (fun hg => heq) ?_) | (guard_target = CallAt _ _ _ _ _ _ _ _ _ _; first | refine cA hsu ?_ | refine cA heq ?_) | (guard_target = DCallAt _ _ _ _ _ _ _ _; first | refine cD hsu ?_ | refine cD heq ?_) | (guard_target = GCallAt _ _ _ _ _ _ _ _ _ _ _; first | refine cG (fun hg => hsu) ?_ | refine cG (fun hg => heq) ?_)); simp only [hq, hg, hpll, go_sem]) | (with_reducible refine gsplit_i (fun hg0 => ?_) (fun hg0 => ?_) <;> first | (with_reducible first | exact absurd hg0 Bool.false_ne_true | exact absurd hg0.symm Bool.false_ne_true) | (simp only [hg0, hq, hg, hpll, go_sem])) | (with_reducible refine nilK_i ?_; intro bnil hnil; try simp only []) | (omega; done) | (intro hv; (try simp only [bls] at hv); (try simp only [bls]); omega) | (intro hg; (simp only [hg, Bool.true_and, true_and, implies_true]; try (intro hg2; simp only [hg2, Bool.not_false, Bool.not_true])); done)))
      all_goals first | omega | skip
    ·have hzz : ∀ j, j < i + 1 → sumAt (nodes.getD j SN.no).m set ≠ 0 := fun j hj => by
      by_cases hji : j = i
      ·subst hji; exact hzero
      ·exact hz j (by omega)
     have hxx : nodes.getD i SN.no = nodes.getD i SN.no := rfl
     generalize hxd : nodes.getD i SN.no = x at hres hml hmt hsu hg hxx hzero
     have hrd : ∃ d : D, runD (pathF nodes i) = d := ⟨_, rfl⟩
     obtain ⟨d, hrd⟩ := hrd
     have hsd : (d = .nil ∧ pathF nodes i = []) ∨ d = .list (ints (pathF nodes i)) := by
      cases hrun : pathF nodes i with
      | nil => rw [hrun] at hrd; exact .inl ⟨hrd.symm, rfl⟩
      | cons y r => rw [hrun] at hrd; exact .inr hrd.symm
     rw [hrd] at hg
     (simp only [List.set_cons_succ, List.set_cons_zero, go_sem] at hL ⊢)
     (repeat' (first | (with_reducible first | exact True.intro | refine And.intro ?_ ?_ | refine awp_block ?_ | ((first | refine awp_seq1 8 [25, 26, 9, 10, 103, 18, 17, 14, 16, 104, 15, 13, 12, 11] ?_ | refine awp_seq2 8 [25, 26, 9, 10, 103, 18, 17, 14, 16, 104, 15, 13, 12, 11] ?_ | refine awp_seq3 8 [25, 26, 9, 10, 103, 18, 17, 14, 16, 104, 15, 13, 12, 11] ?_ | refine awp_seq4 8 [25, 26, 9, 10, 103, 18, 17, 14, 16, 104, 15, 13, 12, 11] ?_ | refine awp_seq 8 [25, 26, 9, 10, 103, 18, 17, 14, 16, 104, 15, 13, 12, 11] ?_); intro K hK)) | ((with_reducible first | refine awp_reg ?_ | refine awp_exit ?_ | refine awp_skip ?_ | refine likeK_i ?_ | refine rP Ty_ok mixed 28 [0, 2, 3, 8] [.mid [pe 1, pe 4, pe 5, pe 6, ⟨7, 0, true, false, false, [], []⟩, ⟨9, 1, false, false, false, [0], []⟩, ⟨10, 1, true, false, true, [], [0]⟩, ⟨11, 2, false, false, false, [0], []⟩, ⟨12, 2, false, false, false, [0], []⟩] 2, .one 13, .one 14] ?_ | refine rP Ty_ok mixed 26 [1, 2, 6] [.mid [pe 0, pe 3, pe 4, pe 5, ⟨7, 0, true, false, false, [], []⟩, ⟨8, 1, false, false, false, [], []⟩, ⟨9, 1, false, false, false, [], []⟩, ⟨10, 1, false, true, false, [], []⟩, ⟨11, 1, true, false, false, [0], []⟩] 2, .one 12, .one 13] ?_); simp only [hq, hg, hpll, go_sem]) | (with_reducible refine awp_ret ?_; simp only [retF, retM, retL, resV, resW, retO, resAV, AV.bor, D.bor, D.bor1, D.bor0, AV.flatOwn, D.flatOwn, D.flat, AV.tagged, D.tagged, AObj.plain, hq, hg, hpll, go_sem]) | ((with_reducible refine awp_cond' ?_ ?_ (fun hb => ?_) (fun hb => ?_)); (simp only [hq, hg, hpll, go_sem]); (simp only [hq, hg, hpll, go_sem]); all_goals (simp only [hq, hg, hpll, go_sem] at hb; try simp only [bls] at hb)) | ((iterate 6 try ((fail_if_success with_reducible refine hK _ ?_ ?_ ?_); clear hK K)); with_reducible refine hK _ ?_ ?_ ?_; rotate_left; (focus (simp only [hq, hg, hpll, go_sem]; exact rfl)); clear hK K) | ((first | (with_reducible first | refine cA hsu ?_ | refine cD hsu ?_ | refine cO hsu ?_ | refine cR hsu ?_ | refine cG (fun hg => hsu) ?_ | refine cH (fun hg => hsu) ?_ | refine cM (fun hg => hsu) ?_) | (guard_target = CallAt _ _ _ _ _ _ _ _ _ _; refine cA hsu ?_) | (guard_target = DCallAt _ _ _ _ _ _ _ _; refine cD hsu ?_) | (guard_target = GCallAt _ _ _ _ _ _ _ _ _ _ _; refine cG (fun hg => hsu) ?_)); simp only [hq, hg, hpll, go_sem]) | (with_reducible refine gsplit_i (fun hg0 => ?_) (fun hg0 => ?_) <;> first | (with_reducible first | exact absurd hg0 Bool.false_ne_true | exact absurd hg0.symm Bool.false_ne_true) | (simp only [hg0, hq, hg, hpll, go_sem])) | (with_reducible refine nilK_i ?_; intro bnil hnil; try simp only []) | (omega; done) | (intro hv; (try simp only [bls] at hv); (try simp only [bls]); omega) | (intro hg; (simp only [hg, Bool.true_and, true_and, implies_true]; try (intro hg2; simp only [hg2, Bool.not_false, Bool.not_true])); done)))
     all_goals first | omega | skip
     refine awp_loop _ (by simp only [go_sem]; rfl) (Nat × List SN × List Edg)
      (fun u => u.1 ≤ n.trs.length ∧ restF n 4096 f i (ablG n x.m (n.trs.length - u.1) u.1) u.2.1 u.2.2 = .cont nd ed ∧ NodesOk n.init.length u.2.1 ∧ i < u.2.1.length ∧ (∀ j, j < i + 1 → u.2.1.getD j SN.no = nodes.getD j SN.no))
      (fun u => [(14, .one (.own 3)), (104, .one (.int .i64 u.1))])
      (fun u H => H.set 3 (.row 40 2 (plsD (plOf u.2.1))))
      (fun u => n.trs.length - u.1) (0, nodes, edges) ⟨by simp only; omega, by simpa using hres, hN, hik, fun j hj => rfl⟩ ?_ ?_
     ·(simp only [SubF, List.set_cons_succ, List.set_cons_zero, go_sem]; (try simp only [List.set_cons_succ, List.set_cons_zero, go_sem]); repeat' (first | exact True.intro | with_reducible refine And.intro ?_ ?_ | rfl | omega))
     rintro ⟨j, nk, es⟩ ⟨hj, hres2, hNk, hikk, hsame⟩ L2 hL2
     simp only at hj hres2 hNk hikk hsame
     obtain ⟨r2, hpre2⟩ := rest_prefix _ _ _ hres2
     have hnkl : nk.length ≤ 60 := by
      have : nd.length = nk.length + r2.length := by rw [hpre2]; simp
      omega
     have hxk : nk.getD i SN.no = x := by rw [hsame i (by omega)]; exact hxd
     have hqj : ((j : Nat) : Int).toNat = j := by omega
     have hpll2 := plOf_length nk
     by_cases hjl : j < n.trs.length
     ·obtain ⟨r, hr⟩ : ∃ r, n.trs.length - j = r + 1 := ⟨n.trs.length - j - 1, by omega⟩
      have hr1 : n.trs.length - (j + 1) = r := by omega
      rw [hr, ablG] at hres2
      have hg2 := pls_at (l := plOf nk) (k := i) (by rw [plOf_length]; exact hikk) []
      rw [plOf_get hikk, hxk] at hg2
      simp only at hg2
      have hmem := getD_mem n.trs j Tr.no hjl
      have hai := hok.inn _ hmem
      have hao := hok.out _ hmem
      rw [← hml] at hai hao
      have hFi := lawFire49_c n x.m j hf hjl hai hao (by omega) ⟨fun y hy => by have := hmt y hy; omega⟩
      have hst : stepF n 4096 i j nk es = if (firedL (n.trs.getD j Tr.no) x.m).any tokB = true then .err 3 else match fndF (firedL (n.trs.getD j Tr.no) x.m) 0 nk with
       | some k => .cont nk (es ++ [(⟨i, j, k⟩ : Edg)])
       | none => if 0 ≤ pumpsF (nk ++ [(⟨firedL (n.trs.getD j Tr.no) x.m, i, j⟩ : SN)]) then .pump (nk ++ [(⟨firedL (n.trs.getD j Tr.no) x.m, i, j⟩ : SN)]) es (pumpsF (nk ++ [(⟨firedL (n.trs.getD j Tr.no) x.m, i, j⟩ : SN)])) else if 4096 < (nk ++ [(⟨firedL (n.trs.getD j Tr.no) x.m, i, j⟩ : SN)]).length then .err 3 else .cont (nk ++ [(⟨firedL (n.trs.getD j Tr.no) x.m, i, j⟩ : SN)]) (es ++ [(⟨i, j, nk.length⟩ : Edg)]) := by
       rw [← hxk]; rfl
      generalize n.trs.getD j Tr.no = tr at *
      have hfl := firedL_length tr x.m
      cases hEn : enB x.m tr
      ·rw [hEn, if_neg (by decide)] at hres2
       rw [fireA, hEn, if_neg (by decide)] at hFi
       simp only [Net.d] at hFi
       (simp only [List.set_cons_succ, List.set_cons_zero, go_sem] at hL2 ⊢)
       (repeat' (first | (with_reducible first | exact True.intro | refine And.intro ?_ ?_ | refine awp_block ?_ | ((first | refine awp_seq1 8 [25, 26, 9, 10, 103, 18, 17, 14, 16, 104, 15, 13, 12, 11] ?_ | refine awp_seq2 8 [25, 26, 9, 10, 103, 18, 17, 14, 16, 104, 15, 13, 12, 11] ?_ | refine awp_seq3 8 [25, 26, 9, 10, 103, 18, 17, 14, 16, 104, 15, 13, 12, 11] ?_ | refine awp_seq4 8 [25, 26, 9, 10, 103, 18, 17, 14, 16, 104, 15, 13, 12, 11] ?_ | refine awp_seq 8 [25, 26, 9, 10, 103, 18, 17, 14, 16, 104, 15, 13, 12, 11] ?_); intro K hK)) | ((with_reducible first | refine awp_reg ?_ | refine awp_exit ?_ | refine awp_skip ?_ | refine likeK_i ?_ | refine rP Ty_ok mixed 28 [0, 2, 3, 8] [.mid [pe 1, pe 4, pe 5, pe 6, ⟨7, 0, true, false, false, [], []⟩, ⟨9, 1, false, false, false, [0], []⟩, ⟨10, 1, true, false, true, [], [0]⟩, ⟨11, 2, false, false, false, [0], []⟩, ⟨12, 2, false, false, false, [0], []⟩] 2, .one 13, .one 14] ?_ | refine rP Ty_ok mixed 26 [1, 2, 6] [.mid [pe 0, pe 3, pe 4, pe 5, ⟨7, 0, true, false, false, [], []⟩, ⟨8, 1, false, false, false, [], []⟩, ⟨9, 1, false, false, false, [], []⟩, ⟨10, 1, false, true, false, [], []⟩, ⟨11, 1, true, false, false, [0], []⟩] 2, .one 12, .one 13] ?_); simp only [hq, hqj, hg2, hpll2, go_sem]) | (with_reducible refine awp_ret ?_; simp only [retF, retM, retL, resV, resW, retO, resAV, AV.bor, D.bor, D.bor1, D.bor0, AV.flatOwn, D.flatOwn, D.flat, AV.tagged, D.tagged, AObj.plain, hq, hqj, hg2, hpll2, go_sem]) | ((with_reducible refine awp_cond' ?_ ?_ (fun hb => ?_) (fun hb => ?_)); (simp only [hq, hqj, hg2, hpll2, go_sem]); (simp only [hq, hqj, hg2, hpll2, go_sem]); all_goals (simp only [hq, hqj, hg2, hpll2, go_sem] at hb; try simp only [bls] at hb)) | ((iterate 6 try ((fail_if_success with_reducible refine hK _ ?_ ?_ ?_); clear hK K)); with_reducible refine hK _ ?_ ?_ ?_; rotate_left; (focus (simp only [hq, hqj, hg2, hpll2, go_sem]; exact rfl)); clear hK K) | ((first | (with_reducible first | refine cA hFi ?_ | refine cD hFi ?_ | refine cO hFi ?_ | refine cR hFi ?_ | refine cG (fun hg => hFi) ?_ | refine cH (fun hg => hFi) ?_ | refine cM (fun hg => hFi) ?_) | (guard_target = CallAt _ _ _ _ _ _ _ _ _ _; refine cA hFi ?_) | (guard_target = DCallAt _ _ _ _ _ _ _ _; refine cD hFi ?_) | (guard_target = GCallAt _ _ _ _ _ _ _ _ _ _ _; refine cG (fun hg => hFi) ?_)); simp only [hq, hqj, hg2, hpll2, go_sem]) | (with_reducible refine gsplit_i (fun hg0 => ?_) (fun hg0 => ?_) <;> first | (with_reducible first | exact absurd hg0 Bool.false_ne_true | exact absurd hg0.symm Bool.false_ne_true) | (simp only [hg0, hq, hqj, hg2, hpll2, go_sem])) | (with_reducible refine nilK_i ?_; intro bnil hnil; try simp only []) | (omega; done) | (intro hv; (try simp only [bls] at hv); (try simp only [bls]); omega) | (intro hg; (simp only [hg, Bool.true_and, true_and, implies_true]; try (intro hg2; simp only [hg2, Bool.not_false, Bool.not_true])); done)))
       all_goals first | omega | skip
       refine GCallAt_split (.one (.bool false)) (fun hg => absurd hg (by simp)) (fun hg => ?_)
       simp only [go_sem]
       (repeat' (first | (with_reducible first | exact True.intro | refine And.intro ?_ ?_ | refine awp_block ?_ | ((first | refine awp_seq1 8 [25, 26, 9, 10, 103, 18, 17, 14, 16, 104, 15, 13, 12, 11] ?_ | refine awp_seq2 8 [25, 26, 9, 10, 103, 18, 17, 14, 16, 104, 15, 13, 12, 11] ?_ | refine awp_seq3 8 [25, 26, 9, 10, 103, 18, 17, 14, 16, 104, 15, 13, 12, 11] ?_ | refine awp_seq4 8 [25, 26, 9, 10, 103, 18, 17, 14, 16, 104, 15, 13, 12, 11] ?_ | refine awp_seq 8 [25, 26, 9, 10, 103, 18, 17, 14, 16, 104, 15, 13, 12, 11] ?_); intro K hK)) | ((with_reducible first | refine awp_reg ?_ | refine awp_exit ?_ | refine awp_skip ?_ | refine likeK_i ?_ | refine rP Ty_ok mixed 28 [0, 2, 3, 8] [.mid [pe 1, pe 4, pe 5, pe 6, ⟨7, 0, true, false, false, [], []⟩, ⟨9, 1, false, false, false, [0], []⟩, ⟨10, 1, true, false, true, [], [0]⟩, ⟨11, 2, false, false, false, [0], []⟩, ⟨12, 2, false, false, false, [0], []⟩] 2, .one 13, .one 14] ?_ | refine rP Ty_ok mixed 26 [1, 2, 6] [.mid [pe 0, pe 3, pe 4, pe 5, ⟨7, 0, true, false, false, [], []⟩, ⟨8, 1, false, false, false, [], []⟩, ⟨9, 1, false, false, false, [], []⟩, ⟨10, 1, false, true, false, [], []⟩, ⟨11, 1, true, false, false, [0], []⟩] 2, .one 12, .one 13] ?_); simp only [hq, hqj, hg2, hpll2, go_sem]) | (with_reducible refine awp_ret ?_; simp only [retF, retM, retL, resV, resW, retO, resAV, AV.bor, D.bor, D.bor1, D.bor0, AV.flatOwn, D.flatOwn, D.flat, AV.tagged, D.tagged, AObj.plain, hq, hqj, hg2, hpll2, go_sem]) | ((with_reducible refine awp_cond' ?_ ?_ (fun hb => ?_) (fun hb => ?_)); (simp only [hq, hqj, hg2, hpll2, go_sem]); (simp only [hq, hqj, hg2, hpll2, go_sem]); all_goals (simp only [hq, hqj, hg2, hpll2, go_sem] at hb; try simp only [bls] at hb)) | ((iterate 6 try ((fail_if_success with_reducible refine hK _ ?_ ?_ ?_); clear hK K)); with_reducible refine hK _ ?_ ?_ ?_; rotate_left; (focus (simp only [hq, hqj, hg2, hpll2, go_sem]; exact rfl)); clear hK K) | (with_reducible refine gsplit_i (fun hg0 => ?_) (fun hg0 => ?_) <;> first | (with_reducible first | exact absurd hg0 Bool.false_ne_true | exact absurd hg0.symm Bool.false_ne_true) | (simp only [hg0, hq, hqj, hg2, hpll2, go_sem])) | (with_reducible refine nilK_i ?_; intro bnil hnil; try simp only []) | (omega; done) | (intro hv; (try simp only [bls] at hv); (try simp only [bls]); omega) | (intro hg; (simp only [hg, Bool.true_and, true_and, implies_true]; try (intro hg2; simp only [hg2, Bool.not_false, Bool.not_true])); done)))
       all_goals first | omega | skip
       refine hL2 _ (j + 1, nk, es) ⟨by simp only; omega, by rw [hr1]; exact hres2, hNk, hikk, hsame⟩ ?_ (by simp only; omega)
       (simp only [SubF, List.set_cons_succ, List.set_cons_zero, go_sem]; (try simp only [List.set_cons_succ, List.set_cons_zero, go_sem]); repeat' (first | exact True.intro | with_reducible refine And.intro ?_ ?_ | rfl | omega))
      ·rw [hEn, if_pos rfl, rest_cons, hst] at hres2
       clear hst
       rw [fireA, hEn, if_pos rfl] at hFi
       simp only [Net.d] at hFi
       cases hbad : (firedL tr x.m).any tokB
       ·rw [hbad, if_neg (by decide)] at hres2
        have hok2 : ∀ y ∈ firedL tr x.m, 0 ≤ y ∧ y ≤ 65536 := fun y hy => by
         have : tokB y ≠ true := fun hh => by rw [List.any_eq_true.2 ⟨y, hy, hh⟩] at hbad; cases hbad
         simp [tokB] at this
         omega
        have hCf := ContainsFuncPl_c (plOf nk) (firedL tr x.m) (by omega) (fun y hy => by
         obtain ⟨k, hk, rfl⟩ := List.mem_map.1 hy
         have := hNk.len _ (getD_mem nk k SN.no (List.mem_range.1 hk))
         simp only
         omega)
        rw [plOf_any] at hCf
        generalize firedL tr x.m = m at *
        cases hfn : fndF m 0 nk with
        | some k =>
         rw [hfn] at hres2 hCf
         simp only at hres2
         simp only [Option.isSome_some] at hCf
         (simp only [List.set_cons_succ, List.set_cons_zero, go_sem] at hL2 ⊢)
         (repeat' (first | (with_reducible first | exact True.intro | refine And.intro ?_ ?_ | refine awp_block ?_ | ((first | refine awp_seq1 8 [25, 26, 9, 10, 103, 18, 17, 14, 16, 104, 15, 13, 12, 11] ?_ | refine awp_seq2 8 [25, 26, 9, 10, 103, 18, 17, 14, 16, 104, 15, 13, 12, 11] ?_ | refine awp_seq3 8 [25, 26, 9, 10, 103, 18, 17, 14, 16, 104, 15, 13, 12, 11] ?_ | refine awp_seq4 8 [25, 26, 9, 10, 103, 18, 17, 14, 16, 104, 15, 13, 12, 11] ?_ | refine awp_seq 8 [25, 26, 9, 10, 103, 18, 17, 14, 16, 104, 15, 13, 12, 11] ?_); intro K hK)) | ((with_reducible first | refine awp_reg ?_ | refine awp_exit ?_ | refine awp_skip ?_ | refine likeK_i ?_ | refine rP Ty_ok mixed 28 [0, 2, 3, 8] [.mid [pe 1, pe 4, pe 5, pe 6, ⟨7, 0, true, false, false, [], []⟩, ⟨9, 1, false, false, false, [0], []⟩, ⟨10, 1, true, false, true, [], [0]⟩, ⟨11, 2, false, false, false, [0], []⟩, ⟨12, 2, false, false, false, [0], []⟩] 2, .one 13, .one 14] ?_ | refine rP Ty_ok mixed 26 [1, 2, 6] [.mid [pe 0, pe 3, pe 4, pe 5, ⟨7, 0, true, false, false, [], []⟩, ⟨8, 1, false, false, false, [], []⟩, ⟨9, 1, false, false, false, [], []⟩, ⟨10, 1, false, true, false, [], []⟩, ⟨11, 1, true, false, false, [0], []⟩] 2, .one 12, .one 13] ?_); simp only [hq, hqj, hg2, hpll2, go_sem]) | (with_reducible refine awp_ret ?_; simp only [retF, retM, retL, resV, resW, retO, resAV, AV.bor, D.bor, D.bor1, D.bor0, AV.flatOwn, D.flatOwn, D.flat, AV.tagged, D.tagged, AObj.plain, hq, hqj, hg2, hpll2, go_sem]) | ((with_reducible refine awp_cond' ?_ ?_ (fun hb => ?_) (fun hb => ?_)); (simp only [hq, hqj, hg2, hpll2, go_sem]); (simp only [hq, hqj, hg2, hpll2, go_sem]); all_goals (simp only [hq, hqj, hg2, hpll2, go_sem] at hb; try simp only [bls] at hb)) | ((iterate 6 try ((fail_if_success with_reducible refine hK _ ?_ ?_ ?_); clear hK K)); with_reducible refine hK _ ?_ ?_ ?_; rotate_left; (focus (simp only [hq, hqj, hg2, hpll2, go_sem]; exact rfl)); clear hK K) | ((first | (with_reducible first | refine cA hFi ?_ | refine cA hCf ?_ | refine cD hFi ?_ | refine cD hCf ?_ | refine cO hFi ?_ | refine cO hCf ?_ | refine cR hFi ?_ | refine cR hCf ?_ | refine cG (fun hg => hFi) ?_ | refine cG (fun hg => hCf) ?_ | refine cH (fun hg => hFi) ?_ | refine cH (fun hg => hCf) ?_ | refine cM (fun hg => hFi) ?_ | refine cM (fun hg => hCf) ?_) | (guard_target = CallAt _ _ _ _ _ _ _ _ _ _; first | refine cA hFi ?_ | refine cA hCf ?_) | (guard_target = DCallAt _ _ _ _ _ _ _ _; first | refine cD hFi ?_ | refine cD hCf ?_) | (guard_target = GCallAt _ _ _ _ _ _ _ _ _ _ _; first | refine cG (fun hg => hFi) ?_ | refine cG (fun hg => hCf) ?_)); simp only [hq, hqj, hg2, hpll2, go_sem]) | (with_reducible refine gsplit_i (fun hg0 => ?_) (fun hg0 => ?_) <;> first | (with_reducible first | exact absurd hg0 Bool.false_ne_true | exact absurd hg0.symm Bool.false_ne_true) | (simp only [hg0, hq, hqj, hg2, hpll2, go_sem])) | (with_reducible refine nilK_i ?_; intro bnil hnil; try simp only []) | (omega; done) | (intro hv; (try simp only [bls] at hv); (try simp only [bls]); omega) | (intro hg; (simp only [hg, Bool.true_and, true_and, implies_true]; try (intro hg2; simp only [hg2, Bool.not_false, Bool.not_true])); done)))
         all_goals first | omega | skip
         refine hL2 _ (j + 1, nk, es ++ [(⟨i, j, k⟩ : Edg)]) ⟨by simp only; omega, by rw [hr1]; exact hres2, hNk, hikk, hsame⟩ ?_ (by simp only; omega)
         (simp only [SubF, List.set_cons_succ, List.set_cons_zero, go_sem]; (try simp only [List.set_cons_succ, List.set_cons_zero, go_sem]); repeat' (first | exact True.intro | with_reducible refine And.intro ?_ ?_ | rfl | omega))
        | none =>
         rw [hfn] at hres2 hCf
         simp only at hres2
         simp only [Option.isSome_none] at hCf
         obtain ⟨nw, hnw⟩ : ∃ nw, nw = nk ++ [(⟨m, i, j⟩ : SN)] := ⟨_, rfl⟩
         rw [← hnw] at hres2
         by_cases hpu : 0 ≤ pumpsF nw
         ·rw [if_pos hpu] at hres2; cases hres2
         by_cases hlim : 4096 < nw.length
         ·rw [if_neg hpu, if_pos hlim] at hres2; cases hres2
         rw [if_neg hpu, if_neg hlim] at hres2
         have hml2 : m.length = n.init.length := by omega
         have hNn : NodesOk n.init.length nw := by
          rw [hnw]
          exact hNk.snoc hml2 (fun y hy => hok2 y hy) hikk
         have hpw : plOf nw = plOf nk ++ [(m, pathF nk i ++ [(j : Int)])] := by rw [hnw]; exact plOf_snoc hNk hikk
         have hrw : runD (pathF nk i ++ [(j : Int)]) = .list (ints (pathF nk i ++ [(j : Int)])) := by cases pathF nk i <;> rfl
         have hpn : plsD (plOf nw) = plsD (plOf nk) ++ [[.list (ints m), .list (ints (pathF nk i ++ [(j : Int)]))]] := by rw [hpw, ← pls_append, ← hrw]; rfl
         have hsn : ∀ k, k < i + 1 → nw.getD k SN.no = nodes.getD k SN.no := fun k hk => by rw [hnw, getD_append_lt _ _ _ _ (by omega)]; exact hsame k hk
         have hiw : i < nw.length := by rw [hnw, List.length_append]; omega
         have hpk := pathF_len' nk i
         cases hrun : pathF nk i with
         | nil =>
          rw [hrun] at hg2 hpn
          simp only [runD] at hg2
          (simp only [List.set_cons_succ, List.set_cons_zero, go_sem] at hL2 ⊢)
          have hcl : ACalls Tryd.prog 15 [.one (.list [])] (.one (.own 0)) [.row 3 1 (ints [])] := CloneInts_c [] (by simp)
          (repeat' (first | (with_reducible first | exact True.intro | refine And.intro ?_ ?_ | refine awp_block ?_ | ((first | refine awp_seq1 8 [25, 26, 9, 10, 103, 18, 17, 14, 16, 104, 15, 13, 12, 11] ?_ | refine awp_seq2 8 [25, 26, 9, 10, 103, 18, 17, 14, 16, 104, 15, 13, 12, 11] ?_ | refine awp_seq3 8 [25, 26, 9, 10, 103, 18, 17, 14, 16, 104, 15, 13, 12, 11] ?_ | refine awp_seq4 8 [25, 26, 9, 10, 103, 18, 17, 14, 16, 104, 15, 13, 12, 11] ?_ | refine awp_seq 8 [25, 26, 9, 10, 103, 18, 17, 14, 16, 104, 15, 13, 12, 11] ?_); intro K hK)) | ((with_reducible first | refine awp_reg ?_ | refine awp_exit ?_ | refine awp_skip ?_ | refine likeK_i ?_ | refine rP Ty_ok mixed 28 [0, 2, 3, 8] [.mid [pe 1, pe 4, pe 5, pe 6, ⟨7, 0, true, false, false, [], []⟩, ⟨9, 1, false, false, false, [0], []⟩, ⟨10, 1, true, false, true, [], [0]⟩, ⟨11, 2, false, false, false, [0], []⟩, ⟨12, 2, false, false, false, [0], []⟩] 2, .one 13, .one 14] ?_ | refine rP Ty_ok mixed 26 [1, 2, 6] [.mid [pe 0, pe 3, pe 4, pe 5, ⟨7, 0, true, false, false, [], []⟩, ⟨8, 1, false, false, false, [], []⟩, ⟨9, 1, false, false, false, [], []⟩, ⟨10, 1, false, true, false, [], []⟩, ⟨11, 1, true, false, false, [0], []⟩] 2, .one 12, .one 13] ?_); simp only [hq, hqj, hg2, hpll2, go_sem]) | (with_reducible refine awp_ret ?_; simp only [retF, retM, retL, resV, resW, retO, resAV, AV.bor, D.bor, D.bor1, D.bor0, AV.flatOwn, D.flatOwn, D.flat, AV.tagged, D.tagged, AObj.plain, hq, hqj, hg2, hpll2, go_sem]) | ((with_reducible refine awp_cond' ?_ ?_ (fun hb => ?_) (fun hb => ?_)); (simp only [hq, hqj, hg2, hpll2, go_sem]); (simp only [hq, hqj, hg2, hpll2, go_sem]); all_goals (simp only [hq, hqj, hg2, hpll2, go_sem] at hb; try simp only [bls] at hb)) | ((iterate 6 try ((fail_if_success with_reducible refine hK _ ?_ ?_ ?_); clear hK K)); with_reducible refine hK _ ?_ ?_ ?_; rotate_left; (focus (simp only [hq, hqj, hg2, hpll2, go_sem]; exact rfl)); clear hK K) | ((first | (with_reducible first | refine cA hFi ?_ | refine cA hCf ?_ | refine cA hcl ?_ | refine cD hFi ?_ | refine cD hCf ?_ | refine cD hcl ?_ | refine cO hFi ?_ | refine cO hCf ?_ | refine cO hcl ?_ | refine cR hFi ?_ | refine cR hCf ?_ | refine cR hcl ?_ | refine cG (fun hg => hFi) ?_ | refine cG (fun hg => hCf) ?_ | refine cG (fun hg => hcl) ?_ | refine cH (fun hg => hFi) ?_ | refine cH (fun hg => hCf) ?_ | refine cH (fun hg => hcl) ?_ | refine cM (fun hg => hFi) ?_ | refine cM (fun hg => hCf) ?_ | refine cM (fun hg => hcl) ?_) | (guard_target = CallAt _ _ _ _ _ _ _ _ _ _; first | refine cA hFi ?_ | refine cA hCf ?_ | refine cA hcl ?_) | (guard_target = DCallAt _ _ _ _ _ _ _ _; first | refine cD hFi ?_ | refine cD hCf ?_ | refine cD hcl ?_) | (guard_target = GCallAt _ _ _ _ _ _ _ _ _ _ _; first | refine cG (fun hg => hFi) ?_ | refine cG (fun hg => hCf) ?_ | refine cG (fun hg => hcl) ?_)); simp only [hq, hqj, hg2, hpll2, go_sem]) | (with_reducible refine gsplit_i (fun hg0 => ?_) (fun hg0 => ?_) <;> first | (with_reducible first | exact absurd hg0 Bool.false_ne_true | exact absurd hg0.symm Bool.false_ne_true) | (simp only [hg0, hq, hqj, hg2, hpll2, go_sem])) | (with_reducible refine nilK_i ?_; intro bnil hnil; try simp only []) | (omega; done) | (intro hv; (try simp only [bls] at hv); (try simp only [bls]); omega) | (intro hg; (simp only [hg, Bool.true_and, true_and, implies_true]; try (intro hg2; simp only [hg2, Bool.not_false, Bool.not_true])); done)))
          all_goals first | omega | skip
          simp only [ints_one, ints_append]
          refine hL2 _ (j + 1, nw, es ++ [(⟨i, j, nk.length⟩ : Edg)]) ⟨by simp only; omega, by rw [hr1]; exact hres2, hNn, hiw, hsn⟩ ?_ (by simp only; omega)
          simp only [hpn]
          (simp only [SubF, List.set_cons_succ, List.set_cons_zero, go_sem]; (try simp only [List.set_cons_succ, List.set_cons_zero, go_sem]); repeat' (first | exact True.intro | with_reducible refine And.intro ?_ ?_ | rfl | omega))
         | cons y r0 =>
          rw [hrun] at hg2 hpn hpk
          simp only [runD] at hg2
          have hpk2 : r0.length ≤ i := by simpa using hpk
          have hcl := CloneInts_c (y :: r0) (by simp only [List.length_cons]; omega)
          (simp only [List.set_cons_succ, List.set_cons_zero, go_sem] at hL2 ⊢)
          (repeat' (first | (with_reducible first | exact True.intro | refine And.intro ?_ ?_ | refine awp_block ?_ | ((first | refine awp_seq1 8 [25, 26, 9, 10, 103, 18, 17, 14, 16, 104, 15, 13, 12, 11] ?_ | refine awp_seq2 8 [25, 26, 9, 10, 103, 18, 17, 14, 16, 104, 15, 13, 12, 11] ?_ | refine awp_seq3 8 [25, 26, 9, 10, 103, 18, 17, 14, 16, 104, 15, 13, 12, 11] ?_ | refine awp_seq4 8 [25, 26, 9, 10, 103, 18, 17, 14, 16, 104, 15, 13, 12, 11] ?_ | refine awp_seq 8 [25, 26, 9, 10, 103, 18, 17, 14, 16, 104, 15, 13, 12, 11] ?_); intro K hK)) | ((with_reducible first | refine awp_reg ?_ | refine awp_exit ?_ | refine awp_skip ?_ | refine likeK_i ?_ | refine rP Ty_ok mixed 28 [0, 2, 3, 8] [.mid [pe 1, pe 4, pe 5, pe 6, ⟨7, 0, true, false, false, [], []⟩, ⟨9, 1, false, false, false, [0], []⟩, ⟨10, 1, true, false, true, [], [0]⟩, ⟨11, 2, false, false, false, [0], []⟩, ⟨12, 2, false, false, false, [0], []⟩] 2, .one 13, .one 14] ?_ | refine rP Ty_ok mixed 26 [1, 2, 6] [.mid [pe 0, pe 3, pe 4, pe 5, ⟨7, 0, true, false, false, [], []⟩, ⟨8, 1, false, false, false, [], []⟩, ⟨9, 1, false, false, false, [], []⟩, ⟨10, 1, false, true, false, [], []⟩, ⟨11, 1, true, false, false, [0], []⟩] 2, .one 12, .one 13] ?_); simp only [hq, hqj, hg2, hpll2, go_sem]) | (with_reducible refine awp_ret ?_; simp only [retF, retM, retL, resV, resW, retO, resAV, AV.bor, D.bor, D.bor1, D.bor0, AV.flatOwn, D.flatOwn, D.flat, AV.tagged, D.tagged, AObj.plain, hq, hqj, hg2, hpll2, go_sem]) | ((with_reducible refine awp_cond' ?_ ?_ (fun hb => ?_) (fun hb => ?_)); (simp only [hq, hqj, hg2, hpll2, go_sem]); (simp only [hq, hqj, hg2, hpll2, go_sem]); all_goals (simp only [hq, hqj, hg2, hpll2, go_sem] at hb; try simp only [bls] at hb)) | ((iterate 6 try ((fail_if_success with_reducible refine hK _ ?_ ?_ ?_); clear hK K)); with_reducible refine hK _ ?_ ?_ ?_; rotate_left; (focus (simp only [hq, hqj, hg2, hpll2, go_sem]; exact rfl)); clear hK K) | ((first | (with_reducible first | refine cA hFi ?_ | refine cA hCf ?_ | refine cA hcl ?_ | refine cD hFi ?_ | refine cD hCf ?_ | refine cD hcl ?_ | refine cO hFi ?_ | refine cO hCf ?_ | refine cO hcl ?_ | refine cR hFi ?_ | refine cR hCf ?_ | refine cR hcl ?_ | refine cG (fun hg => hFi) ?_ | refine cG (fun hg => hCf) ?_ | refine cG (fun hg => hcl) ?_ | refine cH (fun hg => hFi) ?_ | refine cH (fun hg => hCf) ?_ | refine cH (fun hg => hcl) ?_ | refine cM (fun hg => hFi) ?_ | refine cM (fun hg => hCf) ?_ | refine cM (fun hg => hcl) ?_) | (guard_target = CallAt _ _ _ _ _ _ _ _ _ _; first | refine cA hFi ?_ | refine cA hCf ?_ | refine cA hcl ?_) | (guard_target = DCallAt _ _ _ _ _ _ _ _; first | refine cD hFi ?_ | refine cD hCf ?_ | refine cD hcl ?_) | (guard_target = GCallAt _ _ _ _ _ _ _ _ _ _ _; first | refine cG (fun hg => hFi) ?_ | refine cG (fun hg => hCf) ?_ | refine cG (fun hg => hcl) ?_)); simp only [hq, hqj, hg2, hpll2, go_sem]) | (with_reducible refine gsplit_i (fun hg0 => ?_) (fun hg0 => ?_) <;> first | (with_reducible first | exact absurd hg0 Bool.false_ne_true | exact absurd hg0.symm Bool.false_ne_true) | (simp only [hg0, hq, hqj, hg2, hpll2, go_sem])) | (with_reducible refine nilK_i ?_; intro bnil hnil; try simp only []) | (omega; done) | (intro hv; (try simp only [bls] at hv); (try simp only [bls]); omega) | (intro hg; (simp only [hg, Bool.true_and, true_and, implies_true]; try (intro hg2; simp only [hg2, Bool.not_false, Bool.not_true])); done)))
          all_goals first | omega | skip
          simp only [ints_one, ints_append]
          refine hL2 _ (j + 1, nw, es ++ [(⟨i, j, nk.length⟩ : Edg)]) ⟨by simp only; omega, by rw [hr1]; exact hres2, hNn, hiw, hsn⟩ ?_ (by simp only; omega)
          simp only [hpn]
          (simp only [SubF, List.set_cons_succ, List.set_cons_zero, go_sem]; (try simp only [List.set_cons_succ, List.set_cons_zero, go_sem]); repeat' (first | exact True.intro | with_reducible refine And.intro ?_ ?_ | rfl | omega))
       ·rw [hbad, if_pos rfl] at hres2
        cases hres2
     ·have hjj : j = n.trs.length := by omega
      subst hjj
      rw [Nat.sub_self, ablG, rest_nil] at hres2
      (simp only [List.set_cons_succ, List.set_cons_zero, go_sem] at hL2 ⊢)
      (repeat' (first | (with_reducible first | exact True.intro | refine And.intro ?_ ?_ | refine awp_block ?_ | ((first | refine awp_seq1 8 [25, 26, 9, 10, 103, 18, 17, 14, 16, 104, 15, 13, 12, 11] ?_ | refine awp_seq2 8 [25, 26, 9, 10, 103, 18, 17, 14, 16, 104, 15, 13, 12, 11] ?_ | refine awp_seq3 8 [25, 26, 9, 10, 103, 18, 17, 14, 16, 104, 15, 13, 12, 11] ?_ | refine awp_seq4 8 [25, 26, 9, 10, 103, 18, 17, 14, 16, 104, 15, 13, 12, 11] ?_ | refine awp_seq 8 [25, 26, 9, 10, 103, 18, 17, 14, 16, 104, 15, 13, 12, 11] ?_); intro K hK)) | ((with_reducible first | refine awp_reg ?_ | refine awp_exit ?_ | refine awp_skip ?_ | refine likeK_i ?_ | refine rP Ty_ok mixed 28 [0, 2, 3, 8] [.mid [pe 1, pe 4, pe 5, pe 6, ⟨7, 0, true, false, false, [], []⟩, ⟨9, 1, false, false, false, [0], []⟩, ⟨10, 1, true, false, true, [], [0]⟩, ⟨11, 2, false, false, false, [0], []⟩, ⟨12, 2, false, false, false, [0], []⟩] 2, .one 13, .one 14] ?_ | refine rP Ty_ok mixed 26 [1, 2, 6] [.mid [pe 0, pe 3, pe 4, pe 5, ⟨7, 0, true, false, false, [], []⟩, ⟨8, 1, false, false, false, [], []⟩, ⟨9, 1, false, false, false, [], []⟩, ⟨10, 1, false, true, false, [], []⟩, ⟨11, 1, true, false, false, [0], []⟩] 2, .one 12, .one 13] ?_); simp only [go_sem]) | (with_reducible refine awp_ret ?_; simp only [retF, retM, retL, resV, resW, retO, resAV, AV.bor, D.bor, D.bor1, D.bor0, AV.flatOwn, D.flatOwn, D.flat, AV.tagged, D.tagged, AObj.plain, go_sem]) | ((with_reducible refine awp_cond' ?_ ?_ (fun hb => ?_) (fun hb => ?_)); (simp only [go_sem]); (simp only [go_sem]); all_goals (simp only [go_sem] at hb; try simp only [bls] at hb)) | ((iterate 6 try ((fail_if_success with_reducible refine hK _ ?_ ?_ ?_); clear hK K)); with_reducible refine hK _ ?_ ?_ ?_; rotate_left; (focus (simp only [go_sem]; exact rfl)); clear hK K) | (with_reducible refine gsplit_i (fun hg0 => ?_) (fun hg0 => ?_) <;> first | (with_reducible first | exact absurd hg0 Bool.false_ne_true | exact absurd hg0.symm Bool.false_ne_true) | (simp only [hg0, go_sem])) | (with_reducible refine nilK_i ?_; intro bnil hnil; try simp only []) | (omega; done) | (intro hv; (try simp only [bls] at hv); (try simp only [bls]); omega) | (intro hg; (simp only [hg, Bool.true_and, true_and, implies_true]; try (intro hg2; simp only [hg2, Bool.not_false, Bool.not_true])); done)))
      all_goals first | omega | skip
      refine hL _ (f, i + 1, nk, es) ⟨hres2, hNk, by simp only; omega, fun j hj => by rw [hsame j hj]; exact hzz j hj⟩ ?_ (by simp only; omega)
      (simp only [SubF, List.set_cons_succ, List.set_cons_zero, go_sem]; (try simp only [List.set_cons_succ, List.set_cons_zero, go_sem]); repeat' (first | exact True.intro | with_reducible refine And.intro ?_ ?_ | rfl | omega))
   ·rw [if_neg hik] at hres
    cases hres
    have hem := emT_none set nd (fun j hj => hz j (by omega))
    rw [hem, if_neg (by omega)] at hR
    subst hR
    have hpll := plOf_length nd
    (simp only [List.set_cons_succ, List.set_cons_zero, go_sem] at hL ⊢)
    (repeat' (first | (with_reducible first | exact True.intro | refine And.intro ?_ ?_ | refine awp_block ?_ | ((first | refine awp_seq1 8 [25, 26, 9, 10, 103, 18, 17, 14, 16, 104, 15, 13, 12, 11] ?_ | refine awp_seq2 8 [25, 26, 9, 10, 103, 18, 17, 14, 16, 104, 15, 13, 12, 11] ?_ | refine awp_seq3 8 [25, 26, 9, 10, 103, 18, 17, 14, 16, 104, 15, 13, 12, 11] ?_ | refine awp_seq4 8 [25, 26, 9, 10, 103, 18, 17, 14, 16, 104, 15, 13, 12, 11] ?_ | refine awp_seq 8 [25, 26, 9, 10, 103, 18, 17, 14, 16, 104, 15, 13, 12, 11] ?_); intro K hK)) | ((with_reducible first | refine awp_reg ?_ | refine awp_exit ?_ | refine awp_skip ?_ | refine likeK_i ?_ | refine rP Ty_ok mixed 28 [0, 2, 3, 8] [.mid [pe 1, pe 4, pe 5, pe 6, ⟨7, 0, true, false, false, [], []⟩, ⟨9, 1, false, false, false, [0], []⟩, ⟨10, 1, true, false, true, [], [0]⟩, ⟨11, 2, false, false, false, [0], []⟩, ⟨12, 2, false, false, false, [0], []⟩] 2, .one 13, .one 14] ?_ | refine rP Ty_ok mixed 26 [1, 2, 6] [.mid [pe 0, pe 3, pe 4, pe 5, ⟨7, 0, true, false, false, [], []⟩, ⟨8, 1, false, false, false, [], []⟩, ⟨9, 1, false, false, false, [], []⟩, ⟨10, 1, false, true, false, [], []⟩, ⟨11, 1, true, false, false, [0], []⟩] 2, .one 12, .one 13] ?_); simp only [hpll, go_sem]) | (with_reducible refine awp_ret ?_; simp only [retF, retM, retL, resV, resW, retO, resAV, AV.bor, D.bor, D.bor1, D.bor0, AV.flatOwn, D.flatOwn, D.flat, AV.tagged, D.tagged, AObj.plain, hpll, go_sem]) | ((with_reducible refine awp_cond' ?_ ?_ (fun hb => ?_) (fun hb => ?_)); (simp only [hpll, go_sem]); (simp only [hpll, go_sem]); all_goals (simp only [hpll, go_sem] at hb; try simp only [bls] at hb)) | ((iterate 6 try ((fail_if_success with_reducible refine hK _ ?_ ?_ ?_); clear hK K)); with_reducible refine hK _ ?_ ?_ ?_; rotate_left; (focus (simp only [hpll, go_sem]; exact rfl)); clear hK K) | (with_reducible refine gsplit_i (fun hg0 => ?_) (fun hg0 => ?_) <;> first | (with_reducible first | exact absurd hg0 Bool.false_ne_true | exact absurd hg0.symm Bool.false_ne_true) | (simp only [hg0, hpll, go_sem])) | (with_reducible refine nilK_i ?_; intro bnil hnil; try simp only []) | (omega; done) | (intro hv; (try simp only [bls] at hv); (try simp only [bls]); omega) | (intro hg; (simp only [hg, Bool.true_and, true_and, implies_true]; try (intro hg2; simp only [hg2, Bool.not_false, Bool.not_true])); done)))
    all_goals first | omega | skip
end Go.Proofs.YtlankmlgomhbhaaDoor
