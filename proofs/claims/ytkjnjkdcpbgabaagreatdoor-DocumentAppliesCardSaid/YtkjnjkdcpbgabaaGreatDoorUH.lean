/-
 Chapter 23: the law's put.
-/
import Derived.Test.YtkjnjkdcpbgabaaGreatDoorUG
set_option linter.unusedSimpArgs false
set_option linter.unusedVariables false
namespace Go.Proofs.YtkjnjkdcpbgabaaGreatDoor
open Go.Eng Go.RowKit
def atB (k : Int) : List It → Nat
 | [] => 0
 | x :: l => if k < x.kind then atB k l else l.length + 1
def lawPut (l : List It) (x : It) : List It := if 0 ≤ findI l x.kind x.name then l.set (findI l x.kind x.name).toNat x else insL l (atB x.kind l.reverse) x
theorem awp_nil' {P : Program} {T : Tab} {σ : AState} {Q : APost} {id d : Nat} {t : TypeId} {pos : String} {after : Array Go.Edge} (hdn : d < σ.n) (h : Q .normal (σ.put d (.one .nil))) : awp P T (.region id [{ dst := some d, op := .assign (.const (.slice none 0 0)), type := t, pos := pos, after := after, guard := none }].toArray false) σ Q :=
 awp_nil rfl rfl rfl hdn h
set_option maxHeartbeats 8000000 in
theorem lawput_c (l : List It) (x : It) (hf : LFits l) : ACalls Tryz.prog 50 [.one (.list (itD l)), .agg x.d] (.one (.list (itD (lawPut l x)))) [] := by
 have hl := hf.len
 have hF := lawfind_c l x.kind x.name (by omega)
 have hR : lawPut l x = if 0 ≤ findI l x.kind x.name then l.set (findI l x.kind x.name).toNat x else insL l (atB x.kind l.reverse) x := rfl
 obtain ⟨hr1, hr2⟩ := findI_range l x.kind x.name
 generalize lawPut l x = R at *
 generalize findI l x.kind x.name = f at *
 (refine ACalls.of_body Ty_ok mixed Tryz.func50 rfl (by kernel_rfl) Tryz.ntmps50 (by simp) (congrArg Array.toList Tryz.results50) ?_)
 simp only [slotsOf, It.d]
 iterate 4 (first | (with_reducible first | exact True.intro | refine And.intro ?_ ?_ | refine awp_block ?_ | ((first | refine awp_seq1 8 [] ?_ | refine awp_seq2 8 [] ?_ | refine awp_seq3 8 [] ?_ | refine awp_seq4 8 [] ?_ | refine awp_seq 8 [] ?_); intro K hK)) | ((with_reducible first | refine awp_reg ?_ | refine awp_exit ?_ | refine awp_skip ?_ | refine likeK_i ?_ | refine otWR_i ?_ | refine rP Ty_ok mixed 4 [0, 1, 2, 8, 9] [.mid [⟨3, 0, false, false, false, [], []⟩, ⟨4, 0, true, false, false, [], []⟩, ⟨5, 1, false, false, false, [0], []⟩, ⟨6, 1, false, false, false, [0], []⟩, ⟨7, 1, true, false, false, [], [0]⟩, ⟨10, 2, false, false, false, [1, 0], []⟩, ⟨11, 2, false, false, false, [1, 0], []⟩, ⟨12, 2, true, false, false, [0], [1]⟩, ⟨13, 3, false, false, false, [1, 0], []⟩] 3] ?_ | refine rP Ty_ok mixed 9 [0, 1, 2, 8, 9] [.mid [⟨3, 0, false, false, false, [], []⟩, ⟨4, 0, true, false, false, [], []⟩, ⟨5, 1, false, false, false, [0], []⟩, ⟨6, 1, false, false, false, [0], []⟩, ⟨7, 1, true, false, false, [], [0]⟩, ⟨10, 2, false, false, false, [1, 0], []⟩, ⟨11, 2, true, false, false, [0], [1]⟩, ⟨12, 3, false, false, false, [1, 0], []⟩] 3] ?_ | refine rD (id := 7) ?_); simp only [go_sem]) | (with_reducible refine awp_ret ?_; simp only [retF, retM, retL, resV, resW, retO, resAV, AV.bor, D.bor, D.bor1, D.bor0, AV.flatOwn, D.flatOwn, D.flat, AV.tagged, D.tagged, AObj.plain, go_sem]) | ((with_reducible refine awp_cond' ?_ ?_ (fun hb => ?_) (fun hb => ?_)); (simp only [go_sem]); (simp only [go_sem]); all_goals (simp only [go_sem] at hb; try simp only [bls] at hb)) | ((iterate 6 try ((fail_if_success with_reducible refine hK _ ?_ ?_ ?_); clear hK K)); with_reducible refine hK _ ?_ ?_ ?_; rotate_left; (focus (simp only [go_sem]; exact rfl)); clear hK K) | (with_reducible refine gsplit_i (fun hg0 => ?_) (fun hg0 => ?_) <;> first | (with_reducible first | exact absurd hg0 Bool.false_ne_true | exact absurd hg0.symm Bool.false_ne_true) | (simp only [hg0, go_sem])) | (with_reducible refine nilK_i ?_; intro bnil hnil; try simp only []) | (omega; done) | (intro hv; (try simp only [bls] at hv); (try simp only [bls]); omega) | (intro hg; (simp only [hg, Bool.true_and, true_and, implies_true]; try (intro hg2; simp only [hg2, Bool.not_false, Bool.not_true])); done))
 with_reducible refine awp_nil' (id := 1) (d := 5) (by simp only [go_sem]) ?_
 simp only [go_sem]
 (repeat' (first | (with_reducible first | exact True.intro | refine And.intro ?_ ?_ | refine awp_block ?_ | ((first | refine awp_seq1 8 [] ?_ | refine awp_seq2 8 [] ?_ | refine awp_seq3 8 [] ?_ | refine awp_seq4 8 [] ?_ | refine awp_seq 8 [] ?_); intro K hK)) | ((with_reducible first | refine awp_reg ?_ | refine awp_exit ?_ | refine awp_skip ?_ | refine likeK_i ?_ | refine otWR_i ?_ | refine rP Ty_ok mixed 4 [0, 1, 2, 8, 9] [.mid [⟨3, 0, false, false, false, [], []⟩, ⟨4, 0, true, false, false, [], []⟩, ⟨5, 1, false, false, false, [0], []⟩, ⟨6, 1, false, false, false, [0], []⟩, ⟨7, 1, true, false, false, [], [0]⟩, ⟨10, 2, false, false, false, [1, 0], []⟩, ⟨11, 2, false, false, false, [1, 0], []⟩, ⟨12, 2, true, false, false, [0], [1]⟩, ⟨13, 3, false, false, false, [1, 0], []⟩] 3] ?_ | refine rP Ty_ok mixed 9 [0, 1, 2, 8, 9] [.mid [⟨3, 0, false, false, false, [], []⟩, ⟨4, 0, true, false, false, [], []⟩, ⟨5, 1, false, false, false, [0], []⟩, ⟨6, 1, false, false, false, [0], []⟩, ⟨7, 1, true, false, false, [], [0]⟩, ⟨10, 2, false, false, false, [1, 0], []⟩, ⟨11, 2, true, false, false, [0], [1]⟩, ⟨12, 3, false, false, false, [1, 0], []⟩] 3] ?_ | refine rD (id := 7) ?_); simp only [go_sem]) | (with_reducible refine awp_ret ?_; simp only [retF, retM, retL, resV, resW, retO, resAV, AV.bor, D.bor, D.bor1, D.bor0, AV.flatOwn, D.flatOwn, D.flat, AV.tagged, D.tagged, AObj.plain, go_sem]) | ((with_reducible refine awp_cond' ?_ ?_ (fun hb => ?_) (fun hb => ?_)); (simp only [go_sem]); (simp only [go_sem]); all_goals (simp only [go_sem] at hb; try simp only [bls] at hb)) | ((iterate 6 try ((fail_if_success with_reducible refine hK _ ?_ ?_ ?_); clear hK K)); with_reducible refine hK _ ?_ ?_ ?_; rotate_left; (focus (simp only [go_sem]; exact rfl)); clear hK K) | ((first | (with_reducible first | refine cA hF ?_ | refine cD hF ?_ | refine cO hF ?_ | refine cR hF ?_ | refine cG (fun hg => hF) ?_ | refine cH (fun hg => hF) ?_ | refine cM (fun hg => hF) ?_) | (guard_target = CallAt _ _ _ _ _ _ _ _ _ _; refine cA hF ?_) | (guard_target = DCallAt _ _ _ _ _ _ _ _; refine cD hF ?_) | (guard_target = GCallAt _ _ _ _ _ _ _ _ _ _ _; refine cG (fun hg => hF) ?_)); simp only [go_sem]) | (with_reducible refine gsplit_i (fun hg0 => ?_) (fun hg0 => ?_) <;> first | (with_reducible first | exact absurd hg0 Bool.false_ne_true | exact absurd hg0.symm Bool.false_ne_true) | (simp only [hg0, go_sem])) | (with_reducible refine nilK_i ?_; intro bnil hnil; try simp only []) | (omega; done) | (intro hv; (try simp only [bls] at hv); (try simp only [bls]); omega) | (intro hg; (simp only [hg, Bool.true_and, true_and, implies_true]; try (intro hg2; simp only [hg2, Bool.not_false, Bool.not_true])); done)))
 all_goals first | omega | (simp only [itD_length, List.length_append, List.length_take, List.length_drop, List.length_cons, List.length_nil]; omega) | skip
 ·rw [if_pos (by assumption)] at hR
  rw [hR, List.set_eq_take_append_cons_drop, if_pos (by omega), List.take_length, show (f + 1).toNat = f.toNat + 1 by omega]
  have e1 : [[D.int IntKind.i64 x.kind, D.str x.name, D.list (ints x.aut.alpha), D.int IntKind.i64 x.aut.states, D.list (ints x.aut.marked), D.list (edD x.aut.edges), D.list (ltD x.locs), D.list (ltD x.terms), D.int IntKind.i64 x.bound]] = itD [x] := rfl
  rw [e1, itD_append, itD_append, List.append_assoc]
  rfl
 rw [if_neg (by omega)] at hR
 generalize hA : atB x.kind l.reverse = A at *
 refine awp_loop _ (by simp only [go_sem]; rfl) Nat (fun k => k ≤ l.length ∧ A = atB x.kind (l.take k).reverse) (fun k => [(7, .one (.int .i64 k))]) (fun _ H => H) (fun k => k) l.length ⟨by omega, by rw [List.take_length]; exact hA.symm⟩ ?_ ?_
 ·(simp only [SubF, go_sem]; (try simp only [go_sem]); repeat' (first | exact True.intro | with_reducible refine And.intro ?_ ?_ | rfl | omega))
 rintro k ⟨hk, hres⟩ L hL
 rcases Nat.eq_zero_or_pos k with h0 | h0
 ·subst h0
  rw [List.take_zero] at hres
  have hA0 : A = 0 := hres
  obtain ⟨kd, rest, hg0⟩ : ∃ kd rest, (itD l).getD 0 [.int .i64 0, .str [], .nil, .int .i64 0, .nil, .nil, .nil, .nil, .int .i64 0] = .int .i64 kd :: rest := by
   cases l with
   | nil => exact ⟨0, _, rfl⟩
   | cons y l => exact ⟨y.kind, _, rfl⟩
  (simp only [go_sem] at hL ⊢)
  (repeat' (first | (with_reducible first | exact True.intro | refine And.intro ?_ ?_ | refine awp_block ?_ | ((first | refine awp_seq1 8 [] ?_ | refine awp_seq2 8 [] ?_ | refine awp_seq3 8 [] ?_ | refine awp_seq4 8 [] ?_ | refine awp_seq 8 [] ?_); intro K hK)) | ((with_reducible first | refine awp_reg ?_ | refine awp_exit ?_ | refine awp_skip ?_ | refine likeK_i ?_ | refine otWR_i ?_ | refine rP Ty_ok mixed 4 [0, 1, 2, 8, 9] [.mid [⟨3, 0, false, false, false, [], []⟩, ⟨4, 0, true, false, false, [], []⟩, ⟨5, 1, false, false, false, [0], []⟩, ⟨6, 1, false, false, false, [0], []⟩, ⟨7, 1, true, false, false, [], [0]⟩, ⟨10, 2, false, false, false, [1, 0], []⟩, ⟨11, 2, false, false, false, [1, 0], []⟩, ⟨12, 2, true, false, false, [0], [1]⟩, ⟨13, 3, false, false, false, [1, 0], []⟩] 3] ?_ | refine rP Ty_ok mixed 9 [0, 1, 2, 8, 9] [.mid [⟨3, 0, false, false, false, [], []⟩, ⟨4, 0, true, false, false, [], []⟩, ⟨5, 1, false, false, false, [0], []⟩, ⟨6, 1, false, false, false, [0], []⟩, ⟨7, 1, true, false, false, [], [0]⟩, ⟨10, 2, false, false, false, [1, 0], []⟩, ⟨11, 2, true, false, false, [0], [1]⟩, ⟨12, 3, false, false, false, [1, 0], []⟩] 3] ?_ | refine rD (id := 7) ?_); simp only [hg0, go_sem]) | (with_reducible refine awp_ret ?_; simp only [retF, retM, retL, resV, resW, retO, resAV, AV.bor, D.bor, D.bor1, D.bor0, AV.flatOwn, D.flatOwn, D.flat, AV.tagged, D.tagged, AObj.plain, hg0, go_sem]) | ((with_reducible refine awp_cond' ?_ ?_ (fun hb => ?_) (fun hb => ?_)); (simp only [hg0, go_sem]); (simp only [hg0, go_sem]); all_goals (simp only [hg0, go_sem] at hb; try simp only [bls] at hb)) | ((iterate 6 try ((fail_if_success with_reducible refine hK _ ?_ ?_ ?_); clear hK K)); with_reducible refine hK _ ?_ ?_ ?_; rotate_left; (focus (simp only [hg0, go_sem]; exact rfl)); clear hK K) | (with_reducible refine gsplit_i (fun hg0 => ?_) (fun hg0 => ?_) <;> first | (with_reducible first | exact absurd hg0 Bool.false_ne_true | exact absurd hg0.symm Bool.false_ne_true) | (simp only [hg0, hg0, go_sem])) | (with_reducible refine nilK_i ?_; intro bnil hnil; try simp only []) | (omega; done) | (intro hv; (try simp only [bls] at hv); (try simp only [bls]); omega) | (intro hg; (simp only [hg, Bool.true_and, true_and, implies_true]; try (intro hg2; simp only [hg2, Bool.not_false, Bool.not_true])); done)))
  all_goals first | omega | (simp only [itD_length, List.length_append, List.length_take, List.length_drop, List.length_cons, List.length_nil]; omega) | skip
  ·intro r h; exact h.elim
  ·rw [hR, hA0, insL, List.take_length]
   rfl
 have hlt : k - 1 < l.length := by omega
 have hq : ((k : Int) - 1).toNat = k - 1 := by omega
 have hg := itD_get hlt [.int .i64 0, .str [], .nil, .int .i64 0, .nil, .nil, .nil, .nil, .int .i64 0]
 have hlf : decide (0 < (k : Int)) = true := decide_eq_true (by omega)
 have hs1 : (l.take k).reverse = l.getD (k - 1) It.no :: (l.take (k - 1)).reverse := by
  have := take_succ_getD l (k - 1) It.no hlt
  rw [show k - 1 + 1 = k by omega] at this
  rw [this, List.reverse_append]; rfl
 have htl : (l.take (k - 1)).reverse.length = k - 1 := by rw [List.length_reverse, List.length_take]; omega
 rw [hs1, atB, htl] at hres
 generalize l.getD (k - 1) It.no = y at *
 simp only [It.d] at hg
 (simp only [go_sem] at hL ⊢)
 (repeat' (first | (with_reducible first | exact True.intro | refine And.intro ?_ ?_ | refine awp_block ?_ | ((first | refine awp_seq1 8 [] ?_ | refine awp_seq2 8 [] ?_ | refine awp_seq3 8 [] ?_ | refine awp_seq4 8 [] ?_ | refine awp_seq 8 [] ?_); intro K hK)) | ((with_reducible first | refine awp_reg ?_ | refine awp_exit ?_ | refine awp_skip ?_ | refine likeK_i ?_ | refine otWR_i ?_ | refine rP Ty_ok mixed 4 [0, 1, 2, 8, 9] [.mid [⟨3, 0, false, false, false, [], []⟩, ⟨4, 0, true, false, false, [], []⟩, ⟨5, 1, false, false, false, [0], []⟩, ⟨6, 1, false, false, false, [0], []⟩, ⟨7, 1, true, false, false, [], [0]⟩, ⟨10, 2, false, false, false, [1, 0], []⟩, ⟨11, 2, false, false, false, [1, 0], []⟩, ⟨12, 2, true, false, false, [0], [1]⟩, ⟨13, 3, false, false, false, [1, 0], []⟩] 3] ?_ | refine rP Ty_ok mixed 9 [0, 1, 2, 8, 9] [.mid [⟨3, 0, false, false, false, [], []⟩, ⟨4, 0, true, false, false, [], []⟩, ⟨5, 1, false, false, false, [0], []⟩, ⟨6, 1, false, false, false, [0], []⟩, ⟨7, 1, true, false, false, [], [0]⟩, ⟨10, 2, false, false, false, [1, 0], []⟩, ⟨11, 2, true, false, false, [0], [1]⟩, ⟨12, 3, false, false, false, [1, 0], []⟩] 3] ?_ | refine rD (id := 7) ?_); simp only [hg, hq, hlf, go_sem]) | (with_reducible refine awp_ret ?_; simp only [retF, retM, retL, resV, resW, retO, resAV, AV.bor, D.bor, D.bor1, D.bor0, AV.flatOwn, D.flatOwn, D.flat, AV.tagged, D.tagged, AObj.plain, hg, hq, hlf, go_sem]) | ((with_reducible refine awp_cond' ?_ ?_ (fun hb => ?_) (fun hb => ?_)); (simp only [hg, hq, hlf, go_sem]); (simp only [hg, hq, hlf, go_sem]); all_goals (simp only [hg, hq, hlf, go_sem] at hb; try simp only [bls] at hb)) | ((iterate 6 try ((fail_if_success with_reducible refine hK _ ?_ ?_ ?_); clear hK K)); with_reducible refine hK _ ?_ ?_ ?_; rotate_left; (focus (simp only [hg, hq, hlf, go_sem]; exact rfl)); clear hK K) | (with_reducible refine gsplit_i (fun hg0 => ?_) (fun hg0 => ?_) <;> first | (with_reducible first | exact absurd hg0 Bool.false_ne_true | exact absurd hg0.symm Bool.false_ne_true) | (simp only [hg0, hg, hq, hlf, go_sem])) | (with_reducible refine nilK_i ?_; intro bnil hnil; try simp only []) | (omega; done) | (intro hv; (try simp only [bls] at hv); (try simp only [bls]); omega) | (intro hg; (simp only [hg, Bool.true_and, true_and, implies_true]; try (intro hg2; simp only [hg2, Bool.not_false, Bool.not_true])); done)))
 all_goals first | omega | (simp only [itD_length, List.length_append, List.length_take, List.length_drop, List.length_cons, List.length_nil]; omega) | skip
 ·rw [if_pos (by assumption)] at hres
  exact hL _ (k - 1) ⟨by omega, hres⟩ (by rw [show ((k - 1 : Nat) : Int) = (k : Int) - 1 by omega]; (simp only [SubF, go_sem]; (try simp only [go_sem]); repeat' (first | exact True.intro | with_reducible refine And.intro ?_ ?_ | rfl | omega))) (by omega)
 ·rw [if_neg (by omega), show k - 1 + 1 = k by omega] at hres
  rw [hR, hres, insL, List.take_length]
  have e1 : [[D.int IntKind.i64 x.kind, D.str x.name, D.list (ints x.aut.alpha), D.int IntKind.i64 x.aut.states, D.list (ints x.aut.marked), D.list (edD x.aut.edges), D.list (ltD x.locs), D.list (ltD x.terms), D.int IntKind.i64 x.bound]] = itD [x] := rfl
  rw [e1, itD_append, itD_append, List.append_assoc]
  rfl
end Go.Proofs.YtkjnjkdcpbgabaaGreatDoor
