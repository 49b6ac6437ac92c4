/-
 Chapter 23: Put and Drop.
-/
import Derived.Test.YtkjnjkdcpbgabaaGreatDoorU7
set_option linter.unusedSimpArgs false
set_option linter.unusedVariables false
namespace Go.Proofs.YtkjnjkdcpbgabaaGreatDoor
open Go.Eng Go.RowKit
def atL (l : List It) (k : Int) : Nat := if ixFrom (fun y : It => decide (k < y.kind)) 0 l < 0 then l.length else (ixFrom (fun y : It => decide (k < y.kind)) 0 l).toNat
def putL (l : List It) (x : It) : List It := if 0 ≤ findI l x.kind x.name then l.set (findI l x.kind x.name).toNat x else insL l (atL l x.kind) x
def putE (l : List It) (x : It) : Int := if chkL l ≠ 0 then chkL l else if chkL [x] ≠ 0 then chkL [x] else if 0 ≤ findI l x.kind x.name then 0 else if l.length = 76 then 3 else 0
def putR (l : List It) (x : It) : List It × Int := (if putE l x = 0 then putL l x else [], putE l x)
def dropE (l : List It) (k : Int) (s : List UInt8) : Int := if chkL l ≠ 0 then chkL l else if findI l k s < 0 then 10 else 0
def dropL (l : List It) (k : Int) (s : List UInt8) : List It := l.take (findI l k s).toNat ++ l.drop ((findI l k s).toNat + 1)
def dropR (l : List It) (k : Int) (s : List UInt8) : List It × Int := (if dropE l k s = 0 then dropL l k s else [], dropE l k s)
theorem ixFrom_range {α : Type} (p : α → Bool) : ∀ (l : List α) (j : Nat), (ixFrom p j l = -1 ∧ ∀ x ∈ l, p x = false) ∨ ∃ k : Nat, k < l.length ∧ ixFrom p j l = ((j + k : Nat) : Int)
 | [], j => .inl ⟨rfl, fun x h => by simp at h⟩
 | x :: l, j => by
  rw [ixFrom]
  by_cases h : p x = true
  ·rw [if_pos h]; exact .inr ⟨0, by simp, rfl⟩
  ·rw [if_neg h]
   rcases ixFrom_range p l (j + 1) with ⟨h1, h2⟩ | ⟨k, h1, h2⟩
   ·exact .inl ⟨h1, fun y hy => by rcases List.mem_cons.1 hy with rfl | hy; exact Bool.eq_false_iff.2 h; exact h2 y hy⟩
   ·exact .inr ⟨k + 1, by simpa using h1, by rw [h2]; omega⟩
theorem findI_range (l : List It) (k : Int) (s : List UInt8) : -1 ≤ findI l k s ∧ findI l k s < l.length := by
 rcases ixFrom_range (keyB k s) l 0 with ⟨h, _⟩ | ⟨j, h1, h2⟩
 ·rw [findI, h]; omega
 ·rw [findI, h2]; omega
theorem Put1_c (y x : It) : ACalls Tryz.prog 52 [.agg y.d, .one (.ref x.d)] (.one (.bool (decide (x.kind < y.kind)))) [] := by
 (refine ACalls.of_body Ty_ok mixed Tryz.func52 rfl (by kernel_rfl) Tryz.ntmps52 (by simp) (congrArg Array.toList Tryz.results52) ?_)
 simp only [slotsOf, It.d]
 (repeat' (first | (with_reducible first | exact True.intro | refine And.intro ?_ ?_ | refine aBl ?_ | (refine aS 4 [] ?_; intro K hK)) | ((with_reducible first | refine aGo ?_); simp only [go_sem]) | ((with_reducible refine aCd ?_ ?_ (fun hb => ?_) (fun hb => ?_)); (iterate 2 simp only [go_sem]); all_goals (simp only [go_sem] at hb; try simp only [bls] at hb)) | ((iterate 6 try ((fail_if_success with_reducible refine hK _ ?_ ?_ ?_); clear hK K)); with_reducible refine hK _ ?_ ?_ ?_; rotate_left; (focus (simp only [go_sem]; exact rfl)); clear hK K) | (with_reducible refine aGs (fun hg0 => ?_) (fun hg0 => ?_) <;> first | (with_reducible first | exact aF1 hg0 | exact aF2 hg0) | (simp only [hg0, go_sem])) | (with_reducible refine aNk ?_; intro bnil hnil; try simp only []) | exact aZ | fail))
set_option maxHeartbeats 8000000 in
theorem Drop_c (l : List It) (k : Int) (s : List UInt8) (hf : LFits l) : ACalls Tryz.prog 17 [.one (.list (itD l)), .one (.int .i64 k), .one (.str s)] (.tup [.one (.list (itD (dropR l k s).1)), .one (.int .i64 (dropR l k s).2)]) [] := by
 have hl := hf.len
 have hck := Check_c l hf
 have hF := Find_c l k s (by omega)
 have hcl := cloneAll_c l hf
 obtain ⟨hr1, hr2⟩ := findI_range l k s
 have hR : dropR l k s = (if dropE l k s = 0 then dropL l k s else [], dropE l k s) := rfl
 have hE : dropE l k s = if chkL l ≠ 0 then chkL l else if findI l k s < 0 then 10 else 0 := rfl
 have hL : dropL l k s = l.take (findI l k s).toNat ++ l.drop ((findI l k s).toNat + 1) := rfl
 generalize dropR l k s = R at *
 generalize dropE l k s = E at *
 generalize dropL l k s = X at *
 generalize chkL l = c at *
 generalize findI l k s = f at *
 by_cases hc0 : c = 0
 ·subst hc0
  rw [if_neg (by omega)] at hE
  by_cases hf0 : f < 0
  ·rw [if_pos hf0] at hE
   subst hE
   rw [if_neg (by decide)] at hR
   subst hR
   have e0 : itD [] = [] := rfl
   (refine ACalls.of_body Ty_ok mixed Tryz.func17 rfl (by kernel_rfl) Tryz.ntmps17 (by simp) (congrArg Array.toList Tryz.results17) ?_)
   simp only [slotsOf, e0]
   (repeat' (first | (with_reducible first | exact True.intro | refine And.intro ?_ ?_ | refine aBl ?_ | (refine aS 11 [] ?_; intro K hK)) | ((with_reducible first | refine aGo ?_); simp only [go_sem]) | ((with_reducible refine aCd ?_ ?_ (fun hb => ?_) (fun hb => ?_)); (iterate 2 simp only [go_sem]); all_goals (simp only [go_sem] at hb; try simp only [bls] at hb)) | ((iterate 6 try ((fail_if_success with_reducible refine hK _ ?_ ?_ ?_); clear hK K)); with_reducible refine hK _ ?_ ?_ ?_; rotate_left; (focus (simp only [go_sem]; exact rfl)); clear hK K) | ((first | (with_reducible first | refine xA ?_ | refine xD ?_ | refine xO ?_ | refine xR ?_ | refine xG ?_ | refine xH ?_ | refine xM ?_) | ((with_reducible refine gA ?_); refine xA ?_) | ((with_reducible refine gD ?_); refine xD ?_) | ((with_reducible refine gG ?_); refine xG ?_)); simp only [go_sem]) | (with_reducible refine aGs (fun hg0 => ?_) (fun hg0 => ?_) <;> first | (with_reducible first | exact aF1 hg0 | exact aF2 hg0) | (simp only [hg0, go_sem])) | (with_reducible refine aNk ?_; intro bnil hnil; try simp only []) | exact aZ | fail))
   all_goals first | omega | rfl | skip
  ·rw [if_neg hf0] at hE
   subst hE
   rw [if_pos rfl] at hR
   subst hR
   obtain ⟨j, rfl⟩ : ∃ j : Nat, f = j := ⟨f.toNat, by omega⟩
   have hj : j < l.length := by omega
   rw [Int.toNat_natCast] at hL
   subst hL
   have hm : max (j : Int) 0 = j := by omega
   rw [hm] at hF
   have hd := Delete_c l j hj hl
   (refine ACalls.of_body Ty_ok mixed Tryz.func17 rfl (by kernel_rfl) Tryz.ntmps17 (by simp) (congrArg Array.toList Tryz.results17) ?_)
   simp only [slotsOf]
   (repeat' (first | (with_reducible first | exact True.intro | refine And.intro ?_ ?_ | refine aBl ?_ | (refine aS 11 [] ?_; intro K hK)) | ((with_reducible first | refine aGo ?_); simp only [go_sem]) | ((with_reducible refine aCd ?_ ?_ (fun hb => ?_) (fun hb => ?_)); (iterate 2 simp only [go_sem]); all_goals (simp only [go_sem] at hb; try simp only [bls] at hb)) | ((iterate 6 try ((fail_if_success with_reducible refine hK _ ?_ ?_ ?_); clear hK K)); with_reducible refine hK _ ?_ ?_ ?_; rotate_left; (focus (simp only [go_sem]; exact rfl)); clear hK K) | ((first | (with_reducible first | refine xA ?_ | refine xD ?_ | refine xO ?_ | refine xR ?_ | refine xG ?_ | refine xH ?_ | refine xM ?_) | ((with_reducible refine gA ?_); refine xA ?_) | ((with_reducible refine gD ?_); refine xD ?_) | ((with_reducible refine gG ?_); refine xG ?_)); simp only [go_sem]) | (with_reducible refine aGs (fun hg0 => ?_) (fun hg0 => ?_) <;> first | (with_reducible first | exact aF1 hg0 | exact aF2 hg0) | (simp only [hg0, go_sem])) | (with_reducible refine aNk ?_; intro bnil hnil; try simp only []) | exact aZ | fail))
   all_goals first | omega | skip
   (refine MCallAt_i [] [1] (hd) ?_ ?_; (focus (simp only [mside, handOk, go_sem]; (first | done | exact (by decide) | exact ⟨by decide, fun t ht => ht.elim⟩ | (refine ⟨by decide, ?_⟩; simp; done)))); simp only [go_sem])
   (repeat' (first | (with_reducible first | exact True.intro | refine And.intro ?_ ?_ | refine aBl ?_ | (refine aS 11 [] ?_; intro K hK)) | ((with_reducible first | refine aGo ?_); simp only [go_sem]) | ((with_reducible refine aCd ?_ ?_ (fun hb => ?_) (fun hb => ?_)); (iterate 2 simp only [go_sem]); all_goals (simp only [go_sem] at hb; try simp only [bls] at hb)) | ((iterate 6 try ((fail_if_success with_reducible refine hK _ ?_ ?_ ?_); clear hK K)); with_reducible refine hK _ ?_ ?_ ?_; rotate_left; (focus (simp only [go_sem]; exact rfl)); clear hK K) | (with_reducible refine aGs (fun hg0 => ?_) (fun hg0 => ?_) <;> first | (with_reducible first | exact aF1 hg0 | exact aF2 hg0) | (simp only [hg0, go_sem])) | (with_reducible refine aNk ?_; intro bnil hnil; try simp only []) | exact aZ | fail))
   all_goals first | omega | rfl | skip
 ·rw [if_pos hc0] at hE
  subst hE
  rw [if_neg hc0] at hR
  subst hR
  have e0 : itD [] = [] := rfl
  (refine ACalls.of_body Ty_ok mixed Tryz.func17 rfl (by kernel_rfl) Tryz.ntmps17 (by simp) (congrArg Array.toList Tryz.results17) ?_)
  simp only [slotsOf, e0]
  (repeat' (first | (with_reducible first | exact True.intro | refine And.intro ?_ ?_ | refine aBl ?_ | (refine aS 11 [] ?_; intro K hK)) | ((with_reducible first | refine aGo ?_); simp only [go_sem]) | ((with_reducible refine aCd ?_ ?_ (fun hb => ?_) (fun hb => ?_)); (iterate 2 simp only [go_sem]); all_goals (simp only [go_sem] at hb; try simp only [bls] at hb)) | ((iterate 6 try ((fail_if_success with_reducible refine hK _ ?_ ?_ ?_); clear hK K)); with_reducible refine hK _ ?_ ?_ ?_; rotate_left; (focus (simp only [go_sem]; exact rfl)); clear hK K) | ((first | (with_reducible first | refine xA ?_ | refine xD ?_ | refine xO ?_ | refine xR ?_ | refine xG ?_ | refine xH ?_ | refine xM ?_) | ((with_reducible refine gA ?_); refine xA ?_) | ((with_reducible refine gD ?_); refine xD ?_) | ((with_reducible refine gG ?_); refine xG ?_)); simp only [go_sem]) | (with_reducible refine aGs (fun hg0 => ?_) (fun hg0 => ?_) <;> first | (with_reducible first | exact aF1 hg0 | exact aF2 hg0) | (simp only [hg0, go_sem])) | (with_reducible refine aNk ?_; intro bnil hnil; try simp only []) | exact aZ | fail))
  all_goals first | omega | rfl | skip
set_option maxHeartbeats 16000000 in
theorem Put_c (l : List It) (x : It) (hf : LFits l) (hx : x.Fits) : ACalls Tryz.prog 19 [.one (.list (itD l)), .agg x.d] (.tup [.one (.list (itD (putR l x).1)), .one (.int .i64 (putR l x).2)]) [] := by
 have hl := hf.len
 have hck := Check_c l hf
 have hck1 := Check_c [x] ⟨by simp, fun y hy => by rw [List.mem_singleton.1 hy]; exact hx⟩
 have hF := Find_c l x.kind x.name (by omega)
 have hcl := cloneAll_c l hf
 have hcx := clone_c x hx
 obtain ⟨hr1, hr2⟩ := findI_range l x.kind x.name
 have hIx := IndexFuncIts_c l 52 [.ref x.d] (fun y => decide (x.kind < y.kind)) (by omega) (capsOk_ref1 _) (fun y _ => Put1_c y x)
 have hat : atL l x.kind = if ixFrom (fun y : It => decide (x.kind < y.kind)) 0 l < 0 then l.length else (ixFrom (fun y : It => decide (x.kind < y.kind)) 0 l).toNat := rfl
 have hir := ixFrom_range (fun y : It => decide (x.kind < y.kind)) l 0
 have hins := Insert_c l x
 have hR : putR l x = (if putE l x = 0 then putL l x else [], putE l x) := rfl
 have hE : putE l x = if chkL l ≠ 0 then chkL l else if chkL [x] ≠ 0 then chkL [x] else if 0 ≤ findI l x.kind x.name then 0 else if l.length = 76 then 3 else 0 := rfl
 have hL : putL l x = if 0 ≤ findI l x.kind x.name then l.set (findI l x.kind x.name).toNat x else insL l (atL l x.kind) x := rfl
 have e1 : itD [x] = [x.d] := rfl
 have hset : ∀ k, (itD l).set k x.d = itD (l.set k x) := fun k => itD_set l k x
 rw [e1] at hck1 hins
 generalize putR l x = R at *
 generalize putE l x = E at *
 generalize putL l x = X at *
 generalize chkL l = c at *
 generalize chkL [x] = c1 at *
 generalize findI l x.kind x.name = f at *
 generalize ixFrom (fun y : It => decide (x.kind < y.kind)) 0 l = q at *
 have e0 : itD [] = [] := rfl
 simp only [It.d] at hck1 hcx hIx hins hset
 rcases (Decidable.em (c = 0)).symm with hc0 | hc0
 ·rw [if_pos hc0] at hE
  subst hE
  rw [if_neg hc0] at hR
  subst hR
  (refine ACalls.of_body Ty_ok mixed Tryz.func19 rfl (by kernel_rfl) Tryz.ntmps19 (by simp) (congrArg Array.toList Tryz.results19) ?_)
  simp only [slotsOf, e0, It.d]
  (repeat' (first | (with_reducible first | exact True.intro | refine And.intro ?_ ?_ | refine aBl ?_ | (refine aS 12 [] ?_; intro K hK)) | ((with_reducible first | refine aGo ?_); simp only [go_sem]) | ((with_reducible refine aCd ?_ ?_ (fun hb => ?_) (fun hb => ?_)); (iterate 2 simp only [go_sem]); all_goals (simp only [go_sem] at hb; try simp only [bls] at hb)) | ((iterate 6 try ((fail_if_success with_reducible refine hK _ ?_ ?_ ?_); clear hK K)); with_reducible refine hK _ ?_ ?_ ?_; rotate_left; (focus (simp only [go_sem]; exact rfl)); clear hK K) | ((first | (with_reducible first | refine xA ?_ | refine xD ?_ | refine xO ?_ | refine xR ?_ | refine xG ?_ | refine xH ?_ | refine xM ?_) | ((with_reducible refine gA ?_); refine xA ?_) | ((with_reducible refine gD ?_); refine xD ?_) | ((with_reducible refine gG ?_); refine xG ?_)); simp only [go_sem]) | (with_reducible refine aGs (fun hg0 => ?_) (fun hg0 => ?_) <;> first | (with_reducible first | exact aF1 hg0 | exact aF2 hg0) | (simp only [hg0, go_sem])) | (with_reducible refine aNk ?_; intro bnil hnil; try simp only []) | exact aZ | fail))
  all_goals first | omega | rfl | skip
 subst hc0
 rw [if_neg (by omega)] at hE
 rcases (Decidable.em (c1 = 0)).symm with hc1 | hc1
 ·rw [if_pos hc1] at hE
  subst hE
  rw [if_neg hc1] at hR
  subst hR
  (refine ACalls.of_body Ty_ok mixed Tryz.func19 rfl (by kernel_rfl) Tryz.ntmps19 (by simp) (congrArg Array.toList Tryz.results19) ?_)
  simp only [slotsOf, e0, It.d]
  (repeat' (first | (with_reducible first | exact True.intro | refine And.intro ?_ ?_ | refine aBl ?_ | (refine aS 12 [] ?_; intro K hK)) | ((with_reducible first | refine aGo ?_); simp only [go_sem]) | ((with_reducible refine aCd ?_ ?_ (fun hb => ?_) (fun hb => ?_)); (iterate 2 simp only [go_sem]); all_goals (simp only [go_sem] at hb; try simp only [bls] at hb)) | ((iterate 6 try ((fail_if_success with_reducible refine hK _ ?_ ?_ ?_); clear hK K)); with_reducible refine hK _ ?_ ?_ ?_; rotate_left; (focus (simp only [go_sem]; exact rfl)); clear hK K) | ((first | (with_reducible first | refine xA ?_ | refine xD ?_ | refine xO ?_ | refine xR ?_ | refine xG ?_ | refine xH ?_ | refine xM ?_) | ((with_reducible refine gA ?_); refine xA ?_) | ((with_reducible refine gD ?_); refine xD ?_) | ((with_reducible refine gG ?_); refine xG ?_)); simp only [go_sem]) | (with_reducible refine aGs (fun hg0 => ?_) (fun hg0 => ?_) <;> first | (with_reducible first | exact aF1 hg0 | exact aF2 hg0) | (simp only [hg0, go_sem])) | (with_reducible refine aNk ?_; intro bnil hnil; try simp only []) | exact aZ | fail))
  all_goals first | omega | rfl | skip
 subst hc1
 rw [if_neg (by omega)] at hE
 by_cases hf0 : 0 ≤ f
 ·rw [if_pos hf0] at hE hL
  subst hE
  rw [if_pos rfl] at hR
  subst hR
  obtain ⟨j, rfl⟩ : ∃ j : Nat, f = j := ⟨f.toNat, by omega⟩
  rw [Int.toNat_natCast] at hL
  subst hL
  have hm : max (j : Int) 0 = j := by omega
  rw [hm] at hF
  (refine ACalls.of_body Ty_ok mixed Tryz.func19 rfl (by kernel_rfl) Tryz.ntmps19 (by simp) (congrArg Array.toList Tryz.results19) ?_)
  simp only [slotsOf, It.d]
  (repeat' (first | (with_reducible first | exact True.intro | refine And.intro ?_ ?_ | refine aBl ?_ | (refine aS 12 [] ?_; intro K hK)) | ((with_reducible first | refine aGo ?_); simp only [hset, go_sem]) | ((with_reducible refine aCd ?_ ?_ (fun hb => ?_) (fun hb => ?_)); (iterate 2 simp only [hset, go_sem]); all_goals (simp only [hset, go_sem] at hb; try simp only [bls] at hb)) | ((iterate 6 try ((fail_if_success with_reducible refine hK _ ?_ ?_ ?_); clear hK K)); with_reducible refine hK _ ?_ ?_ ?_; rotate_left; (focus (simp only [hset, go_sem]; exact rfl)); clear hK K) | ((first | (with_reducible first | refine xA ?_ | refine xD ?_ | refine xO ?_ | refine xR ?_ | refine xG ?_ | refine xH ?_ | refine xM ?_) | ((with_reducible refine gA ?_); refine xA ?_) | ((with_reducible refine gD ?_); refine xD ?_) | ((with_reducible refine gG ?_); refine xG ?_)); simp only [hset, go_sem]) | (with_reducible refine aGs (fun hg0 => ?_) (fun hg0 => ?_) <;> first | (with_reducible first | exact aF1 hg0 | exact aF2 hg0) | (simp only [hg0, hset, go_sem])) | (with_reducible refine aNk ?_; intro bnil hnil; try simp only []) | exact aZ | fail))
  all_goals first | omega | rfl | skip
  rw [itD_get (by omega)]
  exact itD_set l j x
 rw [if_neg hf0] at hE hL
 by_cases h76 : l.length = 76
 ·rw [if_pos h76] at hE
  subst hE
  rw [if_neg (by decide)] at hR
  subst hR
  (refine ACalls.of_body Ty_ok mixed Tryz.func19 rfl (by kernel_rfl) Tryz.ntmps19 (by simp) (congrArg Array.toList Tryz.results19) ?_)
  simp only [slotsOf, e0, It.d]
  (repeat' (first | (with_reducible first | exact True.intro | refine And.intro ?_ ?_ | refine aBl ?_ | (refine aS 12 [] ?_; intro K hK)) | ((with_reducible first | refine aGo ?_); simp only [go_sem]) | ((with_reducible refine aCd ?_ ?_ (fun hb => ?_) (fun hb => ?_)); (iterate 2 simp only [go_sem]); all_goals (simp only [go_sem] at hb; try simp only [bls] at hb)) | ((iterate 6 try ((fail_if_success with_reducible refine hK _ ?_ ?_ ?_); clear hK K)); with_reducible refine hK _ ?_ ?_ ?_; rotate_left; (focus (simp only [go_sem]; exact rfl)); clear hK K) | ((first | (with_reducible first | refine xA ?_ | refine xD ?_ | refine xO ?_ | refine xR ?_ | refine xG ?_ | refine xH ?_ | refine xM ?_) | ((with_reducible refine gA ?_); refine xA ?_) | ((with_reducible refine gD ?_); refine xD ?_) | ((with_reducible refine gG ?_); refine xG ?_)); simp only [go_sem]) | (with_reducible refine aGs (fun hg0 => ?_) (fun hg0 => ?_) <;> first | (with_reducible first | exact aF1 hg0 | exact aF2 hg0) | (simp only [hg0, go_sem])) | (with_reducible refine aNk ?_; intro bnil hnil; try simp only []) | exact aZ | fail))
  all_goals first | omega | rfl | skip
 rw [if_neg h76] at hE
 subst hE
 rw [if_pos rfl] at hR
 subst hR
 rcases hir with ⟨rfl, _⟩ | ⟨j, hj, rfl⟩
 ·rw [if_pos (by decide)] at hat
  rw [hat] at hL
  subst hL
  have hI := hins l.length (Nat.le_refl _) hl
  (refine ACalls.of_body Ty_ok mixed Tryz.func19 rfl (by kernel_rfl) Tryz.ntmps19 (by simp) (congrArg Array.toList Tryz.results19) ?_)
  simp only [slotsOf, It.d]
  (repeat' (first | (with_reducible first | exact True.intro | refine And.intro ?_ ?_ | refine aBl ?_ | (refine aS 12 [] ?_; intro K hK)) | ((with_reducible first | refine aGo ?_); simp only [go_sem]) | ((with_reducible refine aCd ?_ ?_ (fun hb => ?_) (fun hb => ?_)); (iterate 2 simp only [go_sem]); all_goals (simp only [go_sem] at hb; try simp only [bls] at hb)) | ((iterate 6 try ((fail_if_success with_reducible refine hK _ ?_ ?_ ?_); clear hK K)); with_reducible refine hK _ ?_ ?_ ?_; rotate_left; (focus (simp only [go_sem]; exact rfl)); clear hK K) | ((first | (with_reducible first | refine xA ?_ | refine xD ?_ | refine xO ?_ | refine xR ?_ | refine xG ?_ | refine xH ?_ | refine xM ?_) | ((with_reducible refine gA ?_); refine xA ?_) | ((with_reducible refine gD ?_); refine xD ?_) | ((with_reducible refine gG ?_); refine xG ?_)); simp only [go_sem]) | (with_reducible refine aGs (fun hg0 => ?_) (fun hg0 => ?_) <;> first | (with_reducible first | exact aF1 hg0 | exact aF2 hg0) | (simp only [hg0, go_sem])) | (with_reducible refine aNk ?_; intro bnil hnil; try simp only []) | exact aZ | fail))
  all_goals first | omega | skip
  (refine MCallAt_i [] [3, 4] (hI) ?_ ?_; (focus (simp only [mside, handOk, go_sem]; (first | done | exact (by decide) | exact ⟨by decide, fun t ht => ht.elim⟩ | (refine ⟨by decide, ?_⟩; simp; done)))); simp only [go_sem])
  (repeat' (first | (with_reducible first | exact True.intro | refine And.intro ?_ ?_ | refine aBl ?_ | (refine aS 12 [] ?_; intro K hK)) | ((with_reducible first | refine aGo ?_); simp only [go_sem]) | ((with_reducible refine aCd ?_ ?_ (fun hb => ?_) (fun hb => ?_)); (iterate 2 simp only [go_sem]); all_goals (simp only [go_sem] at hb; try simp only [bls] at hb)) | ((iterate 6 try ((fail_if_success with_reducible refine hK _ ?_ ?_ ?_); clear hK K)); with_reducible refine hK _ ?_ ?_ ?_; rotate_left; (focus (simp only [go_sem]; exact rfl)); clear hK K) | (with_reducible refine aGs (fun hg0 => ?_) (fun hg0 => ?_) <;> first | (with_reducible first | exact aF1 hg0 | exact aF2 hg0) | (simp only [hg0, go_sem])) | (with_reducible refine aNk ?_; intro bnil hnil; try simp only []) | exact aZ | fail))
  all_goals first | omega | rfl | skip
 ·rw [Nat.zero_add, if_neg (by omega), Int.toNat_natCast] at hat
  rw [Nat.zero_add] at hIx
  rw [hat] at hL
  subst hL
  have hI := hins j (by omega) hl
  (refine ACalls.of_body Ty_ok mixed Tryz.func19 rfl (by kernel_rfl) Tryz.ntmps19 (by simp) (congrArg Array.toList Tryz.results19) ?_)
  simp only [slotsOf, It.d]
  (repeat' (first | (with_reducible first | exact True.intro | refine And.intro ?_ ?_ | refine aBl ?_ | (refine aS 12 [] ?_; intro K hK)) | ((with_reducible first | refine aGo ?_); simp only [go_sem]) | ((with_reducible refine aCd ?_ ?_ (fun hb => ?_) (fun hb => ?_)); (iterate 2 simp only [go_sem]); all_goals (simp only [go_sem] at hb; try simp only [bls] at hb)) | ((iterate 6 try ((fail_if_success with_reducible refine hK _ ?_ ?_ ?_); clear hK K)); with_reducible refine hK _ ?_ ?_ ?_; rotate_left; (focus (simp only [go_sem]; exact rfl)); clear hK K) | ((first | (with_reducible first | refine xA ?_ | refine xD ?_ | refine xO ?_ | refine xR ?_ | refine xG ?_ | refine xH ?_ | refine xM ?_) | ((with_reducible refine gA ?_); refine xA ?_) | ((with_reducible refine gD ?_); refine xD ?_) | ((with_reducible refine gG ?_); refine xG ?_)); simp only [go_sem]) | (with_reducible refine aGs (fun hg0 => ?_) (fun hg0 => ?_) <;> first | (with_reducible first | exact aF1 hg0 | exact aF2 hg0) | (simp only [hg0, go_sem])) | (with_reducible refine aNk ?_; intro bnil hnil; try simp only []) | exact aZ | fail))
  all_goals first | omega | skip
  (refine MCallAt_i [] [3, 4] (hI) ?_ ?_; (focus (simp only [mside, handOk, go_sem]; (first | done | exact (by decide) | exact ⟨by decide, fun t ht => ht.elim⟩ | (refine ⟨by decide, ?_⟩; simp; done)))); simp only [go_sem])
  (repeat' (first | (with_reducible first | exact True.intro | refine And.intro ?_ ?_ | refine aBl ?_ | (refine aS 12 [] ?_; intro K hK)) | ((with_reducible first | refine aGo ?_); simp only [go_sem]) | ((with_reducible refine aCd ?_ ?_ (fun hb => ?_) (fun hb => ?_)); (iterate 2 simp only [go_sem]); all_goals (simp only [go_sem] at hb; try simp only [bls] at hb)) | ((iterate 6 try ((fail_if_success with_reducible refine hK _ ?_ ?_ ?_); clear hK K)); with_reducible refine hK _ ?_ ?_ ?_; rotate_left; (focus (simp only [go_sem]; exact rfl)); clear hK K) | (with_reducible refine aGs (fun hg0 => ?_) (fun hg0 => ?_) <;> first | (with_reducible first | exact aF1 hg0 | exact aF2 hg0) | (simp only [hg0, go_sem])) | (with_reducible refine aNk ?_; intro bnil hnil; try simp only []) | exact aZ | fail))
  all_goals first | omega | rfl | skip
end Go.Proofs.YtkjnjkdcpbgabaaGreatDoor
