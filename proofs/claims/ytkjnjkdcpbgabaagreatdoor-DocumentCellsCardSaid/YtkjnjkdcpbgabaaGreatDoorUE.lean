/-
 Chapter 23: Users, Alike, Difference, Apply.
-/
import Derived.Test.YtkjnjkdcpbgabaaGreatDoorU8
set_option linter.unusedSimpArgs false
set_option linter.unusedVariables false
namespace Go.Proofs.YtkjnjkdcpbgabaaGreatDoor
open Go.Eng Go.RowKit
/-! users of a name -/
def usesB (s : List UInt8) (x : It) : Bool := x.locs.any (fun y => y.name == s) || x.terms.any (fun y => y.name == s)
/-! alike -/
/-! edits -/
structure Edt where
 drop : Bool
 it : It
 deriving DecidableEq
def Edt.no : Edt := ⟨false, It.no⟩
def Edt.d (e : Edt) : List D := [.bool e.drop, .int .i64 e.it.kind, .str e.it.name, .list (ints e.it.aut.alpha), .int .i64 e.it.aut.states, .list (ints e.it.aut.marked), .list (edD e.it.aut.edges), .list (ltD e.it.locs), .list (ltD e.it.terms), .int .i64 e.it.bound]
def edtD (l : List Edt) : List (List D) := l.map Edt.d
theorem edtD_length (l : List Edt) : (edtD l).length = l.length := by simp [edtD]
theorem edtD_sz (l : List Edt) : (∀ r : List D, r ∈ edtD l → r.length = 10) ↔ True := ⟨fun _ => trivial, fun _ r hr => by obtain ⟨e, _, rfl⟩ := List.mem_map.1 hr; rfl⟩
attribute [go_sem] edtD_length edtD_sz
/-! difference -/
theorem leV_tup {us ts : List AV} (h : LeVs us ts) : LeV (.tup us) (.tup ts) := fun w M β v k => by
 obtain ⟨vs, e, k⟩ := k
 exact ⟨vs, e, LeVs.rep h k⟩
theorem ACalls.weak {P : Program} {f : FuncId} {args : List AV} {r r' : AV} {Hn : List AObj} (h : LeV r r') (hc : ACalls P f args r Hn) : ACalls P f args r' Hn := ⟨hc.ok, fun w M vs hM hv => (hc.run w M vs hM hv).mono fun e w' hh => by
 obtain ⟨v, β, h1, h2⟩ := hh
 exact ⟨v, β, h1, { h2 with val := h _ _ _ _ h2.val }⟩⟩
theorem leR_map {α : Type} {f g : α → List D} (h : ∀ x, LeL (f x) (g x)) : ∀ l : List α, LeR (l.map f) (l.map g)
 | [] => trivial
 | x :: l => ⟨h x, leR_map h l⟩
def Edt.dn (e : Edt) : List D := if e.drop = true ∧ e.it.aut = AU.no ∧ e.it.locs = [] ∧ e.it.terms = [] then [.bool e.drop, .int .i64 e.it.kind, .str e.it.name, .nil, .int .i64 0, .nil, .nil, .nil, .nil, .int .i64 e.it.bound] else e.d
theorem Edt.dn_drop (k : Int) (s : List UInt8) : Edt.dn ⟨true, ⟨k, s, AU.no, [], [], 0⟩⟩ = [.bool true, .int .i64 k, .str s, .nil, .int .i64 0, .nil, .nil, .nil, .nil, .int .i64 0] := by
 rw [Edt.dn, if_pos ⟨rfl, rfl, rfl, rfl⟩]
theorem Edt.dn_put (x : It) : Edt.dn ⟨false, x⟩ = [.bool false, .int .i64 x.kind, .str x.name, .list (ints x.aut.alpha), .int .i64 x.aut.states, .list (ints x.aut.marked), .list (edD x.aut.edges), .list (ltD x.locs), .list (ltD x.terms), .int .i64 x.bound] := by
 rw [Edt.dn, if_neg (fun h => by cases h.1)]; rfl
theorem Edt.dn_le (e : Edt) : LeL e.dn e.d := by
 rw [Edt.dn]
 by_cases h : e.drop = true ∧ e.it.aut = AU.no ∧ e.it.locs = [] ∧ e.it.terms = []
 ·rw [if_pos h]
  obtain ⟨h1, h2, h3, h4⟩ := h
  rw [Edt.d, h2, h3, h4]
  exact LeL.cons (LeD.refl _) (LeL.cons (LeD.refl _) (LeL.cons (LeD.refl _) (LeL.cons leD_nil (LeL.cons (LeD.refl _) (LeL.cons leD_nil (LeL.cons leD_nil (LeL.cons leD_nil (LeL.cons leD_nil (LeL.refl _)))))))))
 ·rw [if_neg h]; exact LeL.refl _
def edtN (l : List Edt) : List (List D) := l.map Edt.dn
theorem edtN_length (l : List Edt) : (edtN l).length = l.length := by simp [edtN]
theorem edt_dn_length (e : Edt) : e.dn.length = 10 := by
 rw [Edt.dn]
 by_cases h : e.drop = true ∧ e.it.aut = AU.no ∧ e.it.locs = [] ∧ e.it.terms = []
 ·rw [if_pos h]; rfl
 ·rw [if_neg h]; rfl
theorem edtN_sz (l : List Edt) : (∀ r : List D, r ∈ edtN l → r.length = 10) ↔ True := ⟨fun _ => trivial, fun _ r hr => by obtain ⟨e, _, rfl⟩ := List.mem_map.1 hr; exact edt_dn_length e⟩
theorem edtN_append (xs ys : List Edt) : edtN xs ++ edtN ys = edtN (xs ++ ys) := by simp [edtN]
theorem edtN_drop (k : Int) (s : List UInt8) : edtN [⟨true, ⟨k, s, AU.no, [], [], 0⟩⟩] = [[.bool true, .int .i64 k, .str s, .nil, .int .i64 0, .nil, .nil, .nil, .nil, .int .i64 0]] := by
 rw [edtN, List.map_cons, List.map_nil, Edt.dn_drop]
theorem edtN_put (x : It) : edtN [⟨false, x⟩] = [[.bool false, .int .i64 x.kind, .str x.name, .list (ints x.aut.alpha), .int .i64 x.aut.states, .list (ints x.aut.marked), .list (edD x.aut.edges), .list (ltD x.locs), .list (ltD x.terms), .int .i64 x.bound]] := by
 rw [edtN, List.map_cons, List.map_nil, Edt.dn_put]
attribute [go_sem] edtN_length edtN_sz
def diffA (b a : List It) : List Edt := (a.filter (fun x => decide (findI b x.kind x.name < 0))).map (fun x => ⟨true, ⟨x.kind, x.name, AU.no, [], [], 0⟩⟩)
def newB (a : List It) (x : It) : Bool := !(decide (0 ≤ findI a x.kind x.name) && decide (a.getD (findI a x.kind x.name).toNat It.no = x))
def diffB (a b : List It) : List Edt := (b.filter (newB a)).map (fun x => ⟨false, x⟩)
def diffR (a b : List It) : List Edt × Int := if chkL a ≠ 0 then ([], chkL a) else if chkL b ≠ 0 then ([], chkL b) else (diffA b a ++ diffB a b, 0)
set_option maxHeartbeats 16000000 in
theorem DifferenceN_c (a b : List It) (ha : LFits a) (hb' : LFits b) : ACalls Tryz.prog 38 [.one (.list (itD a)), .one (.list (itD b))] (.tup [.one (.list (edtN (diffR a b).1)), .one (.int .i64 (diffR a b).2)]) [] := by
 have hal := ha.len
 have hbl := hb'.len
 have hbi := hb'.it
 have hca := Check_c a ha
 have hcb := Check_c b hb'
 have hR : diffR a b = if chkL a ≠ 0 then ([], chkL a) else if chkL b ≠ 0 then ([], chkL b) else (diffA b a ++ diffB a b, 0) := rfl
 generalize diffR a b = R at *
 have e0 : edtN [] = [] := rfl
 (refine ACalls.of_body Ty_ok mixed Tryz.func38 rfl (by kernel_rfl) Tryz.ntmps38 (by simp) (congrArg Array.toList Tryz.results38) ?_)
 simp only [slotsOf]
 (repeat' (first | (with_reducible first | exact True.intro | refine And.intro ?_ ?_ | refine aBl ?_ | (refine aS 12 [21, 20, 22, 33, 32, 13, 34, 60, 59, 17, 16, 15, 61] ?_; intro K hK)) | ((with_reducible first | refine aGo ?_ | refine rP Ty_ok mixed 20 [0] [.mid [pe 1, pe 2, pe 3, pe 4, pe 5, pe 6, pe 7] 0, .one 8, .mid [pe 9, pe 10] 0] ?_); simp only [go_sem]) | ((with_reducible refine aCd ?_ ?_ (fun hb => ?_) (fun hb => ?_)); (iterate 2 simp only [go_sem]); all_goals (simp only [go_sem] at hb; try simp only [bls] at hb)) | ((iterate 6 try ((fail_if_success with_reducible refine hK _ ?_ ?_ ?_); clear hK K)); with_reducible refine hK _ ?_ ?_ ?_; rotate_left; (focus (simp only [go_sem]; exact rfl)); clear hK K) | (with_reducible refine aGs (fun hg0 => ?_) (fun hg0 => ?_) <;> first | (with_reducible first | exact aF1 hg0 | exact aF2 hg0) | (simp only [hg0, go_sem])) | (with_reducible refine aNk ?_; intro bnil hnil; try simp only []) | exact aZ | fail))
 all_goals first | omega | skip
 refine awp_loop _ (by simp only [go_sem]; rfl) Nat (fun k => k ≤ 2 ∧ (1 ≤ k → chkL a = 0) ∧ (2 ≤ k → chkL b = 0)) (fun k => [(22, .one (.int .i64 k))]) (fun _ H => H) (fun k => 2 - k) 0 ⟨by omega, by omega, by omega⟩ ?_ ?_
 ·(simp only [SubF, go_sem]; (try simp only [go_sem]); repeat' (first | exact True.intro | with_reducible refine And.intro ?_ ?_ | rfl | omega))
 rintro k ⟨hk, hk1, hk2⟩ L hL
 have hq : ((k : Nat) : Int).toNat = k := by omega
 rcases (show k = 0 ∨ k = 1 ∨ k = 2 by omega) with rfl | rfl | rfl
 ·(simp only [go_sem] at hL ⊢)
  (repeat' (first | (with_reducible first | exact True.intro | refine And.intro ?_ ?_ | refine aBl ?_ | (refine aS 12 [21, 20, 22, 33, 32, 13, 34, 60, 59, 17, 16, 15, 61] ?_; intro K hK)) | ((with_reducible first | refine aGo ?_ | refine rP Ty_ok mixed 20 [0] [.mid [pe 1, pe 2, pe 3, pe 4, pe 5, pe 6, pe 7] 0, .one 8, .mid [pe 9, pe 10] 0] ?_); simp only [go_sem]) | ((with_reducible refine aCd ?_ ?_ (fun hb => ?_) (fun hb => ?_)); (iterate 2 simp only [go_sem]); all_goals (simp only [go_sem] at hb; try simp only [bls] at hb)) | ((iterate 6 try ((fail_if_success with_reducible refine hK _ ?_ ?_ ?_); clear hK K)); with_reducible refine hK _ ?_ ?_ ?_; rotate_left; (focus (simp only [go_sem]; exact rfl)); clear hK K) | ((first | (with_reducible first | refine xA ?_ | refine xD ?_ | refine xO ?_ | refine xR ?_ | refine xG ?_ | refine xH ?_ | refine xM ?_) | ((with_reducible refine gA ?_); refine xA ?_) | ((with_reducible refine gD ?_); refine xD ?_) | ((with_reducible refine gG ?_); refine xG ?_)); simp only [go_sem]) | (with_reducible refine aGs (fun hg0 => ?_) (fun hg0 => ?_) <;> first | (with_reducible first | exact aF1 hg0 | exact aF2 hg0) | (simp only [hg0, go_sem])) | (with_reducible refine aNk ?_; intro bnil hnil; try simp only []) | exact aZ | fail))
  all_goals first | omega | skip
  ·rw [if_pos (by assumption)] at hR; subst hR; rfl
  ·rw [if_pos (by assumption)] at hR; subst hR; rfl
  ·exact hL _ 1 ⟨by omega, fun _ => by assumption, by omega⟩ (by (simp only [SubF, go_sem]; (try simp only [go_sem]); repeat' (first | exact True.intro | with_reducible refine And.intro ?_ ?_ | rfl | omega))) (by omega)
 ·have h1 := hk1 (by omega)
  rw [if_neg (by omega)] at hR
  (simp only [go_sem] at hL ⊢)
  (repeat' (first | (with_reducible first | exact True.intro | refine And.intro ?_ ?_ | refine aBl ?_ | (refine aS 12 [21, 20, 22, 33, 32, 13, 34, 60, 59, 17, 16, 15, 61] ?_; intro K hK)) | ((with_reducible first | refine aGo ?_ | refine rP Ty_ok mixed 20 [0] [.mid [pe 1, pe 2, pe 3, pe 4, pe 5, pe 6, pe 7] 0, .one 8, .mid [pe 9, pe 10] 0] ?_); simp only [go_sem]) | ((with_reducible refine aCd ?_ ?_ (fun hb => ?_) (fun hb => ?_)); (iterate 2 simp only [go_sem]); all_goals (simp only [go_sem] at hb; try simp only [bls] at hb)) | ((iterate 6 try ((fail_if_success with_reducible refine hK _ ?_ ?_ ?_); clear hK K)); with_reducible refine hK _ ?_ ?_ ?_; rotate_left; (focus (simp only [go_sem]; exact rfl)); clear hK K) | ((first | (with_reducible first | refine xA ?_ | refine xD ?_ | refine xO ?_ | refine xR ?_ | refine xG ?_ | refine xH ?_ | refine xM ?_) | ((with_reducible refine gA ?_); refine xA ?_) | ((with_reducible refine gD ?_); refine xD ?_) | ((with_reducible refine gG ?_); refine xG ?_)); simp only [go_sem]) | (with_reducible refine aGs (fun hg0 => ?_) (fun hg0 => ?_) <;> first | (with_reducible first | exact aF1 hg0 | exact aF2 hg0) | (simp only [hg0, go_sem])) | (with_reducible refine aNk ?_; intro bnil hnil; try simp only []) | exact aZ | fail))
  all_goals first | omega | skip
  ·rw [if_pos (by assumption)] at hR; subst hR; rfl
  ·rw [if_pos (by assumption)] at hR; subst hR; rfl
  ·exact hL _ 2 ⟨by omega, fun _ => h1, fun _ => by assumption⟩ (by (simp only [SubF, go_sem]; (try simp only [go_sem]); repeat' (first | exact True.intro | with_reducible refine And.intro ?_ ?_ | rfl | omega))) (by omega)
 rw [if_neg (by have := hk1 (by omega); omega), if_neg (by have := hk2 (by omega); omega)] at hR
 generalize hX : diffA b a ++ diffB a b = X at *
 subst hR
 clear hca hcb hk1 hk2
 (simp only [go_sem] at hL ⊢)
 (repeat' (first | (with_reducible first | exact True.intro | refine And.intro ?_ ?_ | refine aBl ?_ | (refine aS 12 [21, 20, 22, 33, 32, 13, 34, 60, 59, 17, 16, 15, 61] ?_; intro K hK)) | ((with_reducible first | refine aGo ?_ | refine rP Ty_ok mixed 20 [0] [.mid [pe 1, pe 2, pe 3, pe 4, pe 5, pe 6, pe 7] 0, .one 8, .mid [pe 9, pe 10] 0] ?_); simp only [go_sem]) | ((with_reducible refine aCd ?_ ?_ (fun hb => ?_) (fun hb => ?_)); (iterate 2 simp only [go_sem]); all_goals (simp only [go_sem] at hb; try simp only [bls] at hb)) | ((iterate 6 try ((fail_if_success with_reducible refine hK _ ?_ ?_ ?_); clear hK K)); with_reducible refine hK _ ?_ ?_ ?_; rotate_left; (focus (simp only [go_sem]; exact rfl)); clear hK K) | (with_reducible refine aGs (fun hg0 => ?_) (fun hg0 => ?_) <;> first | (with_reducible first | exact aF1 hg0 | exact aF2 hg0) | (simp only [hg0, go_sem])) | (with_reducible refine aNk ?_; intro bnil hnil; try simp only []) | exact aZ | fail))
 all_goals first | omega | skip
 refine awp_loop _ (by simp only [go_sem]; rfl) (Nat × List Edt) (fun z => z.1 ≤ a.length ∧ X = (z.2 ++ diffA b (a.drop z.1)) ++ diffB a b ∧ z.2.length ≤ z.1) (fun z => [(9, .one (.own 2)), (34, .one (.int .i64 z.1))]) (fun z H => H.set 2 (.row 42 10 (edtN z.2))) (fun z => a.length - z.1) (0, []) ⟨by omega, by simpa using hX.symm, by decide⟩ ?_ ?_
 ·(simp only [SubF, go_sem]; (try simp only [go_sem]); repeat' (first | exact True.intro | with_reducible refine And.intro ?_ ?_ | rfl | omega))
 rintro ⟨k, o⟩ ⟨hk, hres, hol⟩ L hL
 dsimp only at hk hres hol
 have hq : ((k : Nat) : Int).toNat = k := by omega
 by_cases hlt : k < a.length
 ·have hg := itD_get hlt [.int .i64 0, .str [], .nil, .int .i64 0, .nil, .nil, .nil, .nil, .int .i64 0]
  rw [drop_getD a k It.no hlt, diffA, List.filter_cons] at hres
  generalize a.getD k It.no = y at *
  have hF := Find_c b y.kind y.name (by omega)
  generalize findI b y.kind y.name = f at *
  simp only [It.d] at hg
  (simp only [go_sem] at hL ⊢)
  (repeat' (first | (with_reducible first | exact True.intro | refine And.intro ?_ ?_ | refine aBl ?_ | (refine aS 12 [21, 20, 22, 33, 32, 13, 34, 60, 59, 17, 16, 15, 61] ?_; intro K hK)) | ((with_reducible first | refine aGo ?_ | refine rP Ty_ok mixed 20 [0] [.mid [pe 1, pe 2, pe 3, pe 4, pe 5, pe 6, pe 7] 0, .one 8, .mid [pe 9, pe 10] 0] ?_); simp only [hg, hq, go_sem]) | ((with_reducible refine aCd ?_ ?_ (fun hb => ?_) (fun hb => ?_)); (iterate 2 simp only [hg, hq, go_sem]); all_goals (simp only [hg, hq, go_sem] at hb; try simp only [bls] at hb)) | ((iterate 6 try ((fail_if_success with_reducible refine hK _ ?_ ?_ ?_); clear hK K)); with_reducible refine hK _ ?_ ?_ ?_; rotate_left; (focus (simp only [hg, hq, go_sem]; exact rfl)); clear hK K) | ((first | (with_reducible first | refine xA ?_ | refine xD ?_ | refine xO ?_ | refine xR ?_ | refine xG ?_ | refine xH ?_ | refine xM ?_) | ((with_reducible refine gA ?_); refine xA ?_) | ((with_reducible refine gD ?_); refine xD ?_) | ((with_reducible refine gG ?_); refine xG ?_)); simp only [hg, hq, go_sem]) | (with_reducible refine aGs (fun hg0 => ?_) (fun hg0 => ?_) <;> first | (with_reducible first | exact aF1 hg0 | exact aF2 hg0) | (simp only [hg0, hg, hq, go_sem])) | (with_reducible refine aNk ?_; intro bnil hnil; try simp only []) | exact aZ | fail))
  all_goals first | omega | skip
  ·rw [if_pos (by simpa using by assumption), List.map_cons] at hres
   refine hL _ (k + 1, o ++ [⟨true, ⟨y.kind, y.name, AU.no, [], [], 0⟩⟩]) ⟨by omega, by rw [hres, diffA]; simp, by simp only [List.length_append, List.length_cons, List.length_nil]; omega⟩ ?_ (by dsimp only; omega)
   dsimp only
   rw [← edtN_append, edtN_drop]
   (simp only [SubF, go_sem]; (try simp only [go_sem]); repeat' (first | exact True.intro | with_reducible refine And.intro ?_ ?_ | rfl | omega))
  ·rw [if_neg (by simpa using by assumption)] at hres
   refine hL _ (k + 1, o) ⟨by omega, by rw [hres, diffA], by dsimp only; omega⟩ ?_ (by dsimp only; omega)
   (simp only [SubF, go_sem]; (try simp only [go_sem]); repeat' (first | exact True.intro | with_reducible refine And.intro ?_ ?_ | rfl | omega))
 have hkl : k = a.length := by omega
 subst hkl
 rw [List.drop_length, diffA, List.filter_nil, List.map_nil, List.append_nil] at hres
 clear hL
 (simp only [go_sem] at hL ⊢)
 (repeat' (first | (with_reducible first | exact True.intro | refine And.intro ?_ ?_ | refine aBl ?_ | (refine aS 12 [21, 20, 22, 33, 32, 13, 34, 60, 59, 17, 16, 15, 61] ?_; intro K hK)) | ((with_reducible first | refine aGo ?_ | refine rP Ty_ok mixed 20 [0] [.mid [pe 1, pe 2, pe 3, pe 4, pe 5, pe 6, pe 7] 0, .one 8, .mid [pe 9, pe 10] 0] ?_); simp only [go_sem]) | ((with_reducible refine aCd ?_ ?_ (fun hb => ?_) (fun hb => ?_)); (iterate 2 simp only [go_sem]); all_goals (simp only [go_sem] at hb; try simp only [bls] at hb)) | ((iterate 6 try ((fail_if_success with_reducible refine hK _ ?_ ?_ ?_); clear hK K)); with_reducible refine hK _ ?_ ?_ ?_; rotate_left; (focus (simp only [go_sem]; exact rfl)); clear hK K) | (with_reducible refine aGs (fun hg0 => ?_) (fun hg0 => ?_) <;> first | (with_reducible first | exact aF1 hg0 | exact aF2 hg0) | (simp only [hg0, go_sem])) | (with_reducible refine aNk ?_; intro bnil hnil; try simp only []) | exact aZ | fail))
 all_goals first | omega | rfl | skip
 refine awp_loop _ (by simp only [go_sem]; rfl) (Nat × List Edt) (fun z => z.1 ≤ b.length ∧ X = z.2 ++ diffB a (b.drop z.1) ∧ z.2.length ≤ 2000 + z.1) (fun z => [(9, .one (.own 2)), (61, .one (.int .i64 z.1))]) (fun z H => H.set 2 (.row 42 10 (edtN z.2))) (fun z => b.length - z.1) (0, o) ⟨by omega, by simpa using hres, by dsimp only; omega⟩ ?_ ?_
 ·(simp only [SubF, go_sem]; (try simp only [go_sem]); repeat' (first | exact True.intro | with_reducible refine And.intro ?_ ?_ | rfl | omega))
 rintro ⟨k, p⟩ ⟨hk, hres, hpl⟩ L hL
 dsimp only at hk hres hpl
 have hq : ((k : Nat) : Int).toNat = k := by omega
 by_cases hlt : k < b.length
 ·have hg := itD_get hlt [.int .i64 0, .str [], .nil, .int .i64 0, .nil, .nil, .nil, .nil, .int .i64 0]
  have hye := hbi _ (getD_mem b k It.no hlt)
  rw [drop_getD b k It.no hlt, diffB, List.filter_cons] at hres
  generalize b.getD k It.no = y at *
  have hF := Find_c a y.kind y.name (by omega)
  have hN : newB a y = !(decide (0 ≤ findI a y.kind y.name) && decide (a.getD (findI a y.kind y.name).toNat It.no = y)) := rfl
  obtain ⟨hr1, hr2⟩ := findI_range a y.kind y.name
  have hcl := clone_c y hye
  generalize newB a y = nb at *
  generalize findI a y.kind y.name = f at *
  simp only [It.d] at hg hcl
  by_cases hf0 : 0 ≤ f
  ·have hlf : f.toNat < a.length := by omega
   have hgf := itD_get hlf [.int .i64 0, .str [], .nil, .int .i64 0, .nil, .nil, .nil, .nil, .int .i64 0]
   have hEq := itEqual_c (a.getD f.toNat It.no) y (ha.it _ (getD_mem a _ It.no hlf))
   have hmx : max f 0 = f := by omega
   generalize a.getD f.toNat It.no = z at *
   generalize hzy : decide (z = y) = ze at *
   simp only [It.d] at hgf hEq
   (simp only [go_sem] at hL ⊢)
   (repeat' (first | (with_reducible first | exact True.intro | refine And.intro ?_ ?_ | refine aBl ?_ | (refine aS 12 [21, 20, 22, 33, 32, 13, 34, 60, 59, 17, 16, 15, 61] ?_; intro K hK)) | ((with_reducible first | refine aGo ?_ | refine rP Ty_ok mixed 20 [0] [.mid [pe 1, pe 2, pe 3, pe 4, pe 5, pe 6, pe 7] 0, .one 8, .mid [pe 9, pe 10] 0] ?_); simp only [hg, hq, hgf, hmx, go_sem]) | ((with_reducible refine aCd ?_ ?_ (fun hb => ?_) (fun hb => ?_)); (iterate 2 simp only [hg, hq, hgf, hmx, go_sem]); all_goals (simp only [hg, hq, hgf, hmx, go_sem] at hb; try simp only [bls] at hb)) | ((iterate 6 try ((fail_if_success with_reducible refine hK _ ?_ ?_ ?_); clear hK K)); with_reducible refine hK _ ?_ ?_ ?_; rotate_left; (focus (simp only [hg, hq, hgf, hmx, go_sem]; exact rfl)); clear hK K) | ((first | (with_reducible first | refine xA ?_ | refine xD ?_ | refine xO ?_ | refine xR ?_ | refine xG ?_ | refine xH ?_ | refine xM ?_) | ((with_reducible refine gA ?_); refine xA ?_) | ((with_reducible refine gD ?_); refine xD ?_) | ((with_reducible refine gG ?_); refine xG ?_)); simp only [hg, hq, hgf, hmx, go_sem]) | (with_reducible refine aGs (fun hg0 => ?_) (fun hg0 => ?_) <;> first | (with_reducible first | exact aF1 hg0 | exact aF2 hg0) | (simp only [hg0, hg, hq, hgf, hmx, go_sem])) | (with_reducible refine aNk ?_; intro bnil hnil; try simp only []) | exact aZ | fail))
   all_goals first | omega | skip
   ·have hn : nb = true := by
     rw [hN]
     rcases ‹f < 0 ∨ ze = false› with h | h
     ·omega
     ·rw [h, Bool.and_false]; rfl
    rw [if_pos hn, List.map_cons] at hres
    refine hL _ (k + 1, p ++ [⟨false, y⟩]) ⟨by omega, by rw [hres, diffB]; simp, by simp only [List.length_append, List.length_cons, List.length_nil]; omega⟩ ?_ (by dsimp only; omega)
    dsimp only
    rw [← edtN_append, edtN_put]
    (simp only [SubF, go_sem]; (try simp only [go_sem]); repeat' (first | exact True.intro | with_reducible refine And.intro ?_ ?_ | rfl | omega))
   ·rw [if_neg (by rw [hN, (‹0 ≤ f ∧ ze = true›).2, decide_eq_true hf0]; decide)] at hres
    refine hL _ (k + 1, p) ⟨by omega, by rw [hres, diffB], by dsimp only; omega⟩ ?_ (by dsimp only; omega)
    (simp only [SubF, go_sem]; (try simp only [go_sem]); repeat' (first | exact True.intro | with_reducible refine And.intro ?_ ?_ | rfl | omega))
  ·have hE0 : False → ∀ args, ACalls Tryz.prog 42 args (.one (.bool false)) [] := fun h => h.elim
   have hfd : decide (0 ≤ f) = false := decide_eq_false hf0
   (simp only [go_sem] at hL ⊢)
   (repeat' (first | (with_reducible first | exact True.intro | refine And.intro ?_ ?_ | refine aBl ?_ | (refine aS 12 [21, 20, 22, 33, 32, 13, 34, 60, 59, 17, 16, 15, 61] ?_; intro K hK)) | ((with_reducible first | refine aGo ?_ | refine rP Ty_ok mixed 20 [0] [.mid [pe 1, pe 2, pe 3, pe 4, pe 5, pe 6, pe 7] 0, .one 8, .mid [pe 9, pe 10] 0] ?_); simp only [hg, hq, hfd, go_sem]) | ((with_reducible refine aCd ?_ ?_ (fun hb => ?_) (fun hb => ?_)); (iterate 2 simp only [hg, hq, hfd, go_sem]); all_goals (simp only [hg, hq, hfd, go_sem] at hb; try simp only [bls] at hb)) | ((iterate 6 try ((fail_if_success with_reducible refine hK _ ?_ ?_ ?_); clear hK K)); with_reducible refine hK _ ?_ ?_ ?_; rotate_left; (focus (simp only [hg, hq, hfd, go_sem]; exact rfl)); clear hK K) | ((first | (with_reducible first | refine xA ?_ | refine xD ?_ | refine xO ?_ | refine xR ?_ | refine xG ?_ | refine xH ?_ | refine xM ?_ | refine cA (hE0 (by simp at hg) _) ?_ | refine cD (hE0 (by simp at hg) _) ?_ | refine cO (hE0 (by simp at hg) _) ?_ | refine cR (hE0 (by simp at hg) _) ?_ | refine cG (fun hg => (hE0 (by simp at hg) _)) ?_ | refine cH (fun hg => (hE0 (by simp at hg) _)) ?_ | refine cM (fun hg => (hE0 (by simp at hg) _)) ?_) | ((with_reducible refine gA ?_); refine xA ?_) | ((with_reducible refine gD ?_); refine xD ?_) | ((with_reducible refine gG ?_); refine xG ?_) | ((with_reducible refine gA ?_); refine cA (hE0 (by simp at hg) _) ?_) | ((with_reducible refine gD ?_); refine cD (hE0 (by simp at hg) _) ?_) | ((with_reducible refine gG ?_); refine cG (fun hg => (hE0 (by simp at hg) _)) ?_)); simp only [hg, hq, hfd, go_sem]) | (with_reducible refine aGs (fun hg0 => ?_) (fun hg0 => ?_) <;> first | (with_reducible first | exact aF1 hg0 | exact aF2 hg0) | (simp only [hg0, hg, hq, hfd, go_sem])) | (with_reducible refine aNk ?_; intro bnil hnil; try simp only []) | exact aZ | fail))
   all_goals first | omega | skip
   ·have hn : nb = true := by rw [hN, hfd]; rfl
    rw [if_pos hn, List.map_cons] at hres
    refine hL _ (k + 1, p ++ [⟨false, y⟩]) ⟨by omega, by rw [hres, diffB]; simp, by simp only [List.length_append, List.length_cons, List.length_nil]; omega⟩ ?_ (by dsimp only; omega)
    dsimp only
    rw [← edtN_append, edtN_put]
    (simp only [SubF, go_sem]; (try simp only [go_sem]); repeat' (first | exact True.intro | with_reducible refine And.intro ?_ ?_ | rfl | omega))
 have hkl : k = b.length := by omega
 subst hkl
 rw [List.drop_length, diffB, List.filter_nil, List.map_nil, List.append_nil] at hres
 subst hres
 (simp only [go_sem] at hL ⊢)
 (repeat' (first | (with_reducible first | exact True.intro | refine And.intro ?_ ?_ | refine aBl ?_ | (refine aS 12 [21, 20, 22, 33, 32, 13, 34, 60, 59, 17, 16, 15, 61] ?_; intro K hK)) | ((with_reducible first | refine aGo ?_ | refine rP Ty_ok mixed 20 [0] [.mid [pe 1, pe 2, pe 3, pe 4, pe 5, pe 6, pe 7] 0, .one 8, .mid [pe 9, pe 10] 0] ?_); simp only [go_sem]) | ((with_reducible refine aCd ?_ ?_ (fun hb => ?_) (fun hb => ?_)); (iterate 2 simp only [go_sem]); all_goals (simp only [go_sem] at hb; try simp only [bls] at hb)) | ((iterate 6 try ((fail_if_success with_reducible refine hK _ ?_ ?_ ?_); clear hK K)); with_reducible refine hK _ ?_ ?_ ?_; rotate_left; (focus (simp only [go_sem]; exact rfl)); clear hK K) | (with_reducible refine aGs (fun hg0 => ?_) (fun hg0 => ?_) <;> first | (with_reducible first | exact aF1 hg0 | exact aF2 hg0) | (simp only [hg0, go_sem])) | (with_reducible refine aNk ?_; intro bnil hnil; try simp only []) | exact aZ | fail))
 all_goals first | omega | rfl | skip
theorem edtN_le (l : List Edt) : LeR (edtN l) (edtD l) := leR_map Edt.dn_le l
theorem Difference_c (a b : List It) (ha : LFits a) (hb : LFits b) : ACalls Tryz.prog 38 [.one (.list (itD a)), .one (.list (itD b))] (.tup [.one (.list (edtD (diffR a b).1)), .one (.int .i64 (diffR a b).2)]) [] :=
 ACalls.weak (leV_tup (us := [.one (.list (edtN (diffR a b).1)), .one (.int .i64 (diffR a b).2)]) ⟨leV_one rfl rfl (leD_list (edtN_le _)), LeV.refl _, trivial⟩) (DifferenceN_c a b ha hb)
end Go.Proofs.YtkjnjkdcpbgabaaGreatDoor
