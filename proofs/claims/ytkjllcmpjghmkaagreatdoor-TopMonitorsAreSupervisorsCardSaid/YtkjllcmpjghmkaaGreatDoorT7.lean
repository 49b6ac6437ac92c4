/-
 Contracts: synthesis.Check, Closed; automaton.Enabled; L50.Known; overseertop.numbered.
-/
import Derived.Test.YtkjllcmpjghmkaaGreatDoorN9
import Derived.Test.YtkjllcmpjghmkaaGreatDoorSG
import Derived.Test.YtkjllcmpjghmkaaGreatDoorT6
import Derived.Test.YtkjllcmpjghmkaaGreatDoorSV
set_option linter.unusedSimpArgs false
set_option linter.unusedVariables false
namespace Go.Proofs.YtkjllcmpjghmkaaGreatDoor
open Go.Eng Go.RowKit
def z3F (f : Nat → Int) (k : Nat) : List Int := (List.range k).map fun i => (f (i % 5)).tmod 4
theorem zb1 (f : Nat → Int) (k : Nat) : z3F f (k + 1) = z3F f k ++ [(f (k % 5)).tmod 4] := by simp [z3F, List.range_succ]
theorem z4g (f : Nat → Int) (k : Nat) : (z3F f k).length = k := by simp [z3F]
def Small (n : Net) (f : Nat → Int) (b : Int) : Con := ⟨z3F f n.init.length, b.tmod 8⟩
theorem z1U (x m : Int) (hm : 0 < m) : -m < x.tmod m ∧ x.tmod m < m := by
 have h1 := Int.tmod_lt_of_pos x hm
 have h2 := Int.lt_tmod_of_pos x hm
 exact ⟨h2, h1⟩
theorem z5d (x : Int) (h : -1000000 < x ∧ x < 1000000) : IntKind.i64.wrap x = x := z12 ((z3r _).2 ⟨by omega, by omega⟩)
theorem tab5 (f : Nat → Int) (i : Nat) (h : i < 5) : (([D.int .i8 (f 0), D.int .i8 (f 1), D.int .i8 (f 2), D.int .i8 (f 3), D.int .i8 (f 4)]).drop i).headD (.int .i8 0) = D.int .i8 (f i) := by
 match i, h with
 | 0, _ => rfl
 | 1, _ => rfl
 | 2, _ => rfl
 | 3, _ => rfl
 | 4, _ => rfl
 | n + 5, h => exact absurd h (by omega)
set_option maxHeartbeats 8000000 in
theorem zjf (n : Net) (f : Nat → Int) (b : Int) (hn : n.Fits) : ACalls Tryz.prog 8 [.agg n.d, .agg [.int .i8 (f 0), .int .i8 (f 1), .int .i8 (f 2), .int .i8 (f 3), .int .i8 (f 4)], .one (.int .i8 b)] (.agg (Small n f b).d) [] := by
 have wb2 := z5d (b.tmod 8) (by have := z1U b 8 (by omega); omega)
 have hni := hn.init
 (refine ACalls.of_body Ty_ok mixed Tryz.func8 rfl (by kernel_rfl) Tryz.ntmps8 (by simp) (congrArg Array.toList Tryz.results8) ?_)
 simp only [z00, Net.d]
 (repeat' (first | (with_reducible first | refine aBl ?_ | (refine aS 9 [] ?_; intro K hK)) | ((with_reducible refine aGo ?_); simp only [wb2, go_sem]) | ((iterate 6 try ((fail_if_success with_reducible refine hK _ ?_ ?_ ?_); clear hK K)); with_reducible refine hK _ ?_ ?_ ?_; rotate_left; (focus (simp only [wb2, go_sem]; exact rfl)); clear hK K) | fail))
 all_goals first | omega | skip
 refine z14 [.cell 3 0 3 1] _ (by simp only [go_sem]; rfl) Nat (fun k => k ≤ n.init.length) (fun k => [(8, .one (.int .i64 k))]) (fun k => [.var 32 [.list (ints n.init), .list (trsD n.trs)], .var 38 [.int .i8 (f 0), .int .i8 (f 1), .int .i8 (f 2), .int .i8 (f 3), .int .i8 (f 4)], .var 36 [.nil, .int .i64 0], .var 36 [.own 4, .int .i64 (b.tmod 8)], .row 3 1 (ints (z3F f k))]) (fun k => n.init.length - k) 0 (by omega) ?_ ?_
 ·(simp only [SubF, go_sem]; (try simp only [go_sem]); repeat' (first | exact True.intro | with_reducible refine And.intro ?_ ?_ | rfl | omega))
 ·rintro k hk L hL
  have hl := z4g f k
  by_cases hlt : k < n.init.length
  ·have e5 : (k : Int).tmod 5 = ((k % 5 : Nat) : Int) := by
    rw [Int.tmod_eq_emod_of_nonneg (by omega)]; omega
   have h5 : k % 5 < 5 := Nat.mod_lt _ (by omega)
   have t5 := tab5 f (k % 5) h5
   have wf2 := z5d ((f (k % 5)).tmod 4) (by have := z1U (f (k % 5)) 4 (by omega); omega)
   have hs := zb1 f k
   (simp only [go_sem] at hL ⊢)
   (repeat' (first | (with_reducible first | refine And.intro ?_ ?_ | refine aBl ?_ | (refine aS 9 [] ?_; intro K hK)) | ((with_reducible first | refine aGo ?_ | refine rP Ty_ok mixed 5 [0, 2] [.mid [pe 1, pe 3, pe 4, pe 5, pe 6, pe 7, pe 8] 0, .one 9, .one 10, .one 11] ?_); simp only [e5, t5, wf2, Nat.mul_one, Int.toNat_natCast, go_sem]) | ((with_reducible refine aCd ?_ ?_ (fun hb => ?_) (fun hb => ?_)); (iterate 2 simp only [e5, t5, wf2, Nat.mul_one, Int.toNat_natCast, go_sem]); all_goals (simp only [e5, t5, wf2, Nat.mul_one, Int.toNat_natCast, go_sem] at hb; try simp only [bls] at hb)) | ((iterate 6 try ((fail_if_success with_reducible refine hK _ ?_ ?_ ?_); clear hK K)); with_reducible refine hK _ ?_ ?_ ?_; rotate_left; (focus (simp only [e5, t5, wf2, Nat.mul_one, Int.toNat_natCast, go_sem]; exact rfl)); clear hK K) | exact aZ | fail))
   all_goals first | omega | skip
   simp only [z0e, z0f]
   rw [← hs]
   exact hL _ (k + 1) (by omega) (by (simp only [SubF, go_sem]; (try simp only [go_sem]); repeat' (first | exact True.intro | with_reducible refine And.intro ?_ ?_ | rfl | omega))) (by omega)
  ·have hk2 : k = n.init.length := by omega
   subst hk2
   (simp only [go_sem] at hL ⊢)
   (repeat' (first | (with_reducible first | refine And.intro ?_ ?_ | refine aBl ?_ | (refine aS 9 [] ?_; intro K hK)) | ((with_reducible first | refine aGo ?_ | refine rP Ty_ok mixed 5 [0, 2] [.mid [pe 1, pe 3, pe 4, pe 5, pe 6, pe 7, pe 8] 0, .one 9, .one 10, .one 11] ?_); simp only [go_sem]) | ((with_reducible refine aCd ?_ ?_ (fun hb => ?_) (fun hb => ?_)); (iterate 2 simp only [go_sem]); all_goals (simp only [go_sem] at hb; try simp only [bls] at hb)) | ((iterate 6 try ((fail_if_success with_reducible refine hK _ ?_ ?_ ?_); clear hK K)); with_reducible refine hK _ ?_ ?_ ?_; rotate_left; (focus (simp only [go_sem]; exact rfl)); clear hK K) | exact aZ | fail))
   all_goals first | omega | rfl | skip
def z3H (k : Nat) : List Tr := (List.range k).map fun (t : Nat) => (⟨(t : Int), [⟨(t : Int), 1⟩], [⟨(((t + 2) % 4 : Nat) : Int), 1⟩]⟩ : Tr)
theorem zbe (k : Nat) : z3H (k + 1) = z3H k ++ [⟨(k : Int), [⟨(k : Int), 1⟩], [⟨(((k + 2) % 4 : Nat) : Int), 1⟩]⟩] := by simp [z3H, List.range_succ]
theorem z8N (k : Nat) : (z3H k).length = k := by simp [z3H]
def mutN : Net := ⟨[1, 1, 0, 0], z3H 4⟩
def mutC : Con := ⟨[0, 0, 1, 1], 1⟩
theorem ziF : ACalls Tryz.prog 56 [] (.tup [.agg mutN.d, .agg mutC.d]) [] := by
 (refine ACalls.of_body Ty_ok mixed Tryz.func56 rfl (by kernel_rfl) Tryz.ntmps56 (by simp) (congrArg Array.toList Tryz.results56) ?_)
 simp only [z00]
 (repeat' (first | (with_reducible first | refine aBl ?_ | (refine aS 4 [] ?_; intro K hK)) | ((with_reducible refine aGo ?_); simp only [go_sem]) | ((iterate 6 try ((fail_if_success with_reducible refine hK _ ?_ ?_ ?_); clear hK K)); with_reducible refine hK _ ?_ ?_ ?_; rotate_left; (focus (simp only [go_sem]; exact rfl)); clear hK K) | fail))
 refine z14 [.cell 3 1 66 3] _ (by simp only [go_sem]; rfl) Nat (fun k => k ≤ 4) (fun k => [(3, .one (.int .i64 k))]) (fun k => [.var 32 [.nil, .nil], .var 36 [.nil, .int .i64 0], .row 3 1 (ints [1, 1, 0, 0]), .var 32 [.own 2, .own 4], .row 66 3 (trsD (z3H k))]) (fun k => 4 - k) 0 (by omega) ?_ ?_
 ·have e0 : trsD (z3H 0) = [] := rfl
  rw [e0]
  (simp only [SubF, go_sem]; (try simp only [go_sem]); repeat' (first | exact True.intro | with_reducible refine And.intro ?_ ?_ | rfl | omega))
 ·rintro k hk L hL
  have hl := z8N k
  by_cases hlt : k < 4
  ·have w : ((k : Int) + 2).tmod 4 = ((k : Int) + 2) % 4 := Int.tmod_eq_emod_of_nonneg (by omega)
   have e1 : trsD (z3H (k + 1)) = trsD (z3H k) ++ [[.int .i64 k, .list [[.int .i64 k, .int .i64 1]], .list [[.int .i64 (((k : Int) + 2) % 4), .int .i64 1]]]] := by
    rw [zbe, ← z2n, z5J]; rfl
   (simp only [go_sem] at hL ⊢)
   (repeat' (first | (with_reducible first | refine And.intro ?_ ?_ | refine aBl ?_ | (refine aS 4 [] ?_; intro K hK)) | ((with_reducible refine aGo ?_); simp only [w, go_sem]) | ((with_reducible refine aCd ?_ ?_ (fun hb => ?_) (fun hb => ?_)); (iterate 2 simp only [w, go_sem]); all_goals (simp only [w, go_sem] at hb; try simp only [bls] at hb)) | ((iterate 6 try ((fail_if_success with_reducible refine hK _ ?_ ?_ ?_); clear hK K)); with_reducible refine hK _ ?_ ?_ ?_; rotate_left; (focus (simp only [w, go_sem]; exact rfl)); clear hK K) | exact aZ | fail))
   all_goals first | omega | skip
   rw [← e1]
   exact hL _ (k + 1) (by omega) (by (simp only [SubF, go_sem]; (try simp only [go_sem]); repeat' (first | exact True.intro | with_reducible refine And.intro ?_ ?_ | rfl | omega))) (by omega)
  ·have hk2 : k = 4 := by omega
   subst hk2
   (simp only [go_sem] at hL ⊢)
   (repeat' (first | (with_reducible first | refine And.intro ?_ ?_ | (refine aS 4 [] ?_; intro K hK)) | ((with_reducible refine aGo ?_); simp only [go_sem]) | ((with_reducible refine aCd ?_ ?_ (fun hb => ?_) (fun hb => ?_)); (iterate 2 simp only [go_sem]); all_goals (simp only [go_sem] at hb; try simp only [bls] at hb)) | ((iterate 6 try ((fail_if_success with_reducible refine hK _ ?_ ?_ ?_); clear hK K)); with_reducible refine hK _ ?_ ?_ ?_; rotate_left; (focus (simp only [go_sem]; exact rfl)); clear hK K) | fail))
   all_goals first | omega | rfl | skip
end Go.Proofs.YtkjllcmpjghmkaaGreatDoor
set_option linter.unusedSimpArgs false
set_option linter.unusedVariables false
namespace Go.Proofs.YtkjllcmpjghmkaaGreatDoor
open Go.Eng Go.RowKit
theorem zhQ (M0 : Nat → Prop) : Mof M0 [] = M0 := funext fun g => propext ⟨fun h => h.resolve_right z0j, .inl⟩
theorem ACalls.toM {P : Program} {f : FuncId} {args : List AV} {r : AV} (h : ACalls P f args r []) : MCalls P f 0 [] args r [] := by
 refine ⟨h.ok, rfl, fun w M0 F vs hM hp hv => ?_⟩
 have hF : F = [] := List.eq_nil_of_length_eq_zero hp.len
 subst hF
 rw [zhQ] at hv
 refine (h.run w M0 vs hM hv).mono ?_
 rintro e w' ⟨v, β, rfl, hR⟩
 have hβ : β = [] := List.eq_nil_of_length_eq_zero hR.len
 subst hβ
 exact ⟨v, [], rfl, .of hR.below, rfl, fun t ht => by omega, fun t o x ho => by simp at ho, fun g hg => (z0j hg).elim, fun t t' x x' g h1 => by simp at h1, hR.val⟩
attribute [go_sem] List.append_eq
theorem zep (a : Tr) (l : List Tr) : trsD (a :: l) = a.d :: trsD l := rfl
theorem zgu : trsD [] = [] := rfl
theorem zjA : effL mutN mutC = [1, 1, -1, -1] := by decide +kernel
theorem zeX : conE mutN mutC = 0 := by decide +kernel
theorem ziG : monE mutN mutC = 0 := by decide +kernel
def mutM : Net := ⟨[1, 1, 0, 0, 1], [⟨0, [⟨0, 1⟩, ⟨4, 1⟩], [⟨2, 1⟩]⟩, ⟨1, [⟨1, 1⟩, ⟨4, 1⟩], [⟨3, 1⟩]⟩, ⟨2, [⟨2, 1⟩], [⟨0, 1⟩, ⟨4, 1⟩]⟩, ⟨3, [⟨3, 1⟩], [⟨1, 1⟩, ⟨4, 1⟩]⟩]⟩
theorem zjz : monL mutN mutC = mutM := by decide +kernel
theorem zjx : trE' mutN mutC [0] = 0 := by decide +kernel
theorem mutTr : trC mutN mutC [0] = ⟨[1, 0, 1, 1], 1⟩ := by
 have h : trF mutN mutC [0] = some [1, 0, 1, 1] := by decide +kernel
 have h2 : chkE mutN mutC [0] = 0 := by decide +kernel
 rw [trC, if_pos h2, h]
 rfl
theorem zjB : chkE mutN mutC [0, 2] = 0 := by decide +kernel
theorem zjy : z1u mutN mutC [0, 2] = 0 := by decide +kernel
theorem z8O : mutN.Fits := by
 have h := z0K (z1v zeX).1
 constructor <;> (try decide +kernel)
set_option maxHeartbeats 16000000 in
set_option maxRecDepth 20000 in
theorem ziO : ACalls Tryz.prog 25 [] (.one (.bool true)) [] := by
 obtain ⟨q1, q2, q3, _⟩ := z1v zeX
 have h1 := zgm mutN mutC z8O (by decide +kernel) zeX (z0K q1) q2 q3
 have h2 := z7u mutN mutC z8O (by decide +kernel)
 have h3 := z7t mutN mutC [0] z8O (by decide +kernel) (by decide +kernel)
 have h4 := zaS mutN mutC [0, 2] z8O (by decide +kernel) (by decide +kernel)
 rw [zjA] at h1
 rw [ziG, zjz] at h2
 rw [zjx, mutTr] at h3
 simp only [zjB, zjy] at h4
 rw [show ints [0] = [[D.int .i64 0]] from rfl] at h3
 rw [show ints [0, 2] = [[D.int .i64 0], [D.int .i64 2]] from rfl] at h4
 have h0 := ziF
 simp only [Net.d, Con.d, mutM] at h0 h1 h2 h3 h4
 simp only [zep, zgu, Tr.d] at h2
 have c2 : ((2 : Nat) : Int) = 2 := rfl
 have c4 : ((4 : Nat) : Int) = 4 := rfl
 have c5 : ((5 : Nat) : Int) = 5 := rfl
 generalize mutN = N at *
 generalize mutC = C at *
 (refine ACalls.of_body Ty_ok mixed Tryz.func25 rfl (by kernel_rfl) Tryz.ntmps25 (by simp) (congrArg Array.toList Tryz.results25) ?_)
 simp only [z00]
 have e1 : ACalls Tryz.prog 59 [.one (.list (ints [1, 1, -1, -1])), .one (.list [[.int .i64 1], [.int .i64 1], [.int .i64 (-1)], [.int .i64 (-1)]])] (.one (.bool true)) [] := z62 [1, 1, -1, -1] [1, 1, -1, -1] (by decide)
 have e2 : ACalls Tryz.prog 59 [.one (.list (ints [1, 0, 1, 1])), .one (.list [[.int .i64 1], [.int .i64 0], [.int .i64 1], [.int .i64 1]])] (.one (.bool true)) [] := z62 [1, 0, 1, 1] [1, 0, 1, 1] (by decide)
 (repeat' (first | (with_reducible (refine aS 12 [] ?_; intro K hK)) | ((with_reducible refine aGo ?_); simp only [go_sem]) | ((iterate 6 try ((fail_if_success with_reducible refine hK _ ?_ ?_ ?_); clear hK K)); with_reducible refine hK _ ?_ ?_ ?_; rotate_left; (focus (simp only [go_sem]; exact rfl)); clear hK K) | ((with_reducible refine xA ?_); simp only [go_sem]) | fail))
 (refine z0Z [3] [] (ACalls.toM h3) ?_ ?_; (focus (simp only [mside, z2a, go_sem]; (first | done | exact (by decide) | exact ⟨by decide, fun t ht => ht.elim⟩ | (refine ⟨by decide, ?_⟩; simp; done)))); simp only [go_sem])
 (repeat' (first | (with_reducible (refine aS 12 [] ?_; intro K hK)) | ((with_reducible refine aGo ?_); simp only [c2, c4, c5, Int.reduceBEq, Nat.reduceSub, go_sem]) | ((iterate 6 try ((fail_if_success with_reducible refine hK _ ?_ ?_ ?_); clear hK K)); with_reducible refine hK _ ?_ ?_ ?_; rotate_left; (focus (simp only [c2, c4, c5, Int.reduceBEq, Nat.reduceSub, go_sem]; exact rfl)); clear hK K) | ((with_reducible first | refine xA ?_ | refine xG ?_); simp only [c2, c4, c5, Int.reduceBEq, Nat.reduceSub, go_sem]) | fail))
 all_goals first | omega | simp
end Go.Proofs.YtkjllcmpjghmkaaGreatDoor
set_option linter.unusedSimpArgs false
set_option linter.unusedVariables false
namespace Go.Proofs.YtkjllcmpjghmkaaGreatDoor
open Go.Eng Go.RowKit
theorem zew (f : Nat → Int) (k : Nat) : Sm 16 (z3F f k) := ⟨fun x hx => by
 simp only [z3F, List.mem_map] at hx
 obtain ⟨i, _, rfl⟩ := hx
 have := z1U (f (i % 5)) 4 (by omega)
 omega⟩
theorem zfO {n : Net} {c : Con} (h : netE n = 0) (hl : c.fac.length = n.init.length) (hf : Sm 16 c.fac) (hb : -65536 ≤ c.bound ∧ c.bound ≤ 65536) : conE n c = 0 := by
 have h1 : c.fac.any (z1j 16) = false := by
  rw [List.any_eq_false]
  intro x hx
  have := hf.all x hx
  simp only [z1j, Bool.or_eq_true, decide_eq_true_eq]
  omega
 have h2 : z1j 65536 c.bound = false := by
  simp only [z1j, Bool.or_eq_false_iff, decide_eq_false_iff_not]
  omega
 rw [conE, if_neg (by omega), if_neg (by omega), h1, h2]
 rfl
theorem zhO (n : Net) (f : Nat → Int) (b : Int) (h : netE n = 0) : conE n (Small n f b) = 0 := by
 have := z1U b 8 (by omega)
 exact zfO h (z4g f _) (zew f _) (by simp only [Small]; omega)
end Go.Proofs.YtkjllcmpjghmkaaGreatDoor
set_option linter.unusedSimpArgs false
set_option linter.unusedVariables false
namespace Go.Proofs.YtkjllcmpjghmkaaGreatDoor
open Go.Eng Go.RowKit
theorem zdb (a : Aut) (bad u : List Int) (ha : a.Ok) (hf : a.Fits) (hb : z0i bad a.states = 0) (hu : z0i u 32 = 0) (hbl : bad.length ≤ 1000000) (hul : u.length ≤ 1000000) :
  ACalls Tryz.prog 37 [.agg a.d, .one (.list (ints bad)), .one (.list (ints u))] (.one (.int .i64 0)) [] := by
 have c1 := z4z a hf
 rw [ha.chk] at c1
 have c2 := z5c bad a.states (by omega)
 have c3 := z5c u 32 (by omega)
 rw [hb] at c2
 rw [hu] at c3
 simp only [Aut.d] at c1
 (refine ACalls.of_body Ty_ok mixed Tryz.func37 rfl (by kernel_rfl) Tryz.ntmps37 (by simp) (congrArg Array.toList Tryz.results37) ?_)
 simp only [z00, Aut.d]
 (repeat' (first | (with_reducible (refine aS 9 [] ?_; intro K hK)) | ((with_reducible refine aGo ?_); simp only [go_sem]) | ((with_reducible refine aCd ?_ ?_ (fun hb => ?_) (fun hb => ?_)); (iterate 2 simp only [go_sem]); all_goals (simp only [go_sem] at hb; try simp only [bls] at hb)) | ((iterate 6 try ((fail_if_success with_reducible refine hK _ ?_ ?_ ?_); clear hK K)); with_reducible refine hK _ ?_ ?_ ?_; rotate_left; (focus (simp only [go_sem]; exact rfl)); clear hK K) | ((with_reducible refine xA ?_); simp only [go_sem]) | fail))
set_option maxHeartbeats 8000000 in
theorem zhR (a : Aut) (bad u : List Int) (ha : a.Ok) (hm : a.marked = []) (hl : a.edges.length ≤ 50000) (hb : z0i bad a.states = 0) (hu : z0i u 32 = 0) (hbl : bad.length ≤ 1000000) (hul : u.length ≤ 1000000) (hbr : ∀ x ∈ bad, 0 ≤ x ∧ x < a.states) (N : Nat) (hN : a.states = N) :
  ACalls Tryz.prog 11 [.agg a.d, .one (.list (ints bad)), .one (.list (ints u))] (.tup [.agg (resD0 a bad u N), .one (.int .i64 0)]) [] := by
 have c1 := zdb a bad u ha (ha.fits (by omega)) hb hu hbl hul
 have c2 := zgL a bad u ha hm hl hbr hbl hul N hN
 simp only [resD0, resD] at c2 ⊢
 simp only [Aut.d] at c1 c2
 generalize supA a (resL a bad u N) = A at *
 generalize supO a (resL a bad u N) = O at *
 generalize keptL (resL a bad u N) N = K at *
 generalize resN a bad u N = R at *
 generalize unkL R.1.length = U at *
 (refine ACalls.of_body Ty_ok mixed Tryz.func11 rfl (by kernel_rfl) Tryz.ntmps11 (by simp) (congrArg Array.toList Tryz.results11) ?_)
 simp only [z00, Aut.d]
 (repeat' (first | (with_reducible (refine aS 9 [] ?_; intro K hK)) | ((with_reducible refine aGo ?_); simp only [go_sem]) | ((with_reducible refine aCd ?_ ?_ (fun hb => ?_) (fun hb => ?_)); (iterate 2 simp only [go_sem]); all_goals (simp only [go_sem] at hb; try simp only [bls] at hb)) | ((iterate 6 try ((fail_if_success with_reducible refine hK _ ?_ ?_ ?_); clear hK K)); with_reducible refine hK _ ?_ ?_ ?_; rotate_left; (focus (simp only [go_sem]; exact rfl)); clear hK K) | ((with_reducible refine xA ?_); simp only [go_sem]) | fail))
theorem zdW (a : Aut) (s : Nat) (ha : a.Ok) (hf : a.Fits) (hs : (s : Int) < a.states) : ACalls Tryz.prog 86 [.agg a.d, .one (.int .i64 s)] (.one (.int .i64 0)) [] := by
 have c1 := z4z a hf
 rw [ha.chk] at c1
 simp only [Aut.d] at c1
 (refine ACalls.of_body Ty_ok mixed Tryz.func86 rfl (by kernel_rfl) Tryz.ntmps86 (by simp) (congrArg Array.toList Tryz.results86) ?_)
 simp only [z00, Aut.d]
 (repeat' (first | (with_reducible (refine aS 6 [] ?_; intro K hK)) | ((with_reducible refine aGo ?_); simp only [go_sem]) | ((with_reducible refine aCd ?_ ?_ (fun hb => ?_) (fun hb => ?_)); (iterate 2 simp only [go_sem]); all_goals (simp only [go_sem] at hb; try simp only [bls] at hb)) | ((iterate 6 try ((fail_if_success with_reducible refine hK _ ?_ ?_ ?_); clear hK K)); with_reducible refine hK _ ?_ ?_ ?_; rotate_left; (focus (simp only [go_sem]; exact rfl)); clear hK K) | ((with_reducible refine xA ?_); simp only [go_sem]) | exact aZ | fail))
 all_goals first | omega | skip
set_option maxHeartbeats 8000000 in
theorem zbK (a : Aut) (s : Nat) (ha : a.Ok) (hf : a.Fits) (hs : (s : Int) < a.states) : ACalls Tryz.prog 47 [.agg a.d, .one (.int .i64 s)] (.tup [.one (.list (ints ((outL a.edges s).map Edg.ev))), .one (.int .i64 0)]) [] := by
 have hst := ha.states
 have c1 := zdW a s ha hf hs
 have c2 := out_c a s hf ha.srcs (fun x hx => by have := ha.edges.1 x hx; omega) ⟨by omega, by omega⟩
 have hll : (outL a.edges s).length ≤ 1000000 := by
  have h1 := hf.edges
  have h2 : (outL a.edges s).length ≤ a.edges.length := List.length_filter_le _ _
  omega
 generalize outL a.edges s = l at *
 have hel := z2O l
 simp only [Aut.d] at c1 c2
 (refine ACalls.of_body Ty_ok mixed Tryz.func47 rfl (by kernel_rfl) Tryz.ntmps47 (by simp) (congrArg Array.toList Tryz.results47) ?_)
 simp only [z00, Aut.d]
 (repeat' (first | (with_reducible first | refine aBl ?_ | (refine aS 10 [19, 18, 20] ?_; intro K hK)) | ((with_reducible refine aGo ?_); simp only [go_sem]) | ((with_reducible refine aCd ?_ ?_ (fun hb => ?_) (fun hb => ?_)); (iterate 2 simp only [go_sem]); all_goals (simp only [go_sem] at hb; try simp only [bls] at hb)) | ((iterate 6 try ((fail_if_success with_reducible refine hK _ ?_ ?_ ?_); clear hK K)); with_reducible refine hK _ ?_ ?_ ?_; rotate_left; (focus (simp only [go_sem]; exact rfl)); clear hK K) | ((with_reducible refine xA ?_); simp only [go_sem]) | fail))
 all_goals first | omega | skip
 refine z02 _ (by simp only [go_sem]; rfl) Nat (fun k => k ≤ l.length) (fun k => [(7, .one (.own 2)), (20, .one (.int .i64 k))]) (fun k H => H.set 2 (.row 3 1 (ints ((l.take k).map Edg.ev)))) (fun k => l.length - k) 0 (by omega) ?_ ?_
 ·(simp only [SubF, List.take_zero, List.map_nil, List.set_cons_succ, List.set_cons_zero, show ints [] = [] from rfl, go_sem]; (try simp only [List.take_zero, List.map_nil, List.set_cons_succ, List.set_cons_zero, show ints [] = [] from rfl, go_sem]); repeat' (first | exact True.intro | with_reducible refine And.intro ?_ ?_ | rfl | omega))
 rintro k hk L hL
 have hq : ((k : Nat) : Int).toNat = k := by omega
 by_cases hlt : k < l.length
 ·have a1 := z0p (l := l) hlt [.int .i64 0, .int .i64 0, .int .i64 0]
  have a2 := z0p (l := l) hlt []
  have hs : (l.take (k + 1)).map Edg.ev = (l.take k).map Edg.ev ++ [(l.getD k Edg.no).ev] := by rw [z07 l k Edg.no hlt, List.map_append]; rfl
  generalize l.getD k Edg.no = x at *
  have hml : ((l.take k).map Edg.ev).length ≤ k := by simp; omega
  generalize (l.take k).map Edg.ev = m at *
  (simp only [List.set_cons_succ, List.set_cons_zero, go_sem] at hL ⊢)
  (repeat' (first | (with_reducible first | refine And.intro ?_ ?_ | refine aBl ?_ | (refine aS 10 [19, 18, 20] ?_; intro K hK)) | ((with_reducible refine aGo ?_); simp only [hq, a1, a2, hel, go_sem]) | ((with_reducible refine aCd ?_ ?_ (fun hb => ?_) (fun hb => ?_)); (iterate 2 simp only [hq, a1, a2, hel, go_sem]); all_goals (simp only [hq, a1, a2, hel, go_sem] at hb; try simp only [bls] at hb)) | ((iterate 6 try ((fail_if_success with_reducible refine hK _ ?_ ?_ ?_); clear hK K)); with_reducible refine hK _ ?_ ?_ ?_; rotate_left; (focus (simp only [hq, a1, a2, hel, go_sem]; exact rfl)); clear hK K) | exact aZ | fail))
  all_goals first | omega | skip
  refine hL _ (k + 1) (by omega) ?_ (by omega)
  simp only [hs, ← z0f]
  (simp only [SubF, z0e, List.set_cons_succ, List.set_cons_zero, go_sem]; (try simp only [z0e, List.set_cons_succ, List.set_cons_zero, go_sem]); repeat' (first | exact True.intro | with_reducible refine And.intro ?_ ?_ | rfl | omega))
 ·have hkl : k = l.length := by omega
  subst hkl
  simp only [List.take_length]
  (simp only [List.set_cons_succ, List.set_cons_zero, go_sem] at hL ⊢)
  (repeat' (first | (with_reducible first | refine And.intro ?_ ?_ | refine aBl ?_ | (refine aS 10 [19, 18, 20] ?_; intro K hK)) | ((with_reducible refine aGo ?_); simp only [hel, go_sem]) | ((with_reducible refine aCd ?_ ?_ (fun hb => ?_) (fun hb => ?_)); (iterate 2 simp only [hel, go_sem]); all_goals (simp only [hel, go_sem] at hb; try simp only [bls] at hb)) | ((iterate 6 try ((fail_if_success with_reducible refine hK _ ?_ ?_ ?_); clear hK K)); with_reducible refine hK _ ?_ ?_ ?_; rotate_left; (focus (simp only [hel, go_sem]; exact rfl)); clear hK K) | exact aZ | fail))
  all_goals first | omega | skip
theorem zjJ : ACalls Tryz.prog 26 [] (.one (.bool true)) [] := by
 have h := zfe
 (refine ACalls.of_body Ty_ok mixed Tryz.func26 rfl (by kernel_rfl) Tryz.ntmps26 (by simp) (congrArg Array.toList Tryz.results26) ?_)
 simp only [z00]
 (repeat' (first | (with_reducible (refine aS 1 [] ?_; intro K hK)) | ((with_reducible refine aGo ?_); simp only [go_sem]) | ((iterate 6 try ((fail_if_success with_reducible refine hK _ ?_ ?_ ?_); clear hK K)); with_reducible refine hK _ ?_ ?_ ?_; rotate_left; (focus (simp only [go_sem]; exact rfl)); clear hK K) | ((with_reducible refine xA ?_); simp only [go_sem]) | fail))
theorem zjI : ACalls Tryz.prog 5 [] (.one (.bool true)) [] := by
 have h1 := ziO
 have h2 := zjJ
 (refine ACalls.of_body Ty_ok mixed Tryz.func5 rfl (by kernel_rfl) Tryz.ntmps5 (by simp) (congrArg Array.toList Tryz.results5) ?_)
 simp only [z00]
 (repeat' (first | (with_reducible (refine aS 1 [] ?_; intro K hK)) | ((with_reducible refine aGo ?_); simp only [go_sem]) | ((iterate 6 try ((fail_if_success with_reducible refine hK _ ?_ ?_ ?_); clear hK K)); with_reducible refine hK _ ?_ ?_ ?_; rotate_left; (focus (simp only [go_sem]; exact rfl)); clear hK K) | ((with_reducible first | refine xA ?_ | refine xG ?_); simp only [go_sem]) | fail))
def numP (n : Net) (k : Nat) : List Tr := (numK n.trs.length n.trs).take k
theorem zeT {n : Net} {k : Nat} (h : k < n.trs.length) : trsD (numP n (k + 1)) = trsD (numP n k) ++ [[.int .i64 k, .list (arcsD (n.trs.getD k Tr.no).inn), .list (arcsD (n.trs.getD k Tr.no).out)]] := by
 rw [numP, z07 _ k Tr.no (by rw [z3T]; exact h), ← z2n, zcm h, if_pos h]; rfl
set_option maxHeartbeats 8000000 in
theorem zdq (n : Net) (hf : n.Fits) : ACalls Tryz.prog 6 [.agg n.d] (.agg (numN n).d) [] := by
 have htl : n.trs.length ≤ 1000000 := hf.trs
 (refine ACalls.of_body Ty_ok mixed Tryz.func6 rfl (by kernel_rfl) Tryz.ntmps6 (by simp) (congrArg Array.toList Tryz.results6) ?_)
 simp only [z00, Net.d]
 (repeat' (first | (with_reducible first | refine aBl ?_ | (refine aS 6 [] ?_; intro K hK)) | ((with_reducible refine aGo ?_); simp only [go_sem]) | ((iterate 6 try ((fail_if_success with_reducible refine hK _ ?_ ?_ ?_); clear hK K)); with_reducible refine hK _ ?_ ?_ ?_; rotate_left; (focus (simp only [go_sem]; exact rfl)); clear hK K) | fail))
 all_goals first | omega | skip
 refine z02 _ (by simp only [go_sem]; rfl) Nat (fun k => k ≤ n.trs.length) (fun k => [(3, .one (.own 2)), (4, .one (.int .i64 k))]) (fun k H => H.set 2 (.row 66 3 (trsD (numP n k)))) (fun k => n.trs.length - k) 0 (by omega) ?_ ?_
 ·have e0 : trsD (numP n 0) = [] := rfl
  rw [e0]
  (simp only [SubF, List.set_cons_succ, List.set_cons_zero, go_sem]; (try simp only [List.set_cons_succ, List.set_cons_zero, go_sem]); repeat' (first | exact True.intro | with_reducible refine And.intro ?_ ?_ | rfl | omega))
 rintro k hk L hL
 have hq : ((k : Nat) : Int).toNat = k := by omega
 have hpl : (numP n k).length ≤ k := by rw [numP, List.length_take]; omega
 by_cases hlt : k < n.trs.length
 ·have hg := z1K hlt [.int .i64 0, .nil, .nil]
  have hg2 := z1K hlt []
  have hs := zeT hlt
  generalize n.trs.getD k Tr.no = t at *
  (simp only [List.set_cons_succ, List.set_cons_zero, go_sem] at hL ⊢)
  (repeat' (first | (with_reducible first | refine And.intro ?_ ?_ | refine aBl ?_ | (refine aS 6 [] ?_; intro K hK)) | ((with_reducible refine aGo ?_); simp only [hq, hg, hg2, go_sem]) | ((with_reducible refine aCd ?_ ?_ (fun hb => ?_) (fun hb => ?_)); (iterate 2 simp only [hq, hg, hg2, go_sem]); all_goals (simp only [hq, hg, hg2, go_sem] at hb; try simp only [bls] at hb)) | ((iterate 6 try ((fail_if_success with_reducible refine hK _ ?_ ?_ ?_); clear hK K)); with_reducible refine hK _ ?_ ?_ ?_; rotate_left; (focus (simp only [hq, hg, hg2, go_sem]; exact rfl)); clear hK K) | exact aZ | fail))
  all_goals first | omega | skip
  refine hL _ (k + 1) (by omega) ?_ (by omega)
  simp only [hs]
  (simp only [SubF, List.set_cons_succ, List.set_cons_zero, go_sem]; (try simp only [List.set_cons_succ, List.set_cons_zero, go_sem]); repeat' (first | exact True.intro | with_reducible refine And.intro ?_ ?_ | rfl | omega))
 ·have hkl : k = n.trs.length := by omega
  subst hkl
  have e1 : numP n n.trs.length = (numN n).trs := by rw [numP, List.take_of_length_le (by rw [z3T]; exact Nat.le_refl _)]; rfl
  simp only [e1]
  (simp only [List.set_cons_succ, List.set_cons_zero, go_sem] at hL ⊢)
  (repeat' (first | (with_reducible first | refine And.intro ?_ ?_ | refine aBl ?_ | (refine aS 6 [] ?_; intro K hK)) | ((with_reducible refine aGo ?_); simp only [go_sem]) | ((with_reducible refine aCd ?_ ?_ (fun hb => ?_) (fun hb => ?_)); (iterate 2 simp only [go_sem]); all_goals (simp only [go_sem] at hb; try simp only [bls] at hb)) | ((iterate 6 try ((fail_if_success with_reducible refine hK _ ?_ ?_ ?_); clear hK K)); with_reducible refine hK _ ?_ ?_ ?_; rotate_left; (focus (simp only [go_sem]; exact rfl)); clear hK K) | exact aZ | fail))
  all_goals first | omega | rfl | skip
end Go.Proofs.YtkjllcmpjghmkaaGreatDoor
