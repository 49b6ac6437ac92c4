/-
 Contracts: known.
-/
import Derived.Test.YtgbhmieaoaojoaaN13
set_option linter.unusedSimpArgs false
set_option linter.unusedVariables false
namespace Go.Proofs.Ytgbhmieaoaojoaa
open Go.Eng Go.RowKit
theorem Mof_none (M0 : Nat → Prop) : Mof M0 [] = M0 := funext fun g => propext ⟨fun h => h.resolve_right owned_nil, .inl⟩
theorem ACalls.toM {P : Program} {f : FuncId} {args : List AV} {r : AV} (h : ACalls P f args r []) : MCalls P f 0 [] args r [] := by
 refine ⟨h.ok, rfl, fun w M0 F vs hM hp hv => ?_⟩
 have hF : F = [] := List.eq_nil_of_length_eq_zero hp.len
 subst hF
 rw [Mof_none] at hv
 refine (h.run w M0 vs hM hv).mono ?_
 rintro e w' ⟨v, β, rfl, hR⟩
 have hβ : β = [] := List.eq_nil_of_length_eq_zero hR.len
 subst hβ
 exact ⟨v, [], rfl, .of hR.below, rfl, fun t ht => by omega, fun t o x ho => by simp at ho, fun g hg => (owned_nil hg).elim, fun t t' x x' g h1 => by simp at h1, hR.val⟩
attribute [go_sem] List.append_eq
theorem trsD_cons (a : Tr) (l : List Tr) : trsD (a :: l) = a.d :: trsD l := rfl
theorem trsD_nil : trsD [] = [] := rfl
theorem mutEff : effL mutN mutC = [1, 1, -1, -1] := by decide +kernel
theorem mutChk : conE mutN mutC = 0 := by decide +kernel
theorem mutMonE : monE mutN mutC = 0 := by decide +kernel
def mutM : Net := ⟨[1, 1, 0, 0, 1], [⟨0, [⟨0, 1⟩, ⟨4, 1⟩], [⟨2, 1⟩]⟩, ⟨1, [⟨1, 1⟩, ⟨4, 1⟩], [⟨3, 1⟩]⟩, ⟨2, [⟨2, 1⟩], [⟨0, 1⟩, ⟨4, 1⟩]⟩, ⟨3, [⟨3, 1⟩], [⟨1, 1⟩, ⟨4, 1⟩]⟩]⟩
theorem mutMon : monL mutN mutC = mutM := by decide +kernel
theorem mutTrE : trE' mutN mutC [0] = 0 := by decide +kernel
theorem mutTr : trC mutN mutC [0] = ⟨[1, 0, 1, 1], 1⟩ := by
 have h : trF mutN mutC [0] = some [1, 0, 1, 1] := by decide +kernel
 have h2 : chkE mutN mutC [0] = 0 := by decide +kernel
 rw [trC, if_pos h2, h]
 rfl
theorem mutCh2 : chkE mutN mutC [0, 2] = 0 := by decide +kernel
theorem mutRa2 : raisingL mutN mutC [0, 2] = 0 := by decide +kernel
theorem mutFits : mutN.Fits := by
 have h := netOk_of (conOk_of mutChk).1
 constructor <;> (try decide +kernel)
set_option maxHeartbeats 16000000 in
set_option maxRecDepth 20000 in
theorem known_c : ACalls Try.prog 4 [] (.one (.bool true)) [] := by
 obtain ⟨q1, q2, q3, _⟩ := conOk_of mutChk
 have h1 := Effects_c mutN mutC mutFits (by decide +kernel) mutChk (netOk_of q1) q2 q3
 have h2 := Monitor_c mutN mutC mutFits (by decide +kernel)
 have h3 := Transform_c mutN mutC [0] mutFits (by decide +kernel) (by decide +kernel)
 have h4 := Admissible_c mutN mutC [0, 2] mutFits (by decide +kernel) (by decide +kernel)
 rw [mutEff] at h1
 rw [mutMonE, mutMon] at h2
 rw [mutTrE, mutTr] at h3
 simp only [mutCh2, mutRa2] at h4
 rw [show ints [0] = [[D.int .i64 0]] from rfl] at h3
 rw [show ints [0, 2] = [[D.int .i64 0], [D.int .i64 2]] from rfl] at h4
 have h0 := mutex_c
 simp only [Net.d, Con.d, mutM] at h0 h1 h2 h3 h4
 simp only [trsD_cons, trsD_nil, Tr.d] at h2
 have c2 : ((2 : Nat) : Int) = 2 := rfl
 have c4 : ((4 : Nat) : Int) = 4 := rfl
 have c5 : ((5 : Nat) : Int) = 5 := rfl
 generalize mutN = N at *
 generalize mutC = C at *
 (refine ACalls.of_body Ty_ok mixed Try.func4 rfl (by kernel_rfl) Try.ntmps4 (by simp) (congrArg Array.toList Try.results4) ?_)
 simp only [slotsOf]
 have e1 : ACalls Try.prog 16 [.one (.list (ints [1, 1, -1, -1])), .one (.list [[.int .i64 1], [.int .i64 1], [.int .i64 (-1)], [.int .i64 (-1)]])] (.one (.bool true)) [] := wordEqual_c [1, 1, -1, -1] [1, 1, -1, -1] (by decide)
 have e2 : ACalls Try.prog 16 [.one (.list (ints [1, 0, 1, 1])), .one (.list [[.int .i64 1], [.int .i64 0], [.int .i64 1], [.int .i64 1]])] (.one (.bool true)) [] := wordEqual_c [1, 0, 1, 1] [1, 0, 1, 1] (by decide)
 (repeat' (first | (with_reducible first | exact True.intro | refine And.intro ?_ ?_ | refine aBl ?_ | (refine aS 12 [] ?_; intro K hK)) | ((with_reducible first | refine aGo ?_); simp only [go_sem]) | ((with_reducible refine aCd ?_ ?_ (fun hb => ?_) (fun hb => ?_)); (iterate 2 simp only [go_sem]); all_goals (simp only [go_sem] at hb; try simp only [bls] at hb)) | ((iterate 6 try ((fail_if_success with_reducible refine hK _ ?_ ?_ ?_); clear hK K)); with_reducible refine hK _ ?_ ?_ ?_; rotate_left; (focus (simp only [go_sem]; exact rfl)); clear hK K) | ((first | (with_reducible first | refine xA ?_ | refine xD ?_ | refine xO ?_ | refine xR ?_ | refine xG ?_ | refine xH ?_ | refine xM ?_) | ((with_reducible refine gA ?_); refine xA ?_) | ((with_reducible refine gD ?_); refine xD ?_) | ((with_reducible refine gG ?_); refine xG ?_)); simp only [go_sem]) | (with_reducible refine aGs (fun hg0 => ?_) (fun hg0 => ?_) <;> first | (with_reducible first | exact aF1 hg0 | exact aF2 hg0) | (simp only [hg0, go_sem])) | (with_reducible refine aNk ?_; intro bnil hnil; try simp only []) | exact aZ | fail))
 (refine MCallAt_i [3] [] (ACalls.toM h3) ?_ ?_; (focus (simp only [mside, handOk, go_sem]; (first | done | exact (by decide) | exact ⟨by decide, fun t ht => ht.elim⟩ | (refine ⟨by decide, ?_⟩; simp; done)))); simp only [go_sem])
 (repeat' (first | (with_reducible first | exact True.intro | refine And.intro ?_ ?_ | refine aBl ?_ | (refine aS 12 [] ?_; intro K hK)) | ((with_reducible first | refine aGo ?_); simp only [c2, c4, c5, Int.reduceBEq, Nat.reduceSub, go_sem]) | ((with_reducible refine aCd ?_ ?_ (fun hb => ?_) (fun hb => ?_)); (iterate 2 simp only [c2, c4, c5, Int.reduceBEq, Nat.reduceSub, go_sem]); all_goals (simp only [c2, c4, c5, Int.reduceBEq, Nat.reduceSub, go_sem] at hb; try simp only [bls] at hb)) | ((iterate 6 try ((fail_if_success with_reducible refine hK _ ?_ ?_ ?_); clear hK K)); with_reducible refine hK _ ?_ ?_ ?_; rotate_left; (focus (simp only [c2, c4, c5, Int.reduceBEq, Nat.reduceSub, go_sem]; exact rfl)); clear hK K) | ((first | (with_reducible first | refine xA ?_ | refine xD ?_ | refine xO ?_ | refine xR ?_ | refine xG ?_ | refine xH ?_ | refine xM ?_) | ((with_reducible refine gA ?_); refine xA ?_) | ((with_reducible refine gD ?_); refine xD ?_) | ((with_reducible refine gG ?_); refine xG ?_)); simp only [c2, c4, c5, Int.reduceBEq, Nat.reduceSub, go_sem]) | (with_reducible refine aGs (fun hg0 => ?_) (fun hg0 => ?_) <;> first | (with_reducible first | exact aF1 hg0 | exact aF2 hg0) | (simp only [hg0, c2, c4, c5, Int.reduceBEq, Nat.reduceSub, go_sem])) | (with_reducible refine aNk ?_; intro bnil hnil; try simp only []) | exact aZ | fail))
 all_goals first | omega | simp
end Go.Proofs.Ytgbhmieaoaojoaa
