/-
 Contracts: the law's net with a control place.
-/
import Derived.Test.YtgbhmieaoaojoaaN15
set_option linter.unusedSimpArgs false
set_option linter.unusedVariables false
namespace Go.Proofs.Ytgbhmieaoaojoaa
open Go.Eng Go.RowKit
set_option maxHeartbeats 16000000 in
theorem with_c (n : Net) (c : Con) (h0 : conE n c = 0) : ACalls Try.prog 8 [.agg n.d, .agg c.d] (.tup [.agg (monL n c).d, .one (.int .i64 (monE n c))]) [] := by
 obtain ⟨q1, q2, q3, q4, q5⟩ := conOk_of h0
 have hno := netOk_of q1
 have hi10 := hno.init
 have ht10 := hno.trs
 have hsm : Sm 65536 n.init := ⟨fun x hx => by have := hno.tok x hx; omega⟩
 have h2 := sum_c c n.init (by omega) q3 hsm (by omega) (by omega)
 have hd := dot_fits q3 hsm (by omega)
 have hEl := effL_length n c
 have hEget := effL_get n c
 have hmE : monE n c = if c.bound - dot c.fac n.init < 0 then 19 else if n.init.length = 10 ∨ 65536 < c.bound - dot c.fac n.init ∨ (effL n c).any (largeB 8) = true then 3 else 0 := by
  rw [monE, if_neg (by omega)]
 have z19 : c.bound - dot c.fac n.init < 0 → monL n c = Net.zero ∧ monE n c = 19 := fun h => by
  have e : monE n c = 19 := by rw [hmE, if_pos h]
  exact ⟨by rw [monL, if_neg (by omega)], e⟩
 have z3 : 0 ≤ c.bound - dot c.fac n.init → (10 ≤ (n.init.length : Int) ∨ 65536 < c.bound - dot c.fac n.init) ∨ (effL n c).any (largeB 8) = true → monL n c = Net.zero ∧ monE n c = 3 := fun h h' => by
  have e : monE n c = 3 := by
   rw [hmE, if_neg (by omega), if_pos]
   rcases h' with (h' | h') | h'
   ·exact .inl (by omega)
   ·exact .inr (.inl h')
   ·exact .inr (.inr h')
  exact ⟨by rw [monL, if_neg (by omega)], e⟩
 simp only [Con.d] at h2
 (refine ACalls.of_body Ty_ok mixed Try.func8 rfl (by kernel_rfl) Try.ntmps8 (by simp) (congrArg Array.toList Try.results8) ?_)
 simp only [slotsOf, Net.d, Con.d]
 (repeat' (first | (with_reducible first | exact True.intro | refine And.intro ?_ ?_ | refine aBl ?_ | (refine aS 12 [] ?_; intro K hK)) | ((with_reducible first | refine aGo ?_ | refine rP Ty_ok mixed 1 [0, 3] [.mid [pe 1, pe 2, pe 4, ⟨5, 0, true, false, false, [], []⟩, ⟨6, 1, false, false, false, [], []⟩, ⟨7, 1, false, false, false, [], []⟩] 1] ?_ | refine rP Ty_ok mixed 14 [0, 2, 7, 9, 15, 17] [.mid [pe 1, pe 3, pe 4, pe 5, pe 6, pe 8, pe 10, pe 11, pe 12, ⟨13, 0, true, false, false, [], []⟩, ⟨14, 1, false, false, false, [0], []⟩, ⟨16, 1, false, false, false, [0], []⟩, ⟨18, 1, false, false, false, [0], []⟩, ⟨19, 1, false, false, false, [0], []⟩, ⟨20, 1, false, false, false, [0], []⟩, ⟨21, 1, true, false, false, [], []⟩, ⟨22, 2, false, false, false, [], []⟩, ⟨23, 2, true, false, false, [1, 0], []⟩] 3, .one 24] ?_); simp only [go_sem]) | ((with_reducible refine aCd ?_ ?_ (fun hb => ?_) (fun hb => ?_)); (iterate 2 simp only [go_sem]); all_goals (simp only [go_sem] at hb; try simp only [bls] at hb)) | ((iterate 6 try ((fail_if_success with_reducible refine hK _ ?_ ?_ ?_); clear hK K)); with_reducible refine hK _ ?_ ?_ ?_; rotate_left; (focus (simp only [go_sem]; exact rfl)); clear hK K) | ((first | (with_reducible first | refine xA ?_ | refine xD ?_ | refine xO ?_ | refine xR ?_ | refine xG ?_ | refine xH ?_ | refine xM ?_) | ((with_reducible refine gA ?_); refine xA ?_) | ((with_reducible refine gD ?_); refine xD ?_) | ((with_reducible refine gG ?_); refine xG ?_)); simp only [go_sem]) | (with_reducible refine aGs (fun hg0 => ?_) (fun hg0 => ?_) <;> first | (with_reducible first | exact aF1 hg0 | exact aF2 hg0) | (simp only [hg0, go_sem])) | (with_reducible refine aNk ?_; intro bnil hnil; try simp only []) | exact aZ | fail))
 all_goals first
  | omega
  | (rw [(z19 hb).1]; rfl)
  | exact (z19 hb).2.symm
  | (rw [(z3 (by omega) (.inl hb)).1]; rfl)
  | exact (z3 (by omega) (.inl hb)).2.symm
  | skip
 generalize hB : (effL n c).any (largeB 8) = B at hmE z3
 have mE0 : B = false → monE n c = 0 ∧ monL n c = monNet n c := fun h => by
  have e : monE n c = 0 := by
   rw [hmE, if_neg (by omega), if_neg]
   rintro (h1 | h1 | h1)
   ·omega
   ·omega
   ·rw [h] at h1; cases h1
  exact ⟨e, by rw [monL, if_pos e]⟩
 refine awp_loopT [.cell 6 1 58 3] _ (by simp only [go_sem]; rfl) Nat (fun k => k ≤ n.trs.length ∧ ((effL n c).drop k).any (largeB 8) = B) (fun k => [(9, .one (.int .i64 k))]) (fun k => [.var 31 [.list (ints n.init), .list (trsD n.trs)], .var 35 [.list (ints c.fac), .int .i64 c.bound], .var 31 [.nil, .nil], .gone, .row 3 1 (ints n.init ++ [[.int .i64 (c.bound - dot c.fac n.init)]]), .gone, .var 31 [.own 4, .own 7], .row 58 3 (trsD (monTrs n c k))]) (fun k => n.trs.length - k) 0 ⟨by omega, hB⟩ ?_ ?_
 ·have e0 : trsD (monTrs n c 0) = [] := rfl
  rw [e0]
  (simp only [SubF, go_sem]; (try simp only [go_sem]); repeat' (first | exact True.intro | with_reducible refine And.intro ?_ ?_ | rfl | omega))
 ·rintro k ⟨hk, hBk⟩ L hL
  have hp : ((k : Nat) : Int).toNat = k := by omega
  have hml := monTrs_length n c k
  by_cases hlt : k < n.trs.length
  ·have hg := trs_get hlt [.int .i64 0, .nil, .nil]
   have hmem := getD_mem n.trs k Tr.no hlt
   have hi1 := hno.inn _ hmem
   have hi2 := hno.out _ hmem
   have hms := monTrs_succ n c k hlt
   have hEf := effect_c n c k hno q2 q3 (by omega)
   rw [drop_cons' (effL n c) k 0 (by omega), List.any_cons, hEget k hlt] at hBk
   rw [hp] at hEf
   have hf1 := arcs_few _ _ hi1
   have hf2 := arcs_few _ _ hi2
   have hEb : -2560 ≤ effT c.fac (n.trs.getD k Tr.no) ∧ effT c.fac (n.trs.getD k Tr.no) ≤ 2560 := by
    have b1 := dotA_bound c.fac q3 _ hi1.weight
    have b2 := dotA_bound c.fac q3 _ hi2.weight
    unfold effT
    omega
   generalize hEE : effT c.fac (n.trs.getD k Tr.no) = E at *
   generalize n.trs.getD k Tr.no = t at *
   have hb8 := beyond_c E 8 (by omega)
   simp only [Net.d, Con.d] at hEf
   (simp only [go_sem] at hL ⊢)
   (repeat' (first | (with_reducible first | exact True.intro | refine And.intro ?_ ?_ | refine aBl ?_ | (refine aS 12 [] ?_; intro K hK)) | ((with_reducible first | refine aGo ?_ | refine rP Ty_ok mixed 1 [0, 3] [.mid [pe 1, pe 2, pe 4, ⟨5, 0, true, false, false, [], []⟩, ⟨6, 1, false, false, false, [], []⟩, ⟨7, 1, false, false, false, [], []⟩] 1] ?_ | refine rP Ty_ok mixed 14 [0, 2, 7, 9, 15, 17] [.mid [pe 1, pe 3, pe 4, pe 5, pe 6, pe 8, pe 10, pe 11, pe 12, ⟨13, 0, true, false, false, [], []⟩, ⟨14, 1, false, false, false, [0], []⟩, ⟨16, 1, false, false, false, [0], []⟩, ⟨18, 1, false, false, false, [0], []⟩, ⟨19, 1, false, false, false, [0], []⟩, ⟨20, 1, false, false, false, [0], []⟩, ⟨21, 1, true, false, false, [], []⟩, ⟨22, 2, false, false, false, [], []⟩, ⟨23, 2, true, false, false, [1, 0], []⟩] 3, .one 24] ?_); simp only [hg, hp, go_sem]) | ((with_reducible refine aCd ?_ ?_ (fun hb => ?_) (fun hb => ?_)); (iterate 2 simp only [hg, hp, go_sem]); all_goals (simp only [hg, hp, go_sem] at hb; try simp only [bls] at hb)) | ((iterate 6 try ((fail_if_success with_reducible refine hK _ ?_ ?_ ?_); clear hK K)); with_reducible refine hK _ ?_ ?_ ?_; rotate_left; (focus (simp only [hg, hp, go_sem]; exact rfl)); clear hK K) | ((first | (with_reducible first | refine xA ?_ | refine xD ?_ | refine xO ?_ | refine xR ?_ | refine xG ?_ | refine xH ?_ | refine xM ?_) | ((with_reducible refine gA ?_); refine xA ?_) | ((with_reducible refine gD ?_); refine xD ?_) | ((with_reducible refine gG ?_); refine xG ?_)); simp only [hg, hp, go_sem]) | (with_reducible refine aGs (fun hg0 => ?_) (fun hg0 => ?_) <;> first | (with_reducible first | exact aF1 hg0 | exact aF2 hg0) | (simp only [hg0, hg, hp, go_sem])) | (with_reducible refine aNk ?_; intro bnil hnil; try simp only []) | exact aZ | fail))
   all_goals first | omega | skip
   ·have hB1 : B = true := by rw [← hBk, hb]; rfl
    rw [(z3 (by omega) (.inr hB1)).1]; rfl
   ·have hB1 : B = true := by rw [← hBk, hb]; rfl
    rw [(z3 (by omega) (.inr hB1)).1]; rfl
   ·have hB1 : B = true := by rw [← hBk, hb]; rfl
    exact (z3 (by omega) (.inr hB1)).2.symm
   ·have e1 : trsD (monTrs n c (k + 1)) = trsD (monTrs n c k) ++ [[.int .i64 t.event, .list (arcsD t.inn ++ [[.int .i64 n.init.length, .int .i64 E]]), .list (arcsD t.out)]] := by
     rw [hms, ← trs_append, monT, if_pos ‹0 < E›, if_neg (by omega), List.append_nil, trsD_one, ← arcs_append]; rfl
    refine hL _ (k + 1) ⟨by omega, by rw [← hBk, ‹largeB 8 E = false›]; rfl⟩ ?_ (by omega)
    rw [e1]
    (simp only [SubF, go_sem]; (try simp only [go_sem]); repeat' (first | exact True.intro | with_reducible refine And.intro ?_ ?_ | rfl | omega))
   ·have e1 : trsD (monTrs n c (k + 1)) = trsD (monTrs n c k) ++ [[.int .i64 t.event, .list (arcsD t.inn), .list (arcsD t.out ++ [[.int .i64 n.init.length, .int .i64 (-E)]])]] := by
     rw [hms, ← trs_append, monT, if_neg (by omega), if_pos (by omega), List.append_nil, trsD_one, ← arcs_append]; rfl
    refine hL _ (k + 1) ⟨by omega, by rw [← hBk, ‹largeB 8 E = false›]; rfl⟩ ?_ (by omega)
    rw [e1, show 0 - E = -E by omega]
    (simp only [SubF, go_sem]; (try simp only [go_sem]); repeat' (first | exact True.intro | with_reducible refine And.intro ?_ ?_ | rfl | omega))
   ·have e1 : trsD (monTrs n c (k + 1)) = trsD (monTrs n c k) ++ [[.int .i64 t.event, .list (arcsD t.inn), .list (arcsD t.out)]] := by
     rw [hms, ← trs_append, monT, if_neg (by omega), if_neg (by omega), List.append_nil, List.append_nil, trsD_one]
    refine hL _ (k + 1) ⟨by omega, by rw [← hBk, ‹largeB 8 E = false›]; rfl⟩ ?_ (by omega)
    rw [e1]
    (simp only [SubF, go_sem]; (try simp only [go_sem]); repeat' (first | exact True.intro | with_reducible refine And.intro ?_ ?_ | rfl | omega))
  ·have hkk : k = n.trs.length := by omega
   rw [List.drop_of_length_le (by omega), List.any_nil] at hBk
   obtain ⟨e1, e2⟩ := mE0 hBk.symm
   (simp only [go_sem] at hL ⊢)
   (repeat' (first | (with_reducible first | exact True.intro | refine And.intro ?_ ?_ | refine aBl ?_ | (refine aS 12 [] ?_; intro K hK)) | ((with_reducible first | refine aGo ?_ | refine rP Ty_ok mixed 1 [0, 3] [.mid [pe 1, pe 2, pe 4, ⟨5, 0, true, false, false, [], []⟩, ⟨6, 1, false, false, false, [], []⟩, ⟨7, 1, false, false, false, [], []⟩] 1] ?_ | refine rP Ty_ok mixed 14 [0, 2, 7, 9, 15, 17] [.mid [pe 1, pe 3, pe 4, pe 5, pe 6, pe 8, pe 10, pe 11, pe 12, ⟨13, 0, true, false, false, [], []⟩, ⟨14, 1, false, false, false, [0], []⟩, ⟨16, 1, false, false, false, [0], []⟩, ⟨18, 1, false, false, false, [0], []⟩, ⟨19, 1, false, false, false, [0], []⟩, ⟨20, 1, false, false, false, [0], []⟩, ⟨21, 1, true, false, false, [], []⟩, ⟨22, 2, false, false, false, [], []⟩, ⟨23, 2, true, false, false, [1, 0], []⟩] 3, .one 24] ?_); simp only [go_sem]) | ((with_reducible refine aCd ?_ ?_ (fun hb => ?_) (fun hb => ?_)); (iterate 2 simp only [go_sem]); all_goals (simp only [go_sem] at hb; try simp only [bls] at hb)) | ((iterate 6 try ((fail_if_success with_reducible refine hK _ ?_ ?_ ?_); clear hK K)); with_reducible refine hK _ ?_ ?_ ?_; rotate_left; (focus (simp only [go_sem]; exact rfl)); clear hK K) | (with_reducible refine aGs (fun hg0 => ?_) (fun hg0 => ?_) <;> first | (with_reducible first | exact aF1 hg0 | exact aF2 hg0) | (simp only [hg0, go_sem])) | (with_reducible refine aNk ?_; intro bnil hnil; try simp only []) | exact aZ | fail))
   all_goals first | omega | skip
   ·rw [e2, monNet, ← ints_append]; rfl
   ·rw [e2, monNet, hkk]
end Go.Proofs.Ytgbhmieaoaojoaa
