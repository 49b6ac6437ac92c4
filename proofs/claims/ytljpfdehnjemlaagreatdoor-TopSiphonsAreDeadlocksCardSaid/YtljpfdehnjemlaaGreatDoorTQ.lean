/-
 Contracts: L51.Known, overseertop.prevented.
-/
import Derived.Test.YtljpfdehnjemlaaGreatDoorQM
import Derived.Test.YtljpfdehnjemlaaGreatDoorTP
import Derived.Test.YtljpfdehnjemlaaGreatDoorMC
import Derived.Test.YtljpfdehnjemlaaGreatDoorSV
set_option linter.unusedSimpArgs false
set_option linter.unusedVariables false
namespace Go.Proofs.YtljpfdehnjemlaaGreatDoor
open Go.Eng Go.RowKit
structure TaskOk (n : Net) (u : List Int) : Prop where
 ok : NetOk n
 ne : n.init ≠ []
 chk : prE n u = 0
 few : n.init.length ≤ 6
 len : u.length ≤ 16
 pos : ∀ t ∈ u, 0 ≤ t
theorem net_tab (k : Int) (h : k = 1 ∨ k = 2) : netE (tabN k) = 0 := by
 rcases h with rfl | rfl <;> decide +kernel
theorem choose_net (s : Nat → Int) (hs : Bytes s) (b : Bool) : netE (chooseN s b) = 0 ∧ 1 ≤ (chooseN s b).init.length ∧ (chooseN s b).init.length ≤ 6 := by
 cases b with
 | true =>
  have : 1 + s 2 % 2 = 1 ∨ 1 + s 2 % 2 = 2 := by omega
  exact ⟨net_tab _ this, by simp [chooseN, tabN], by simp [chooseN, tabN]⟩
 | false =>
  have h := makeNet_ok s hs
  have hl : (makeNet s).init.length = np s := initL_length s (np s)
  have : 1 ≤ np s ∧ np s ≤ 5 := by unfold np; omega
  exact ⟨h, by show 1 ≤ (makeNet s).init.length; omega, by show (makeNet s).init.length ≤ 6; omega⟩
theorem task_ok (s : Nat → Int) (hs : Bytes s) (b : Bool) (u : Nat) : TaskOk (chooseN s b) (taskU s b u) := by
 obtain ⟨h1, h2, h3⟩ := choose_net s hs b
 have hok := netOk_of h1
 have ht := hok.trs
 have hin : ∀ x ∈ taskU s b u, 0 ≤ x ∧ x < (chooseN s b).trs.length := fun x hx => by
  obtain ⟨i, hi, rfl, _⟩ := mem_bitsL.1 hx
  omega
 have hc : checkSet (taskU s b u) (chooseN s b).trs.length = 0 := checkSet_ok (bitsL_pw _ _) hin
 have hl := bitsL_length u (chooseN s b).trs.length
 exact ⟨hok, by intro e; rw [e] at h2; simp at h2, by rw [prE, if_neg (by omega)]; exact hc, h3, by unfold taskU; omega, fun t ht => (hin t ht).1⟩
theorem tab7_d : tabN7.d = [.list (ints [1, 0, 0, 1, 0, 0, 1]), .list (trsD tabN7.trs)] := rfl
set_option maxRecDepth 100000 in
set_option maxHeartbeats 16000000 in
theorem known_c : ACalls Tryz.prog 49 [] (.one (.bool true)) [] := by
 have hn1 := net_tab 1 (.inl rfl)
 have hn7 : netE tabN7 = 0 := by decide +kernel
 have e1 : prE (tabN 1) [] = 0 := by decide +kernel
 have e2 : prE (tabN 1) [0, 3] = 0 := by decide +kernel
 have ht := table_c
 have hP := Prevent_c (tabN 1) [] (netOk_of hn1).fits (fun _ => by decide) (by decide)
 have hX := Explain_c (tabN 1) [0, 3] (netOk_of hn1).fits (fun _ => by decide) (by decide)
 have hD := Deadlock_c tabN7 (netOk_of hn7).fits (by decide)
 rw [prO, if_neg (by omega), prev_tab] at hP
 rw [prO, if_neg (by omega), prev_tab2] at hX
 have hd7 := of_decide_eq_true dead_tab7
 rw [bnd_tab7] at hD
 simp only [dlR] at hD
 rw [if_neg (by omega)] at hD
 have hst : stpD [stepOf (tabN 1) [0, 2, 3, 5]] = [[.list (ints [0, 2, 3, 5]), .list (ints (facK 6 [0, 2, 3, 5])), .int .i64 (-1)]] := rfl
 have s1 := SameInts_c [0, 2, 3, 5] [0, 2, 3, 5] (by decide)
 have s2 := SameInts_c [0, 3] [0, 3] (by decide)
 simp only [pvR, exR, resD, hst] at hP hX
 rw [tab7_d] at hD
 have h7 : ints tabN7.init = ints [1, 0, 0, 1, 0, 0, 1] := rfl
 rw [h7] at hP
 simp only [Net.d] at ht hP hX
 generalize trsD tabN7.trs = T7 at *
 generalize ints (facK 6 [0, 2, 3, 5]) = FK at *
 generalize trsD (tabN 1).trs = T1 at *
 generalize ints (tabN 1).init = I1 at *
 simp only [ints, stpD, List.map_cons, List.map_nil, decide_true] at hP hX hD s1 s2
 (refine ACalls.of_body Ty_ok mixed Tryz.func49 rfl (by kernel_rfl) Tryz.ntmps49 (by simp) (congrArg Array.toList Tryz.results49) ?_)
 simp only [slotsOf]
 (repeat' (first | (with_reducible (refine aS 3 [5, 4, 9, 8, 6, 7] ?_; intro K hK)) | ((with_reducible refine aGo ?_); simp only [go_sem]) | ((iterate 6 try ((fail_if_success with_reducible refine hK _ ?_ ?_ ?_); clear hK K)); with_reducible refine hK _ ?_ ?_ ?_; rotate_left; (focus (simp only [go_sem]; exact rfl)); clear hK K) | ((with_reducible refine xA ?_); simp only [go_sem]) | fail))
 (refine MCallAt_i [1] [] (calls_toM hX) ?_ ?_; (focus (simp only [mside, handOk, go_sem]; (first | done | exact (by decide) | exact ⟨by decide, fun t ht => ht.elim⟩ | (refine ⟨by decide, ?_⟩; simp; done)))); simp only [go_sem])
 (repeat' (first | (with_reducible (refine aS 3 [5, 4, 9, 8, 6, 7] ?_; intro K hK)) | ((with_reducible refine aGo ?_); simp only [go_sem]) | ((iterate 6 try ((fail_if_success with_reducible refine hK _ ?_ ?_ ?_); clear hK K)); with_reducible refine hK _ ?_ ?_ ?_; rotate_left; (focus (simp only [go_sem]; exact rfl)); clear hK K) | ((with_reducible refine xG ?_); simp only [go_sem]) | fail))
 all_goals first | omega | skip
end Go.Proofs.YtljpfdehnjemlaaGreatDoor
set_option linter.unusedSimpArgs false
set_option linter.unusedVariables false
namespace Go.Proofs.YtljpfdehnjemlaaGreatDoor
open Go.Eng Go.RowKit
theorem kn47_c : ACalls Tryz.prog 26 [] (.one (.bool true)) [] := by
 have h := known47_c
 (refine ACalls.of_body Ty_ok mixed Tryz.func26 rfl (by kernel_rfl) Tryz.ntmps26 (by simp) (congrArg Array.toList Tryz.results26) ?_)
 simp only [slotsOf]
 (repeat' (first | (with_reducible (refine aS 1 [] ?_; intro K hK)) | ((with_reducible refine aGo ?_); simp only [go_sem]) | ((iterate 6 try ((fail_if_success with_reducible refine hK _ ?_ ?_ ?_); clear hK K)); with_reducible refine hK _ ?_ ?_ ?_; rotate_left; (focus (simp only [go_sem]; exact rfl)); clear hK K) | ((with_reducible refine xA ?_); simp only [go_sem]) | fail))
theorem kn51_c : ACalls Tryz.prog 15 [] (.one (.bool true)) [] := by
 have h1 := known_c
 have h2 := kn47_c
 (refine ACalls.of_body Ty_ok mixed Tryz.func15 rfl (by kernel_rfl) Tryz.ntmps15 (by simp) (congrArg Array.toList Tryz.results15) ?_)
 simp only [slotsOf]
 (repeat' (first | (with_reducible (refine aS 1 [] ?_; intro K hK)) | ((with_reducible refine aGo ?_); simp only [go_sem]) | ((iterate 6 try ((fail_if_success with_reducible refine hK _ ?_ ?_ ?_); clear hK K)); with_reducible refine hK _ ?_ ?_ ?_; rotate_left; (focus (simp only [go_sem]; exact rfl)); clear hK K) | ((with_reducible first | refine xA ?_ | refine xG ?_); simp only [go_sem]) | fail))
theorem preB_end {a b : List Int} {p : Nat} {s : Bool} (hp : p ≤ b.length) (hs : s = decide (a.take p = b.take p)) (h : p < b.length → s = false) : s = preB a b := by
 rcases Nat.lt_or_ge p b.length with h1 | h1
 ·have h2 := h h1
  rw [h2] at hs ⊢
  symm
  rw [preB, decide_eq_false_iff_not]
  intro e
  have e2 : a.take p = b.take p := by
   rw [← e, List.take_take, Nat.min_eq_left hp]
  rw [decide_eq_true e2] at hs
  cases hs
 ·have : p = b.length := by omega
  subst this
  rw [hs, preB, List.take_length]
theorem take_eq_succ {a b : List Int} {p : Nat} (ha : p < a.length) (hb : p < b.length) : decide (a.take (p + 1) = b.take (p + 1)) = (decide (a.take p = b.take p) && decide (a.getD p 0 = b.getD p 0)) := by
 rw [take_succ_getD a p 0 ha, take_succ_getD b p 0 hb, ← Bool.decide_and]
 congr 1
 apply propext
 constructor
 ·intro h
  have := List.append_inj' h rfl
  exact ⟨this.1, List.singleton_inj.1 this.2⟩
 ·rintro ⟨h1, h2⟩
  rw [h1, h2]
set_option maxHeartbeats 16000000 in
theorem ttPrevented_c {n m : Net} {u : List Int} {st : List Stp} (hn : NetOk n) (hnu : Numd n) (h0 : n.init ≠ []) (hF : Fit n u st m m.init) {nd ndm : List SN} {ed edm : List Edg} (hb : bndF n = .inr (nd, ed)) (hbm : bndF m = .inr (ndm, edm)) (hd : deadFrom m ndm 0 < 0) :
  ACalls Tryz.prog 24 [.agg n.d, .agg (resD st m), .one (.list (wordsD (nd.map SN.m)))] (.one (.bool true)) [] := by
 have hfa := hF.facts
 have hok := hfa.ok
 have h0m : m.init ≠ [] := fun e => by
  have h1 := hfa.ilen
  rw [e] at h1
  have := List.length_pos_iff.2 h0
  simp only [List.length_nil] at h1; omega
 obtain ⟨a1, k1⟩ := autF_num (hF.numd hnu) hbm
 obtain ⟨a2, k2⟩ := autF_num hnu hb
 have hA := Automaton_c m [] hok.fits h0m (by decide) (fun m hm => by simp at hm)
 have hB := Automaton_c n [] hn.fits h0 (by decide) (fun m hm => by simp at hm)
 have hD := Dead_c m hok.fits h0m
 rw [a1, wordsD_nil] at hA
 rw [a2, wordsD_nil] at hB
 have hdd : deadsF m ndm = [] := by
  rw [deadsF, List.map_eq_nil_iff, List.filter_eq_nil_iff]
  intro x hx
  have := dead_none ndm 0 hd x hx
  rw [stuckB, decide_eq_true_eq]
  exact fun e => this (List.eq_nil_of_length_eq_zero e)
 rw [hbm, ddR, hdd, wordsD_nil] at hD
 have hI := Included_c (autA m ndm []) (autA n nd []) (aut_fits k1.found) (aut_fits k2.found) (autA_ok k1.found []) (autA_ok k2.found []) _ (prev_sim hF k2 k1 hnu)
 have hmk := prev_marks hF k2.found k1.found
 have hlm : (autM m ndm).length ≤ 4096 := by
  have h1 := (autO_ok k1.found).le
  have h2 := k1.found.le
  rw [autM, List.length_map]; omega
 have hlW : (nd.map SN.m).length ≤ 4096 := by rw [List.length_map]; exact k2.found.le
 have hWl : ∀ b ∈ nd.map SN.m, b.length = n.init.length := fun b hb => by
  obtain ⟨x, hx, rfl⟩ := List.mem_map.1 hb
  exact k2.found.nodes.len x hx
 have hil := hfa.ilen
 have hin := hn.init
 have him := hok.init
 simp only [auR, Aut.d, Net.d] at hA hB hI hD
 generalize ints (autA m ndm []).alph = x1 at *
 generalize (autA m ndm []).states = x2 at *
 generalize ints (autA m ndm []).marked = x3 at *
 generalize edgsD (autA m ndm []).edges = x4 at *
 generalize ints (autA n nd []).alph = y1 at *
 generalize (autA n nd []).states = y2 at *
 generalize ints (autA n nd []).marked = y3 at *
 generalize edgsD (autA n nd []).edges = y4 at *
 generalize autM m ndm = L at *
 generalize autM n nd = L2 at *
 generalize nd.map SN.m = W at *
 (refine ACalls.of_body Ty_ok mixed Tryz.func24 rfl (by kernel_rfl) Tryz.ntmps24 (by simp) (congrArg Array.toList Tryz.results24) ?_)
 simp only [slotsOf, Net.d, resD]
 (repeat' (first | (with_reducible first | refine aBl ?_ | (refine aS 13 [14, 19, 18, 17, 16, 15, 22, 21] ?_; intro K hK)) | ((with_reducible refine aGo ?_); simp only [go_sem]) | ((with_reducible refine aCd ?_ ?_ (fun hb => ?_) (fun hb => ?_)); (iterate 2 simp only [go_sem]); all_goals (simp only [go_sem] at hb; try simp only [bls] at hb)) | ((iterate 6 try ((fail_if_success with_reducible refine hK _ ?_ ?_ ?_); clear hK K)); with_reducible refine hK _ ?_ ?_ ?_; rotate_left; (focus (simp only [go_sem]; exact rfl)); clear hK K) | ((with_reducible refine xA ?_); simp only [go_sem]) | fail))
 all_goals first | omega | skip
 refine awp_loop _ (by simp only [go_sem]; rfl) Nat (fun k => k ≤ L.length) (fun k => [(15, .one (.int .i64 k))]) (fun _ H => H) (fun k => L.length - k) 0 (by omega) ?_ ?_
 ·(simp only [SubF, go_sem]; (try simp only [go_sem]); repeat' (first | exact True.intro | with_reducible refine And.intro ?_ ?_ | rfl | omega))
 rintro k hk L1 hL
 by_cases hlt : k < L.length
 ·have hq : ((k : Nat) : Int).toNat = k := by omega
  have b1 := words_at (l := L) hlt [.nil]
  have b2 := words_at (l := L) hlt []
  obtain ⟨w1, b, w2, w3⟩ := hmk _ (getD_mem L k [] hlt)
  generalize L.getD k [] = a at *
  (simp only [go_sem] at hL ⊢)
  (repeat' (first | (with_reducible first | refine aBl ?_ | (refine aS 13 [14, 19, 18, 17, 16, 15, 22, 21] ?_; intro K hK)) | ((with_reducible refine aGo ?_); simp only [hq, b1, b2, go_sem]) | ((with_reducible refine aCd ?_ ?_ (fun hb => ?_) (fun hb => ?_)); (iterate 2 simp only [hq, b1, b2, go_sem]); all_goals (simp only [hq, b1, b2, go_sem] at hb; try simp only [bls] at hb)) | ((iterate 6 try ((fail_if_success with_reducible refine hK _ ?_ ?_ ?_); clear hK K)); with_reducible refine hK _ ?_ ?_ ?_; rotate_left; (focus (simp only [hq, b1, b2, go_sem]; exact rfl)); clear hK K) | exact aZ | fail))
  all_goals first | omega | skip
  refine awp_loop _ (by simp only [go_sem]; rfl) Nat (fun j => j ≤ W.length) (fun j => [(16, .one (.bool ((W.take j).any (preB a)))), (17, .one (.int .i64 j))]) (fun _ H => H) (fun j => W.length - j) 0 (by omega) ?_ ?_
  ·have e0 : (W.take 0).any (preB a) = false := rfl
   rw [e0]
   (simp only [SubF, go_sem]; (try simp only [go_sem]); repeat' (first | exact True.intro | with_reducible refine And.intro ?_ ?_ | rfl | omega))
  rintro j hj L3 hL3
  by_cases hltj : j < W.length
  ·have hq2 : ((j : Nat) : Int).toNat = j := by omega
   have c1 := words_at (l := W) hltj [.nil]
   have c2 := words_at (l := W) hltj []
   have hts := take_succ_getD W j [] hltj
   have hWb := hWl _ (getD_mem W j [] hltj)
   have hany : (W.take (j + 1)).any (preB a) = ((W.take j).any (preB a) || preB a (W.getD j [])) := by
    rw [hts, List.any_append, List.any_cons, List.any_nil, Bool.or_false]
   clear hts
   generalize (W.take j).any (preB a) = F at *
   generalize W.getD j [] = c at *
   have hge : decide ((c.length : Int) ≤ (a.length : Int)) = true := decide_eq_true (by omega)
   simp only [go_sem] at hL3 ⊢
   (repeat' (first | (with_reducible first | refine And.intro ?_ ?_ | refine aBl ?_ | (refine aS 13 [14, 19, 18, 17, 16, 15, 22, 21] ?_; intro K hK)) | ((with_reducible first | refine aGo ?_ | refine rD (id := 13) ?_); simp only [hq, b1, b2, hq2, c1, c2, hge, go_sem]) | ((with_reducible refine aCd ?_ ?_ (fun hb => ?_) (fun hb => ?_)); (iterate 2 simp only [hq, b1, b2, hq2, c1, c2, hge, go_sem]); all_goals (simp only [hq, b1, b2, hq2, c1, c2, hge, go_sem] at hb; try simp only [bls] at hb)) | ((iterate 6 try ((fail_if_success with_reducible refine hK _ ?_ ?_ ?_); clear hK K)); with_reducible refine hK _ ?_ ?_ ?_; rotate_left; (focus (simp only [hq, b1, b2, hq2, c1, c2, hge, go_sem]; exact rfl)); clear hK K) | exact aZ | fail))
   all_goals first | omega | skip
   refine awp_loop _ (by simp only [go_sem]; rfl) (Nat × Bool) (fun x => x.1 ≤ c.length ∧ x.2 = decide (a.take x.1 = c.take x.1)) (fun x => [(18, .one (.bool x.2)), (19, .one (.int .i64 x.1))]) (fun _ H => H) (fun x => c.length - x.1) (0, true) ⟨by omega, by simp⟩ ?_ ?_
   ·(simp only [SubF, go_sem]; (try simp only [go_sem]); repeat' (first | exact True.intro | with_reducible refine And.intro ?_ ?_ | rfl | omega))
   rintro ⟨p, s⟩ ⟨hp, hs⟩ L4 hL4
   simp only at hp hs hL4 ⊢
   have hend := preB_end hp hs
   by_cases hltp : p < c.length
   ·have hq3 : ((p : Nat) : Int).toNat = p := by omega
    have d1 := ints_at (l := a) (k := p) (by omega)
    have d2 := ints_at (l := c) (k := p) (by omega)
    have hsu := take_eq_succ (a := a) (b := c) (p := p) (by omega) hltp
    cases s with
    | true =>
     rw [← hs, Bool.true_and] at hsu
     simp only [go_sem] at hL4 ⊢
     (repeat' (first | (with_reducible first | refine And.intro ?_ ?_ | refine aBl ?_ | (refine aS 13 [14, 19, 18, 17, 16, 15, 22, 21] ?_; intro K hK)) | ((with_reducible first | refine aGo ?_ | refine rD (id := 17) ?_); simp only [hq, b1, b2, hq2, c1, c2, hq3, d1, d2, go_sem]) | ((with_reducible refine aCd ?_ ?_ (fun hb => ?_) (fun hb => ?_)); (iterate 2 simp only [hq, b1, b2, hq2, c1, c2, hq3, d1, d2, go_sem]); all_goals (simp only [hq, b1, b2, hq2, c1, c2, hq3, d1, d2, go_sem] at hb; try simp only [bls] at hb)) | ((iterate 6 try ((fail_if_success with_reducible refine hK _ ?_ ?_ ?_); clear hK K)); with_reducible refine hK _ ?_ ?_ ?_; rotate_left; (focus (simp only [hq, b1, b2, hq2, c1, c2, hq3, d1, d2, go_sem]; exact rfl)); clear hK K) | exact aZ | fail))
     all_goals first | omega | skip
     exact hL4 _ (p + 1, a.getD p 0 == c.getD p 0) ⟨by simp only; omega, by simp only; rw [hsu]; rfl⟩ (by (simp only [SubF, go_sem]; (try simp only [go_sem]); repeat' (first | exact True.intro | with_reducible refine And.intro ?_ ?_ | rfl | omega))) (by simp only; omega)
    | false =>
     have hpf := hend fun _ => rfl
     simp only [go_sem] at hL3 hL4 ⊢
     (repeat' (first | (with_reducible first | refine And.intro ?_ ?_ | (refine aS 13 [14, 19, 18, 17, 16, 15, 22, 21] ?_; intro K hK)) | ((with_reducible refine aGo ?_); simp only [hq, b1, b2, hq2, c1, c2, hq3, d1, d2, go_sem]) | ((with_reducible refine aCd ?_ ?_ (fun hb => ?_) (fun hb => ?_)); (iterate 2 simp only [hq, b1, b2, hq2, c1, c2, hq3, d1, d2, go_sem]); all_goals (simp only [hq, b1, b2, hq2, c1, c2, hq3, d1, d2, go_sem] at hb; try simp only [bls] at hb)) | ((iterate 6 try ((fail_if_success with_reducible refine hK _ ?_ ?_ ?_); clear hK K)); with_reducible refine hK _ ?_ ?_ ?_; rotate_left; (focus (simp only [hq, b1, b2, hq2, c1, c2, hq3, d1, d2, go_sem]; exact rfl)); clear hK K) | exact aZ | fail))
     all_goals first | omega | skip
     exact hL3 _ (j + 1) (by omega) (by rw [hany, ← hpf, Bool.or_false]; (simp only [SubF, go_sem]; (try simp only [go_sem]); repeat' (first | exact True.intro | with_reducible refine And.intro ?_ ?_ | rfl | omega))) (by omega)
   ·have hpf := hend fun h => absurd h hltp
    simp only [go_sem] at hL3 hL4 ⊢
    (repeat' (first | (with_reducible first | refine And.intro ?_ ?_ | refine aBl ?_ | (refine aS 13 [14, 19, 18, 17, 16, 15, 22, 21] ?_; intro K hK)) | ((with_reducible first | refine aGo ?_ | refine rD (id := 17) ?_); simp only [hq, b1, b2, hq2, c1, c2, go_sem]) | ((with_reducible refine aCd ?_ ?_ (fun hb => ?_) (fun hb => ?_)); (iterate 2 simp only [hq, b1, b2, hq2, c1, c2, go_sem]); all_goals (simp only [hq, b1, b2, hq2, c1, c2, go_sem] at hb; try simp only [bls] at hb)) | ((iterate 6 try ((fail_if_success with_reducible refine hK _ ?_ ?_ ?_); clear hK K)); with_reducible refine hK _ ?_ ?_ ?_; rotate_left; (focus (simp only [hq, b1, b2, hq2, c1, c2, go_sem]; exact rfl)); clear hK K) | exact aZ | fail))
    all_goals first | omega | skip
    exact hL3 _ (j + 1) (by omega) (by rw [hany, ← hpf]; (simp only [SubF, go_sem]; (try simp only [go_sem]); repeat' (first | exact True.intro | with_reducible refine And.intro ?_ ?_ | rfl | omega))) (by omega)
  ·have hfull : (W.take j).any (preB a) = true := by
    rw [List.take_of_length_le (by omega), List.any_eq_true]
    exact ⟨b, w2, by rw [preB, hWl b w2]; exact decide_eq_true w3⟩
   rw [hfull]
   simp only [go_sem] at hL ⊢
   (repeat' (first | (with_reducible first | refine And.intro ?_ ?_ | refine aBl ?_ | (refine aS 13 [14, 19, 18, 17, 16, 15, 22, 21] ?_; intro K hK)) | ((with_reducible first | refine aGo ?_ | refine rD (id := 13) ?_); simp only [go_sem]) | ((with_reducible refine aCd ?_ ?_ (fun hb => ?_) (fun hb => ?_)); (iterate 2 simp only [go_sem]); all_goals (simp only [go_sem] at hb; try simp only [bls] at hb)) | ((iterate 6 try ((fail_if_success with_reducible refine hK _ ?_ ?_ ?_); clear hK K)); with_reducible refine hK _ ?_ ?_ ?_; rotate_left; (focus (simp only [go_sem]; exact rfl)); clear hK K) | exact aZ | fail))
   all_goals first | omega | skip
   exact hL _ (k + 1) (by omega) (by (simp only [SubF, go_sem]; (try simp only [go_sem]); repeat' (first | exact True.intro | with_reducible refine And.intro ?_ ?_ | rfl | omega))) (by omega)
 ·(simp only [go_sem] at hL ⊢)
  (repeat' (first | (with_reducible first | refine aBl ?_ | (refine aS 13 [14, 19, 18, 17, 16, 15, 22, 21] ?_; intro K hK)) | ((with_reducible refine aGo ?_); simp only [go_sem]) | ((with_reducible refine aCd ?_ ?_ (fun hb => ?_) (fun hb => ?_)); (iterate 2 simp only [go_sem]); all_goals (simp only [go_sem] at hb; try simp only [bls] at hb)) | ((iterate 6 try ((fail_if_success with_reducible refine hK _ ?_ ?_ ?_); clear hK K)); with_reducible refine hK _ ?_ ?_ ?_; rotate_left; (focus (simp only [go_sem]; exact rfl)); clear hK K) | ((with_reducible refine xA ?_); simp only [go_sem]) | exact aZ | fail))
  all_goals first | omega | skip
end Go.Proofs.YtljpfdehnjemlaaGreatDoor
