/-
 Chapter 23: the law DocumentCells.
-/
import Derived.Test.YtkjnjkdcpbgabaaGreatDoorVI
import Derived.Test.YtkjnjkdcpbgabaaGreatDoorVA
import Derived.Test.YtkjnjkdcpbgabaaGreatDoorLift4
set_option linter.unusedSimpArgs false
set_option linter.unusedVariables false
namespace Go.Proofs.YtkjnjkdcpbgabaaGreatDoor
open Go.Eng Go.RowKit
theorem awp_loopL {P : Program} {T : Tab} {σ : AState} {Q : APost} {c : Code} (ks : List (Nat × AV)) (S : Type) (I : S → Prop) (u : S → List (Nat × AV)) (hh : S → List AObj → List AObj) (μ : S → Nat) (s0 : S) (h0 : I s0)
  (hs : SubF σ ⟨σ.n, u s0 ++ ks, hh s0 σ.H, σ.pin⟩)
  (h : ∀ s, I s → ∀ K : AState → Prop, (∀ σ' s', I s' → SubF σ' ⟨σ.n, u s' ++ ks, hh s' σ.H, σ.pin⟩ → μ s' < μ s → K σ') → awp P T c ⟨σ.n, u s ++ ks, hh s σ.H, σ.pin⟩ (APost.then K Q)) : awp P T (.loop c) σ Q :=
 ⟨S, I, fun s => ⟨σ.n, u s ++ ks, hh s σ.H, σ.pin⟩, μ, s0, [], h0, ⟨trivial, hs⟩, fun s hI => h s hI _ fun σ' s' h1 h2 h3 => ⟨s', h1, h2, h3⟩⟩
theorem strsD_snoc (l : List (List UInt8)) (s : List UInt8) : strsD (l ++ [s]) = strsD l ++ [[.str s]] := by simp [strsD]
theorem nameN_cons (x : It) (l : List It) : nameN (x :: l) = if x.kind = 1 then x.name :: nameN l else nameN l := by
 rw [nameN, filter_isK]
 split <;> rfl
theorem usedN {l : List It} (hf : LFits l) {i : Nat} (hi : i < l.length) : ∀ u ∈ usedOf (l.getD i It.no), u.length ≤ 1000 := by
 have h := hf.get hi
 intro u hu
 rcases List.mem_append.1 hu with hu | hu
 ·obtain ⟨y, hy, rfl⟩ := List.mem_map.1 hu
  exact h.ln y hy
 ·obtain ⟨y, hy, rfl⟩ := List.mem_map.1 hu
  exact h.tn y hy
theorem shuf_fits {a b : It} (hb : b.Fits) (h : Shuf a b) : a.Fits := by
 have e := h.bare
 simp only [It.bare, It.mk.injEq] at e
 exact ⟨by rw [e.2.1]; exact hb.name, by rw [e.2.2.1]; exact hb.aut, by rw [h.ll]; exact hb.locs, by rw [h.tl]; exact hb.terms, fun y hy => hb.ln y (h.locs y hy), fun y hy => hb.tn y (h.terms y hy)⟩
set_option maxHeartbeats 32000000 in
set_option maxRecDepth 100000 in
theorem Cells_law (l : List It) : ACalls Tryz.prog 5 [.one (.list (itD l))] (.one (.bool true)) [] := by
 have kn := known_c
 have f1 := few_c l
 by_cases h1 : fewB l = true
 ·rw [h1] at f1
  have hf := fewB_fits h1
  have hl := hf.len
  have c1 := lawcheck_c l hf
  by_cases h3 : chkL l = 0
  ·have g := (good_iff l).1 h3
   rw [h3] at c1
   have c2 := Cell_c [] l (by decide) hf
   have hcv : cellV [] (cellR l) = cellD [] (cellR l).1 := by rw [cellV, show evs [] = [] from rfl]; split <;> rfl
   rw [hcv, cellR_eq g] at c2
   clear hcv
   obtain ⟨W, hW⟩ : ∃ W, W = wL (nameN l) l := ⟨_, rfl⟩
   rw [← hW] at c2
   obtain ⟨N, hN⟩ : ∃ N, N = nameN l := ⟨_, rfl⟩
   have hNl : N.length ≤ l.length := by
    rw [hN, nameN, List.length_map]
    exact List.length_filter_le _ _
   (refine ACalls.of_body Ty_ok mixed Tryz.func5 rfl (by kernel_rfl) Tryz.ntmps5 (by simp) (congrArg Array.toList Tryz.results5) ?_)
   simp only [slotsOf]
   (repeat' (first | (with_reducible first | exact True.intro | refine And.intro ?_ ?_ | refine aBl ?_ | (refine aS 16 [] ?_; intro K hK)) | ((with_reducible first | refine aGo ?_ | refine rP Ty_ok mixed 27 [0, 1, 3, 4] [.mid [pe 2, pe 5, pe 6] 0, .one 7] ?_ | refine rP Ty_ok mixed 40 [0, 1, 4, 5] [.mid [pe 2, pe 3, pe 6, pe 7] 0, .one 8, .one 9] ?_); simp only [go_sem]) | ((with_reducible refine aCd ?_ ?_ (fun hb => ?_) (fun hb => ?_)); (iterate 2 simp only [go_sem]); all_goals (simp only [go_sem] at hb; try simp only [bls] at hb)) | ((iterate 6 try ((fail_if_success with_reducible refine hK _ ?_ ?_ ?_); clear hK K)); with_reducible refine hK _ ?_ ?_ ?_; rotate_left; (focus (simp only [go_sem]; exact rfl)); clear hK K) | ((first | (with_reducible first | refine xA ?_ | refine xD ?_ | refine xO ?_ | refine xR ?_ | refine xG ?_ | refine xH ?_ | refine xM ?_) | ((with_reducible refine gA ?_); refine xA ?_) | ((with_reducible refine gD ?_); refine xD ?_) | ((with_reducible refine gG ?_); refine xG ?_)); simp only [go_sem]) | (with_reducible refine aGs (fun hg0 => ?_) (fun hg0 => ?_) <;> first | (with_reducible first | exact aF1 hg0 | exact aF2 hg0) | (simp only [hg0, go_sem])) | (with_reducible refine aNk ?_; intro bnil hnil; try simp only []) | exact aZ | fail))
   all_goals first | omega | skip
   refine awp_loop _ (by simp only [go_sem]; rfl) (Nat × List (List UInt8)) (fun z => z.1 ≤ l.length ∧ N = z.2 ++ nameN (l.drop z.1) ∧ z.2.length ≤ z.1) (fun z => [(3, .one (.own 0)), (4, .one (.int .i64 z.1))]) (fun z H => [.row 9 1 (strsD z.2)]) (fun z => l.length - z.1) (0, []) ⟨by omega, by simpa using hN, by decide⟩ ?_ ?_
   ·have e0 : strsD [] = [] := rfl
    rw [e0]
    (simp only [SubF, go_sem]; (try simp only [go_sem]); repeat' (first | exact True.intro | with_reducible refine And.intro ?_ ?_ | rfl | omega))
   rintro ⟨i, p⟩ ⟨hi, hres, hpl⟩ L hL
   dsimp only at hi hres hpl
   have hq : ((i : Nat) : Int).toNat = i := by omega
   rcases (Decidable.em (i < l.length)) with hlt | hlt
   ·have hg := itD_get hlt [.int .i64 0, .str [], .nil, .int .i64 0, .nil, .nil, .nil, .nil, .int .i64 0]
    have hlf : decide ((i : Int) < l.length) = true := decide_eq_true (by omega)
    rw [drop_getD l i It.no hlt, nameN_cons] at hres
    generalize l.getD i It.no = y at *
    simp only [It.d] at hg
    rcases (Decidable.em (y.kind = 1)) with hk | hk
    ·rw [if_pos hk] at hres
     have hkt : (y.kind == 1) = true := by simpa using hk
     (simp only [go_sem] at hL ⊢)
     (repeat' (first | (with_reducible first | exact True.intro | refine And.intro ?_ ?_ | refine aBl ?_ | (refine aS 16 [] ?_; intro K hK)) | ((with_reducible first | refine aGo ?_ | refine rP Ty_ok mixed 27 [0, 1, 3, 4] [.mid [pe 2, pe 5, pe 6] 0, .one 7] ?_ | refine rP Ty_ok mixed 40 [0, 1, 4, 5] [.mid [pe 2, pe 3, pe 6, pe 7] 0, .one 8, .one 9] ?_); simp only [hg, hq, hlf, hkt, go_sem]) | ((with_reducible refine aCd ?_ ?_ (fun hb => ?_) (fun hb => ?_)); (iterate 2 simp only [hg, hq, hlf, hkt, go_sem]); all_goals (simp only [hg, hq, hlf, hkt, go_sem] at hb; try simp only [bls] at hb)) | ((iterate 6 try ((fail_if_success with_reducible refine hK _ ?_ ?_ ?_); clear hK K)); with_reducible refine hK _ ?_ ?_ ?_; rotate_left; (focus (simp only [hg, hq, hlf, hkt, go_sem]; exact rfl)); clear hK K) | (with_reducible refine aGs (fun hg0 => ?_) (fun hg0 => ?_) <;> first | (with_reducible first | exact aF1 hg0 | exact aF2 hg0) | (simp only [hg0, hg, hq, hlf, hkt, go_sem])) | (with_reducible refine aNk ?_; intro bnil hnil; try simp only []) | exact aZ | fail))
     all_goals first | omega | skip
     refine hL _ (i + 1, p ++ [y.name]) ⟨by omega, by rw [hres, List.append_assoc]; rfl, by simp only [List.length_append, List.length_cons, List.length_nil]; omega⟩ ?_ (by dsimp only; omega)
     dsimp only
     rw [strsD_snoc]
     (simp only [SubF, go_sem]; (try simp only [go_sem]); repeat' (first | exact True.intro | with_reducible refine And.intro ?_ ?_ | rfl | omega))
    ·rw [if_neg hk] at hres
     have hkt : (y.kind == 1) = false := by simpa using hk
     (simp only [go_sem] at hL ⊢)
     (repeat' (first | (with_reducible first | exact True.intro | refine And.intro ?_ ?_ | refine aBl ?_ | (refine aS 16 [] ?_; intro K hK)) | ((with_reducible first | refine aGo ?_ | refine rP Ty_ok mixed 27 [0, 1, 3, 4] [.mid [pe 2, pe 5, pe 6] 0, .one 7] ?_ | refine rP Ty_ok mixed 40 [0, 1, 4, 5] [.mid [pe 2, pe 3, pe 6, pe 7] 0, .one 8, .one 9] ?_); simp only [hg, hq, hlf, hkt, go_sem]) | ((with_reducible refine aCd ?_ ?_ (fun hb => ?_) (fun hb => ?_)); (iterate 2 simp only [hg, hq, hlf, hkt, go_sem]); all_goals (simp only [hg, hq, hlf, hkt, go_sem] at hb; try simp only [bls] at hb)) | ((iterate 6 try ((fail_if_success with_reducible refine hK _ ?_ ?_ ?_); clear hK K)); with_reducible refine hK _ ?_ ?_ ?_; rotate_left; (focus (simp only [hg, hq, hlf, hkt, go_sem]; exact rfl)); clear hK K) | (with_reducible refine aGs (fun hg0 => ?_) (fun hg0 => ?_) <;> first | (with_reducible first | exact aF1 hg0 | exact aF2 hg0) | (simp only [hg0, hg, hq, hlf, hkt, go_sem])) | (with_reducible refine aNk ?_; intro bnil hnil; try simp only []) | exact aZ | fail))
     all_goals first | omega | skip
     refine hL _ (i + 1, p) ⟨by omega, hres, by dsimp only; omega⟩ ?_ (by dsimp only; omega)
     (simp only [SubF, go_sem]; (try simp only [go_sem]); repeat' (first | exact True.intro | with_reducible refine And.intro ?_ ?_ | rfl | omega))
   have hik : i = l.length := by omega
   subst hik
   have hlf : decide ((l.length : Int) < l.length) = false := decide_eq_false (by omega)
   rw [List.drop_length, show nameN [] = [] from rfl, List.append_nil] at hres
   subst hres
   (simp only [go_sem] at hL ⊢)
   (repeat' (first | (with_reducible first | exact True.intro | refine And.intro ?_ ?_ | refine aBl ?_ | (refine aS 16 [] ?_; intro K hK)) | ((with_reducible first | refine aGo ?_ | refine rP Ty_ok mixed 27 [0, 1, 3, 4] [.mid [pe 2, pe 5, pe 6] 0, .one 7] ?_ | refine rP Ty_ok mixed 40 [0, 1, 4, 5] [.mid [pe 2, pe 3, pe 6, pe 7] 0, .one 8, .one 9] ?_); simp only [hlf, go_sem]) | ((with_reducible refine aCd ?_ ?_ (fun hb => ?_) (fun hb => ?_)); (iterate 2 simp only [hlf, go_sem]); all_goals (simp only [hlf, go_sem] at hb; try simp only [bls] at hb)) | ((iterate 6 try ((fail_if_success with_reducible refine hK _ ?_ ?_ ?_); clear hK K)); with_reducible refine hK _ ?_ ?_ ?_; rotate_left; (focus (simp only [hlf, go_sem]; exact rfl)); clear hK K) | (with_reducible refine aGs (fun hg0 => ?_) (fun hg0 => ?_) <;> first | (with_reducible first | exact aF1 hg0 | exact aF2 hg0) | (simp only [hg0, hlf, go_sem])) | (with_reducible refine aNk ?_; intro bnil hnil; try simp only []) | exact aZ | fail))
   all_goals first | omega | skip
   clear hL
   rw [← hN] at hW
   refine awp_loop _ (by simp only [go_sem]; rfl) (Nat × Int) (fun z => z.1 ≤ l.length ∧ W = if z.2 ≠ 0 then z.2 else wL N (l.drop z.1)) (fun z => [(5, .one (.int .i64 z.2)), (6, .one (.int .i64 z.1))]) (fun z H => [.row 9 1 (strsD N)]) (fun z => l.length - z.1) (0, 0) ⟨by omega, by simpa using hW⟩ ?_ ?_
   ·(simp only [SubF, go_sem]; (try simp only [go_sem]); repeat' (first | exact True.intro | with_reducible refine And.intro ?_ ?_ | rfl | omega))
   rintro ⟨i, w⟩ ⟨hi, hres⟩ Lo hLo
   dsimp only at hi hres
   have hq : ((i : Nat) : Int).toNat = i := by omega
   rcases (Decidable.em (w = 0)) with hw | hw
   ·subst hw
    rw [if_neg (by decide)] at hres
    rcases (Decidable.em (i < l.length)) with hlt2 | hlt2
    ·have hg := itD_get hlt2 [.int .i64 0, .str [], .nil, .int .i64 0, .nil, .nil, .nil, .nil, .int .i64 0]
     have hlf2 : decide ((i : Int) < l.length) = true := decide_eq_true (by omega)
     have hyf := hf.get hlt2
     have g1 := hyf.locs
     have g2 := hyf.terms
     have hun := usedN hf hlt2
     rw [drop_getD l i It.no hlt2, wL] at hres
     generalize l.getD i It.no = y at *
     simp only [It.d] at hg
     (simp only [go_sem] at hLo ⊢)
     (repeat' (first | (with_reducible first | exact True.intro | refine And.intro ?_ ?_ | refine aBl ?_ | (refine aS 16 [] ?_; intro K hK)) | ((with_reducible first | refine aGo ?_ | refine rP Ty_ok mixed 27 [0, 1, 3, 4] [.mid [pe 2, pe 5, pe 6] 0, .one 7] ?_ | refine rP Ty_ok mixed 40 [0, 1, 4, 5] [.mid [pe 2, pe 3, pe 6, pe 7] 0, .one 8, .one 9] ?_); simp only [hg, hq, hlf2, go_sem]) | ((with_reducible refine aCd ?_ ?_ (fun hb => ?_) (fun hb => ?_)); (iterate 2 simp only [hg, hq, hlf2, go_sem]); all_goals (simp only [hg, hq, hlf2, go_sem] at hb; try simp only [bls] at hb)) | ((iterate 6 try ((fail_if_success with_reducible refine hK _ ?_ ?_ ?_); clear hK K)); with_reducible refine hK _ ?_ ?_ ?_; rotate_left; (focus (simp only [hg, hq, hlf2, go_sem]; exact rfl)); clear hK K) | (with_reducible refine aGs (fun hg0 => ?_) (fun hg0 => ?_) <;> first | (with_reducible first | exact aF1 hg0 | exact aF2 hg0) | (simp only [hg0, hg, hq, hlf2, go_sem])) | (with_reducible refine aNk ?_; intro bnil hnil; try simp only []) | exact aZ | fail))
     all_goals first | omega | skip
     refine awp_loop _ (by simp only [go_sem]; rfl) Nat (fun k => k ≤ y.locs.length) (fun k => [(7, .one (.own 1)), (8, .one (.int .i64 k))]) (fun k H => [.row 9 1 (strsD N), .row 9 1 (strsD ((y.locs.take k).map Lt.name))]) (fun k => y.locs.length - k) 0 (by omega) ?_ ?_
     ·have e0 : strsD ((y.locs.take 0).map Lt.name) = [] := by simp [strsD]
      rw [e0]
      (simp only [SubF, go_sem]; (try simp only [go_sem]); repeat' (first | exact True.intro | with_reducible refine And.intro ?_ ?_ | rfl | omega))
     rintro j hj L hL
     have hqj : ((j : Nat) : Int).toNat = j := by omega
     have hjm : ((y.locs.take j).map Lt.name).length ≤ 3000 := by simp only [List.length_append, List.length_map, List.length_take]; omega
     rcases (Decidable.em (j < y.locs.length)) with hjl | hjl
     ·have hjf : decide ((j : Int) < y.locs.length) = true := decide_eq_true (by omega)
      have hs : strsD ((y.locs.take (j + 1)).map Lt.name) = strsD ((y.locs.take j).map Lt.name) ++ [[.str (y.locs.getD j Lt.no).name]] := by rw [take_succ_getD y.locs j Lt.no hjl, List.map_append, List.map_cons, List.map_nil, strsD_snoc]
      generalize (y.locs.take j).map Lt.name = Q at *
      (simp only [go_sem] at hL ⊢)
      (repeat' (first | (with_reducible first | exact True.intro | refine And.intro ?_ ?_ | refine aBl ?_ | (refine aS 16 [] ?_; intro K hK)) | ((with_reducible first | refine aGo ?_ | refine rP Ty_ok mixed 27 [0, 1, 3, 4] [.mid [pe 2, pe 5, pe 6] 0, .one 7] ?_ | refine rP Ty_ok mixed 40 [0, 1, 4, 5] [.mid [pe 2, pe 3, pe 6, pe 7] 0, .one 8, .one 9] ?_); simp only [hg, hq, hqj, hjf, go_sem]) | ((with_reducible refine aCd ?_ ?_ (fun hb => ?_) (fun hb => ?_)); (iterate 2 simp only [hg, hq, hqj, hjf, go_sem]); all_goals (simp only [hg, hq, hqj, hjf, go_sem] at hb; try simp only [bls] at hb)) | ((iterate 6 try ((fail_if_success with_reducible refine hK _ ?_ ?_ ?_); clear hK K)); with_reducible refine hK _ ?_ ?_ ?_; rotate_left; (focus (simp only [hg, hq, hqj, hjf, go_sem]; exact rfl)); clear hK K) | (with_reducible refine aGs (fun hg0 => ?_) (fun hg0 => ?_) <;> first | (with_reducible first | exact aF1 hg0 | exact aF2 hg0) | (simp only [hg0, hg, hq, hqj, hjf, go_sem])) | (with_reducible refine aNk ?_; intro bnil hnil; try simp only []) | exact aZ | fail))
      all_goals first | omega | skip
      refine hL _ (j + 1) (by omega) ?_ (by omega)
      rw [hs]
      (simp only [SubF, go_sem]; (try simp only [go_sem]); repeat' (first | exact True.intro | with_reducible refine And.intro ?_ ?_ | rfl | omega))
     have hjk : j = y.locs.length := by omega
     subst hjk
     have hjf : decide ((y.locs.length : Int) < y.locs.length) = false := decide_eq_false (by omega)
     rw [List.take_length] at *
     (simp only [go_sem] at hL ⊢)
     (repeat' (first | (with_reducible first | exact True.intro | refine And.intro ?_ ?_ | refine aBl ?_ | (refine aS 16 [] ?_; intro K hK)) | ((with_reducible first | refine aGo ?_ | refine rP Ty_ok mixed 27 [0, 1, 3, 4] [.mid [pe 2, pe 5, pe 6] 0, .one 7] ?_ | refine rP Ty_ok mixed 40 [0, 1, 4, 5] [.mid [pe 2, pe 3, pe 6, pe 7] 0, .one 8, .one 9] ?_); simp only [hg, hq, hjf, go_sem]) | ((with_reducible refine aCd ?_ ?_ (fun hb => ?_) (fun hb => ?_)); (iterate 2 simp only [hg, hq, hjf, go_sem]); all_goals (simp only [hg, hq, hjf, go_sem] at hb; try simp only [bls] at hb)) | ((iterate 6 try ((fail_if_success with_reducible refine hK _ ?_ ?_ ?_); clear hK K)); with_reducible refine hK _ ?_ ?_ ?_; rotate_left; (focus (simp only [hg, hq, hjf, go_sem]; exact rfl)); clear hK K) | (with_reducible refine aGs (fun hg0 => ?_) (fun hg0 => ?_) <;> first | (with_reducible first | exact aF1 hg0 | exact aF2 hg0) | (simp only [hg0, hg, hq, hjf, go_sem])) | (with_reducible refine aNk ?_; intro bnil hnil; try simp only []) | exact aZ | fail))
     all_goals first | omega | skip
     clear hL
     have hAl : (y.locs.map Lt.name).length ≤ 1000 := by rw [List.length_map]; omega
     generalize hA : y.locs.map Lt.name = A at *
     refine awp_loop _ (by simp only [go_sem]; rfl) Nat (fun k => k ≤ y.terms.length) (fun k => [(7, .one (.own 1)), (9, .one (.int .i64 k))]) (fun k H => [.row 9 1 (strsD N), .row 9 1 (strsD (A ++ (y.terms.take k).map Lt.name))]) (fun k => y.terms.length - k) 0 (by omega) ?_ ?_
     ·have e0 : strsD (A ++ (y.terms.take 0).map Lt.name) = strsD A := by simp [strsD]
      rw [e0]
      (simp only [SubF, go_sem]; (try simp only [go_sem]); repeat' (first | exact True.intro | with_reducible refine And.intro ?_ ?_ | rfl | omega))
     rintro j hj L hL
     have hqj : ((j : Nat) : Int).toNat = j := by omega
     have hjm : (A ++ (y.terms.take j).map Lt.name).length ≤ 3000 := by simp only [List.length_append, List.length_map, List.length_take]; omega
     rcases (Decidable.em (j < y.terms.length)) with hjl | hjl
     ·have hjf : decide ((j : Int) < y.terms.length) = true := decide_eq_true (by omega)
      have hs : strsD (A ++ (y.terms.take (j + 1)).map Lt.name) = strsD (A ++ (y.terms.take j).map Lt.name) ++ [[.str (y.terms.getD j Lt.no).name]] := by rw [take_succ_getD y.terms j Lt.no hjl, List.map_append, ← List.append_assoc, List.map_cons, List.map_nil, strsD_snoc]
      generalize A ++ (y.terms.take j).map Lt.name = Q at *
      (simp only [go_sem] at hL ⊢)
      (repeat' (first | (with_reducible first | exact True.intro | refine And.intro ?_ ?_ | refine aBl ?_ | (refine aS 16 [] ?_; intro K hK)) | ((with_reducible first | refine aGo ?_ | refine rP Ty_ok mixed 27 [0, 1, 3, 4] [.mid [pe 2, pe 5, pe 6] 0, .one 7] ?_ | refine rP Ty_ok mixed 40 [0, 1, 4, 5] [.mid [pe 2, pe 3, pe 6, pe 7] 0, .one 8, .one 9] ?_); simp only [hg, hq, hqj, hjf, go_sem]) | ((with_reducible refine aCd ?_ ?_ (fun hb => ?_) (fun hb => ?_)); (iterate 2 simp only [hg, hq, hqj, hjf, go_sem]); all_goals (simp only [hg, hq, hqj, hjf, go_sem] at hb; try simp only [bls] at hb)) | ((iterate 6 try ((fail_if_success with_reducible refine hK _ ?_ ?_ ?_); clear hK K)); with_reducible refine hK _ ?_ ?_ ?_; rotate_left; (focus (simp only [hg, hq, hqj, hjf, go_sem]; exact rfl)); clear hK K) | (with_reducible refine aGs (fun hg0 => ?_) (fun hg0 => ?_) <;> first | (with_reducible first | exact aF1 hg0 | exact aF2 hg0) | (simp only [hg0, hg, hq, hqj, hjf, go_sem])) | (with_reducible refine aNk ?_; intro bnil hnil; try simp only []) | exact aZ | fail))
      all_goals first | omega | skip
      refine hL _ (j + 1) (by omega) ?_ (by omega)
      rw [hs]
      (simp only [SubF, go_sem]; (try simp only [go_sem]); repeat' (first | exact True.intro | with_reducible refine And.intro ?_ ?_ | rfl | omega))
     have hjk : j = y.terms.length := by omega
     subst hjk
     have hjf : decide ((y.terms.length : Int) < y.terms.length) = false := decide_eq_false (by omega)
     rw [List.take_length] at *
     (simp only [go_sem] at hL ⊢)
     (repeat' (first | (with_reducible first | exact True.intro | refine And.intro ?_ ?_ | refine aBl ?_ | (refine aS 16 [] ?_; intro K hK)) | ((with_reducible first | refine aGo ?_ | refine rP Ty_ok mixed 27 [0, 1, 3, 4] [.mid [pe 2, pe 5, pe 6] 0, .one 7] ?_ | refine rP Ty_ok mixed 40 [0, 1, 4, 5] [.mid [pe 2, pe 3, pe 6, pe 7] 0, .one 8, .one 9] ?_); simp only [hg, hq, hjf, go_sem]) | ((with_reducible refine aCd ?_ ?_ (fun hb => ?_) (fun hb => ?_)); (iterate 2 simp only [hg, hq, hjf, go_sem]); all_goals (simp only [hg, hq, hjf, go_sem] at hb; try simp only [bls] at hb)) | ((iterate 6 try ((fail_if_success with_reducible refine hK _ ?_ ?_ ?_); clear hK K)); with_reducible refine hK _ ?_ ?_ ?_; rotate_left; (focus (simp only [hg, hq, hjf, go_sem]; exact rfl)); clear hK K) | (with_reducible refine aGs (fun hg0 => ?_) (fun hg0 => ?_) <;> first | (with_reducible first | exact aF1 hg0 | exact aF2 hg0) | (simp only [hg0, hg, hq, hjf, go_sem])) | (with_reducible refine aNk ?_; intro bnil hnil; try simp only []) | exact aZ | fail))
     all_goals first | omega | skip
     clear hL
     have hU : A ++ y.terms.map Lt.name = usedOf y := by rw [← hA]; rfl
     have hUl : (usedOf y).length ≤ 2000 := by rw [← hU, List.length_append, List.length_map]; omega
     rw [hU] at *
     generalize usedOf y = U at *
     clear hU hA
     obtain ⟨V, hV⟩ : ∃ V, V = wU N [] U := ⟨_, rfl⟩
     rw [← hV] at hres
     refine awp_loopL [(6, .one (.int .i64 i)), (3, .one (.own 0)), (4, .one (.int .i64 l.length)), (2, .one (.bool false)), (0, .one (.list (itD l)))] (Nat × Int) (fun z => z.1 ≤ U.length ∧ V = if z.2 ≠ 0 then z.2 else wU N (U.take z.1) (U.drop z.1)) (fun z => [(5, .one (.int .i64 z.2)), (7, .one (.list (strsD U))), (10, .one (.int .i64 z.1))]) (fun z H => [.row 9 1 (strsD N)]) (fun z => U.length - z.1) (0, 0) ⟨by omega, by simpa using hV⟩ ?_ ?_
     ·(simp only [SubF, go_sem]; (try simp only [go_sem]); repeat' (first | exact True.intro | with_reducible refine And.intro ?_ ?_ | rfl | omega))
     rintro ⟨j, v⟩ ⟨hj, hrv⟩ L hL
     dsimp only at hj hrv
     have hqj : ((j : Nat) : Int).toNat = j := by omega
     rcases (Decidable.em (v = 0)) with hv0 | hv0
     ·subst hv0
      rw [if_neg (by decide)] at hrv
      rcases (Decidable.em (j < U.length)) with hjl | hjl
      ·have hjf : decide ((j : Int) < U.length) = true := decide_eq_true (by omega)
       have hun1 := hun _ (getD_mem U j [] hjl)
       rw [drop_getD U j [] hjl, wU, ← take_succ_getD U j [] hjl] at hrv
       have hj1 : ((j : Int) - 0).toNat = j := by omega
       have i1 := in_c N (U.getD j []) (by omega)
       have i2 := in_c (U.take j) (U.getD j []) (by rw [List.length_take]; omega)
       have htk : (strsD U).take j = strsD (U.take j) := strs_take U j
       have hgu : (strsD U).getD j [] = [.str (U.getD j [])] := by simp [strsD, List.getD, List.getElem?_eq_getElem hjl]
       generalize hud : U.getD j [] = u at *
       rcases (Decidable.em (u ∈ N)) with hm | hm
       ·rw [decide_eq_true hm] at i1
        rw [if_neg (fun hn => hn hm)] at hrv
        rcases (Decidable.em (u ∈ U.take j)) with hm2 | hm2
        ·rw [decide_eq_true hm2] at i2
         rw [if_pos hm2] at hrv
         (simp only [go_sem] at hL ⊢)
         (repeat' (first | (with_reducible first | exact True.intro | refine And.intro ?_ ?_ | refine aBl ?_ | (refine aS 16 [] ?_; intro K hK)) | ((with_reducible first | refine aGo ?_ | refine rP Ty_ok mixed 27 [0, 1, 3, 4] [.mid [pe 2, pe 5, pe 6] 0, .one 7] ?_ | refine rP Ty_ok mixed 40 [0, 1, 4, 5] [.mid [pe 2, pe 3, pe 6, pe 7] 0, .one 8, .one 9] ?_); simp only [hqj, hjf, hud, htk, hgu, go_sem]) | ((with_reducible refine aCd ?_ ?_ (fun hb => ?_) (fun hb => ?_)); (iterate 2 simp only [hqj, hjf, hud, htk, hgu, go_sem]); all_goals (simp only [hqj, hjf, hud, htk, hgu, go_sem] at hb; try simp only [bls] at hb)) | ((iterate 6 try ((fail_if_success with_reducible refine hK _ ?_ ?_ ?_); clear hK K)); with_reducible refine hK _ ?_ ?_ ?_; rotate_left; (focus (simp only [hqj, hjf, hud, htk, hgu, go_sem]; exact rfl)); clear hK K) | ((first | (with_reducible first | refine xA ?_ | refine xD ?_ | refine xO ?_ | refine xR ?_ | refine xG ?_ | refine xH ?_ | refine xM ?_) | ((with_reducible refine gA ?_); refine xA ?_) | ((with_reducible refine gD ?_); refine xD ?_) | ((with_reducible refine gG ?_); refine xG ?_)); simp only [hqj, hjf, hud, htk, hgu, go_sem]) | (with_reducible refine aGs (fun hg0 => ?_) (fun hg0 => ?_) <;> first | (with_reducible first | exact aF1 hg0 | exact aF2 hg0) | (simp only [hg0, hqj, hjf, hud, htk, hgu, go_sem])) | (with_reducible refine aNk ?_; intro bnil hnil; try simp only []) | exact aZ | fail))
         all_goals first | omega | skip
         refine hL _ (j + 1, 8) ⟨by omega, by rw [hrv]; rfl⟩ ?_ (by dsimp only; omega)
         (simp only [SubF, go_sem]; (try simp only [go_sem]); repeat' (first | exact True.intro | with_reducible refine And.intro ?_ ?_ | rfl | omega))
        ·rw [decide_eq_false hm2] at i2
         rw [if_neg hm2] at hrv
         (simp only [go_sem] at hL ⊢)
         (repeat' (first | (with_reducible first | exact True.intro | refine And.intro ?_ ?_ | refine aBl ?_ | (refine aS 16 [] ?_; intro K hK)) | ((with_reducible first | refine aGo ?_ | refine rP Ty_ok mixed 27 [0, 1, 3, 4] [.mid [pe 2, pe 5, pe 6] 0, .one 7] ?_ | refine rP Ty_ok mixed 40 [0, 1, 4, 5] [.mid [pe 2, pe 3, pe 6, pe 7] 0, .one 8, .one 9] ?_); simp only [hqj, hjf, hud, htk, hgu, go_sem]) | ((with_reducible refine aCd ?_ ?_ (fun hb => ?_) (fun hb => ?_)); (iterate 2 simp only [hqj, hjf, hud, htk, hgu, go_sem]); all_goals (simp only [hqj, hjf, hud, htk, hgu, go_sem] at hb; try simp only [bls] at hb)) | ((iterate 6 try ((fail_if_success with_reducible refine hK _ ?_ ?_ ?_); clear hK K)); with_reducible refine hK _ ?_ ?_ ?_; rotate_left; (focus (simp only [hqj, hjf, hud, htk, hgu, go_sem]; exact rfl)); clear hK K) | ((first | (with_reducible first | refine xA ?_ | refine xD ?_ | refine xO ?_ | refine xR ?_ | refine xG ?_ | refine xH ?_ | refine xM ?_) | ((with_reducible refine gA ?_); refine xA ?_) | ((with_reducible refine gD ?_); refine xD ?_) | ((with_reducible refine gG ?_); refine xG ?_)); simp only [hqj, hjf, hud, htk, hgu, go_sem]) | (with_reducible refine aGs (fun hg0 => ?_) (fun hg0 => ?_) <;> first | (with_reducible first | exact aF1 hg0 | exact aF2 hg0) | (simp only [hg0, hqj, hjf, hud, htk, hgu, go_sem])) | (with_reducible refine aNk ?_; intro bnil hnil; try simp only []) | exact aZ | fail))
         all_goals first | omega | skip
         refine hL _ (j + 1, 0) ⟨by omega, by rw [hrv]; rfl⟩ ?_ (by dsimp only; omega)
         (simp only [SubF, go_sem]; (try simp only [go_sem]); repeat' (first | exact True.intro | with_reducible refine And.intro ?_ ?_ | rfl | omega))
       ·rw [decide_eq_false hm] at i1
        rw [if_pos hm] at hrv
        (simp only [go_sem] at hL ⊢)
        (repeat' (first | (with_reducible first | exact True.intro | refine And.intro ?_ ?_ | refine aBl ?_ | (refine aS 16 [] ?_; intro K hK)) | ((with_reducible first | refine aGo ?_ | refine rP Ty_ok mixed 27 [0, 1, 3, 4] [.mid [pe 2, pe 5, pe 6] 0, .one 7] ?_ | refine rP Ty_ok mixed 40 [0, 1, 4, 5] [.mid [pe 2, pe 3, pe 6, pe 7] 0, .one 8, .one 9] ?_); simp only [hqj, hjf, hud, htk, hgu, go_sem]) | ((with_reducible refine aCd ?_ ?_ (fun hb => ?_) (fun hb => ?_)); (iterate 2 simp only [hqj, hjf, hud, htk, hgu, go_sem]); all_goals (simp only [hqj, hjf, hud, htk, hgu, go_sem] at hb; try simp only [bls] at hb)) | ((iterate 6 try ((fail_if_success with_reducible refine hK _ ?_ ?_ ?_); clear hK K)); with_reducible refine hK _ ?_ ?_ ?_; rotate_left; (focus (simp only [hqj, hjf, hud, htk, hgu, go_sem]; exact rfl)); clear hK K) | ((first | (with_reducible first | refine xA ?_ | refine xD ?_ | refine xO ?_ | refine xR ?_ | refine xG ?_ | refine xH ?_ | refine xM ?_) | ((with_reducible refine gA ?_); refine xA ?_) | ((with_reducible refine gD ?_); refine xD ?_) | ((with_reducible refine gG ?_); refine xG ?_)); simp only [hqj, hjf, hud, htk, hgu, go_sem]) | (with_reducible refine aGs (fun hg0 => ?_) (fun hg0 => ?_) <;> first | (with_reducible first | exact aF1 hg0 | exact aF2 hg0) | (simp only [hg0, hqj, hjf, hud, htk, hgu, go_sem])) | (with_reducible refine aNk ?_; intro bnil hnil; try simp only []) | exact aZ | fail))
        all_goals first | omega | skip
        refine hL _ (j + 1, 9) ⟨by omega, by rw [hrv]; rfl⟩ ?_ (by dsimp only; omega)
        (simp only [SubF, go_sem]; (try simp only [go_sem]); repeat' (first | exact True.intro | with_reducible refine And.intro ?_ ?_ | rfl | omega))
      have hjk : j = U.length := by omega
      subst hjk
      have hjf : decide ((U.length : Int) < U.length) = false := decide_eq_false (by omega)
      rw [List.drop_length, wU] at hrv
      rw [hrv, if_neg (by decide)] at hres
      (simp only [go_sem] at hL ⊢)
      (repeat' (first | (with_reducible first | exact True.intro | refine And.intro ?_ ?_ | refine aBl ?_ | (refine aS 16 [] ?_; intro K hK)) | ((with_reducible first | refine aGo ?_ | refine rP Ty_ok mixed 27 [0, 1, 3, 4] [.mid [pe 2, pe 5, pe 6] 0, .one 7] ?_ | refine rP Ty_ok mixed 40 [0, 1, 4, 5] [.mid [pe 2, pe 3, pe 6, pe 7] 0, .one 8, .one 9] ?_); simp only [hq, hjf, go_sem]) | ((with_reducible refine aCd ?_ ?_ (fun hb => ?_) (fun hb => ?_)); (iterate 2 simp only [hq, hjf, go_sem]); all_goals (simp only [hq, hjf, go_sem] at hb; try simp only [bls] at hb)) | ((iterate 6 try ((fail_if_success with_reducible refine hK _ ?_ ?_ ?_); clear hK K)); with_reducible refine hK _ ?_ ?_ ?_; rotate_left; (focus (simp only [hq, hjf, go_sem]; exact rfl)); clear hK K) | (with_reducible refine aGs (fun hg0 => ?_) (fun hg0 => ?_) <;> first | (with_reducible first | exact aF1 hg0 | exact aF2 hg0) | (simp only [hg0, hq, hjf, go_sem])) | (with_reducible refine aNk ?_; intro bnil hnil; try simp only []) | exact aZ | fail))
      all_goals first | omega | skip
      refine hLo _ (i + 1, 0) ⟨by omega, hres⟩ ?_ (by dsimp only; omega)
      (simp only [SubF, go_sem]; (try simp only [go_sem]); repeat' (first | exact True.intro | with_reducible refine And.intro ?_ ?_ | rfl | omega))
     have hvf : (v == 0) = false := by simpa using hv0
     rw [if_pos hv0] at hrv
     rw [hrv, if_pos hv0] at hres
     (simp only [go_sem] at hL ⊢)
     (repeat' (first | (with_reducible first | exact True.intro | refine And.intro ?_ ?_ | refine aBl ?_ | (refine aS 16 [] ?_; intro K hK)) | ((with_reducible first | refine aGo ?_ | refine rP Ty_ok mixed 27 [0, 1, 3, 4] [.mid [pe 2, pe 5, pe 6] 0, .one 7] ?_ | refine rP Ty_ok mixed 40 [0, 1, 4, 5] [.mid [pe 2, pe 3, pe 6, pe 7] 0, .one 8, .one 9] ?_); simp only [hq, hvf, go_sem]) | ((with_reducible refine aCd ?_ ?_ (fun hb => ?_) (fun hb => ?_)); (iterate 2 simp only [hq, hvf, go_sem]); all_goals (simp only [hq, hvf, go_sem] at hb; try simp only [bls] at hb)) | ((iterate 6 try ((fail_if_success with_reducible refine hK _ ?_ ?_ ?_); clear hK K)); with_reducible refine hK _ ?_ ?_ ?_; rotate_left; (focus (simp only [hq, hvf, go_sem]; exact rfl)); clear hK K) | (with_reducible refine aGs (fun hg0 => ?_) (fun hg0 => ?_) <;> first | (with_reducible first | exact aF1 hg0 | exact aF2 hg0) | (simp only [hg0, hq, hvf, go_sem])) | (with_reducible refine aNk ?_; intro bnil hnil; try simp only []) | exact aZ | fail))
     all_goals first | omega | skip
     all_goals
      refine hLo _ (i + 1, v) ⟨by omega, by dsimp only; rw [if_pos hv0]; exact hres⟩ ?_ (by dsimp only; omega)
      (simp only [SubF, go_sem]; (try simp only [go_sem]); repeat' (first | exact True.intro | with_reducible refine And.intro ?_ ?_ | rfl | omega))
    have hik : i = l.length := by omega
    subst hik
    have hlf2 : decide ((l.length : Int) < l.length) = false := decide_eq_false (by omega)
    rw [List.drop_length, wL] at hres
    rw [hres, if_neg (by decide)] at c2
    have hw0 : wL (nameN l) l = 0 := by rw [← hN, ← hW]; exact hres
    have hfc := cell_fits g hf
    have c3 := rising_c [] (cellOf l) hfc
    rw [cell_rising g hw0] at c3
    have c4 := lawitems_c [] (cellOf l) hfc
    rw [lawItems_back g hw0] at c4
    have hml : (l.map (backI l)).length = l.length := List.length_map ..
    generalize hCd : cellOf l = C at *
    simp only [cellD] at c2 c3 c4
    (simp only [go_sem] at hLo ⊢)
    (repeat' (first | (with_reducible first | exact True.intro | refine And.intro ?_ ?_ | refine aBl ?_ | (refine aS 16 [] ?_; intro K hK)) | ((with_reducible first | refine aGo ?_ | refine rP Ty_ok mixed 27 [0, 1, 3, 4] [.mid [pe 2, pe 5, pe 6] 0, .one 7] ?_ | refine rP Ty_ok mixed 40 [0, 1, 4, 5] [.mid [pe 2, pe 3, pe 6, pe 7] 0, .one 8, .one 9] ?_); simp only [hlf2, hml, go_sem]) | ((with_reducible refine aCd ?_ ?_ (fun hb => ?_) (fun hb => ?_)); (iterate 2 simp only [hlf2, hml, go_sem]); all_goals (simp only [hlf2, hml, go_sem] at hb; try simp only [bls] at hb)) | ((iterate 6 try ((fail_if_success with_reducible refine hK _ ?_ ?_ ?_); clear hK K)); with_reducible refine hK _ ?_ ?_ ?_; rotate_left; (focus (simp only [hlf2, hml, go_sem]; exact rfl)); clear hK K) | ((first | (with_reducible first | refine xA ?_ | refine xD ?_ | refine xO ?_ | refine xR ?_ | refine xG ?_ | refine xH ?_ | refine xM ?_) | ((with_reducible refine gA ?_); refine xA ?_) | ((with_reducible refine gD ?_); refine xD ?_) | ((with_reducible refine gG ?_); refine xG ?_)); simp only [hlf2, hml, go_sem]) | (with_reducible refine aGs (fun hg0 => ?_) (fun hg0 => ?_) <;> first | (with_reducible first | exact aF1 hg0 | exact aF2 hg0) | (simp only [hg0, hlf2, hml, go_sem])) | (with_reducible refine aNk ?_; intro bnil hnil; try simp only []) | exact aZ | fail))
    all_goals first | omega | skip
    clear hLo
    refine awp_loop _ (by simp only [go_sem]; rfl) Nat (fun k => k ≤ l.length) (fun k => [(15, .one (.int .i64 k))]) (fun k H => H) (fun k => l.length - k) 0 (by omega) ?_ ?_
    ·(simp only [SubF, go_sem]; (try simp only [go_sem]); repeat' (first | exact True.intro | with_reducible refine And.intro ?_ ?_ | rfl | omega))
    rintro j hj L hL
    have hqj : ((j : Nat) : Int).toNat = j := by omega
    rcases (Decidable.em (j < l.length)) with hjl | hjl
    ·have hjf : decide ((j : Int) < l.length) = true := decide_eq_true (by omega)
     have hg := itD_get hjl [.int .i64 0, .str [], .nil, .int .i64 0, .nil, .nil, .nil, .nil, .int .i64 0]
     have hg2 := itD_get (l := l.map (backI l)) (k := j) (by omega) [.int .i64 0, .str [], .nil, .int .i64 0, .nil, .nil, .nil, .nil, .int .i64 0]
     have hbd : (l.map (backI l)).getD j It.no = backI l (l.getD j It.no) := by simp [List.getD, List.getElem?_eq_getElem hjl]
     rw [hbd] at hg2
     have hmem := getD_mem l j It.no hjl
     have hsh := back_shuf g hw0 hmem
     have c5 := shuffled_c _ _ (shuf_fits (hf.it _ hmem) hsh) hsh
     generalize l.getD j It.no = y at *
     generalize backI l y = z at *
     simp only [It.d] at hg hg2 c5
     (simp only [go_sem] at hL ⊢)
     (repeat' (first | (with_reducible first | exact True.intro | refine And.intro ?_ ?_ | refine aBl ?_ | (refine aS 16 [] ?_; intro K hK)) | ((with_reducible first | refine aGo ?_ | refine rP Ty_ok mixed 27 [0, 1, 3, 4] [.mid [pe 2, pe 5, pe 6] 0, .one 7] ?_ | refine rP Ty_ok mixed 40 [0, 1, 4, 5] [.mid [pe 2, pe 3, pe 6, pe 7] 0, .one 8, .one 9] ?_); simp only [hqj, hjf, hg, hg2, go_sem]) | ((with_reducible refine aCd ?_ ?_ (fun hb => ?_) (fun hb => ?_)); (iterate 2 simp only [hqj, hjf, hg, hg2, go_sem]); all_goals (simp only [hqj, hjf, hg, hg2, go_sem] at hb; try simp only [bls] at hb)) | ((iterate 6 try ((fail_if_success with_reducible refine hK _ ?_ ?_ ?_); clear hK K)); with_reducible refine hK _ ?_ ?_ ?_; rotate_left; (focus (simp only [hqj, hjf, hg, hg2, go_sem]; exact rfl)); clear hK K) | ((first | (with_reducible first | refine xA ?_ | refine xD ?_ | refine xO ?_ | refine xR ?_ | refine xG ?_ | refine xH ?_ | refine xM ?_) | ((with_reducible refine gA ?_); refine xA ?_) | ((with_reducible refine gD ?_); refine xD ?_) | ((with_reducible refine gG ?_); refine xG ?_)); simp only [hqj, hjf, hg, hg2, go_sem]) | (with_reducible refine aGs (fun hg0 => ?_) (fun hg0 => ?_) <;> first | (with_reducible first | exact aF1 hg0 | exact aF2 hg0) | (simp only [hg0, hqj, hjf, hg, hg2, go_sem])) | (with_reducible refine aNk ?_; intro bnil hnil; try simp only []) | exact aZ | fail))
     all_goals first | omega | skip
     exact hL _ (j + 1) (by omega) (by (simp only [SubF, go_sem]; (try simp only [go_sem]); repeat' (first | exact True.intro | with_reducible refine And.intro ?_ ?_ | rfl | omega))) (by omega)
    have hjk : j = l.length := by omega
    subst hjk
    have hjf : decide ((l.length : Int) < l.length) = false := decide_eq_false (by omega)
    (simp only [go_sem] at hL ⊢)
    (repeat' (first | (with_reducible first | exact True.intro | refine And.intro ?_ ?_ | refine aBl ?_ | (refine aS 16 [] ?_; intro K hK)) | ((with_reducible first | refine aGo ?_ | refine rP Ty_ok mixed 27 [0, 1, 3, 4] [.mid [pe 2, pe 5, pe 6] 0, .one 7] ?_ | refine rP Ty_ok mixed 40 [0, 1, 4, 5] [.mid [pe 2, pe 3, pe 6, pe 7] 0, .one 8, .one 9] ?_); simp only [hjf, go_sem]) | ((with_reducible refine aCd ?_ ?_ (fun hb => ?_) (fun hb => ?_)); (iterate 2 simp only [hjf, go_sem]); all_goals (simp only [hjf, go_sem] at hb; try simp only [bls] at hb)) | ((iterate 6 try ((fail_if_success with_reducible refine hK _ ?_ ?_ ?_); clear hK K)); with_reducible refine hK _ ?_ ?_ ?_; rotate_left; (focus (simp only [hjf, go_sem]; exact rfl)); clear hK K) | (with_reducible refine aGs (fun hg0 => ?_) (fun hg0 => ?_) <;> first | (with_reducible first | exact aF1 hg0 | exact aF2 hg0) | (simp only [hg0, hjf, go_sem])) | (with_reducible refine aNk ?_; intro bnil hnil; try simp only []) | exact aZ | fail))
    all_goals first | omega | skip
   have hwf : (w == 0) = false := by simpa using hw
   rw [if_pos hw] at hres
   subst hres
   rw [if_pos hw] at c2
   simp only [cellD, show CE.zero = ⟨[], [], [], []⟩ from rfl, show niD [] = [] from rfl, show exD [] = [] from rfl, show cnD [] = [] from rfl] at c2
   (simp only [go_sem] at hLo ⊢)
   (repeat' (first | (with_reducible first | exact True.intro | refine And.intro ?_ ?_ | refine aBl ?_ | (refine aS 16 [] ?_; intro K hK)) | ((with_reducible first | refine aGo ?_ | refine rP Ty_ok mixed 27 [0, 1, 3, 4] [.mid [pe 2, pe 5, pe 6] 0, .one 7] ?_ | refine rP Ty_ok mixed 40 [0, 1, 4, 5] [.mid [pe 2, pe 3, pe 6, pe 7] 0, .one 8, .one 9] ?_); simp only [hwf, go_sem]) | ((with_reducible refine aCd ?_ ?_ (fun hb => ?_) (fun hb => ?_)); (iterate 2 simp only [hwf, go_sem]); all_goals (simp only [hwf, go_sem] at hb; try simp only [bls] at hb)) | ((iterate 6 try ((fail_if_success with_reducible refine hK _ ?_ ?_ ?_); clear hK K)); with_reducible refine hK _ ?_ ?_ ?_; rotate_left; (focus (simp only [hwf, go_sem]; exact rfl)); clear hK K) | ((first | (with_reducible first | refine xA ?_ | refine xD ?_ | refine xO ?_ | refine xR ?_ | refine xG ?_ | refine xH ?_ | refine xM ?_) | ((with_reducible refine gA ?_); refine xA ?_) | ((with_reducible refine gD ?_); refine xD ?_) | ((with_reducible refine gG ?_); refine xG ?_)); simp only [hwf, go_sem]) | (with_reducible refine aGs (fun hg0 => ?_) (fun hg0 => ?_) <;> first | (with_reducible first | exact aF1 hg0 | exact aF2 hg0) | (simp only [hg0, hwf, go_sem])) | (with_reducible refine aNk ?_; intro bnil hnil; try simp only []) | exact aZ | fail))
   all_goals first | omega | skip
  ·have h3' : (chkL l == 0) = false := by simpa using h3
   generalize chkL l = e at *
   (refine ACalls.of_body Ty_ok mixed Tryz.func5 rfl (by kernel_rfl) Tryz.ntmps5 (by simp) (congrArg Array.toList Tryz.results5) ?_)
   simp only [slotsOf]
   (repeat' (first | (with_reducible first | exact True.intro | refine And.intro ?_ ?_ | refine aBl ?_ | (refine aS 16 [] ?_; intro K hK)) | ((with_reducible first | refine aGo ?_ | refine rP Ty_ok mixed 27 [0, 1, 3, 4] [.mid [pe 2, pe 5, pe 6] 0, .one 7] ?_ | refine rP Ty_ok mixed 40 [0, 1, 4, 5] [.mid [pe 2, pe 3, pe 6, pe 7] 0, .one 8, .one 9] ?_); simp only [h3', go_sem]) | ((with_reducible refine aCd ?_ ?_ (fun hb => ?_) (fun hb => ?_)); (iterate 2 simp only [h3', go_sem]); all_goals (simp only [h3', go_sem] at hb; try simp only [bls] at hb)) | ((iterate 6 try ((fail_if_success with_reducible refine hK _ ?_ ?_ ?_); clear hK K)); with_reducible refine hK _ ?_ ?_ ?_; rotate_left; (focus (simp only [h3', go_sem]; exact rfl)); clear hK K) | ((first | (with_reducible first | refine xA ?_ | refine xD ?_ | refine xO ?_ | refine xR ?_ | refine xG ?_ | refine xH ?_ | refine xM ?_) | ((with_reducible refine gA ?_); refine xA ?_) | ((with_reducible refine gD ?_); refine xD ?_) | ((with_reducible refine gG ?_); refine xG ?_)); simp only [h3', go_sem]) | (with_reducible refine aGs (fun hg0 => ?_) (fun hg0 => ?_) <;> first | (with_reducible first | exact aF1 hg0 | exact aF2 hg0) | (simp only [hg0, h3', go_sem])) | (with_reducible refine aNk ?_; intro bnil hnil; try simp only []) | exact aZ | fail))
   all_goals first | omega | skip
 ·rw [Bool.eq_false_iff.2 h1] at f1
  have hE0 : False → ACalls Tryz.prog 14 [.one (.list (itD l))] (.one (.int .i64 0)) [] := fun h => h.elim
  (refine ACalls.of_body Ty_ok mixed Tryz.func5 rfl (by kernel_rfl) Tryz.ntmps5 (by simp) (congrArg Array.toList Tryz.results5) ?_)
  simp only [slotsOf]
  (repeat' (first | (with_reducible first | exact True.intro | refine And.intro ?_ ?_ | refine aBl ?_ | (refine aS 16 [] ?_; intro K hK)) | ((with_reducible first | refine aGo ?_ | refine rP Ty_ok mixed 27 [0, 1, 3, 4] [.mid [pe 2, pe 5, pe 6] 0, .one 7] ?_ | refine rP Ty_ok mixed 40 [0, 1, 4, 5] [.mid [pe 2, pe 3, pe 6, pe 7] 0, .one 8, .one 9] ?_); simp only [go_sem]) | ((with_reducible refine aCd ?_ ?_ (fun hb => ?_) (fun hb => ?_)); (iterate 2 simp only [go_sem]); all_goals (simp only [go_sem] at hb; try simp only [bls] at hb)) | ((iterate 6 try ((fail_if_success with_reducible refine hK _ ?_ ?_ ?_); clear hK K)); with_reducible refine hK _ ?_ ?_ ?_; rotate_left; (focus (simp only [go_sem]; exact rfl)); clear hK K) | ((first | (with_reducible first | refine xA ?_ | refine xD ?_ | refine xO ?_ | refine xR ?_ | refine xG ?_ | refine xH ?_ | refine xM ?_ | refine cA (hE0 (by simp at hg)) ?_ | refine cD (hE0 (by simp at hg)) ?_ | refine cO (hE0 (by simp at hg)) ?_ | refine cR (hE0 (by simp at hg)) ?_ | refine cG (fun hg => (hE0 (by simp at hg))) ?_ | refine cH (fun hg => (hE0 (by simp at hg))) ?_ | refine cM (fun hg => (hE0 (by simp at hg))) ?_) | ((with_reducible refine gA ?_); refine xA ?_) | ((with_reducible refine gD ?_); refine xD ?_) | ((with_reducible refine gG ?_); refine xG ?_) | ((with_reducible refine gA ?_); refine cA (hE0 (by simp at hg)) ?_) | ((with_reducible refine gD ?_); refine cD (hE0 (by simp at hg)) ?_) | ((with_reducible refine gG ?_); refine cG (fun hg => (hE0 (by simp at hg))) ?_)); simp only [go_sem]) | (with_reducible refine aGs (fun hg0 => ?_) (fun hg0 => ?_) <;> first | (with_reducible first | exact aF1 hg0 | exact aF2 hg0) | (simp only [hg0, go_sem])) | (with_reducible refine aNk ?_; intro bnil hnil; try simp only []) | exact aZ | fail))
  all_goals first | omega | skip
end Go.Proofs.YtkjnjkdcpbgabaaGreatDoor
