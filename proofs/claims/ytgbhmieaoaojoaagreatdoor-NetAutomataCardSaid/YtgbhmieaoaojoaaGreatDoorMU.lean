/-
 The law NetAutomata.
-/
import Derived.Test.YtgbhmieaoaojoaaGreatDoorMT
import Derived.Test.YtgbhmieaoaojoaaGreatDoorSO
set_option linter.unusedSimpArgs false
set_option linter.unusedVariables false
namespace Go.Proofs.YtgbhmieaoaojoaaGreatDoor
open Go.Eng Go.RowKit
structure NaIn (n : Net) (mk : List (List Int)) (nd : List SN) (av : Int) (ed : List Edg) (aa : Aut) (ms : List (List Int)) (fe : Int) : Prop where
 bad : mksE n mk ≠ 0 → aa = Aut.zero ∧ ms = [] ∧ fe = mksE n mk
 pump : mksE n mk = 0 → 0 ≤ av → aa = Aut.zero ∧ ms = [] ∧ fe = 23
 choice : mksE n mk = 0 → av < 0 → ¬ Cons n ed → aa = Aut.zero ∧ ms = [] ∧ fe = 18
 good : mksE n mk = 0 → av < 0 → Cons n ed → fe = 0 ∧ aa = autA n nd mk ∧ ms = autM n nd ∧ AutOk n nd ∧ ed = grE n nd
 evs : ∀ x ∈ ed, 0 ≤ x.ev ∧ x.ev < n.trs.length
 few : ed.length ≤ 1000
theorem naIn_of {n : Net} (hn : NetOk n) (mk : List (List Int)) (hs : ∀ e, searchF n 60 ≠ .err e) : ∃ nd av ed aa ms fe, lsR (searchF n 60) = .tup [.one (.list (snsD nd)), .one (.int .i64 av), .one (.list (edgsD ed)), .one (.int .i64 0)] ∧
  auR (autF n mk) = .tup [.agg aa.d, .one (.list (wordsD ms)), .one (.int .i64 fe)] ∧ NaIn n mk nd av ed aa ms fe ∧ -1 ≤ av ∧ av ≤ 100000 ∧ nd.length ≤ 100000 := by
 have hlim := search_lim hs
 have hE := netE_of hn
 have hA0 : autF n mk = auG n mk (mksE n mk) (bndF n) := by rw [autF, if_neg (by omega)]
 cases hS : searchF n 60 with
 | err e => exact absurd hS (hs e)
 | pump nd ed p =>
  rw [hS] at hlim
  have hB : bndF n = .inl 23 := by rw [bndF, if_neg (by omega), hlim]
  obtain ⟨_, hl, _, _⟩ := (search_ok n hn).1 nd ed p hlim
  rw [hB] at hA0
  refine ⟨nd, (nd.length : Int) - 1, [], Aut.zero, [], if mksE n mk ≠ 0 then mksE n mk else 23, rfl, ?_, ⟨fun h => ⟨rfl, rfl, if_pos h⟩, fun h _ => ⟨rfl, rfl, if_neg (by omega)⟩, fun _ _ hc => absurd (fun x hx => by simp at hx) hc, fun h h2 _ => ?_, fun x hx => by simp at hx, by simp⟩, by omega, by omega, by omega⟩
  ·rw [hA0, auG]
   split <;> rfl
  ·exfalso
   have hne := ((search_ok n hn).1 nd ed p hlim).2.2.2
   have := List.length_pos_iff.2 hne
   omega
 | cont nd ed =>
  rw [hS] at hlim
  have hB : bndF n = .inr (nd, ed) := by rw [bndF, if_neg (by omega), hlim]
  obtain ⟨hF, hEd⟩ := bnd_found hB
  have hle := hF.le
  have hel : ed.length ≤ 1000 := by
   have h1 := outer_edges (n := n) (lim := 60) 62 0 (show outerF n 60 62 0 [⟨n.init, -1, -1⟩] [] = .cont nd ed from hS)
   have h2 : n.trs.length * 62 ≤ 10 * 62 := Nat.mul_le_mul_right _ hn.trs
   simp only [List.length_nil] at h1
   omega
  have hev : ∀ x ∈ ed, 0 ≤ x.ev ∧ x.ev < n.trs.length := fun x hx => (grE_ok hF x (hEd ▸ hx)).2.1
  rw [hB] at hA0
  by_cases hM : mksE n mk = 0
  ·cases hT : toF n ed [] with
   | none =>
    have hc := toF_none hT
    refine ⟨nd, -1, ed, Aut.zero, [], 18, rfl, ?_, ⟨fun h => absurd hM h, fun _ h => by omega, fun _ _ _ => ⟨rfl, rfl, rfl⟩, fun _ _ h => absurd h hc, hev, hel⟩, by omega, by omega, by omega⟩
    rw [hA0, auG, if_neg (by omega), hT]; rfl
   | some T =>
    have hc := (toF_some hT).2
    refine ⟨nd, -1, ed, autA n nd mk, autM n nd, 0, rfl, ?_, ⟨fun h => absurd hM h, fun _ h => by omega, fun _ _ h => absurd hc h, fun _ _ _ => ⟨rfl, rfl, rfl, ⟨hF, hEd ▸ hc⟩, hEd⟩, hev, hel⟩, by omega, by omega, by omega⟩
    rw [hA0, auG, if_neg (by omega), hT]; rfl
  ·refine ⟨nd, -1, ed, Aut.zero, [], mksE n mk, rfl, ?_, ⟨fun _ => ⟨rfl, rfl, rfl⟩, fun h => absurd h hM, fun h => absurd h hM, fun h => absurd h hM, hev, hel⟩, by omega, by omega, by omega⟩
   rw [hA0, auG, if_pos hM]; rfl
theorem few_cons (n : Net) (es : List Edg) (i : Nat) : rowC n es i 0 = false := rfl
set_option maxRecDepth 20000 in
set_option maxHeartbeats 64000000 in
theorem Automata_c (s : Nat → Int) (hs : Bytes s) (mk : List (List Int)) (hmn : mk.length ≤ 9223372036854775807) (hmz : ∀ m ∈ mk, m.length ≤ 9223372036854775807) :
  ACalls Tryz.prog 5 [.agg (bytesD 37 s), .one (.list (wordsD mk))] (.one (.bool true)) [] := by
 have hk := known47_c
 have hM := Make_c s hs
 have hN := netOk_of (makeNet_ok s hs)
 have h0 := make_ne s
 generalize makeNet s = n at hM hN h0
 have hi10 := hN.init
 have ht10 := hN.trs
 have hfit := hN.fits
 have hSe := lawSearch_c n hN
 have her := (outer_err n 60 62 0 [⟨n.init, -1, -1⟩] []).1
 rw [show outerF n 60 62 0 [⟨n.init, -1, -1⟩] [] = searchF n 60 from rfl] at her
 simp only [Net.d] at hM hSe
 by_cases hm4 : mk.length ≤ 4
 ·(refine ACalls.of_body Ty_ok mixed Tryz.func5 rfl (by kernel_rfl) Tryz.ntmps5 (by simp) (congrArg Array.toList Tryz.results5) ?_)
  simp only [slotsOf]
  (repeat' (first | (with_reducible first | exact True.intro | refine And.intro ?_ ?_ | refine aBl ?_ | (refine aS 18 [] ?_; intro K hK)) | ((with_reducible first | refine aGo ?_ | refine rP Ty_ok mixed 17 [1, 2] [.mid [pe 0, pe 3, pe 4] 0, .one 5, .one 6] ?_ | refine rD (id := 27) ?_); simp only [go_sem]) | ((with_reducible refine aCd ?_ ?_ (fun hb => ?_) (fun hb => ?_)); (iterate 2 simp only [go_sem]); all_goals (simp only [go_sem] at hb; try simp only [bls] at hb)) | ((iterate 6 try ((fail_if_success with_reducible refine hK _ ?_ ?_ ?_); clear hK K)); with_reducible refine hK _ ?_ ?_ ?_; rotate_left; (focus (simp only [go_sem]; exact rfl)); clear hK K) | ((first | (with_reducible first | refine xA ?_ | refine xD ?_ | refine xO ?_ | refine xR ?_ | refine xG ?_ | refine xH ?_ | refine xM ?_) | ((with_reducible refine gA ?_); refine xA ?_) | ((with_reducible refine gD ?_); refine xD ?_) | ((with_reducible refine gG ?_); refine xG ?_)); simp only [go_sem]) | (with_reducible refine aGs (fun hg0 => ?_) (fun hg0 => ?_) <;> first | (with_reducible first | exact aF1 hg0 | exact aF2 hg0) | (simp only [hg0, go_sem])) | (with_reducible refine aNk ?_; intro bnil hnil; try simp only []) | exact aZ | fail))
  all_goals first | omega | skip
  refine awp_loop _ (by simp only [go_sem]; rfl) Nat (fun k => k ≤ mk.length ∧ ∀ m ∈ mk.take k, m.length ≤ 6) (fun k => [(5, .one (.int .i64 k))]) (fun _ H => H) (fun k => mk.length - k) 0 ⟨by omega, fun m hm => by simp at hm⟩ ?_ ?_
  ·(simp only [SubF, go_sem]; (try simp only [go_sem]); repeat' (first | exact True.intro | with_reducible refine And.intro ?_ ?_ | rfl | omega))
  rintro k ⟨hkk, hsm⟩ L hL
  have hq : ((k : Nat) : Int).toNat = k := by omega
  by_cases hkl : k < mk.length
  ·have a1 := words_at (l := mk) hkl [.nil]
   have a2 := words_at (l := mk) hkl []
   have htk := take_succ_getD mk k [] hkl
   generalize mk.getD k [] = m at *
   (simp only [go_sem] at hL ⊢)
   (repeat' (first | (with_reducible first | exact True.intro | refine And.intro ?_ ?_ | refine aBl ?_ | (refine aS 18 [] ?_; intro K hK)) | ((with_reducible first | refine aGo ?_ | refine rP Ty_ok mixed 17 [1, 2] [.mid [pe 0, pe 3, pe 4] 0, .one 5, .one 6] ?_ | refine rD (id := 27) ?_); simp only [hq, a1, a2, go_sem]) | ((with_reducible refine aCd ?_ ?_ (fun hb => ?_) (fun hb => ?_)); (iterate 2 simp only [hq, a1, a2, go_sem]); all_goals (simp only [hq, a1, a2, go_sem] at hb; try simp only [bls] at hb)) | ((iterate 6 try ((fail_if_success with_reducible refine hK _ ?_ ?_ ?_); clear hK K)); with_reducible refine hK _ ?_ ?_ ?_; rotate_left; (focus (simp only [hq, a1, a2, go_sem]; exact rfl)); clear hK K) | (with_reducible refine aGs (fun hg0 => ?_) (fun hg0 => ?_) <;> first | (with_reducible first | exact aF1 hg0 | exact aF2 hg0) | (simp only [hg0, hq, a1, a2, go_sem])) | (with_reducible refine aNk ?_; intro bnil hnil; try simp only []) | exact aZ | fail))
   all_goals first | omega | skip
   exact hL _ (k + 1) ⟨by omega, fun x hx => by
    rw [htk] at hx
    rcases List.mem_append.1 hx with hx | hx
    ·exact hsm x hx
    ·rw [List.mem_singleton.1 hx]; omega⟩ (by (simp only [SubF, go_sem]; (try simp only [go_sem]); repeat' (first | exact True.intro | with_reducible refine And.intro ?_ ?_ | rfl | omega))) (by omega)
  have hkl2 : k = mk.length := by omega
  subst hkl2
  rw [List.take_length] at hsm
  (simp only [go_sem] at hL ⊢)
  by_cases herr : ∃ e, searchF n 60 = .err e
  ·obtain ⟨e, he⟩ := herr
   have he3 := her e he
   subst he3
   rw [he] at hSe
   simp only [lsR] at hSe
   (repeat' (first | (with_reducible first | exact True.intro | refine And.intro ?_ ?_ | refine aBl ?_ | (refine aS 18 [] ?_; intro K hK)) | ((with_reducible first | refine aGo ?_ | refine rP Ty_ok mixed 17 [1, 2] [.mid [pe 0, pe 3, pe 4] 0, .one 5, .one 6] ?_ | refine rD (id := 27) ?_); simp only [go_sem]) | ((with_reducible refine aCd ?_ ?_ (fun hb => ?_) (fun hb => ?_)); (iterate 2 simp only [go_sem]); all_goals (simp only [go_sem] at hb; try simp only [bls] at hb)) | ((iterate 6 try ((fail_if_success with_reducible refine hK _ ?_ ?_ ?_); clear hK K)); with_reducible refine hK _ ?_ ?_ ?_; rotate_left; (focus (simp only [go_sem]; exact rfl)); clear hK K) | ((first | (with_reducible first | refine xA ?_ | refine xD ?_ | refine xO ?_ | refine xR ?_ | refine xG ?_ | refine xH ?_ | refine xM ?_) | ((with_reducible refine gA ?_); refine xA ?_) | ((with_reducible refine gD ?_); refine xD ?_) | ((with_reducible refine gG ?_); refine xG ?_)); simp only [go_sem]) | (with_reducible refine aGs (fun hg0 => ?_) (fun hg0 => ?_) <;> first | (with_reducible first | exact aF1 hg0 | exact aF2 hg0) | (simp only [hg0, go_sem])) | (with_reducible refine aNk ?_; intro bnil hnil; try simp only []) | exact aZ | fail))
   all_goals first | omega | skip
  ·obtain ⟨nd, av, ed, aa, ms, fe, e1, e2, hI, hav1, hav2, hndl⟩ := naIn_of hN mk (fun e h => herr ⟨e, h⟩)
   have hAu := Automaton_c n mk hfit h0 (by omega) (fun m hm => by have := hsm m hm; omega)
   rw [e1] at hSe
   rw [e2] at hAu
   have hbad := hI.bad
   have hpump := hI.pump
   have hcho := hI.choice
   have hgood := hI.good
   have hevr := hI.evs
   have hfew := hI.few
   generalize hMM : mksE n mk = M at *
   simp only [Net.d, Aut.d] at hAu
   (repeat' (first | (with_reducible first | exact True.intro | refine And.intro ?_ ?_ | refine aBl ?_ | (refine aS 18 [] ?_; intro K hK)) | ((with_reducible first | refine aGo ?_ | refine rP Ty_ok mixed 17 [1, 2] [.mid [pe 0, pe 3, pe 4] 0, .one 5, .one 6] ?_ | refine rD (id := 27) ?_); simp only [go_sem]) | ((with_reducible refine aCd ?_ ?_ (fun hb => ?_) (fun hb => ?_)); (iterate 2 simp only [go_sem]); all_goals (simp only [go_sem] at hb; try simp only [bls] at hb)) | ((iterate 6 try ((fail_if_success with_reducible refine hK _ ?_ ?_ ?_); clear hK K)); with_reducible refine hK _ ?_ ?_ ?_; rotate_left; (focus (simp only [go_sem]; exact rfl)); clear hK K) | ((first | (with_reducible first | refine xA ?_ | refine xD ?_ | refine xO ?_ | refine xR ?_ | refine xG ?_ | refine xH ?_ | refine xM ?_) | ((with_reducible refine gA ?_); refine xA ?_) | ((with_reducible refine gD ?_); refine xD ?_) | ((with_reducible refine gG ?_); refine xG ?_)); simp only [go_sem]) | (with_reducible refine aGs (fun hg0 => ?_) (fun hg0 => ?_) <;> first | (with_reducible first | exact aF1 hg0 | exact aF2 hg0) | (simp only [hg0, go_sem])) | (with_reducible refine aNk ?_; intro bnil hnil; try simp only []) | exact aZ | fail))
   all_goals first | omega | skip
   refine awp_loop _ (by simp only [go_sem]; rfl) (Nat × Int) (fun t => t.1 ≤ mk.length ∧ (t.2 = 0 ∧ mksE n (mk.drop t.1) = M ∨ t.2 ≠ 0 ∧ M = t.2)) (fun t => [(14, .one (.int .i64 t.2)), (15, .one (.int .i64 t.1))]) (fun _ H => H) (fun t => mk.length - t.1) (0, 0) ⟨by simp only; omega, .inl ⟨rfl, by simpa using hMM⟩⟩ ?_ ?_
   ·(simp only [SubF, go_sem]; (try simp only [go_sem]); repeat' (first | exact True.intro | with_reducible refine And.intro ?_ ?_ | rfl | omega))
   rintro ⟨i, w⟩ ⟨hi, hw⟩ L2 hL2
   simp only at hi hw
   have hq : ((i : Nat) : Int).toNat = i := by omega
   by_cases hgo : i < mk.length ∧ w = 0
   ·obtain ⟨hil, rfl⟩ := hgo
    have hw2 : mksE n (mk.drop i) = M := by
     rcases hw with ⟨_, h⟩ | ⟨h, _⟩
     ·exact h
     ·exact absurd rfl h
    have a1 := words_at (l := mk) hil [.nil]
    have a2 := words_at (l := mk) hil []
    have hm6 := hsm _ (getD_mem mk i [] hil)
    rw [drop_getD mk i [] hil, mksE] at hw2
    generalize mk.getD i [] = m at *
    have hCM := CheckMarking_c n m hfit (by omega)
    simp only [Net.d] at hCM
    (simp only [go_sem] at hL2 ⊢)
    (repeat' (first | (with_reducible first | exact True.intro | refine And.intro ?_ ?_ | refine aBl ?_ | (refine aS 18 [] ?_; intro K hK)) | ((with_reducible first | refine aGo ?_ | refine rP Ty_ok mixed 17 [1, 2] [.mid [pe 0, pe 3, pe 4] 0, .one 5, .one 6] ?_ | refine rD (id := 27) ?_); simp only [hq, a1, a2, go_sem]) | ((with_reducible refine aCd ?_ ?_ (fun hb => ?_) (fun hb => ?_)); (iterate 2 simp only [hq, a1, a2, go_sem]); all_goals (simp only [hq, a1, a2, go_sem] at hb; try simp only [bls] at hb)) | ((iterate 6 try ((fail_if_success with_reducible refine hK _ ?_ ?_ ?_); clear hK K)); with_reducible refine hK _ ?_ ?_ ?_; rotate_left; (focus (simp only [hq, a1, a2, go_sem]; exact rfl)); clear hK K) | ((first | (with_reducible first | refine xA ?_ | refine xD ?_ | refine xO ?_ | refine xR ?_ | refine xG ?_ | refine xH ?_ | refine xM ?_) | ((with_reducible refine gA ?_); refine xA ?_) | ((with_reducible refine gD ?_); refine xD ?_) | ((with_reducible refine gG ?_); refine xG ?_)); simp only [hq, a1, a2, go_sem]) | (with_reducible refine aGs (fun hg0 => ?_) (fun hg0 => ?_) <;> first | (with_reducible first | exact aF1 hg0 | exact aF2 hg0) | (simp only [hg0, hq, a1, a2, go_sem])) | (with_reducible refine aNk ?_; intro bnil hnil; try simp only []) | exact aZ | fail))
    all_goals first | omega | skip
    refine hL2 _ (i + 1, markE n m) ⟨by simp only; omega, ?_⟩ (by (simp only [SubF, go_sem]; (try simp only [go_sem]); repeat' (first | exact True.intro | with_reducible refine And.intro ?_ ?_ | rfl | omega))) (by simp only; omega)
    simp only
    by_cases hm0 : markE n m = 0
    ·rw [if_neg (by omega)] at hw2
     exact .inl ⟨hm0, hw2⟩
    ·rw [if_pos hm0] at hw2
     exact .inr ⟨hm0, hw2.symm⟩
   have hwM : w = M := by
    rcases hw with ⟨h, h2⟩ | ⟨_, h⟩
    ·have hil : i = mk.length := by omega
     subst hil
     rw [List.drop_length, mksE] at h2
     omega
    ·exact h.symm
   subst hwM
   clear hw
   by_cases hw0 : w = 0
   ·subst hw0
    have hil : i = mk.length := by omega
    subst hil
    by_cases hav : 0 ≤ av
    ·obtain ⟨rfl, rfl, rfl⟩ := hpump rfl hav
     simp only [Aut.zero, wordsD_nil] at *
     (simp only [go_sem] at hL2 ⊢)
     (repeat' (first | (with_reducible first | exact True.intro | refine And.intro ?_ ?_ | refine aBl ?_ | (refine aS 18 [] ?_; intro K hK)) | ((with_reducible first | refine aGo ?_ | refine rP Ty_ok mixed 17 [1, 2] [.mid [pe 0, pe 3, pe 4] 0, .one 5, .one 6] ?_ | refine rD (id := 27) ?_); simp only [go_sem]) | ((with_reducible refine aCd ?_ ?_ (fun hb => ?_) (fun hb => ?_)); (iterate 2 simp only [go_sem]); all_goals (simp only [go_sem] at hb; try simp only [bls] at hb)) | ((iterate 6 try ((fail_if_success with_reducible refine hK _ ?_ ?_ ?_); clear hK K)); with_reducible refine hK _ ?_ ?_ ?_; rotate_left; (focus (simp only [go_sem]; exact rfl)); clear hK K) | (with_reducible refine aGs (fun hg0 => ?_) (fun hg0 => ?_) <;> first | (with_reducible first | exact aF1 hg0 | exact aF2 hg0) | (simp only [hg0, go_sem])) | (with_reducible refine aNk ?_; intro bnil hnil; try simp only []) | exact aZ | fail))
     all_goals first | omega | skip
     all_goals simp
    ·(simp only [go_sem] at hL2 ⊢)
     (repeat' (first | (with_reducible first | exact True.intro | refine And.intro ?_ ?_ | refine aBl ?_ | (refine aS 18 [] ?_; intro K hK)) | ((with_reducible first | refine aGo ?_ | refine rP Ty_ok mixed 17 [1, 2] [.mid [pe 0, pe 3, pe 4] 0, .one 5, .one 6] ?_ | refine rD (id := 27) ?_); simp only [go_sem]) | ((with_reducible refine aCd ?_ ?_ (fun hb => ?_) (fun hb => ?_)); (iterate 2 simp only [go_sem]); all_goals (simp only [go_sem] at hb; try simp only [bls] at hb)) | ((iterate 6 try ((fail_if_success with_reducible refine hK _ ?_ ?_ ?_); clear hK K)); with_reducible refine hK _ ?_ ?_ ?_; rotate_left; (focus (simp only [go_sem]; exact rfl)); clear hK K) | (with_reducible refine aGs (fun hg0 => ?_) (fun hg0 => ?_) <;> first | (with_reducible first | exact aF1 hg0 | exact aF2 hg0) | (simp only [hg0, go_sem])) | (with_reducible refine aNk ?_; intro bnil hnil; try simp only []) | exact aZ | fail))
     all_goals first | omega | skip
     refine awp_loop _ (by simp only [go_sem]; rfl) Nat (fun k => k ≤ ed.length) (fun k => [(14, .one (.int .i64 (if allF n ed k = true then 18 else 0))), (16, .one (.int .i64 k))]) (fun _ H => H) (fun k => ed.length - k) 0 (by omega) ?_ ?_
     ·(simp only [SubF, show allF n ed 0 = false from rfl, Bool.false_eq_true, if_false, go_sem]; (try simp only [show allF n ed 0 = false from rfl, Bool.false_eq_true, if_false, go_sem]); repeat' (first | exact True.intro | with_reducible refine And.intro ?_ ?_ | rfl | omega))
     clear hL2
     rintro i hie L2 hL2
     have hq : ((i : Nat) : Int).toNat = i := by omega
     by_cases hil : i < ed.length
     ·have hFs := allF_succ (n := n) ed i
      (simp only [go_sem] at hL2 ⊢)
      (repeat' (first | (with_reducible first | exact True.intro | refine And.intro ?_ ?_ | refine aBl ?_ | (refine aS 18 [] ?_; intro K hK)) | ((with_reducible first | refine aGo ?_ | refine rP Ty_ok mixed 17 [1, 2] [.mid [pe 0, pe 3, pe 4] 0, .one 5, .one 6] ?_ | refine rD (id := 27) ?_); simp only [hq, go_sem]) | ((with_reducible refine aCd ?_ ?_ (fun hb => ?_) (fun hb => ?_)); (iterate 2 simp only [hq, go_sem]); all_goals (simp only [hq, go_sem] at hb; try simp only [bls] at hb)) | ((iterate 6 try ((fail_if_success with_reducible refine hK _ ?_ ?_ ?_); clear hK K)); with_reducible refine hK _ ?_ ?_ ?_; rotate_left; (focus (simp only [hq, go_sem]; exact rfl)); clear hK K) | (with_reducible refine aGs (fun hg0 => ?_) (fun hg0 => ?_) <;> first | (with_reducible first | exact aF1 hg0 | exact aF2 hg0) | (simp only [hg0, hq, go_sem])) | (with_reducible refine aNk ?_; intro bnil hnil; try simp only []) | exact aZ | fail))
      all_goals first | omega | skip
      refine awp_loop _ (by simp only [go_sem]; rfl) Nat (fun k => k ≤ i) (fun k => [(14, .one (.int .i64 (if (allF n ed i || rowC n ed i k) = true then 18 else 0))), (17, .one (.int .i64 k))]) (fun _ H => H) (fun k => i - k) 0 (by omega) ?_ ?_
      ·(simp only [SubF, few_cons, Bool.or_false, go_sem]; (try simp only [few_cons, Bool.or_false, go_sem]); repeat' (first | exact True.intro | with_reducible refine And.intro ?_ ?_ | rfl | omega))
      rintro k hki L3 hL3
      have hq2 : ((k : Nat) : Int).toNat = k := by omega
      by_cases hkl : k < i
      ·have a1 := edgs_at (l := ed) hil [.int .i64 0, .int .i64 0, .int .i64 0]
       have a2 := edgs_at (l := ed) hil []
       have b1 := edgs_at (l := ed) (k := k) (by omega) [.int .i64 0, .int .i64 0, .int .i64 0]
       have b2 := edgs_at (l := ed) (k := k) (by omega) []
       have hx := hevr _ (getD_mem ed i Edg.no hil)
       have hy := hevr _ (getD_mem ed k Edg.no (by omega))
       have hrs := rowC_succ (n := n) ed i k
       generalize ed.getD i Edg.no = x at *
       generalize ed.getD k Edg.no = y at *
       have c1 := trs_get (l := n.trs) (k := x.ev.toNat) (by omega) [.int .i64 0, .nil, .nil]
       have c2 := trs_get (l := n.trs) (k := x.ev.toNat) (by omega) []
       have d1 := trs_get (l := n.trs) (k := y.ev.toNat) (by omega) [.int .i64 0, .nil, .nil]
       have d2 := trs_get (l := n.trs) (k := y.ev.toNat) (by omega) []
       have hcf : confB n x y = (decide (x.src = y.src) && decide (x.dst ≠ y.dst) && decide (evOf n x.ev = evOf n y.ev)) := rfl
       rw [show (n.trs.getD x.ev.toNat Tr.no).event = evOf n x.ev from rfl] at c1 c2
       rw [show (n.trs.getD y.ev.toNat Tr.no).event = evOf n y.ev from rfl] at d1 d2
       generalize evOf n x.ev = ex at *
       generalize evOf n y.ev = ey at *
       generalize allF n ed i = B1 at *
       generalize rowC n ed i k = B2 at *
       (simp only [go_sem] at hL3 ⊢)
       (repeat' (first | (with_reducible first | exact True.intro | refine And.intro ?_ ?_ | refine aBl ?_ | (refine aS 18 [] ?_; intro K hK)) | ((with_reducible first | refine aGo ?_ | refine rP Ty_ok mixed 17 [1, 2] [.mid [pe 0, pe 3, pe 4] 0, .one 5, .one 6] ?_ | refine rD (id := 27) ?_); simp only [hq, hq2, a1, a2, b1, b2, c1, c2, d1, d2, go_sem]) | ((with_reducible refine aCd ?_ ?_ (fun hb => ?_) (fun hb => ?_)); (iterate 2 simp only [hq, hq2, a1, a2, b1, b2, c1, c2, d1, d2, go_sem]); all_goals (simp only [hq, hq2, a1, a2, b1, b2, c1, c2, d1, d2, go_sem] at hb; try simp only [bls] at hb)) | ((iterate 6 try ((fail_if_success with_reducible refine hK _ ?_ ?_ ?_); clear hK K)); with_reducible refine hK _ ?_ ?_ ?_; rotate_left; (focus (simp only [hq, hq2, a1, a2, b1, b2, c1, c2, d1, d2, go_sem]; exact rfl)); clear hK K) | (with_reducible refine aGs (fun hg0 => ?_) (fun hg0 => ?_) <;> first | (with_reducible first | exact aF1 hg0 | exact aF2 hg0) | (simp only [hg0, hq, hq2, a1, a2, b1, b2, c1, c2, d1, d2, go_sem])) | (with_reducible refine aNk ?_; intro bnil hnil; try simp only []) | exact aZ | fail))
       all_goals first | omega | skip
       ·have hcc : confB n x y = true := by rw [hcf]; simp [hb.1.1, hb.1.2, hb.2]
        refine hL3 _ (k + 1) (by omega) ?_ (by omega)
        simp only [hrs, hcc, Bool.or_true, if_true]
        (simp only [SubF, go_sem]; (try simp only [go_sem]); repeat' (first | exact True.intro | with_reducible refine And.intro ?_ ?_ | rfl | omega))
       ·have hcc : confB n x y = false := by
         rw [hcf]
         rcases hb with (h | h) | h <;> simp [h]
        refine hL3 _ (k + 1) (by omega) ?_ (by omega)
        simp only [hrs, hcc, Bool.or_false]
        (simp only [SubF, go_sem]; (try simp only [go_sem]); repeat' (first | exact True.intro | with_reducible refine And.intro ?_ ?_ | rfl | omega))
      ·have hkl2 : k = i := by omega
       subst hkl2
       (simp only [go_sem] at hL3 ⊢)
       (repeat' (first | (with_reducible first | exact True.intro | refine And.intro ?_ ?_ | refine aBl ?_ | (refine aS 18 [] ?_; intro K hK)) | ((with_reducible first | refine aGo ?_ | refine rP Ty_ok mixed 17 [1, 2] [.mid [pe 0, pe 3, pe 4] 0, .one 5, .one 6] ?_ | refine rD (id := 27) ?_); simp only [go_sem]) | ((with_reducible refine aCd ?_ ?_ (fun hb => ?_) (fun hb => ?_)); (iterate 2 simp only [go_sem]); all_goals (simp only [go_sem] at hb; try simp only [bls] at hb)) | ((iterate 6 try ((fail_if_success with_reducible refine hK _ ?_ ?_ ?_); clear hK K)); with_reducible refine hK _ ?_ ?_ ?_; rotate_left; (focus (simp only [go_sem]; exact rfl)); clear hK K) | (with_reducible refine aGs (fun hg0 => ?_) (fun hg0 => ?_) <;> first | (with_reducible first | exact aF1 hg0 | exact aF2 hg0) | (simp only [hg0, go_sem])) | (with_reducible refine aNk ?_; intro bnil hnil; try simp only []) | exact aZ | fail))
       all_goals first | omega | skip
       refine hL2 _ (k + 1) (by omega) ?_ (by omega)
       simp only [hFs]
       (simp only [SubF, go_sem]; (try simp only [go_sem]); repeat' (first | exact True.intro | with_reducible refine And.intro ?_ ?_ | rfl | omega))
     ·have hil2 : i = ed.length := by omega
      subst hil2
      cases hC : allF n ed ed.length with
      | true =>
       have hnc : ¬ Cons n ed := fun hc => by rw [(allF_cons ed).2 hc] at hC; cases hC
       obtain ⟨rfl, rfl, rfl⟩ := hcho rfl (by omega) hnc
       simp only [Aut.zero, wordsD_nil, if_true] at *
       (simp only [go_sem] at hL2 ⊢)
       (repeat' (first | (with_reducible first | exact True.intro | refine And.intro ?_ ?_ | refine aBl ?_ | (refine aS 18 [] ?_; intro K hK)) | ((with_reducible first | refine aGo ?_ | refine rP Ty_ok mixed 17 [1, 2] [.mid [pe 0, pe 3, pe 4] 0, .one 5, .one 6] ?_ | refine rD (id := 27) ?_); simp only [go_sem]) | ((with_reducible refine aCd ?_ ?_ (fun hb => ?_) (fun hb => ?_)); (iterate 2 simp only [go_sem]); all_goals (simp only [go_sem] at hb; try simp only [bls] at hb)) | ((iterate 6 try ((fail_if_success with_reducible refine hK _ ?_ ?_ ?_); clear hK K)); with_reducible refine hK _ ?_ ?_ ?_; rotate_left; (focus (simp only [go_sem]; exact rfl)); clear hK K) | (with_reducible refine aGs (fun hg0 => ?_) (fun hg0 => ?_) <;> first | (with_reducible first | exact aF1 hg0 | exact aF2 hg0) | (simp only [hg0, go_sem])) | (with_reducible refine aNk ?_; intro bnil hnil; try simp only []) | exact aZ | fail))
       all_goals first | omega | skip
       all_goals simp
      | false =>
       obtain ⟨rfl, rfl, rfl, hAo, hEd⟩ := hgood rfl (by omega) ((allF_cons ed).1 hC)
       have hFo := follows_c n nd mk hAo (by rw [← hEd]; omega) (by omega) (fun m hm => by have := hsm m hm; omega)
       have hIc := isCanonical_c (autA n nd mk) (autA_ok hAo.found mk) (by have := found_pos hAo.found; have := autO_len hAo; simp only [autA]; omega) (by
        have := aut_count hAo
        have := cntF_le n (grE n nd) (grE n nd).length
        rw [← hEd] at *
        simp only [autA]; omega) (autA_can hAo mk)
       rw [← hEd] at hFo
       generalize autA n nd mk = A at *
       simp only [Net.d, Aut.d] at hFo hIc
       simp only [Bool.false_eq_true, if_false] at *
       (simp only [go_sem] at hL2 ⊢)
       (repeat' (first | (with_reducible first | exact True.intro | refine And.intro ?_ ?_ | refine aBl ?_ | (refine aS 18 [] ?_; intro K hK)) | ((with_reducible first | refine aGo ?_ | refine rP Ty_ok mixed 17 [1, 2] [.mid [pe 0, pe 3, pe 4] 0, .one 5, .one 6] ?_ | refine rD (id := 27) ?_); simp only [go_sem]) | ((with_reducible refine aCd ?_ ?_ (fun hb => ?_) (fun hb => ?_)); (iterate 2 simp only [go_sem]); all_goals (simp only [go_sem] at hb; try simp only [bls] at hb)) | ((iterate 6 try ((fail_if_success with_reducible refine hK _ ?_ ?_ ?_); clear hK K)); with_reducible refine hK _ ?_ ?_ ?_; rotate_left; (focus (simp only [go_sem]; exact rfl)); clear hK K) | ((first | (with_reducible first | refine xA ?_ | refine xD ?_ | refine xO ?_ | refine xR ?_ | refine xG ?_ | refine xH ?_ | refine xM ?_) | ((with_reducible refine gA ?_); refine xA ?_) | ((with_reducible refine gD ?_); refine xD ?_) | ((with_reducible refine gG ?_); refine xG ?_)); simp only [go_sem]) | (with_reducible refine aGs (fun hg0 => ?_) (fun hg0 => ?_) <;> first | (with_reducible first | exact aF1 hg0 | exact aF2 hg0) | (simp only [hg0, go_sem])) | (with_reducible refine aNk ?_; intro bnil hnil; try simp only []) | exact aZ | fail))
       all_goals first | omega | skip
   ·obtain ⟨rfl, rfl, rfl⟩ := hbad hw0
    simp only [Aut.zero, wordsD_nil] at *
    (simp only [go_sem] at hL2 ⊢)
    (repeat' (first | (with_reducible first | exact True.intro | refine And.intro ?_ ?_ | refine aBl ?_ | (refine aS 18 [] ?_; intro K hK)) | ((with_reducible first | refine aGo ?_ | refine rP Ty_ok mixed 17 [1, 2] [.mid [pe 0, pe 3, pe 4] 0, .one 5, .one 6] ?_ | refine rD (id := 27) ?_); simp only [go_sem]) | ((with_reducible refine aCd ?_ ?_ (fun hb => ?_) (fun hb => ?_)); (iterate 2 simp only [go_sem]); all_goals (simp only [go_sem] at hb; try simp only [bls] at hb)) | ((iterate 6 try ((fail_if_success with_reducible refine hK _ ?_ ?_ ?_); clear hK K)); with_reducible refine hK _ ?_ ?_ ?_; rotate_left; (focus (simp only [go_sem]; exact rfl)); clear hK K) | (with_reducible refine aGs (fun hg0 => ?_) (fun hg0 => ?_) <;> first | (with_reducible first | exact aF1 hg0 | exact aF2 hg0) | (simp only [hg0, go_sem])) | (with_reducible refine aNk ?_; intro bnil hnil; try simp only []) | exact aZ | fail))
    all_goals first | omega | skip
    all_goals simp
 ·(refine ACalls.of_body Ty_ok mixed Tryz.func5 rfl (by kernel_rfl) Tryz.ntmps5 (by simp) (congrArg Array.toList Tryz.results5) ?_)
  simp only [slotsOf]
  (repeat' (first | (with_reducible first | exact True.intro | refine And.intro ?_ ?_ | refine aBl ?_ | (refine aS 18 [] ?_; intro K hK)) | ((with_reducible first | refine aGo ?_ | refine rP Ty_ok mixed 17 [1, 2] [.mid [pe 0, pe 3, pe 4] 0, .one 5, .one 6] ?_ | refine rD (id := 27) ?_); simp only [go_sem]) | ((with_reducible refine aCd ?_ ?_ (fun hb => ?_) (fun hb => ?_)); (iterate 2 simp only [go_sem]); all_goals (simp only [go_sem] at hb; try simp only [bls] at hb)) | ((iterate 6 try ((fail_if_success with_reducible refine hK _ ?_ ?_ ?_); clear hK K)); with_reducible refine hK _ ?_ ?_ ?_; rotate_left; (focus (simp only [go_sem]; exact rfl)); clear hK K) | ((first | (with_reducible first | refine xA ?_ | refine xD ?_ | refine xO ?_ | refine xR ?_ | refine xG ?_ | refine xH ?_ | refine xM ?_) | ((with_reducible refine gA ?_); refine xA ?_) | ((with_reducible refine gD ?_); refine xD ?_) | ((with_reducible refine gG ?_); refine xG ?_)); simp only [go_sem]) | (with_reducible refine aGs (fun hg0 => ?_) (fun hg0 => ?_) <;> first | (with_reducible first | exact aF1 hg0 | exact aF2 hg0) | (simp only [hg0, go_sem])) | (with_reducible refine aNk ?_; intro bnil hnil; try simp only []) | exact aZ | fail))
  all_goals first | omega | skip
end Go.Proofs.YtgbhmieaoaojoaaGreatDoor
