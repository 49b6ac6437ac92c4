/-
 Contracts: overseertop.weaker.
-/
import Derived.Test.YtkjllcmpjghmkaaGreatDoorT7
set_option linter.unusedSimpArgs false
set_option linter.unusedVariables false
namespace Go.Proofs.YtkjllcmpjghmkaaGreatDoor
open Go.Eng Go.RowKit
theorem z4n {l : List Int} {i : Nat} (h : i < l.length) (t : Int) : decide (t ∈ l.take (i + 1)) = (decide (t ∈ l.take i) || (l.getD i 0 == t)) := by
 rw [z07 l i 0 h, Bool.eq_iff_iff]
 simp only [decide_eq_true_eq, List.mem_append, List.mem_singleton, Bool.or_eq_true, beq_iff_eq]
 exact or_congr_right ⟨Eq.symm, Eq.symm⟩
theorem z1s (n : Net) (nd : List SN) : (autM n nd).length = (autO n nd).1.length := by rw [autM, List.length_map]
theorem zg5 {n : Net} {nd : List SN} (h : Found n nd) : (autA n nd []).edges.length ≤ 50000 := by
 have hb := z1J h
 have hle := hb.ok.le
 have h4 := h.le
 have ht := h.ok.trs
 have hs : ∀ s, (sucN n nd s).length ≤ 10 := fun s => by
  have h1 := z41 n
  have h2 : (sucN n nd s).length ≤ (evsN n).length := List.length_filterMap_le _ _
  omega
 have hl := z5Y (O := (autO n nd).1) hs (autO n nd).1.length 0
 rw [← hb.edges] at hl
 have hm : 10 * (autO n nd).1.length ≤ 10 * 4096 := Nat.mul_le_mul_left _ (by omega)
 show (autO n nd).2.length ≤ _
 omega
theorem z2j (n : Net) (nd : List SN) : (autA n nd []).marked = [] := by simp [autA, mkL]
theorem zax {n : Net} {nd : List SN} (hF : Found n nd) (c : Con) (u : List Int) (hu : (∀ x ∈ u, 0 ≤ x ∧ x < n.trs.length) ∧ u.Pairwise (· < ·)) (hul : u.length ≤ 10) :
  ACalls Tryz.prog 11 [.agg (autA n nd []).d, .one (.list (ints (badL c (autM n nd) (autM n nd).length))), .one (.list (ints u))] (.tup [.agg (resD0 (autA n nd []) (badL c (autM n nd) (autM n nd).length) u (autM n nd).length), .one (.int .i64 0)]) [] := by
 have hok := z44 hF []
 obtain ⟨b1, b2⟩ := zj4 c (autM n nd) (autM n nd).length
 have hst : (autA n nd []).states = ((autM n nd).length : Nat) := by rw [z1s]; rfl
 have hbl := z43 c (autM n nd) (autM n nd).length
 have hmn := (z57 hF).2
 have ht := hF.ok.trs
 exact zhR (autA n nd []) _ u hok (z2j n nd) (zg5 hF) (z1l (fun x hx => by have := b1 x hx; omega) b2) (z1l (fun x hx => by have := hu.1 x hx; omega) hu.2) (by omega) (by omega) (fun x hx => by have := b1 x hx; omega) _ hst
structure WkOk (n : Net) (x : Con) (u : List Int) (b A : Aut) (V : List (List Int)) : Prop where
 few : V.length ≤ 4096
 bok : b.Ok
 bfit : b.Fits
 bst : b.states = V.length
 mark : ∀ k, k < V.length → ((V.getD k []).length = n.init.length + 1 ∧ ∀ y ∈ V.getD k [], 0 ≤ y ∧ y ≤ 65536)
 free : ∀ k, k < V.length → ∀ t, t ∈ ableL n ((V.getD k []).take n.init.length) n.trs.length → t ∈ u → t ∈ (outL b.edges k).map Edg.ev
theorem wk_ok {n : Net} {c : Con} {u f : List Int} {nd : List SN} {ed : List Edg} (hok : NetOk n) (hnu : Numd n) (hc : conE n c = 0) (hr : c.bound - dot c.fac n.init ≤ 1000) (hB : bndF n = .inr (nd, ed)) (hu : ∀ x ∈ u, 0 ≤ x) (hf : trF n c u = some f) (hm : monE n ⟨f, c.bound⟩ = 0) :
  ∃ ndm edm, bndF (z04 n ⟨f, c.bound⟩) = .inr (ndm, edm) ∧ WkOk n ⟨f, c.bound⟩ u (autA (z04 n ⟨f, c.bound⟩) ndm []) (supA (autA n nd []) (resL (autA n nd []) (badL c (autM n nd) (autM n nd).length) u (autM n nd).length)) (autM (z04 n ⟨f, c.bound⟩) ndm) ∧
   ∃ R, LSim (autA (z04 n ⟨f, c.bound⟩) ndm []) (supA (autA n nd []) (resL (autA n nd []) (badL c (autM n nd) (autM n nd).length) u (autM n nd).length)) R := by
 obtain ⟨q1, q2, q3, q4, q5⟩ := z1v hc
 obtain ⟨g1, g2, g3, g4⟩ := zbY hf
 obtain ⟨hMx, _, _⟩ := z8S hm
 have hAn := (z4y hnu hB).2
 have hmono : ∀ m : List Int, (∀ y ∈ m, 0 ≤ y) → dot c.fac m ≤ dot f m := fun m hm => zcG c.fac f m g1.symm g2 hm
 have h0 := hmono n.init fun y hy => (hok.tok y hy).1
 obtain ⟨ndm, edm, hBm⟩ := zg0 hMx hB (by show c.bound - dot f n.init ≤ 1000; omega)
 have hAm := (z4y (z4m hnu) hBm).2
 have hue : ∀ t ∈ u, (effL n ⟨f, c.bound⟩).getD t.toNat 0 ≤ 0 := zb7 hu g4
 have hml := z1s n nd
 have hleft := zgA (f := (autM n nd).length + 1) (rank := 2) (left := left0 (autM n nd).length (badL c (autM n nd) (autM n nd).length)) hMx hAn hnu hue fun k hk hd => by
  rw [za3 c (autM n nd) (by omega), decide_eq_true_eq]
  have h2 := hmono ((autM n nd).getD k []) fun y hy => (((z57 hAn.found).1 _ (z01 (autM n nd) k [] (by omega))).2 y hy).1
  have h3 : dot f ((autM n nd).getD k []) ≤ c.bound := hd
  omega
 refine ⟨ndm, edm, hBm, ⟨(z57 hAm.found).2, z44 hAm.found [], zcU hAm.found, by rw [z1s]; rfl, fun k hk => ?_, fun k hk t ht htu => ?_⟩, _, zif hMx hAn hAm hnu hleft⟩
 ·exact (zc5 hMx hAn.found hAm hnu (by rw [← z1s]; exact hk)).1
 ·exact (zc5 hMx hAn.found hAm hnu (by rw [← z1s]; exact hk)).2 t ht (hue t htu)
theorem zcq {n : Net} {c : Con} (h : conE n c = 0) (hm : monE n c ≠ 0) : monE n c = 19 ∨ monE n c = 3 := by
 unfold monE at hm ⊢
 rw [if_neg (by omega)] at hm ⊢
 split
 ·exact .inl rfl
 ·rename_i h1
  rw [if_neg h1] at hm
  split
  ·exact .inr rfl
  ·rename_i h2
   rw [if_neg h2] at hm
   exact absurd rfl hm
set_option maxRecDepth 20000 in
set_option maxHeartbeats 64000000 in
theorem zgr (n : Net) (c : Con) (u : List Int) (nd : List SN) (ed : List Edg) (hok : NetOk n) (hne : n.init ≠ []) (hnu : Numd n) (hc : conE n c = 0) (hr : c.bound - dot c.fac n.init ≤ 1000) (hB : bndF n = .inr (nd, ed)) (hu : (∀ x ∈ u, 0 ≤ x ∧ x < n.trs.length) ∧ u.Pairwise (· < ·)) (hul : u.length ≤ 10) :
  ACalls Tryz.prog 14 [.agg n.d, .agg c.d, .agg (autA n nd []).d, .one (.list (ints (badL c (autM n nd) (autM n nd).length))), .one (.list (ints u))] (.one (.bool true)) [] := by
 obtain ⟨q1, q2, q3, q4, q5⟩ := z1v hc
 have hfit := hok.fits
 have hi10 := hok.init
 have ht10 := hok.trs
 have hch : chkE n c u = 0 := by rw [chkE, if_neg (by omega)]; exact z1l hu.1 hu.2
 have hT := z7t n c u hfit (by omega) (by omega)
 rw [trC, trE', if_pos hch, if_pos hch] at hT
 have hCl := zax (z2x hB).1 c u hu hul
 have hMx := fun f => z7u n ⟨f, c.bound⟩ hfit
 have hcx : ∀ f, trF n c u = some f → f.length = c.fac.length ∧ conE n ⟨f, c.bound⟩ = 0 := fun f hf => by
  obtain ⟨g1, g2, g3, g4⟩ := zbY hf
  exact ⟨g1, zfO q1 (g1.trans q2) (g3 q3) ⟨q4, q5⟩⟩
 have hwk := fun f hf hm => wk_ok (u := u) (f := f) hok hnu hc hr hB (fun y hy => (hu.1 y hy).1) hf hm
 cases hf : trF n c u with
 | none =>
  rw [hf] at hT
  simp only [Net.d, Con.d, Con.zero, Aut.d, Option.isSome_none, Bool.false_eq_true, if_false] at hT ⊢
  (refine ACalls.of_body Ty_ok mixed Tryz.func14 rfl (by kernel_rfl) Tryz.ntmps14 (by simp) (congrArg Array.toList Tryz.results14) ?_)
  simp only [z00]
  (repeat' (first | (with_reducible first | refine And.intro ?_ ?_ | (refine aS 20 [22, 21, 25, 27, 26, 126, 125, 132, 131, 33, 133, 24, 145, 144, 35, 29, 146, 30, 31, 127, 23] ?_; intro K hK)) | ((with_reducible refine aGo ?_); simp only [go_sem]) | ((with_reducible refine aCd ?_ ?_ (fun hb => ?_) (fun hb => ?_)); (iterate 2 simp only [go_sem]); all_goals (simp only [go_sem] at hb; try simp only [bls] at hb)) | ((iterate 6 try ((fail_if_success with_reducible refine hK _ ?_ ?_ ?_); clear hK K)); with_reducible refine hK _ ?_ ?_ ?_; rotate_left; (focus (simp only [go_sem]; exact rfl)); clear hK K) | ((first | (with_reducible refine xA ?_) | ((with_reducible refine gA ?_); refine xA ?_)); simp only [go_sem]) | exact aZ | fail))
  all_goals first | omega | skip
 | some f =>
  obtain ⟨g1, hc2⟩ := hcx f hf
  have hwk := hwk f hf
  have hMx := hMx f (by simp only; omega)
  have hmer := zcq hc2
  rw [hf] at hT
  simp only [Option.isSome_some, if_true] at hT
  by_cases hm0 : monE n ⟨f, c.bound⟩ = 0
  ·obtain ⟨ndm, edm, hBm, hW, R, hsim⟩ := hwk hm0
   obtain ⟨hMk, _, hL⟩ := z8S hm0
   rw [hm0, hL] at hMx
   have hmok := zcp hMk
   have hne2 : (z04 n ⟨f, c.bound⟩).init ≠ [] := fun e => by
    have := z2F (n := n) (c := ⟨f, c.bound⟩)
    rw [e] at this; simp at this
   have hAu := z2R (z04 n ⟨f, c.bound⟩) [] hmok.fits hne2 (by decide) (fun m hm => by simp at hm)
   rw [z3l, (z4y (z4m hnu) hBm).1] at hAu
   have haok := z44 (z2x hB).1 []
   have hIn := zef (autA (z04 n ⟨f, c.bound⟩) ndm []) (supA (autA n nd []) (resL (autA n nd []) (badL c (autM n nd) (autM n nd).length) u (autM n nd).length)) hW.bfit (zgB haok (z2j n nd)) hW.bok (zhX haok (z2j n nd)) R hsim
   obtain ⟨w1, w2, w3, w4, w5, w6⟩ := hW
   simp only [auR] at hAu
   simp only [resD0, resD] at hCl
   clear hsim hwk hcx hmer haok hc2 hm0 hL hMk hf hmok hne2
   generalize z04 n ⟨f, c.bound⟩ = m at *
   generalize keptL _ _ = K at hCl
   generalize resN _ _ _ _ = RN at hCl
   generalize resL (autA n nd []) (badL c (autM n nd) (autM n nd).length) u (autM n nd).length = left at *
   generalize badL c (autM n nd) (autM n nd).length = bad at *
   generalize supA (autA n nd []) left = A at *
   generalize supO (autA n nd []) left = O at *
   generalize autA n nd [] = a at *
   generalize autA m ndm [] = b at *
   generalize autM m ndm = V at *
   generalize unkL RN.1.length = U at *
   have hOn := fun (k : Nat) (hk : k < V.length) => zbK b k w2 w3 (by omega)
   have hwl : (z0v V).length = V.length := by simp [z0v]
   simp only [Net.d, Con.d, Aut.d] at hT hCl hMx hAu hIn hOn ⊢
   (refine ACalls.of_body Ty_ok mixed Tryz.func14 rfl (by kernel_rfl) Tryz.ntmps14 (by simp) (congrArg Array.toList Tryz.results14) ?_)
   simp only [z00]
   (repeat' (first | (with_reducible first | refine aBl ?_ | (refine aS 20 [22, 21, 25, 27, 26, 126, 125, 132, 131, 33, 133, 24, 145, 144, 35, 29, 146, 30, 31, 127, 23] ?_; intro K hK)) | ((with_reducible refine aGo ?_); simp only [go_sem]) | ((with_reducible refine aCd ?_ ?_ (fun hb => ?_) (fun hb => ?_)); (iterate 2 simp only [go_sem]); all_goals (simp only [go_sem] at hb; try simp only [bls] at hb)) | ((iterate 6 try ((fail_if_success with_reducible refine hK _ ?_ ?_ ?_); clear hK K)); with_reducible refine hK _ ?_ ?_ ?_; rotate_left; (focus (simp only [go_sem]; exact rfl)); clear hK K) | ((with_reducible refine xA ?_); simp only [go_sem]) | fail))
   all_goals first | omega | skip
   refine z02 _ (by simp only [go_sem]; rfl) Nat (fun k => k ≤ V.length) (fun k => [(23, .one (.int .i64 k))]) (fun _ H => H) (fun k => V.length - k) 0 (by omega) ?_ ?_
   ·(simp only [SubF, go_sem]; (try simp only [go_sem]); repeat' (first | exact True.intro | with_reducible refine And.intro ?_ ?_ | rfl | omega))
   rintro k hk L hL
   have hq : ((k : Nat) : Int).toNat = k := by omega
   by_cases hlt : k < V.length
   ·have a1 := z1d (l := V) hlt [.nil]
    have a2 := z1d (l := V) hlt []
    obtain ⟨v1, v2⟩ := w5 k hlt
    have hfr := w6 k hlt
    have hOn := hOn k hlt
    generalize V.getD k [] = v at *
    have hmk : markE n (v.take n.init.length) = 0 := zh7 hok (by rw [List.length_take]; omega) fun y hy => v2 y (List.mem_of_mem_take hy)
    have hEn := zgl n (v.take n.init.length) hfit (by rw [List.length_take]; omega)
    have hal := z2k n (v.take n.init.length) n.trs.length
    rw [z5V, if_pos hmk, hmk] at hEn
    have hol : ((outL b.edges k).map Edg.ev).length ≤ 1000000 := by
     have h1 := w3.edges
     have h2 : (outL b.edges k).length ≤ b.edges.length := List.length_filter_le _ _
     rw [List.length_map]; omega
    have htake : (ints v).take n.init.length = ints (v.take n.init.length) := by simp [ints]
    generalize (outL b.edges k).map Edg.ev = on at *
    generalize ableL n (v.take n.init.length) n.trs.length = bf at *
    generalize v.take n.init.length = vt at *
    simp only [Net.d] at hEn
    (simp only [go_sem] at hL ⊢)
    (repeat' (first | (with_reducible first | refine And.intro ?_ ?_ | refine aBl ?_ | (refine aS 20 [22, 21, 25, 27, 26, 126, 125, 132, 131, 33, 133, 24, 145, 144, 35, 29, 146, 30, 31, 127, 23] ?_; intro K hK)) | ((with_reducible first | refine aGo ?_ | refine rP Ty_ok mixed 18 [1, 2, 5] [.mid [pe 0, pe 3, pe 4, pe 6, pe 7, pe 8] 0, .one 9, .mid [pe 10, pe 11, pe 12, pe 13, pe 14] 0] ?_); simp only [hq, hwl, a1, a2, htake, go_sem]) | ((with_reducible refine aCd ?_ ?_ (fun hb => ?_) (fun hb => ?_)); (iterate 2 simp only [hq, hwl, a1, a2, htake, go_sem]); all_goals (simp only [hq, hwl, a1, a2, htake, go_sem] at hb; try simp only [bls] at hb)) | ((iterate 6 try ((fail_if_success with_reducible refine hK _ ?_ ?_ ?_); clear hK K)); with_reducible refine hK _ ?_ ?_ ?_; rotate_left; (focus (simp only [hq, hwl, a1, a2, htake, go_sem]; exact rfl)); clear hK K) | ((with_reducible refine xA ?_); simp only [hq, hwl, a1, a2, htake, go_sem]) | exact aZ | fail))
    all_goals first | omega | skip
    refine z02 _ (by simp only [go_sem]; rfl) Nat (fun j => j ≤ bf.length) (fun j => [(127, .one (.int .i64 j))]) (fun _ H => H) (fun j => bf.length - j) 0 (by omega) ?_ ?_
    ·(simp only [SubF, go_sem]; (try simp only [go_sem]); repeat' (first | exact True.intro | with_reducible refine And.intro ?_ ?_ | rfl | omega))
    rintro j hj L2 hL2
    have hqj : ((j : Nat) : Int).toNat = j := by omega
    by_cases hlj : j < bf.length
    ·have b1 := z0s (l := bf) hlj
     have hft := hfr _ (z01 bf j 0 hlj)
     generalize hte : bf.getD j 0 = t at *
     (simp only [go_sem] at hL2 ⊢)
     (repeat' (first | (with_reducible first | refine And.intro ?_ ?_ | refine aBl ?_ | (refine aS 20 [22, 21, 25, 27, 26, 126, 125, 132, 131, 33, 133, 24, 145, 144, 35, 29, 146, 30, 31, 127, 23] ?_; intro K hK)) | ((with_reducible refine aGo ?_); simp only [hqj, hte, go_sem]) | ((with_reducible refine aCd ?_ ?_ (fun hb => ?_) (fun hb => ?_)); (iterate 2 simp only [hqj, hte, go_sem]); all_goals (simp only [hqj, hte, go_sem] at hb; try simp only [bls] at hb)) | ((iterate 6 try ((fail_if_success with_reducible refine hK _ ?_ ?_ ?_); clear hK K)); with_reducible refine hK _ ?_ ?_ ?_; rotate_left; (focus (simp only [hqj, hte, go_sem]; exact rfl)); clear hK K) | exact aZ | fail))
     all_goals first | omega | skip
     refine z02 _ (by simp only [go_sem]; rfl) Nat (fun i => i ≤ u.length) (fun i => [(133, .one (.int .i64 i)), (30, .one (.bool (decide (t ∈ u.take i))))]) (fun _ H => H) (fun i => u.length - i) 0 (by omega) ?_ ?_
     ·have e0 : decide (t ∈ u.take 0) = false := by simp
      rw [e0]
      (simp only [SubF, go_sem]; (try simp only [go_sem]); repeat' (first | exact True.intro | with_reducible refine And.intro ?_ ?_ | rfl | omega))
     rintro i hi L3 hL3
     have hqi : ((i : Nat) : Int).toNat = i := by omega
     by_cases hli : i < u.length
     ·have c1 := z4n hli t
      generalize hue : u.getD i 0 = y at *
      generalize decide (t ∈ u.take i) = p at *
      (simp only [go_sem] at hL3 ⊢)
      cases p with
      | true =>
       (repeat' (first | (with_reducible first | refine And.intro ?_ ?_ | refine aBl ?_ | (refine aS 20 [22, 21, 25, 27, 26, 126, 125, 132, 131, 33, 133, 24, 145, 144, 35, 29, 146, 30, 31, 127, 23] ?_; intro K hK)) | ((with_reducible refine aGo ?_); simp only [hqi, hue, go_sem]) | ((with_reducible refine aCd ?_ ?_ (fun hb => ?_) (fun hb => ?_)); (iterate 2 simp only [hqi, hue, go_sem]); all_goals (simp only [hqi, hue, go_sem] at hb; try simp only [bls] at hb)) | ((iterate 6 try ((fail_if_success with_reducible refine hK _ ?_ ?_ ?_); clear hK K)); with_reducible refine hK _ ?_ ?_ ?_; rotate_left; (focus (simp only [hqi, hue, go_sem]; exact rfl)); clear hK K) | exact aZ | fail))
       all_goals first | omega | skip
       refine hL3 _ (i + 1) (by omega) ?_ (by omega)
       simp only [c1, Bool.true_or]
       (simp only [SubF, go_sem]; (try simp only [go_sem]); repeat' (first | exact True.intro | with_reducible refine And.intro ?_ ?_ | rfl | omega))
      | false =>
       (repeat' (first | (with_reducible first | refine And.intro ?_ ?_ | refine aBl ?_ | (refine aS 20 [22, 21, 25, 27, 26, 126, 125, 132, 131, 33, 133, 24, 145, 144, 35, 29, 146, 30, 31, 127, 23] ?_; intro K hK)) | ((with_reducible refine aGo ?_); simp only [hqi, hue, go_sem]) | ((with_reducible refine aCd ?_ ?_ (fun hb => ?_) (fun hb => ?_)); (iterate 2 simp only [hqi, hue, go_sem]); all_goals (simp only [hqi, hue, go_sem] at hb; try simp only [bls] at hb)) | ((iterate 6 try ((fail_if_success with_reducible refine hK _ ?_ ?_ ?_); clear hK K)); with_reducible refine hK _ ?_ ?_ ?_; rotate_left; (focus (simp only [hqi, hue, go_sem]; exact rfl)); clear hK K) | exact aZ | fail))
       all_goals first | omega | skip
       refine hL3 _ (i + 1) (by omega) ?_ (by omega)
       simp only [c1, Bool.false_or]
       (simp only [SubF, go_sem]; (try simp only [go_sem]); repeat' (first | exact True.intro | with_reducible refine And.intro ?_ ?_ | rfl | omega))
     have hiu : i = u.length := by omega
     subst hiu
     simp only [List.take_length] at hL3 ⊢
     generalize hpe : decide (t ∈ u) = p at *
     (simp only [go_sem] at hL3 ⊢)
     (repeat' (first | (with_reducible first | refine And.intro ?_ ?_ | refine aBl ?_ | (refine aS 20 [22, 21, 25, 27, 26, 126, 125, 132, 131, 33, 133, 24, 145, 144, 35, 29, 146, 30, 31, 127, 23] ?_; intro K hK)) | ((with_reducible refine aGo ?_); simp only [go_sem]) | ((with_reducible refine aCd ?_ ?_ (fun hb => ?_) (fun hb => ?_)); (iterate 2 simp only [go_sem]); all_goals (simp only [go_sem] at hb; try simp only [bls] at hb)) | ((iterate 6 try ((fail_if_success with_reducible refine hK _ ?_ ?_ ?_); clear hK K)); with_reducible refine hK _ ?_ ?_ ?_; rotate_left; (focus (simp only [go_sem]; exact rfl)); clear hK K) | exact aZ | fail))
     all_goals first | omega | skip
     refine z02 _ (by simp only [go_sem]; rfl) Nat (fun i => i ≤ on.length) (fun i => [(146, .one (.int .i64 i)), (31, .one (.bool (decide (t ∈ on.take i))))]) (fun _ H => H) (fun i => on.length - i) 0 (by omega) ?_ ?_
     ·have e0 : decide (t ∈ on.take 0) = false := by simp
      rw [e0]
      (simp only [SubF, go_sem]; (try simp only [go_sem]); repeat' (first | exact True.intro | with_reducible refine And.intro ?_ ?_ | rfl | omega))
     rintro i hi L4 hL4
     have hqi : ((i : Nat) : Int).toNat = i := by omega
     by_cases hli : i < on.length
     ·have c1 := z4n hli t
      generalize hue : on.getD i 0 = y at *
      generalize decide (t ∈ on.take i) = p2 at *
      (simp only [go_sem] at hL4 ⊢)
      cases p2 with
      | true =>
       (repeat' (first | (with_reducible first | refine And.intro ?_ ?_ | refine aBl ?_ | (refine aS 20 [22, 21, 25, 27, 26, 126, 125, 132, 131, 33, 133, 24, 145, 144, 35, 29, 146, 30, 31, 127, 23] ?_; intro K hK)) | ((with_reducible refine aGo ?_); simp only [hqi, hue, go_sem]) | ((with_reducible refine aCd ?_ ?_ (fun hb => ?_) (fun hb => ?_)); (iterate 2 simp only [hqi, hue, go_sem]); all_goals (simp only [hqi, hue, go_sem] at hb; try simp only [bls] at hb)) | ((iterate 6 try ((fail_if_success with_reducible refine hK _ ?_ ?_ ?_); clear hK K)); with_reducible refine hK _ ?_ ?_ ?_; rotate_left; (focus (simp only [hqi, hue, go_sem]; exact rfl)); clear hK K) | exact aZ | fail))
       all_goals first | omega | skip
       refine hL4 _ (i + 1) (by omega) ?_ (by omega)
       simp only [c1, Bool.true_or]
       (simp only [SubF, go_sem]; (try simp only [go_sem]); repeat' (first | exact True.intro | with_reducible refine And.intro ?_ ?_ | rfl | omega))
      | false =>
       (repeat' (first | (with_reducible first | refine And.intro ?_ ?_ | refine aBl ?_ | (refine aS 20 [22, 21, 25, 27, 26, 126, 125, 132, 131, 33, 133, 24, 145, 144, 35, 29, 146, 30, 31, 127, 23] ?_; intro K hK)) | ((with_reducible refine aGo ?_); simp only [hqi, hue, go_sem]) | ((with_reducible refine aCd ?_ ?_ (fun hb => ?_) (fun hb => ?_)); (iterate 2 simp only [hqi, hue, go_sem]); all_goals (simp only [hqi, hue, go_sem] at hb; try simp only [bls] at hb)) | ((iterate 6 try ((fail_if_success with_reducible refine hK _ ?_ ?_ ?_); clear hK K)); with_reducible refine hK _ ?_ ?_ ?_; rotate_left; (focus (simp only [hqi, hue, go_sem]; exact rfl)); clear hK K) | exact aZ | fail))
       all_goals first | omega | skip
       refine hL4 _ (i + 1) (by omega) ?_ (by omega)
       simp only [c1, Bool.false_or]
       (simp only [SubF, go_sem]; (try simp only [go_sem]); repeat' (first | exact True.intro | with_reducible refine And.intro ?_ ?_ | rfl | omega))
     have hiu : i = on.length := by omega
     subst hiu
     simp only [List.take_length] at hL4 ⊢
     have hend : p = true → decide (t ∈ on) = true := fun hp => by
      rw [hp, decide_eq_true_eq] at hpe
      rw [decide_eq_true_eq]
      exact hft hpe
     generalize decide (t ∈ on) = p2 at *
     (simp only [go_sem] at hL4 ⊢)
     clear hL4
     cases p with
     | true =>
      obtain rfl : p2 = true := hend rfl
      (repeat' (first | (with_reducible first | refine And.intro ?_ ?_ | refine aBl ?_ | (refine aS 20 [22, 21, 25, 27, 26, 126, 125, 132, 131, 33, 133, 24, 145, 144, 35, 29, 146, 30, 31, 127, 23] ?_; intro K hK)) | ((with_reducible refine aGo ?_); simp only [go_sem]) | ((with_reducible refine aCd ?_ ?_ (fun hb => ?_) (fun hb => ?_)); (iterate 2 simp only [go_sem]); all_goals (simp only [go_sem] at hb; try simp only [bls] at hb)) | ((iterate 6 try ((fail_if_success with_reducible refine hK _ ?_ ?_ ?_); clear hK K)); with_reducible refine hK _ ?_ ?_ ?_; rotate_left; (focus (simp only [go_sem]; exact rfl)); clear hK K) | exact aZ | fail))
      all_goals first | omega | skip
      exact hL2 _ (j + 1) (by omega) (by (simp only [SubF, go_sem]; (try simp only [go_sem]); repeat' (first | exact True.intro | with_reducible refine And.intro ?_ ?_ | rfl | omega))) (by omega)
     | false =>
      cases p2 <;> ((repeat' (first | (with_reducible first | refine And.intro ?_ ?_ | refine aBl ?_ | (refine aS 20 [22, 21, 25, 27, 26, 126, 125, 132, 131, 33, 133, 24, 145, 144, 35, 29, 146, 30, 31, 127, 23] ?_; intro K hK)) | ((with_reducible refine aGo ?_); simp only [go_sem]) | ((with_reducible refine aCd ?_ ?_ (fun hb => ?_) (fun hb => ?_)); (iterate 2 simp only [go_sem]); all_goals (simp only [go_sem] at hb; try simp only [bls] at hb)) | ((iterate 6 try ((fail_if_success with_reducible refine hK _ ?_ ?_ ?_); clear hK K)); with_reducible refine hK _ ?_ ?_ ?_; rotate_left; (focus (simp only [go_sem]; exact rfl)); clear hK K) | exact aZ | fail)); (all_goals first | omega | skip); exact hL2 _ (j + 1) (by omega) (by (simp only [SubF, go_sem]; (try simp only [go_sem]); repeat' (first | exact True.intro | with_reducible refine And.intro ?_ ?_ | rfl | omega))) (by omega))
    have hjb : j = bf.length := by omega
    subst hjb
    (simp only [go_sem] at hL2 ⊢)
    (repeat' (first | (with_reducible first | refine And.intro ?_ ?_ | refine aBl ?_ | (refine aS 20 [22, 21, 25, 27, 26, 126, 125, 132, 131, 33, 133, 24, 145, 144, 35, 29, 146, 30, 31, 127, 23] ?_; intro K hK)) | ((with_reducible refine aGo ?_); simp only [go_sem]) | ((with_reducible refine aCd ?_ ?_ (fun hb => ?_) (fun hb => ?_)); (iterate 2 simp only [go_sem]); all_goals (simp only [go_sem] at hb; try simp only [bls] at hb)) | ((iterate 6 try ((fail_if_success with_reducible refine hK _ ?_ ?_ ?_); clear hK K)); with_reducible refine hK _ ?_ ?_ ?_; rotate_left; (focus (simp only [go_sem]; exact rfl)); clear hK K) | exact aZ | fail))
    all_goals first | omega | skip
    exact hL _ (k + 1) (by omega) (by (simp only [SubF, go_sem]; (try simp only [go_sem]); repeat' (first | exact True.intro | with_reducible refine And.intro ?_ ?_ | rfl | omega))) (by omega)
   have hkV : k = V.length := by omega
   subst hkV
   (simp only [go_sem] at hL ⊢)
   (repeat' (first | (with_reducible first | refine aBl ?_ | (refine aS 20 [22, 21, 25, 27, 26, 126, 125, 132, 131, 33, 133, 24, 145, 144, 35, 29, 146, 30, 31, 127, 23] ?_; intro K hK)) | ((with_reducible refine aGo ?_); simp only [hwl, go_sem]) | ((with_reducible refine aCd ?_ ?_ (fun hb => ?_) (fun hb => ?_)); (iterate 2 simp only [hwl, go_sem]); all_goals (simp only [hwl, go_sem] at hb; try simp only [bls] at hb)) | ((iterate 6 try ((fail_if_success with_reducible refine hK _ ?_ ?_ ?_); clear hK K)); with_reducible refine hK _ ?_ ?_ ?_; rotate_left; (focus (simp only [hwl, go_sem]; exact rfl)); clear hK K) | exact aZ | fail))
   all_goals first | omega | skip
  ·have hmer := hmer hm0
   rw [show monL n ⟨f, c.bound⟩ = Net.zero by rw [monL, if_neg hm0]] at hMx
   generalize monE n ⟨f, c.bound⟩ = e at *
   simp only [resD0, resD] at hCl
   generalize keptL _ _ = K at hCl
   generalize resN _ _ _ _ = RN at hCl
   generalize supA _ _ = A at hCl
   generalize supO _ _ = O at hCl
   generalize badL c (autM n nd) (autM n nd).length = bad at *
   generalize autA n nd [] = a at *
   generalize unkL RN.1.length = U at *
   simp only [Net.d, Con.d, Aut.d, Net.zero] at hT hCl hMx ⊢
   (refine ACalls.of_body Ty_ok mixed Tryz.func14 rfl (by kernel_rfl) Tryz.ntmps14 (by simp) (congrArg Array.toList Tryz.results14) ?_)
   simp only [z00]
   (repeat' (first | (with_reducible (refine aS 20 [22, 21, 25, 27, 26, 126, 125, 132, 131, 33, 133, 24, 145, 144, 35, 29, 146, 30, 31, 127, 23] ?_; intro K hK)) | ((with_reducible refine aGo ?_); simp only [go_sem]) | ((with_reducible refine aCd ?_ ?_ (fun hb => ?_) (fun hb => ?_)); (iterate 2 simp only [go_sem]); all_goals (simp only [go_sem] at hb; try simp only [bls] at hb)) | ((iterate 6 try ((fail_if_success with_reducible refine hK _ ?_ ?_ ?_); clear hK K)); with_reducible refine hK _ ?_ ?_ ?_; rotate_left; (focus (simp only [go_sem]; exact rfl)); clear hK K) | ((with_reducible refine xA ?_); simp only [go_sem]) | exact aZ | fail))
   all_goals first | omega | skip
   rcases hmer with rfl | rfl <;> rfl
end Go.Proofs.YtkjllcmpjghmkaaGreatDoor
