/-
 The law MonitorLeaves.
-/
import Derived.Test.YtgbhmieaoaojoaaDoorMH
import Derived.Test.YtgbhmieaoaojoaaDoorM0
set_option linter.unusedSimpArgs false
set_option linter.unusedVariables false
namespace Go.Proofs.YtgbhmieaoaojoaaDoor
open Go.Eng Go.RowKit
theorem toks_small (s : Nat → Int) : ∀ x ∈ (makeNet s).init, 0 ≤ x ∧ x ≤ 3 := by
 intro x hx
 simp only [makeNet, initL, List.mem_map, tok] at hx
 obtain ⟨p, _, rfl⟩ := hx
 omega
theorem bnd_edl {n : Net} {nd : List SN} {ed : List Edg} (h : bndF n = .inr (nd, ed)) : ed.length ≤ 100000 := by
 unfold bndF at h
 split at h
 ·cases h
 ·rename_i hE
  have ht := (netOk_of (n := n) (by omega)).trs
  cases hs : searchF n 4096 with
  | err e => rw [hs] at h; cases h
  | pump a b p => rw [hs] at h; cases h
  | cont a b =>
   rw [hs] at h; cases h
   have h1 := outer_edges (n := n) (lim := 4096) 4098 0 hs
   have h2 : n.trs.length * 4098 ≤ 10 * 4098 := Nat.mul_le_mul_right _ ht
   simp only [List.length_nil] at h1
   omega
set_option maxRecDepth 20000 in
set_option maxHeartbeats 32000000 in
theorem Leaves_c (s : Nat → Int) (hs : Bytes s) (f : Nat → Int) :
  ACalls Tryd.prog 3 [.agg (bytesD 37 s), .agg [.int .i8 (f 0), .int .i8 (f 1), .int .i8 (f 2), .int .i8 (f 3), .int .i8 (f 4), .int .i8 (f 5)]] (.one (.bool true)) [] := by
 have hk := known_c
 have hm := Make_c s hs
 have hN := makeNet_ok s hs
 have hsmall := toks_small s
 have hnp : 1 ≤ np s ∧ np s ≤ 5 := by unfold np; omega
 have hK5 : (makeNet s).init.length = np s := initL_length s (np s)
 generalize makeNet s = n at hm hN hsmall hK5
 have hno := netOk_of hN
 have hfit := hno.fits
 have hi10 := hno.init
 have ht10 := hno.trs
 have h0n : n.init ≠ [] := fun e => by rw [e] at hK5; simp at hK5; omega
 have hc := Small_ok n f (f 5) hN
 have hsm := Small_c n f (f 5) hfit
 have hcb : -8 < (Small n f (f 5)).bound ∧ (Small n f (f 5)).bound < 8 := tmod_bound (f 5) 8 (by omega)
 generalize Small n f (f 5) = c at hc hsm hcb
 obtain ⟨_, q2, q3, q4, q5⟩ := conOk_of hc
 have hcl : c.fac.length ≤ 1000000 := by omega
 have hHo := Holds_c n c hfit hc h0n
 have hMo := Monitor_c n c hfit hcl
 have hG := Graph_c n hfit h0n (graph_len (by omega))
 have hbn : ∀ e, bndF n = .inl e → e ≠ 0 := fun e => bnd_ne (n := n) (e := e)
 have hok := fun nd ed => bnd_ok (n := n) (nd := nd) (ed := ed)
 have hfirst := fun nd ed => search_first (n := n) (nd := nd) (ed := ed)
 have hedl := fun nd ed => bnd_edl (n := n) (nd := nd) (ed := ed)
 cases hB : bndF n with
 | inl e =>
  have hne := hbn e hB
  rw [hB] at hHo
  simp only [hoR] at hHo
  simp only [Net.d, Con.d] at hm hsm hHo
  (refine ACalls.of_body Ty_ok mixed Tryd.func3 rfl (by kernel_rfl) Tryd.ntmps3 (by simp) (congrArg Array.toList Tryd.results3) ?_)
  simp only [slotsOf]
  (repeat' (first | (with_reducible first | exact True.intro | refine And.intro ?_ ?_ | refine aBl ?_ | (refine aS 7 [9, 8, 11, 10, 14, 17, 12, 15, 18, 16, 13, 19] ?_; intro K hK)) | ((with_reducible first | refine aGo ?_ | refine rD (id := 18) ?_ | refine rP Ty_ok mixed 23 [0, 1, 5, 6] [.mid [pe 2, pe 3, pe 4, pe 7, pe 8, pe 9, pe 10, pe 11, pe 12, pe 13, pe 14, pe 15, pe 16, pe 17, pe 18, pe 19, pe 20, pe 21, pe 22, pe 23, pe 24, pe 25, pe 26] 0, .one 27, .mid [pe 28, pe 29] 0] ?_); simp only [go_sem]) | ((with_reducible refine aCd ?_ ?_ (fun hb => ?_) (fun hb => ?_)); (iterate 2 simp only [go_sem]); all_goals (simp only [go_sem] at hb; try simp only [bls] at hb)) | ((iterate 6 try ((fail_if_success with_reducible refine hK _ ?_ ?_ ?_); clear hK K)); with_reducible refine hK _ ?_ ?_ ?_; rotate_left; (focus (simp only [go_sem]; exact rfl)); clear hK K) | ((first | (with_reducible first | refine xA ?_ | refine xD ?_ | refine xO ?_ | refine xR ?_ | refine xG ?_ | refine xH ?_ | refine xM ?_) | ((with_reducible refine gA ?_); refine xA ?_) | ((with_reducible refine gD ?_); refine xD ?_) | ((with_reducible refine gG ?_); refine xG ?_)); simp only [go_sem]) | (with_reducible refine aGs (fun hg0 => ?_) (fun hg0 => ?_) <;> first | (with_reducible first | exact aF1 hg0 | exact aF2 hg0) | (simp only [hg0, go_sem])) | (with_reducible refine aNk ?_; intro bnil hnil; try simp only []) | exact aZ | fail))
  all_goals first | omega | skip
 | inr r =>
  obtain ⟨nd, ed⟩ := r
  obtain ⟨hn, hNd, hl⟩ := hok nd ed hB
  have hfi := hfirst nd ed hB
  have hel := hedl nd ed hB
  rw [hB] at hHo hG
  simp only [hoR] at hHo
  cases hh : holdF c (nd.map SN.m) with
  | some m =>
   rw [hh] at hHo
   simp only at hHo
   simp only [Net.d, Con.d] at hm hsm hHo
   (refine ACalls.of_body Ty_ok mixed Tryd.func3 rfl (by kernel_rfl) Tryd.ntmps3 (by simp) (congrArg Array.toList Tryd.results3) ?_)
   simp only [slotsOf]
   (repeat' (first | (with_reducible first | exact True.intro | refine And.intro ?_ ?_ | refine aBl ?_ | (refine aS 7 [9, 8, 11, 10, 14, 17, 12, 15, 18, 16, 13, 19] ?_; intro K hK)) | ((with_reducible first | refine aGo ?_ | refine rD (id := 18) ?_ | refine rP Ty_ok mixed 23 [0, 1, 5, 6] [.mid [pe 2, pe 3, pe 4, pe 7, pe 8, pe 9, pe 10, pe 11, pe 12, pe 13, pe 14, pe 15, pe 16, pe 17, pe 18, pe 19, pe 20, pe 21, pe 22, pe 23, pe 24, pe 25, pe 26] 0, .one 27, .mid [pe 28, pe 29] 0] ?_); simp only [go_sem]) | ((with_reducible refine aCd ?_ ?_ (fun hb => ?_) (fun hb => ?_)); (iterate 2 simp only [go_sem]); all_goals (simp only [go_sem] at hb; try simp only [bls] at hb)) | ((iterate 6 try ((fail_if_success with_reducible refine hK _ ?_ ?_ ?_); clear hK K)); with_reducible refine hK _ ?_ ?_ ?_; rotate_left; (focus (simp only [go_sem]; exact rfl)); clear hK K) | ((first | (with_reducible first | refine xA ?_ | refine xD ?_ | refine xO ?_ | refine xR ?_ | refine xG ?_ | refine xH ?_ | refine xM ?_) | ((with_reducible refine gA ?_); refine xA ?_) | ((with_reducible refine gD ?_); refine xD ?_) | ((with_reducible refine gG ?_); refine xG ?_)); simp only [go_sem]) | (with_reducible refine aGs (fun hg0 => ?_) (fun hg0 => ?_) <;> first | (with_reducible first | exact aF1 hg0 | exact aF2 hg0) | (simp only [hg0, go_sem])) | (with_reducible refine aNk ?_; intro bnil hnil; try simp only []) | exact aZ | fail))
   all_goals first | omega | skip
  | none =>
   rw [hh] at hHo
   simp only at hHo
   have hall := hold_all hh
   by_cases hmE : monE n c = 0
   ·obtain ⟨hmok, _, eL⟩ := monOk_of hmE
    have hdb := dot_bound (A := 16) (B := 3) (by omega) (by omega) c.fac n.init q3 ⟨fun y hy => by have := hsmall y hy; omega⟩
    have hBm := bnd_mon hmok hB (fun x hx => hall _ (List.mem_map_of_mem hx)) (by omega)
    have hmo := mon_ok hmok
    have hmi := mon_init (n := n) (c := c)
    have hG2 := Graph_c (monNet n c) hmo.fits (fun e => by rw [e] at hmi; simp at hmi) (graph_len (by omega))
    rw [hBm] at hG2
    rw [hmE, eL] at hMo
    simp only [grR, up_words] at hG hG2
    have hW : ∀ m ∈ nd.map SN.m, m.length = n.init.length := fun m hm => by
     obtain ⟨x, hx, rfl⟩ := List.mem_map.1 hm
     exact hNd.len x hx
    have hWn : (nd.map SN.m).length = nd.length := by simp
    generalize nd.map SN.m = W at *
    have hWm : (W.map (upM c)).length = W.length := by simp
    have hat : ∀ k, k < W.length → (W.map (upM c)).getD k [] = upM c (W.getD k []) := fun k hk => by
     simp only [List.getD, List.getElem?_map, List.getElem?_eq_getElem hk]; rfl
    generalize W.map (upM c) = V at *
    simp only [Net.d, Con.d] at hm hsm hHo hMo hG hG2
    (refine ACalls.of_body Ty_ok mixed Tryd.func3 rfl (by kernel_rfl) Tryd.ntmps3 (by simp) (congrArg Array.toList Tryd.results3) ?_)
    simp only [slotsOf]
    (repeat' (first | (with_reducible first | exact True.intro | refine And.intro ?_ ?_ | refine aBl ?_ | (refine aS 7 [9, 8, 11, 10, 14, 17, 12, 15, 18, 16, 13, 19] ?_; intro K hK)) | ((with_reducible first | refine aGo ?_ | refine rD (id := 18) ?_ | refine rP Ty_ok mixed 23 [0, 1, 5, 6] [.mid [pe 2, pe 3, pe 4, pe 7, pe 8, pe 9, pe 10, pe 11, pe 12, pe 13, pe 14, pe 15, pe 16, pe 17, pe 18, pe 19, pe 20, pe 21, pe 22, pe 23, pe 24, pe 25, pe 26] 0, .one 27, .mid [pe 28, pe 29] 0] ?_); simp only [go_sem]) | ((with_reducible refine aCd ?_ ?_ (fun hb => ?_) (fun hb => ?_)); (iterate 2 simp only [go_sem]); all_goals (simp only [go_sem] at hb; try simp only [bls] at hb)) | ((iterate 6 try ((fail_if_success with_reducible refine hK _ ?_ ?_ ?_); clear hK K)); with_reducible refine hK _ ?_ ?_ ?_; rotate_left; (focus (simp only [go_sem]; exact rfl)); clear hK K) | ((first | (with_reducible first | refine xA ?_ | refine xD ?_ | refine xO ?_ | refine xR ?_ | refine xG ?_ | refine xH ?_ | refine xM ?_) | ((with_reducible refine gA ?_); refine xA ?_) | ((with_reducible refine gD ?_); refine xD ?_) | ((with_reducible refine gG ?_); refine xG ?_)); simp only [go_sem]) | (with_reducible refine aGs (fun hg0 => ?_) (fun hg0 => ?_) <;> first | (with_reducible first | exact aF1 hg0 | exact aF2 hg0) | (simp only [hg0, go_sem])) | (with_reducible refine aNk ?_; intro bnil hnil; try simp only []) | exact aZ | fail))
    all_goals first | omega | skip
    refine awp_loop _ (by simp only [go_sem]; rfl) Nat (fun k => k ≤ ed.length) (fun k => [(18, .one (.int .i64 k))]) (fun _ H => H) (fun k => ed.length - k) 0 (by omega) ?_ ?_
    ·(simp only [SubF, go_sem]; (try simp only [go_sem]); repeat' (first | exact True.intro | with_reducible refine And.intro ?_ ?_ | rfl | omega))
    rintro k hk1 L hL
    have hq : ((k : Nat) : Int).toNat = k := by omega
    by_cases hlk : k < ed.length
    ·have a1 := edgs_at (l := ed) hlk [.int .i64 0, .int .i64 0, .int .i64 0]
     have a2 := edgs_at (l := ed) hlk []
     generalize ed.getD k Edg.no = x at a1 a2
     (simp only [go_sem] at hL ⊢)
     (repeat' (first | (with_reducible first | exact True.intro | refine And.intro ?_ ?_ | refine aBl ?_ | (refine aS 7 [9, 8, 11, 10, 14, 17, 12, 15, 18, 16, 13, 19] ?_; intro K hK)) | ((with_reducible first | refine aGo ?_ | refine rD (id := 18) ?_ | refine rP Ty_ok mixed 23 [0, 1, 5, 6] [.mid [pe 2, pe 3, pe 4, pe 7, pe 8, pe 9, pe 10, pe 11, pe 12, pe 13, pe 14, pe 15, pe 16, pe 17, pe 18, pe 19, pe 20, pe 21, pe 22, pe 23, pe 24, pe 25, pe 26] 0, .one 27, .mid [pe 28, pe 29] 0] ?_); simp only [hq, a1, a2, go_sem]) | ((with_reducible refine aCd ?_ ?_ (fun hb => ?_) (fun hb => ?_)); (iterate 2 simp only [hq, a1, a2, go_sem]); all_goals (simp only [hq, a1, a2, go_sem] at hb; try simp only [bls] at hb)) | ((iterate 6 try ((fail_if_success with_reducible refine hK _ ?_ ?_ ?_); clear hK K)); with_reducible refine hK _ ?_ ?_ ?_; rotate_left; (focus (simp only [hq, a1, a2, go_sem]; exact rfl)); clear hK K) | (with_reducible refine aGs (fun hg0 => ?_) (fun hg0 => ?_) <;> first | (with_reducible first | exact aF1 hg0 | exact aF2 hg0) | (simp only [hg0, hq, a1, a2, go_sem])) | (with_reducible refine aNk ?_; intro bnil hnil; try simp only []) | exact aZ | fail))
     all_goals first | omega | skip
     all_goals first | exact hL _ (k + 1) (by omega) (by (simp only [SubF, go_sem]; (try simp only [go_sem]); repeat' (first | exact True.intro | with_reducible refine And.intro ?_ ?_ | rfl | omega))) (by omega) | skip
    ·have hkl : k = ed.length := by omega
     subst hkl
     (simp only [go_sem] at hL ⊢)
     (repeat' (first | (with_reducible first | exact True.intro | refine And.intro ?_ ?_ | refine aBl ?_ | (refine aS 7 [9, 8, 11, 10, 14, 17, 12, 15, 18, 16, 13, 19] ?_; intro K hK)) | ((with_reducible first | refine aGo ?_ | refine rD (id := 18) ?_ | refine rP Ty_ok mixed 23 [0, 1, 5, 6] [.mid [pe 2, pe 3, pe 4, pe 7, pe 8, pe 9, pe 10, pe 11, pe 12, pe 13, pe 14, pe 15, pe 16, pe 17, pe 18, pe 19, pe 20, pe 21, pe 22, pe 23, pe 24, pe 25, pe 26] 0, .one 27, .mid [pe 28, pe 29] 0] ?_); simp only [go_sem]) | ((with_reducible refine aCd ?_ ?_ (fun hb => ?_) (fun hb => ?_)); (iterate 2 simp only [go_sem]); all_goals (simp only [go_sem] at hb; try simp only [bls] at hb)) | ((iterate 6 try ((fail_if_success with_reducible refine hK _ ?_ ?_ ?_); clear hK K)); with_reducible refine hK _ ?_ ?_ ?_; rotate_left; (focus (simp only [go_sem]; exact rfl)); clear hK K) | (with_reducible refine aGs (fun hg0 => ?_) (fun hg0 => ?_) <;> first | (with_reducible first | exact aF1 hg0 | exact aF2 hg0) | (simp only [hg0, go_sem])) | (with_reducible refine aNk ?_; intro bnil hnil; try simp only []) | exact aZ | fail))
     all_goals first | omega | skip
     refine awp_loop _ (by simp only [go_sem]; rfl) Nat (fun k => k ≤ W.length) (fun k => [(19, .one (.int .i64 k))]) (fun _ H => H) (fun k => W.length - k) 0 (by omega) ?_ ?_
     ·(simp only [SubF, go_sem]; (try simp only [go_sem]); repeat' (first | exact True.intro | with_reducible refine And.intro ?_ ?_ | rfl | omega))
     rintro k hk2 L2 hL2
     have hq : ((k : Nat) : Int).toNat = k := by omega
     by_cases hlk2 : k < W.length
     ·have a1 := words_at (l := W) hlk2 [.nil]
      have a2 := words_at (l := W) hlk2 []
      have b1 := words_at (l := V) (k := k) (by omega) [.nil]
      have b2 := words_at (l := V) (k := k) (by omega) []
      rw [hat k hlk2] at b1 b2
      have hml := hW _ (getD_mem W k [] hlk2)
      generalize W.getD k [] = m at *
      have hwe := wordEqual_c m m (by omega)
      have u1 := upM_length c m
      have u2 := upM_take c m
      generalize upM c m = um at *
      (simp only [go_sem] at hL2 ⊢)
      (repeat' (first | (with_reducible first | exact True.intro | refine And.intro ?_ ?_ | refine aBl ?_ | (refine aS 7 [9, 8, 11, 10, 14, 17, 12, 15, 18, 16, 13, 19] ?_; intro K hK)) | ((with_reducible first | refine aGo ?_ | refine rD (id := 18) ?_ | refine rP Ty_ok mixed 23 [0, 1, 5, 6] [.mid [pe 2, pe 3, pe 4, pe 7, pe 8, pe 9, pe 10, pe 11, pe 12, pe 13, pe 14, pe 15, pe 16, pe 17, pe 18, pe 19, pe 20, pe 21, pe 22, pe 23, pe 24, pe 25, pe 26] 0, .one 27, .mid [pe 28, pe 29] 0] ?_); simp only [hq, a1, a2, b1, b2, u1, u2, go_sem]) | ((with_reducible refine aCd ?_ ?_ (fun hb => ?_) (fun hb => ?_)); (iterate 2 simp only [hq, a1, a2, b1, b2, u1, u2, go_sem]); all_goals (simp only [hq, a1, a2, b1, b2, u1, u2, go_sem] at hb; try simp only [bls] at hb)) | ((iterate 6 try ((fail_if_success with_reducible refine hK _ ?_ ?_ ?_); clear hK K)); with_reducible refine hK _ ?_ ?_ ?_; rotate_left; (focus (simp only [hq, a1, a2, b1, b2, u1, u2, go_sem]; exact rfl)); clear hK K) | ((first | (with_reducible first | refine xA ?_ | refine xD ?_ | refine xO ?_ | refine xR ?_ | refine xG ?_ | refine xH ?_ | refine xM ?_) | ((with_reducible refine gA ?_); refine xA ?_) | ((with_reducible refine gD ?_); refine xD ?_) | ((with_reducible refine gG ?_); refine xG ?_)); simp only [hq, a1, a2, b1, b2, u1, u2, go_sem]) | (with_reducible refine aGs (fun hg0 => ?_) (fun hg0 => ?_) <;> first | (with_reducible first | exact aF1 hg0 | exact aF2 hg0) | (simp only [hg0, hq, a1, a2, b1, b2, u1, u2, go_sem])) | (with_reducible refine aNk ?_; intro bnil hnil; try simp only []) | exact aZ | fail))
      all_goals first | omega | skip
      all_goals first | exact hL2 _ (k + 1) (by omega) (by (simp only [SubF, go_sem]; (try simp only [go_sem]); repeat' (first | exact True.intro | with_reducible refine And.intro ?_ ?_ | rfl | omega))) (by omega) | skip
     ·(simp only [go_sem] at hL2 ⊢)
      (repeat' (first | (with_reducible first | exact True.intro | refine And.intro ?_ ?_ | refine aBl ?_ | (refine aS 7 [9, 8, 11, 10, 14, 17, 12, 15, 18, 16, 13, 19] ?_; intro K hK)) | ((with_reducible first | refine aGo ?_ | refine rD (id := 18) ?_ | refine rP Ty_ok mixed 23 [0, 1, 5, 6] [.mid [pe 2, pe 3, pe 4, pe 7, pe 8, pe 9, pe 10, pe 11, pe 12, pe 13, pe 14, pe 15, pe 16, pe 17, pe 18, pe 19, pe 20, pe 21, pe 22, pe 23, pe 24, pe 25, pe 26] 0, .one 27, .mid [pe 28, pe 29] 0] ?_); simp only [go_sem]) | ((with_reducible refine aCd ?_ ?_ (fun hb => ?_) (fun hb => ?_)); (iterate 2 simp only [go_sem]); all_goals (simp only [go_sem] at hb; try simp only [bls] at hb)) | ((iterate 6 try ((fail_if_success with_reducible refine hK _ ?_ ?_ ?_); clear hK K)); with_reducible refine hK _ ?_ ?_ ?_; rotate_left; (focus (simp only [go_sem]; exact rfl)); clear hK K) | (with_reducible refine aGs (fun hg0 => ?_) (fun hg0 => ?_) <;> first | (with_reducible first | exact aF1 hg0 | exact aF2 hg0) | (simp only [hg0, go_sem])) | (with_reducible refine aNk ?_; intro bnil hnil; try simp only []) | exact aZ | fail))
      all_goals first | omega | skip
   ·have hl3 := mon_lim hc (hall _ hfi) hmE
    have eZ : monL n c = Net.zero := by rw [monL, if_neg hmE]
    have hZ := none_c Net.zero ⟨by decide, by decide, fun t ht => by simp [Net.zero] at ht, fun t ht => by simp [Net.zero] at ht⟩
    rw [eZ, hl3] at hMo
    simp only [Net.d, Con.d, Net.zero] at hm hsm hHo hMo hZ
    (refine ACalls.of_body Ty_ok mixed Tryd.func3 rfl (by kernel_rfl) Tryd.ntmps3 (by simp) (congrArg Array.toList Tryd.results3) ?_)
    simp only [slotsOf]
    (repeat' (first | (with_reducible first | exact True.intro | refine And.intro ?_ ?_ | refine aBl ?_ | (refine aS 7 [9, 8, 11, 10, 14, 17, 12, 15, 18, 16, 13, 19] ?_; intro K hK)) | ((with_reducible first | refine aGo ?_ | refine rD (id := 18) ?_ | refine rP Ty_ok mixed 23 [0, 1, 5, 6] [.mid [pe 2, pe 3, pe 4, pe 7, pe 8, pe 9, pe 10, pe 11, pe 12, pe 13, pe 14, pe 15, pe 16, pe 17, pe 18, pe 19, pe 20, pe 21, pe 22, pe 23, pe 24, pe 25, pe 26] 0, .one 27, .mid [pe 28, pe 29] 0] ?_); simp only [go_sem]) | ((with_reducible refine aCd ?_ ?_ (fun hb => ?_) (fun hb => ?_)); (iterate 2 simp only [go_sem]); all_goals (simp only [go_sem] at hb; try simp only [bls] at hb)) | ((iterate 6 try ((fail_if_success with_reducible refine hK _ ?_ ?_ ?_); clear hK K)); with_reducible refine hK _ ?_ ?_ ?_; rotate_left; (focus (simp only [go_sem]; exact rfl)); clear hK K) | ((first | (with_reducible first | refine xA ?_ | refine xD ?_ | refine xO ?_ | refine xR ?_ | refine xG ?_ | refine xH ?_ | refine xM ?_) | ((with_reducible refine gA ?_); refine xA ?_) | ((with_reducible refine gD ?_); refine xD ?_) | ((with_reducible refine gG ?_); refine xG ?_)); simp only [go_sem]) | (with_reducible refine aGs (fun hg0 => ?_) (fun hg0 => ?_) <;> first | (with_reducible first | exact aF1 hg0 | exact aF2 hg0) | (simp only [hg0, go_sem])) | (with_reducible refine aNk ?_; intro bnil hnil; try simp only []) | exact aZ | fail))
    all_goals first | omega | skip
    all_goals simp
end Go.Proofs.YtgbhmieaoaojoaaDoor
