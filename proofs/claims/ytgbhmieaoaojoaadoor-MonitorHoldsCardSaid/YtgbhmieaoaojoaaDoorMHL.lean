/-
 The law MonitorHolds.
-/
import Derived.Test.YtgbhmieaoaojoaaDoorMF
import Derived.Test.YtgbhmieaoaojoaaDoorM0
set_option linter.unusedSimpArgs false
set_option linter.unusedVariables false
namespace Go.Proofs.YtgbhmieaoaojoaaDoor
open Go.Eng Go.RowKit
def firstIx (c : Con) : List (List Int) → Nat → Int
 | [], _ => -1
 | m :: l, k => if c.bound < dot c.fac m then (k : Int) else firstIx c l (k + 1)
theorem firstIx_none {c : Con} : ∀ {l : List (List Int)} {k : Nat}, holdF c l = none → firstIx c l k = -1
 | [], _, _ => rfl
 | m :: l, k, h => by
  rw [holdF_cons] at h
  split at h
  ·cases h
  ·rename_i h1
   rw [firstIx, if_neg h1, firstIx_none h]
theorem firstIx_some {c : Con} {m : List Int} : ∀ {l : List (List Int)} {k : Nat}, holdF c l = some m → ∃ j, j < l.length ∧ firstIx c l k = ((k + j : Nat) : Int) ∧ l.getD j [] = m
 | [], _, h => by cases h
 | x :: l, k, h => by
  rw [holdF_cons] at h
  split at h
  ·rename_i h1
   cases h
   exact ⟨0, by simp, by rw [firstIx, if_pos h1, Nat.add_zero], rfl⟩
  ·rename_i h1
   obtain ⟨j, h2, h3, h4⟩ := firstIx_some (k := k + 1) h
   refine ⟨j + 1, by simp only [List.length_cons]; omega, ?_, by simpa using h4⟩
   rw [firstIx, if_neg h1, h3]
   congr 1; omega
def hvR : Option (List Int) → AV
 | none => .tup [.one (.list []), .one (.bool true), .one (.int .i64 0)]
 | some m => .tup [.one (.list (ints m)), .one (.bool false), .one (.int .i64 0)]
theorem hoR_inr (c : Con) (nd : List SN) (ed : List Edg) : hoR c (.inr (nd, ed)) = hvR (holdF c (nd.map SN.m)) := by
 rw [hoR]
 cases holdF c (nd.map SN.m) <;> rfl
def fbL (c : Con) : Sum Int (Aut × List (List Int)) → List Int
 | .inl _ => []
 | .inr (_, ms) => badL c ms ms.length
def fbE : Sum Int (Aut × List (List Int)) → Int
 | .inl e => e
 | .inr _ => 0
theorem fbR_eq (c : Con) (B : Sum Int (Aut × List (List Int))) : fbR c B = .tup [.one (.list (ints (fbL c B))), .one (.int .i64 (fbE B))] := by
 cases B <;> rfl
set_option maxRecDepth 20000 in
set_option maxHeartbeats 32000000 in
theorem MonHolds_c (s : Nat → Int) (hs : Bytes s) (f : Nat → Int) :
  ACalls Tryd.prog 4 [.agg (bytesD 37 s), .agg [.int .i8 (f 0), .int .i8 (f 1), .int .i8 (f 2), .int .i8 (f 3), .int .i8 (f 4), .int .i8 (f 5)]] (.one (.bool true)) [] := by
 have hk := known_c
 have hm := Make_c s hs
 have hN := makeNet_ok s hs
 have hnp : 1 ≤ np s ∧ np s ≤ 5 := by unfold np; omega
 have hK5 : (makeNet s).init.length = np s := initL_length s (np s)
 generalize makeNet s = n at hm hN hK5
 have hno := netOk_of hN
 have hfit := hno.fits
 have hi10 := hno.init
 have ht10 := hno.trs
 have h0n : n.init ≠ [] := fun e => by rw [e] at hK5; simp at hK5; omega
 have hc := Small_ok n f (f 5) hN
 have hsm := Small_c n f (f 5) hfit
 generalize Small n f (f 5) = c at hc hsm
 obtain ⟨_, q2, q3, q4, q5⟩ := conOk_of hc
 have hcl : c.fac.length ≤ 1000000 := by omega
 have hHo := Holds_c n c hfit hc h0n
 have hFb := Forbidden_c n c hfit hc h0n
 have hG := Graph_c n hfit h0n (graph_len (by omega))
 have hAu := Automaton_c n [] hfit h0n (by decide) (fun m hm => by simp at hm)
 rw [wordsD_nil] at hAu
 have hbn : ∀ e, bndF n = .inl e → e ≠ 0 := fun e => bnd_ne (n := n) (e := e)
 have hok := fun nd ed => bnd_ok (n := n) (nd := nd) (ed := ed)
 have hne := fun e => autF_ne (n := n) (mk := []) (e := e)
 have haok := fun a ms => autF_ok (n := n) (mk := []) (a := a) (ms := ms)
 have hau1 : ∀ e, bndF n = .inl e → autF n [] = .inl e := fun e h => by
  rw [autF, if_neg (by omega), h, auG, mksE, if_neg (by omega)]
 cases hB : bndF n with
 | inl e =>
  have hbne := hbn e hB
  rw [hau1 e hB] at hFb
  rw [hB] at hHo hG
  simp only [hoR, fbR, grR] at hHo hFb hG
  simp only [Net.d, Con.d] at hm hsm hHo hFb hG
  (refine ACalls.of_body Ty_ok mixed Tryd.func4 rfl (by kernel_rfl) Tryd.ntmps4 (by simp) (congrArg Array.toList Tryd.results4) ?_)
  simp only [slotsOf]
  (repeat' (first | (with_reducible first | exact True.intro | refine And.intro ?_ ?_ | refine aBl ?_ | (refine aS 12 [14, 16, 13, 15, 19, 18, 21, 20] ?_; intro K hK)) | ((with_reducible first | refine aGo ?_ | refine rP Ty_ok mixed 14 [1, 2, 6] [.mid [pe 0, pe 3, pe 4, ⟨5, 0, true, false, false, [], []⟩, ⟨7, 1, false, false, false, [0], []⟩, ⟨8, 1, false, false, false, [], []⟩] 1] ?_ | refine rP Ty_ok mixed 25 [1, 2, 6] [.mid [pe 0, pe 3, pe 4, ⟨5, 0, true, false, false, [], []⟩, ⟨7, 1, false, false, false, [0], []⟩, ⟨8, 1, false, false, false, [], []⟩] 1] ?_); simp only [go_sem]) | ((with_reducible refine aCd ?_ ?_ (fun hb => ?_) (fun hb => ?_)); (iterate 2 simp only [go_sem]); all_goals (simp only [go_sem] at hb; try simp only [bls] at hb)) | ((iterate 6 try ((fail_if_success with_reducible refine hK _ ?_ ?_ ?_); clear hK K)); with_reducible refine hK _ ?_ ?_ ?_; rotate_left; (focus (simp only [go_sem]; exact rfl)); clear hK K) | ((first | (with_reducible first | refine xA ?_ | refine xD ?_ | refine xO ?_ | refine xR ?_ | refine xG ?_ | refine xH ?_ | refine xM ?_) | ((with_reducible refine gA ?_); refine xA ?_) | ((with_reducible refine gD ?_); refine xD ?_) | ((with_reducible refine gG ?_); refine xG ?_)); simp only [go_sem]) | (with_reducible refine aGs (fun hg0 => ?_) (fun hg0 => ?_) <;> first | (with_reducible first | exact aF1 hg0 | exact aF2 hg0) | (simp only [hg0, go_sem])) | (with_reducible refine aNk ?_; intro bnil hnil; try simp only []) | exact aZ | fail))
  all_goals first | omega | simp
 | inr r =>
  obtain ⟨nd, ed⟩ := r
  obtain ⟨hn, hNd, hl⟩ := hok nd ed hB
  rw [hB] at hHo hG
  rw [hoR_inr] at hHo
  simp only [grR] at hG
  have hW : ∀ m ∈ nd.map SN.m, m.length = n.init.length ∧ ∀ y ∈ m, 0 ≤ y ∧ y ≤ 65536 := fun m hm => by
   obtain ⟨x, hx, rfl⟩ := List.mem_map.1 hm
   exact ⟨hNd.len x hx, hNd.tok x hx⟩
  have hWn : (nd.map SN.m).length = nd.length := by simp
  have hWp : 0 < (nd.map SN.m).length := List.length_pos_of_mem (search_first hB)
  clear hau1 hbn hok hB
  generalize nd.map SN.m = W at *
  -- what the first loop finds
  have hX : ∃ (M : List Int) (I : Bool) (X : Int), hvR (holdF c W) = .tup [.one (.list (ints M)), .one (.bool I), .one (.int .i64 0)] ∧ firstIx c W 0 = X ∧ M.length ≤ 1000 ∧
    (I = true ∧ M = [] ∧ X = -1 ∨ I = false ∧ 0 ≤ X ∧ X < W.length ∧ W.getD X.toNat [] = M) := by
   cases hh : holdF c W with
   | none => exact ⟨[], true, -1, rfl, firstIx_none hh, by simp, .inl ⟨rfl, rfl, rfl⟩⟩
   | some m =>
    obtain ⟨j, h1, h2, h3⟩ := firstIx_some (k := 0) hh
    refine ⟨m, false, j, rfl, by rw [h2, Nat.zero_add], ?_, .inr ⟨rfl, by omega, by omega, by simpa using h3⟩⟩
    have := (hW _ (getD_mem W j [] h1)).1
    rw [h3] at this; omega
  obtain ⟨M, I, X, e1, hX1, hMl, hX2⟩ := hX
  rw [e1] at hHo
  rw [fbR_eq] at hFb
  generalize hBB : autF n [] = BB at *
  generalize hLb : fbL c BB = Lb at *
  generalize heb : fbE BB = eb at *
  have hwe := wordEqual_c M M (by omega)
  rw [decide_eq_true (rfl : M = M)] at hwe
  simp only [Net.d, Con.d] at hm hsm hHo hFb hG hAu
  (refine ACalls.of_body Ty_ok mixed Tryd.func4 rfl (by kernel_rfl) Tryd.ntmps4 (by simp) (congrArg Array.toList Tryd.results4) ?_)
  simp only [slotsOf]
  (repeat' (first | (with_reducible first | exact True.intro | refine And.intro ?_ ?_ | refine aBl ?_ | (refine aS 12 [14, 16, 13, 15, 19, 18, 21, 20] ?_; intro K hK)) | ((with_reducible first | refine aGo ?_ | refine rP Ty_ok mixed 14 [1, 2, 6] [.mid [pe 0, pe 3, pe 4, ⟨5, 0, true, false, false, [], []⟩, ⟨7, 1, false, false, false, [0], []⟩, ⟨8, 1, false, false, false, [], []⟩] 1] ?_ | refine rP Ty_ok mixed 25 [1, 2, 6] [.mid [pe 0, pe 3, pe 4, ⟨5, 0, true, false, false, [], []⟩, ⟨7, 1, false, false, false, [0], []⟩, ⟨8, 1, false, false, false, [], []⟩] 1] ?_); simp only [go_sem]) | ((with_reducible refine aCd ?_ ?_ (fun hb => ?_) (fun hb => ?_)); (iterate 2 simp only [go_sem]); all_goals (simp only [go_sem] at hb; try simp only [bls] at hb)) | ((iterate 6 try ((fail_if_success with_reducible refine hK _ ?_ ?_ ?_); clear hK K)); with_reducible refine hK _ ?_ ?_ ?_; rotate_left; (focus (simp only [go_sem]; exact rfl)); clear hK K) | ((first | (with_reducible first | refine xA ?_ | refine xD ?_ | refine xO ?_ | refine xR ?_ | refine xG ?_ | refine xH ?_ | refine xM ?_) | ((with_reducible refine gA ?_); refine xA ?_) | ((with_reducible refine gD ?_); refine xD ?_) | ((with_reducible refine gG ?_); refine xG ?_)); simp only [go_sem]) | (with_reducible refine aGs (fun hg0 => ?_) (fun hg0 => ?_) <;> first | (with_reducible first | exact aF1 hg0 | exact aF2 hg0) | (simp only [hg0, go_sem])) | (with_reducible refine aNk ?_; intro bnil hnil; try simp only []) | exact aZ | fail))
  all_goals first | omega | skip
  refine awp_loop _ (by simp only [go_sem]; rfl) Nat (fun k => k ≤ W.length) (fun k => [(16, .one (.int .i64 ((k : Int) - 1))), (15, .one (.int .i64 (firstIx c (W.drop k) k)))]) (fun _ H => H) (fun k => k) W.length (by omega) ?_ ?_
  ·have e0 : firstIx c (W.drop W.length) W.length = -1 := by rw [List.drop_length]; rfl
   simp only [e0]
   (simp only [SubF, go_sem]; (try simp only [go_sem]); repeat' (first | exact True.intro | with_reducible refine And.intro ?_ ?_ | rfl | omega))
  rintro k hkk L hL
  cases k with
  | succ j =>
   have hj : (((j + 1 : Nat) : Int) - 1) = (j : Int) := by omega
   have hq : ((j : Nat) : Int).toNat = j := by omega
   have a1 := words_at (l := W) (k := j) (by omega) [.nil]
   have a2 := words_at (l := W) (k := j) (by omega) []
   obtain ⟨w1, w2⟩ := hW _ (getD_mem W j [] (by omega))
   have hfx : firstIx c (W.drop j) j = if c.bound < dot c.fac (W.getD j []) then (j : Int) else firstIx c (W.drop (j + 1)) (j + 1) := by rw [drop_getD W j [] (by omega), firstIx]
   generalize W.getD j [] = m at a1 a2 w1 w2 hfx
   generalize firstIx c (W.drop (j + 1)) (j + 1) = Y at *
   have hV := sum_c c m (by omega) q3 ⟨fun y hy => by have := w2 y hy; omega⟩ (by omega) (by omega)
   simp only [Con.d] at hV
   (simp only [hj, go_sem] at hL ⊢)
   (repeat' (first | (with_reducible first | exact True.intro | refine And.intro ?_ ?_ | refine aBl ?_ | (refine aS 12 [14, 16, 13, 15, 19, 18, 21, 20] ?_; intro K hK)) | ((with_reducible first | refine aGo ?_ | refine rP Ty_ok mixed 14 [1, 2, 6] [.mid [pe 0, pe 3, pe 4, ⟨5, 0, true, false, false, [], []⟩, ⟨7, 1, false, false, false, [0], []⟩, ⟨8, 1, false, false, false, [], []⟩] 1] ?_ | refine rP Ty_ok mixed 25 [1, 2, 6] [.mid [pe 0, pe 3, pe 4, ⟨5, 0, true, false, false, [], []⟩, ⟨7, 1, false, false, false, [0], []⟩, ⟨8, 1, false, false, false, [], []⟩] 1] ?_); simp only [hq, a1, a2, go_sem]) | ((with_reducible refine aCd ?_ ?_ (fun hb => ?_) (fun hb => ?_)); (iterate 2 simp only [hq, a1, a2, go_sem]); all_goals (simp only [hq, a1, a2, go_sem] at hb; try simp only [bls] at hb)) | ((iterate 6 try ((fail_if_success with_reducible refine hK _ ?_ ?_ ?_); clear hK K)); with_reducible refine hK _ ?_ ?_ ?_; rotate_left; (focus (simp only [hq, a1, a2, go_sem]; exact rfl)); clear hK K) | ((first | (with_reducible first | refine xA ?_ | refine xD ?_ | refine xO ?_ | refine xR ?_ | refine xG ?_ | refine xH ?_ | refine xM ?_) | ((with_reducible refine gA ?_); refine xA ?_) | ((with_reducible refine gD ?_); refine xD ?_) | ((with_reducible refine gG ?_); refine xG ?_)); simp only [hq, a1, a2, go_sem]) | (with_reducible refine aGs (fun hg0 => ?_) (fun hg0 => ?_) <;> first | (with_reducible first | exact aF1 hg0 | exact aF2 hg0) | (simp only [hg0, hq, a1, a2, go_sem])) | (with_reducible refine aNk ?_; intro bnil hnil; try simp only []) | exact aZ | fail))
   all_goals first | omega | skip
   ·rw [if_pos (by assumption)] at hfx
    refine hL _ j (by omega) ?_ (by omega)
    simp only [hfx]
    (simp only [SubF, go_sem]; (try simp only [go_sem]); repeat' (first | exact True.intro | with_reducible refine And.intro ?_ ?_ | rfl | omega))
   ·rw [if_neg (by omega)] at hfx
    refine hL _ j (by omega) ?_ (by omega)
    simp only [hfx]
    (simp only [SubF, go_sem]; (try simp only [go_sem]); repeat' (first | exact True.intro | with_reducible refine And.intro ?_ ?_ | rfl | omega))
  | zero =>
   simp only [List.drop_zero, hX1]
   have hz : (((0 : Nat) : Int) - 1) = -1 := by decide
   have hqX : ((X.toNat : Nat) : Int) = X ∨ X = -1 := by omega
   (simp only [hz, go_sem] at hL ⊢)
   cases BB with
   | inl e =>
    have hane := hne e rfl
    simp only [fbL] at hLb
    simp only [fbE] at heb
    subst hLb
    subst heb
    simp only [auR, Aut.d, Aut.zero] at hAu
    rcases hX2 with ⟨rfl, rfl, rfl⟩ | ⟨rfl, h2, h3, h4⟩
    ·have a1 := words_at (l := W) (k := 0) hWp [.nil]
     have a2 := words_at (l := W) (k := 0) hWp []
     have hwe0 := wordEqual_c [] (W.getD 0 []) (by decide)
     (repeat' (first | (with_reducible first | exact True.intro | refine And.intro ?_ ?_ | refine aBl ?_ | (refine aS 12 [14, 16, 13, 15, 19, 18, 21, 20] ?_; intro K hK)) | ((with_reducible first | refine aGo ?_ | refine rP Ty_ok mixed 14 [1, 2, 6] [.mid [pe 0, pe 3, pe 4, ⟨5, 0, true, false, false, [], []⟩, ⟨7, 1, false, false, false, [0], []⟩, ⟨8, 1, false, false, false, [], []⟩] 1] ?_ | refine rP Ty_ok mixed 25 [1, 2, 6] [.mid [pe 0, pe 3, pe 4, ⟨5, 0, true, false, false, [], []⟩, ⟨7, 1, false, false, false, [0], []⟩, ⟨8, 1, false, false, false, [], []⟩] 1] ?_); simp only [a1, a2, go_sem]) | ((with_reducible refine aCd ?_ ?_ (fun hb => ?_) (fun hb => ?_)); (iterate 2 simp only [a1, a2, go_sem]); all_goals (simp only [a1, a2, go_sem] at hb; try simp only [bls] at hb)) | ((iterate 6 try ((fail_if_success with_reducible refine hK _ ?_ ?_ ?_); clear hK K)); with_reducible refine hK _ ?_ ?_ ?_; rotate_left; (focus (simp only [a1, a2, go_sem]; exact rfl)); clear hK K) | ((first | (with_reducible first | refine xA ?_ | refine xD ?_ | refine xO ?_ | refine xR ?_ | refine xG ?_ | refine xH ?_ | refine xM ?_) | ((with_reducible refine gA ?_); refine xA ?_) | ((with_reducible refine gD ?_); refine xD ?_) | ((with_reducible refine gG ?_); refine xG ?_)); simp only [a1, a2, go_sem]) | (with_reducible refine aGs (fun hg0 => ?_) (fun hg0 => ?_) <;> first | (with_reducible first | exact aF1 hg0 | exact aF2 hg0) | (simp only [hg0, a1, a2, go_sem])) | (with_reducible refine aNk ?_; intro bnil hnil; try simp only []) | exact aZ | fail))
     all_goals first | omega | skip
    ·have a1 := words_at (l := W) (k := X.toNat) (by omega) [.nil]
     have a2 := words_at (l := W) (k := X.toNat) (by omega) []
     have hXd : decide (X < 0) = false := decide_eq_false (by omega)
     rw [h4] at a1 a2
     (repeat' (first | (with_reducible first | exact True.intro | refine And.intro ?_ ?_ | refine aBl ?_ | (refine aS 12 [14, 16, 13, 15, 19, 18, 21, 20] ?_; intro K hK)) | ((with_reducible first | refine aGo ?_ | refine rP Ty_ok mixed 14 [1, 2, 6] [.mid [pe 0, pe 3, pe 4, ⟨5, 0, true, false, false, [], []⟩, ⟨7, 1, false, false, false, [0], []⟩, ⟨8, 1, false, false, false, [], []⟩] 1] ?_ | refine rP Ty_ok mixed 25 [1, 2, 6] [.mid [pe 0, pe 3, pe 4, ⟨5, 0, true, false, false, [], []⟩, ⟨7, 1, false, false, false, [0], []⟩, ⟨8, 1, false, false, false, [], []⟩] 1] ?_); simp only [a1, a2, hXd, go_sem]) | ((with_reducible refine aCd ?_ ?_ (fun hb => ?_) (fun hb => ?_)); (iterate 2 simp only [a1, a2, hXd, go_sem]); all_goals (simp only [a1, a2, hXd, go_sem] at hb; try simp only [bls] at hb)) | ((iterate 6 try ((fail_if_success with_reducible refine hK _ ?_ ?_ ?_); clear hK K)); with_reducible refine hK _ ?_ ?_ ?_; rotate_left; (focus (simp only [a1, a2, hXd, go_sem]; exact rfl)); clear hK K) | ((first | (with_reducible first | refine xA ?_ | refine xD ?_ | refine xO ?_ | refine xR ?_ | refine xG ?_ | refine xH ?_ | refine xM ?_) | ((with_reducible refine gA ?_); refine xA ?_) | ((with_reducible refine gD ?_); refine xD ?_) | ((with_reducible refine gG ?_); refine xG ?_)); simp only [a1, a2, hXd, go_sem]) | (with_reducible refine aGs (fun hg0 => ?_) (fun hg0 => ?_) <;> first | (with_reducible first | exact aF1 hg0 | exact aF2 hg0) | (simp only [hg0, a1, a2, hXd, go_sem])) | (with_reducible refine aNk ?_; intro bnil hnil; try simp only []) | exact aZ | fail))
     all_goals first | omega | (intro hg; exact ⟨hg, by omega, by omega⟩) | simp
   | inr r =>
    obtain ⟨a, V⟩ := r
    obtain ⟨nd2, ed2, _, hF, _, _, _, rfl⟩ := haok a V rfl
    obtain ⟨hVl, hVn⟩ := autM_ok hF
    simp only [fbL] at hLb
    simp only [fbE] at heb
    subst hLb
    subst heb
    simp only [auR, Aut.d] at hAu
    generalize autM n nd2 = V at *
    have hbl := badL_length c V V.length
    rcases hX2 with ⟨rfl, rfl, rfl⟩ | ⟨rfl, h2, h3, h4⟩
    ·have a1 := words_at (l := W) (k := 0) hWp [.nil]
     have a2 := words_at (l := W) (k := 0) hWp []
     have hwe0 := wordEqual_c [] (W.getD 0 []) (by decide)
     (repeat' (first | (with_reducible first | exact True.intro | refine And.intro ?_ ?_ | refine aBl ?_ | (refine aS 12 [14, 16, 13, 15, 19, 18, 21, 20] ?_; intro K hK)) | ((with_reducible first | refine aGo ?_ | refine rP Ty_ok mixed 14 [1, 2, 6] [.mid [pe 0, pe 3, pe 4, ⟨5, 0, true, false, false, [], []⟩, ⟨7, 1, false, false, false, [0], []⟩, ⟨8, 1, false, false, false, [], []⟩] 1] ?_ | refine rP Ty_ok mixed 25 [1, 2, 6] [.mid [pe 0, pe 3, pe 4, ⟨5, 0, true, false, false, [], []⟩, ⟨7, 1, false, false, false, [0], []⟩, ⟨8, 1, false, false, false, [], []⟩] 1] ?_); simp only [a1, a2, go_sem]) | ((with_reducible refine aCd ?_ ?_ (fun hb => ?_) (fun hb => ?_)); (iterate 2 simp only [a1, a2, go_sem]); all_goals (simp only [a1, a2, go_sem] at hb; try simp only [bls] at hb)) | ((iterate 6 try ((fail_if_success with_reducible refine hK _ ?_ ?_ ?_); clear hK K)); with_reducible refine hK _ ?_ ?_ ?_; rotate_left; (focus (simp only [a1, a2, go_sem]; exact rfl)); clear hK K) | ((first | (with_reducible first | refine xA ?_ | refine xD ?_ | refine xO ?_ | refine xR ?_ | refine xG ?_ | refine xH ?_ | refine xM ?_) | ((with_reducible refine gA ?_); refine xA ?_) | ((with_reducible refine gD ?_); refine xD ?_) | ((with_reducible refine gG ?_); refine xG ?_)); simp only [a1, a2, go_sem]) | (with_reducible refine aGs (fun hg0 => ?_) (fun hg0 => ?_) <;> first | (with_reducible first | exact aF1 hg0 | exact aF2 hg0) | (simp only [hg0, a1, a2, go_sem])) | (with_reducible refine aNk ?_; intro bnil hnil; try simp only []) | exact aZ | fail))
     all_goals first | omega | skip
     refine awp_loop _ (by simp only [go_sem]; rfl) Nat (fun k => k ≤ V.length) (fun k => [(20, .one (.int .i64 ((badL c V k).length : Nat))), (21, .one (.int .i64 k))]) (fun _ H => H) (fun k => V.length - k) 0 (by omega) ?_ ?_
     ·(simp only [SubF, go_sem]; (try simp only [go_sem]); repeat' (first | exact True.intro | with_reducible refine And.intro ?_ ?_ | rfl | omega))
     rintro k hkk2 L2 hL2
     have hq2 : ((k : Nat) : Int).toNat = k := by omega
     have hbl2 := badL_length c V k
     by_cases hlk : k < V.length
     ·have b1 := words_at (l := V) hlk [.nil]
      have b2 := words_at (l := V) hlk []
      have hs := badL_succ c V k
      have hat := badL_at c V hlk
      obtain ⟨w1, w2⟩ := hVl _ (getD_mem V k [] hlk)
      generalize V.getD k [] = m at *
      have hV := sum_c c m (by omega) q3 ⟨fun y hy => by have := w2 y hy; omega⟩ (by omega) (by omega)
      simp only [Con.d] at hV
      by_cases hz : c.bound < dot c.fac m
      ·obtain ⟨h5, h6⟩ := hat hz
       rw [if_pos hz] at hs
       have h7 : (badL c V (k + 1)).length = (badL c V k).length + 1 := by rw [hs]; simp
       have c1 := ints_at (l := badL c V V.length) h5
       rw [h6] at c1
       have hq3 : (((badL c V k).length : Nat) : Int).toNat = (badL c V k).length := by omega
       generalize badL c V V.length = Z at *
       (simp only [go_sem] at hL2 ⊢)
       (repeat' (first | (with_reducible first | exact True.intro | refine And.intro ?_ ?_ | refine aBl ?_ | (refine aS 12 [14, 16, 13, 15, 19, 18, 21, 20] ?_; intro K hK)) | ((with_reducible first | refine aGo ?_ | refine rP Ty_ok mixed 14 [1, 2, 6] [.mid [pe 0, pe 3, pe 4, ⟨5, 0, true, false, false, [], []⟩, ⟨7, 1, false, false, false, [0], []⟩, ⟨8, 1, false, false, false, [], []⟩] 1] ?_ | refine rP Ty_ok mixed 25 [1, 2, 6] [.mid [pe 0, pe 3, pe 4, ⟨5, 0, true, false, false, [], []⟩, ⟨7, 1, false, false, false, [0], []⟩, ⟨8, 1, false, false, false, [], []⟩] 1] ?_); simp only [hq2, hq3, b1, b2, c1, go_sem]) | ((with_reducible refine aCd ?_ ?_ (fun hb => ?_) (fun hb => ?_)); (iterate 2 simp only [hq2, hq3, b1, b2, c1, go_sem]); all_goals (simp only [hq2, hq3, b1, b2, c1, go_sem] at hb; try simp only [bls] at hb)) | ((iterate 6 try ((fail_if_success with_reducible refine hK _ ?_ ?_ ?_); clear hK K)); with_reducible refine hK _ ?_ ?_ ?_; rotate_left; (focus (simp only [hq2, hq3, b1, b2, c1, go_sem]; exact rfl)); clear hK K) | ((first | (with_reducible first | refine xA ?_ | refine xD ?_ | refine xO ?_ | refine xR ?_ | refine xG ?_ | refine xH ?_ | refine xM ?_) | ((with_reducible refine gA ?_); refine xA ?_) | ((with_reducible refine gD ?_); refine xD ?_) | ((with_reducible refine gG ?_); refine xG ?_)); simp only [hq2, hq3, b1, b2, c1, go_sem]) | (with_reducible refine aGs (fun hg0 => ?_) (fun hg0 => ?_) <;> first | (with_reducible first | exact aF1 hg0 | exact aF2 hg0) | (simp only [hg0, hq2, hq3, b1, b2, c1, go_sem])) | (with_reducible refine aNk ?_; intro bnil hnil; try simp only []) | exact aZ | fail))
       all_goals first | omega | skip
       refine hL2 _ (k + 1) (by omega) ?_ (by omega)
       simp only [h7]
       (simp only [SubF, go_sem]; (try simp only [go_sem]); repeat' (first | exact True.intro | with_reducible refine And.intro ?_ ?_ | rfl | omega))
      ·rw [if_neg hz, List.append_nil] at hs
       (simp only [go_sem] at hL2 ⊢)
       (repeat' (first | (with_reducible first | exact True.intro | refine And.intro ?_ ?_ | refine aBl ?_ | (refine aS 12 [14, 16, 13, 15, 19, 18, 21, 20] ?_; intro K hK)) | ((with_reducible first | refine aGo ?_ | refine rP Ty_ok mixed 14 [1, 2, 6] [.mid [pe 0, pe 3, pe 4, ⟨5, 0, true, false, false, [], []⟩, ⟨7, 1, false, false, false, [0], []⟩, ⟨8, 1, false, false, false, [], []⟩] 1] ?_ | refine rP Ty_ok mixed 25 [1, 2, 6] [.mid [pe 0, pe 3, pe 4, ⟨5, 0, true, false, false, [], []⟩, ⟨7, 1, false, false, false, [0], []⟩, ⟨8, 1, false, false, false, [], []⟩] 1] ?_); simp only [hq2, b1, b2, go_sem]) | ((with_reducible refine aCd ?_ ?_ (fun hb => ?_) (fun hb => ?_)); (iterate 2 simp only [hq2, b1, b2, go_sem]); all_goals (simp only [hq2, b1, b2, go_sem] at hb; try simp only [bls] at hb)) | ((iterate 6 try ((fail_if_success with_reducible refine hK _ ?_ ?_ ?_); clear hK K)); with_reducible refine hK _ ?_ ?_ ?_; rotate_left; (focus (simp only [hq2, b1, b2, go_sem]; exact rfl)); clear hK K) | ((first | (with_reducible first | refine xA ?_ | refine xD ?_ | refine xO ?_ | refine xR ?_ | refine xG ?_ | refine xH ?_ | refine xM ?_) | ((with_reducible refine gA ?_); refine xA ?_) | ((with_reducible refine gD ?_); refine xD ?_) | ((with_reducible refine gG ?_); refine xG ?_)); simp only [hq2, b1, b2, go_sem]) | (with_reducible refine aGs (fun hg0 => ?_) (fun hg0 => ?_) <;> first | (with_reducible first | exact aF1 hg0 | exact aF2 hg0) | (simp only [hg0, hq2, b1, b2, go_sem])) | (with_reducible refine aNk ?_; intro bnil hnil; try simp only []) | exact aZ | fail))
       all_goals first | omega | skip
       refine hL2 _ (k + 1) (by omega) ?_ (by omega)
       simp only [hs]
       (simp only [SubF, go_sem]; (try simp only [go_sem]); repeat' (first | exact True.intro | with_reducible refine And.intro ?_ ?_ | rfl | omega))
     ·have hkl : k = V.length := by omega
      subst hkl
      (simp only [go_sem] at hL2 ⊢)
      (repeat' (first | (with_reducible first | exact True.intro | refine And.intro ?_ ?_ | refine aBl ?_ | (refine aS 12 [14, 16, 13, 15, 19, 18, 21, 20] ?_; intro K hK)) | ((with_reducible first | refine aGo ?_ | refine rP Ty_ok mixed 14 [1, 2, 6] [.mid [pe 0, pe 3, pe 4, ⟨5, 0, true, false, false, [], []⟩, ⟨7, 1, false, false, false, [0], []⟩, ⟨8, 1, false, false, false, [], []⟩] 1] ?_ | refine rP Ty_ok mixed 25 [1, 2, 6] [.mid [pe 0, pe 3, pe 4, ⟨5, 0, true, false, false, [], []⟩, ⟨7, 1, false, false, false, [0], []⟩, ⟨8, 1, false, false, false, [], []⟩] 1] ?_); simp only [go_sem]) | ((with_reducible refine aCd ?_ ?_ (fun hb => ?_) (fun hb => ?_)); (iterate 2 simp only [go_sem]); all_goals (simp only [go_sem] at hb; try simp only [bls] at hb)) | ((iterate 6 try ((fail_if_success with_reducible refine hK _ ?_ ?_ ?_); clear hK K)); with_reducible refine hK _ ?_ ?_ ?_; rotate_left; (focus (simp only [go_sem]; exact rfl)); clear hK K) | (with_reducible refine aGs (fun hg0 => ?_) (fun hg0 => ?_) <;> first | (with_reducible first | exact aF1 hg0 | exact aF2 hg0) | (simp only [hg0, go_sem])) | (with_reducible refine aNk ?_; intro bnil hnil; try simp only []) | exact aZ | fail))
      all_goals first | omega | skip
    ·have a1 := words_at (l := W) (k := X.toNat) (by omega) [.nil]
     have a2 := words_at (l := W) (k := X.toNat) (by omega) []
     have hXd : decide (X < 0) = false := decide_eq_false (by omega)
     rw [h4] at a1 a2
     (repeat' (first | (with_reducible first | exact True.intro | refine And.intro ?_ ?_ | refine aBl ?_ | (refine aS 12 [14, 16, 13, 15, 19, 18, 21, 20] ?_; intro K hK)) | ((with_reducible first | refine aGo ?_ | refine rP Ty_ok mixed 14 [1, 2, 6] [.mid [pe 0, pe 3, pe 4, ⟨5, 0, true, false, false, [], []⟩, ⟨7, 1, false, false, false, [0], []⟩, ⟨8, 1, false, false, false, [], []⟩] 1] ?_ | refine rP Ty_ok mixed 25 [1, 2, 6] [.mid [pe 0, pe 3, pe 4, ⟨5, 0, true, false, false, [], []⟩, ⟨7, 1, false, false, false, [0], []⟩, ⟨8, 1, false, false, false, [], []⟩] 1] ?_); simp only [a1, a2, hXd, go_sem]) | ((with_reducible refine aCd ?_ ?_ (fun hb => ?_) (fun hb => ?_)); (iterate 2 simp only [a1, a2, hXd, go_sem]); all_goals (simp only [a1, a2, hXd, go_sem] at hb; try simp only [bls] at hb)) | ((iterate 6 try ((fail_if_success with_reducible refine hK _ ?_ ?_ ?_); clear hK K)); with_reducible refine hK _ ?_ ?_ ?_; rotate_left; (focus (simp only [a1, a2, hXd, go_sem]; exact rfl)); clear hK K) | ((first | (with_reducible first | refine xA ?_ | refine xD ?_ | refine xO ?_ | refine xR ?_ | refine xG ?_ | refine xH ?_ | refine xM ?_) | ((with_reducible refine gA ?_); refine xA ?_) | ((with_reducible refine gD ?_); refine xD ?_) | ((with_reducible refine gG ?_); refine xG ?_)); simp only [a1, a2, hXd, go_sem]) | (with_reducible refine aGs (fun hg0 => ?_) (fun hg0 => ?_) <;> first | (with_reducible first | exact aF1 hg0 | exact aF2 hg0) | (simp only [hg0, a1, a2, hXd, go_sem])) | (with_reducible refine aNk ?_; intro bnil hnil; try simp only []) | exact aZ | fail))
     all_goals first | omega | (intro hg; exact ⟨hg, by omega, by omega⟩) | skip
     refine awp_loop _ (by simp only [go_sem]; rfl) Nat (fun k => k ≤ V.length) (fun k => [(20, .one (.int .i64 ((badL c V k).length : Nat))), (21, .one (.int .i64 k))]) (fun _ H => H) (fun k => V.length - k) 0 (by omega) ?_ ?_
     ·(simp only [SubF, go_sem]; (try simp only [go_sem]); repeat' (first | exact True.intro | with_reducible refine And.intro ?_ ?_ | rfl | omega))
     rintro k hkk2 L2 hL2
     have hq2 : ((k : Nat) : Int).toNat = k := by omega
     have hbl2 := badL_length c V k
     by_cases hlk : k < V.length
     ·have b1 := words_at (l := V) hlk [.nil]
      have b2 := words_at (l := V) hlk []
      have hs := badL_succ c V k
      have hat := badL_at c V hlk
      obtain ⟨w1, w2⟩ := hVl _ (getD_mem V k [] hlk)
      generalize V.getD k [] = m at *
      have hV := sum_c c m (by omega) q3 ⟨fun y hy => by have := w2 y hy; omega⟩ (by omega) (by omega)
      simp only [Con.d] at hV
      by_cases hz : c.bound < dot c.fac m
      ·obtain ⟨h5, h6⟩ := hat hz
       rw [if_pos hz] at hs
       have h7 : (badL c V (k + 1)).length = (badL c V k).length + 1 := by rw [hs]; simp
       have c1 := ints_at (l := badL c V V.length) h5
       rw [h6] at c1
       have hq3 : (((badL c V k).length : Nat) : Int).toNat = (badL c V k).length := by omega
       generalize badL c V V.length = Z at *
       (simp only [go_sem] at hL2 ⊢)
       (repeat' (first | (with_reducible first | exact True.intro | refine And.intro ?_ ?_ | refine aBl ?_ | (refine aS 12 [14, 16, 13, 15, 19, 18, 21, 20] ?_; intro K hK)) | ((with_reducible first | refine aGo ?_ | refine rP Ty_ok mixed 14 [1, 2, 6] [.mid [pe 0, pe 3, pe 4, ⟨5, 0, true, false, false, [], []⟩, ⟨7, 1, false, false, false, [0], []⟩, ⟨8, 1, false, false, false, [], []⟩] 1] ?_ | refine rP Ty_ok mixed 25 [1, 2, 6] [.mid [pe 0, pe 3, pe 4, ⟨5, 0, true, false, false, [], []⟩, ⟨7, 1, false, false, false, [0], []⟩, ⟨8, 1, false, false, false, [], []⟩] 1] ?_); simp only [hq2, hq3, b1, b2, c1, go_sem]) | ((with_reducible refine aCd ?_ ?_ (fun hb => ?_) (fun hb => ?_)); (iterate 2 simp only [hq2, hq3, b1, b2, c1, go_sem]); all_goals (simp only [hq2, hq3, b1, b2, c1, go_sem] at hb; try simp only [bls] at hb)) | ((iterate 6 try ((fail_if_success with_reducible refine hK _ ?_ ?_ ?_); clear hK K)); with_reducible refine hK _ ?_ ?_ ?_; rotate_left; (focus (simp only [hq2, hq3, b1, b2, c1, go_sem]; exact rfl)); clear hK K) | ((first | (with_reducible first | refine xA ?_ | refine xD ?_ | refine xO ?_ | refine xR ?_ | refine xG ?_ | refine xH ?_ | refine xM ?_) | ((with_reducible refine gA ?_); refine xA ?_) | ((with_reducible refine gD ?_); refine xD ?_) | ((with_reducible refine gG ?_); refine xG ?_)); simp only [hq2, hq3, b1, b2, c1, go_sem]) | (with_reducible refine aGs (fun hg0 => ?_) (fun hg0 => ?_) <;> first | (with_reducible first | exact aF1 hg0 | exact aF2 hg0) | (simp only [hg0, hq2, hq3, b1, b2, c1, go_sem])) | (with_reducible refine aNk ?_; intro bnil hnil; try simp only []) | exact aZ | fail))
       all_goals first | omega | skip
       refine hL2 _ (k + 1) (by omega) ?_ (by omega)
       simp only [h7]
       (simp only [SubF, go_sem]; (try simp only [go_sem]); repeat' (first | exact True.intro | with_reducible refine And.intro ?_ ?_ | rfl | omega))
      ·rw [if_neg hz, List.append_nil] at hs
       (simp only [go_sem] at hL2 ⊢)
       (repeat' (first | (with_reducible first | exact True.intro | refine And.intro ?_ ?_ | refine aBl ?_ | (refine aS 12 [14, 16, 13, 15, 19, 18, 21, 20] ?_; intro K hK)) | ((with_reducible first | refine aGo ?_ | refine rP Ty_ok mixed 14 [1, 2, 6] [.mid [pe 0, pe 3, pe 4, ⟨5, 0, true, false, false, [], []⟩, ⟨7, 1, false, false, false, [0], []⟩, ⟨8, 1, false, false, false, [], []⟩] 1] ?_ | refine rP Ty_ok mixed 25 [1, 2, 6] [.mid [pe 0, pe 3, pe 4, ⟨5, 0, true, false, false, [], []⟩, ⟨7, 1, false, false, false, [0], []⟩, ⟨8, 1, false, false, false, [], []⟩] 1] ?_); simp only [hq2, b1, b2, go_sem]) | ((with_reducible refine aCd ?_ ?_ (fun hb => ?_) (fun hb => ?_)); (iterate 2 simp only [hq2, b1, b2, go_sem]); all_goals (simp only [hq2, b1, b2, go_sem] at hb; try simp only [bls] at hb)) | ((iterate 6 try ((fail_if_success with_reducible refine hK _ ?_ ?_ ?_); clear hK K)); with_reducible refine hK _ ?_ ?_ ?_; rotate_left; (focus (simp only [hq2, b1, b2, go_sem]; exact rfl)); clear hK K) | ((first | (with_reducible first | refine xA ?_ | refine xD ?_ | refine xO ?_ | refine xR ?_ | refine xG ?_ | refine xH ?_ | refine xM ?_) | ((with_reducible refine gA ?_); refine xA ?_) | ((with_reducible refine gD ?_); refine xD ?_) | ((with_reducible refine gG ?_); refine xG ?_)); simp only [hq2, b1, b2, go_sem]) | (with_reducible refine aGs (fun hg0 => ?_) (fun hg0 => ?_) <;> first | (with_reducible first | exact aF1 hg0 | exact aF2 hg0) | (simp only [hg0, hq2, b1, b2, go_sem])) | (with_reducible refine aNk ?_; intro bnil hnil; try simp only []) | exact aZ | fail))
       all_goals first | omega | skip
       refine hL2 _ (k + 1) (by omega) ?_ (by omega)
       simp only [hs]
       (simp only [SubF, go_sem]; (try simp only [go_sem]); repeat' (first | exact True.intro | with_reducible refine And.intro ?_ ?_ | rfl | omega))
     ·have hkl : k = V.length := by omega
      subst hkl
      (simp only [go_sem] at hL2 ⊢)
      (repeat' (first | (with_reducible first | exact True.intro | refine And.intro ?_ ?_ | refine aBl ?_ | (refine aS 12 [14, 16, 13, 15, 19, 18, 21, 20] ?_; intro K hK)) | ((with_reducible first | refine aGo ?_ | refine rP Ty_ok mixed 14 [1, 2, 6] [.mid [pe 0, pe 3, pe 4, ⟨5, 0, true, false, false, [], []⟩, ⟨7, 1, false, false, false, [0], []⟩, ⟨8, 1, false, false, false, [], []⟩] 1] ?_ | refine rP Ty_ok mixed 25 [1, 2, 6] [.mid [pe 0, pe 3, pe 4, ⟨5, 0, true, false, false, [], []⟩, ⟨7, 1, false, false, false, [0], []⟩, ⟨8, 1, false, false, false, [], []⟩] 1] ?_); simp only [go_sem]) | ((with_reducible refine aCd ?_ ?_ (fun hb => ?_) (fun hb => ?_)); (iterate 2 simp only [go_sem]); all_goals (simp only [go_sem] at hb; try simp only [bls] at hb)) | ((iterate 6 try ((fail_if_success with_reducible refine hK _ ?_ ?_ ?_); clear hK K)); with_reducible refine hK _ ?_ ?_ ?_; rotate_left; (focus (simp only [go_sem]; exact rfl)); clear hK K) | (with_reducible refine aGs (fun hg0 => ?_) (fun hg0 => ?_) <;> first | (with_reducible first | exact aF1 hg0 | exact aF2 hg0) | (simp only [hg0, go_sem])) | (with_reducible refine aNk ?_; intro bnil hnil; try simp only []) | exact aZ | fail))
      all_goals first | omega | skip
end Go.Proofs.YtgbhmieaoaojoaaDoor
