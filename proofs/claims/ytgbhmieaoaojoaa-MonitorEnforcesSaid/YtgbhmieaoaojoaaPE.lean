/-
 The law MonitorEnforces.
-/
import Derived.Test.YtgbhmieaoaojoaaNE
import Derived.Test.YtgbhmieaoaojoaaN16
import Derived.Test.YtgbhmieaoaojoaaE8
import Derived.Test.YtgbhmieaoaojoaaE7
set_option linter.unusedSimpArgs false
set_option linter.unusedVariables false
namespace Go.Proofs.Ytgbhmieaoaojoaa
open Go.Eng Go.RowKit
set_option maxHeartbeats 8000000 in
theorem SmallO_c (n : Net) (f : Nat → Int) (b : Int) (hn : n.Fits) : ACalls Try.prog 6 [.agg n.d, .agg [.int .i8 (f 0), .int .i8 (f 1), .int .i8 (f 2), .int .i8 (f 3), .int .i8 (f 4)], .one (.int .i8 b)] (.agg [.own 0, .int .i64 (Small n f b).bound]) [.row 3 1 (ints (Small n f b).fac)] := by
 have wb2 := wrap64_small (b.tmod 8) (by have := tmod_bound b 8 (by omega); omega)
 have hni := hn.init
 (refine ACalls.of_body_aggC Ty_ok mixed Try.func6 rfl (by kernel_rfl) Try.ntmps6 (by simp) (congrArg Array.toList Try.results6) ?_)
 simp only [slotsOf, Net.d]
 (repeat' (first | (with_reducible first | exact True.intro | refine And.intro ?_ ?_ | refine aBl ?_ | (refine aS 9 [] ?_; intro K hK)) | ((with_reducible first | refine aGo ?_ | refine rP Ty_ok mixed 5 [0, 2] [.mid [pe 1, pe 3, pe 4, pe 5, pe 6, pe 7, pe 8] 0, .one 9, .one 10, .one 11] ?_); simp only [wb2, go_sem]) | ((with_reducible refine aCd ?_ ?_ (fun hb => ?_) (fun hb => ?_)); (iterate 2 simp only [wb2, go_sem]); all_goals (simp only [wb2, go_sem] at hb; try simp only [bls] at hb)) | ((iterate 6 try ((fail_if_success with_reducible refine hK _ ?_ ?_ ?_); clear hK K)); with_reducible refine hK _ ?_ ?_ ?_; rotate_left; (focus (simp only [wb2, go_sem]; exact rfl)); clear hK K) | (with_reducible refine aGs (fun hg0 => ?_) (fun hg0 => ?_) <;> first | (with_reducible first | exact aF1 hg0 | exact aF2 hg0) | (simp only [hg0, wb2, go_sem])) | (with_reducible refine aNk ?_; intro bnil hnil; try simp only []) | exact aZ | fail))
 all_goals first | omega | skip
 refine awp_loopT [.cell 3 0 3 1] _ (by simp only [go_sem]; rfl) Nat (fun k => k ≤ n.init.length) (fun k => [(8, .one (.int .i64 k))]) (fun k => [.var 31 [.list (ints n.init), .list (trsD n.trs)], .var 39 [.int .i8 (f 0), .int .i8 (f 1), .int .i8 (f 2), .int .i8 (f 3), .int .i8 (f 4)], .var 35 [.nil, .int .i64 0], .var 35 [.own 4, .int .i64 (b.tmod 8)], .row 3 1 (ints (smallL f k))]) (fun k => n.init.length - k) 0 (by omega) ?_ ?_
 ·(simp only [SubF, go_sem]; (try simp only [go_sem]); repeat' (first | exact True.intro | with_reducible refine And.intro ?_ ?_ | rfl | omega))
 ·rintro k hk L hL
  have hl := smallL_length f k
  by_cases hlt : k < n.init.length
  ·have e5 : (k : Int).tmod 5 = ((k % 5 : Nat) : Int) := by
    rw [Int.tmod_eq_emod_of_nonneg (by omega)]; omega
   have h5 : k % 5 < 5 := Nat.mod_lt _ (by omega)
   have t5 := tab5 f (k % 5) h5
   have wf2 := wrap64_small ((f (k % 5)).tmod 4) (by have := tmod_bound (f (k % 5)) 4 (by omega); omega)
   have hs := smallL_succ f k
   (simp only [go_sem] at hL ⊢)
   (repeat' (first | (with_reducible first | exact True.intro | refine And.intro ?_ ?_ | refine aBl ?_ | (refine aS 9 [] ?_; intro K hK)) | ((with_reducible first | refine aGo ?_ | refine rP Ty_ok mixed 5 [0, 2] [.mid [pe 1, pe 3, pe 4, pe 5, pe 6, pe 7, pe 8] 0, .one 9, .one 10, .one 11] ?_); simp only [e5, t5, wf2, Nat.mul_one, Int.toNat_natCast, go_sem]) | ((with_reducible refine aCd ?_ ?_ (fun hb => ?_) (fun hb => ?_)); (iterate 2 simp only [e5, t5, wf2, Nat.mul_one, Int.toNat_natCast, go_sem]); all_goals (simp only [e5, t5, wf2, Nat.mul_one, Int.toNat_natCast, go_sem] at hb; try simp only [bls] at hb)) | ((iterate 6 try ((fail_if_success with_reducible refine hK _ ?_ ?_ ?_); clear hK K)); with_reducible refine hK _ ?_ ?_ ?_; rotate_left; (focus (simp only [e5, t5, wf2, Nat.mul_one, Int.toNat_natCast, go_sem]; exact rfl)); clear hK K) | (with_reducible refine aGs (fun hg0 => ?_) (fun hg0 => ?_) <;> first | (with_reducible first | exact aF1 hg0 | exact aF2 hg0) | (simp only [hg0, e5, t5, wf2, Nat.mul_one, Int.toNat_natCast, go_sem])) | (with_reducible refine aNk ?_; intro bnil hnil; try simp only []) | exact aZ | fail))
   all_goals first | omega | skip
   simp only [ints_one, ints_append]
   rw [← hs]
   exact hL _ (k + 1) (by omega) (by (simp only [SubF, go_sem]; (try simp only [go_sem]); repeat' (first | exact True.intro | with_reducible refine And.intro ?_ ?_ | rfl | omega))) (by omega)
  ·have hk2 : k = n.init.length := by omega
   subst hk2
   (simp only [go_sem] at hL ⊢)
   (repeat' (first | (with_reducible first | exact True.intro | refine And.intro ?_ ?_ | refine aBl ?_ | (refine aS 9 [] ?_; intro K hK)) | ((with_reducible first | refine aGo ?_ | refine rP Ty_ok mixed 5 [0, 2] [.mid [pe 1, pe 3, pe 4, pe 5, pe 6, pe 7, pe 8] 0, .one 9, .one 10, .one 11] ?_); simp only [go_sem]) | ((with_reducible refine aCd ?_ ?_ (fun hb => ?_) (fun hb => ?_)); (iterate 2 simp only [go_sem]); all_goals (simp only [go_sem] at hb; try simp only [bls] at hb)) | ((iterate 6 try ((fail_if_success with_reducible refine hK _ ?_ ?_ ?_); clear hK K)); with_reducible refine hK _ ?_ ?_ ?_; rotate_left; (focus (simp only [go_sem]; exact rfl)); clear hK K) | (with_reducible refine aGs (fun hg0 => ?_) (fun hg0 => ?_) <;> first | (with_reducible first | exact aF1 hg0 | exact aF2 hg0) | (simp only [hg0, go_sem])) | (with_reducible refine aNk ?_; intro bnil hnil; try simp only []) | exact aZ | fail))
   all_goals first | omega | rfl | skip
def sixD (f : Nat → Int) : List D := [.int .i8 (f 0), .int .i8 (f 1), .int .i8 (f 2), .int .i8 (f 3), .int .i8 (f 4), .int .i8 (f 5)]
def l6D (l : List (Nat → Int)) : List (List D) := l.map sixD
def f60 : Nat → Int := fun _ => 0
theorem l6_length (l : List (Nat → Int)) : (l6D l).length = l.length := by simp [l6D]
theorem l6_at {l : List (Nat → Int)} {k : Nat} (hk : k < l.length) (z : List D) : (l6D l).getD k z = sixD (l.getD k f60) := by
 simp only [l6D, List.getD, List.getElem?_map, List.getElem?_eq_getElem hk]; rfl
theorem l6_sz (l : List (Nat → Int)) : (∀ r : List D, r ∈ l6D l → r.length = 6) ↔ True := ⟨fun _ => trivial, fun _ r hr => by obtain ⟨e, _, rfl⟩ := List.mem_map.1 hr; rfl⟩
attribute [go_sem] l6_length l6_sz
def conK (n : Net) (W i : Nat) (f : Nat → Int) : Con := if W = i then ⟨(Small n f (f 5)).fac ++ [1], (Small n f (f 5)).bound⟩ else Small n f (f 5)
def allC (n : Net) (l : List (Nat → Int)) (W k : Nat) : List Con := (List.range k).map fun i => conK n W i (l.getD i f60)
theorem allC_succ (n : Net) (l : List (Nat → Int)) (W k : Nat) : allC n l W (k + 1) = allC n l W k ++ [conK n W k (l.getD k f60)] := by simp [allC, List.range_succ]
theorem allC_length (n : Net) (l : List (Nat → Int)) (W k : Nat) : (allC n l W k).length = k := by simp [allC]
theorem allC_get (n : Net) (l : List (Nat → Int)) (W : Nat) {i k : Nat} (h : i < k) : (allC n l W k).getD i Con.no = conK n W i (l.getD i f60) := by
 simp [allC, List.getD, List.getElem?_map, List.getElem?_range h]
theorem con_snoc (l : List Con) (c : Con) : conD (l ++ [c]) = conD l ++ [[.list (ints c.fac), .int .i64 c.bound]] := by rw [← con_append]; rfl
theorem ckE_of {n : Net} {l : List Con} {i : Nat} (hi : i < l.length) (h1 : ∀ j, j < i → conE n (l.getD j Con.no) = 0) (h2 : conE n (l.getD i Con.no) ≠ 0) : ckE n l = conE n (l.getD i Con.no) := by
 induction l generalizing i with
 | nil => simp at hi
 | cons c l ih =>
  cases i with
  | zero => rw [ckE, if_pos (by simpa using h2)]; rfl
  | succ i =>
   have h0 := h1 0 (by omega)
   rw [ckE, if_neg (by simpa using h0), ih (i := i) (by simpa using hi) (fun j hj => by simpa using h1 (j + 1) (by omega)) (by simpa using h2)]
   rfl
theorem ckE_zero {n : Net} : ∀ {l : List Con}, (∀ c ∈ l, conE n c = 0) → ckE n l = 0
 | [], _ => rfl
 | c :: l, h => by rw [ckE, if_neg (by rw [h c (by simp)]; decide), ckE_zero fun x hx => h x (by simp [hx])]
theorem pad_ok {n m : Net} {c : Con} {i : Nat} (hm : netE m = 0) (hc : conE n c = 0) (hl : m.init.length = n.init.length + i) : conE m (pad c i) = 0 := by
 obtain ⟨_, q2, q3, q4, q5⟩ := conOk_of hc
 refine conE_of hm (by simp [pad]; omega) ⟨fun x hx => ?_⟩ ⟨q4, q5⟩
 rcases List.mem_append.1 hx with hx | hx
 ·exact q3.all x hx
 ·rw [(List.mem_replicate.1 hx).2]; decide
set_option maxRecDepth 20000 in
set_option maxHeartbeats 32000000 in
theorem Enforces_c (s : Nat → Int) (hs : Bytes s) (l : List (Nat → Int)) (hl : l.length ≤ 9223372036854775807) (w : Int) (hw : 0 ≤ w ∧ w ≤ 255) :
  ACalls Try.prog 3 [.agg (bytesD 37 s), .one (.list (l6D l)), .one (.int .u8 w)] (.one (.bool true)) [] := by
 have hk := known_c
 have hm := Make_c s hs
 have hN := makeNet_ok s hs
 generalize makeNet s = n at hm hN
 have hno := netOk_of hN
 have hfit := hno.fits
 have hi10 := hno.init
 have ht10 := hno.trs
 have w1 : IntKind.u8.wrap (w.tmod 32) = w.tmod 32 := wrap_fits ((fits_u8 _).2 ⟨Int.tmod_nonneg _ hw.1, by have := Int.tmod_lt_of_pos w (show (0 : Int) < 32 by decide); omega⟩)
 have w3 : 0 ≤ w.tmod 32 ∧ w.tmod 32 < 32 := ⟨Int.tmod_nonneg _ hw.1, Int.tmod_lt_of_pos w (by decide)⟩
 have w2 : IntKind.i64.wrap (w.tmod 32) = w.tmod 32 := wrap_fits ((fits_i64 _).2 ⟨by omega, by omega⟩)
 obtain ⟨W, hW⟩ : ∃ W : Nat, w.tmod 32 = W := ⟨(w.tmod 32).toNat, by omega⟩
 rw [hW] at w1 w2 w3
 simp only [Net.d] at hm
 by_cases hl8 : l.length ≤ 8
 ·(refine ACalls.of_body Ty_ok mixed Try.func3 rfl (by kernel_rfl) Try.ntmps3 (by simp) (congrArg Array.toList Try.results3) ?_)
  simp only [slotsOf]
  (repeat' (first | (with_reducible first | exact True.intro | refine And.intro ?_ ?_ | refine aBl ?_ | (refine aS 17 [] ?_; intro K hK)) | ((with_reducible first | refine aGo ?_ | refine rH Ty_ok mixed 8 [0, 1, 2, 3, 4, 5, 6, 7, 8, 9, 10, 11, 12, 13, 14, 15, 16, 17, 18, 19, 20, 21, 22, 23, 24, 25, 27, 28, 29, 30, 31] (.alt 26 (.alt 32 (.alt 33 (.alt 34 .leaf .nil) .nil) (.alt 33 (.alt 32 (.alt 34 .leaf .nil) .nil) .nil)) (.alt 33 (.alt 26 (.alt 32 (.alt 34 .leaf .nil) .nil) .nil) .nil)) 4 ?_ | refine rP Ty_ok mixed 19 [1, 2, 7, 8] [.mid [pe 0, pe 3, pe 4, pe 5, ⟨6, 0, true, false, false, [], []⟩, ⟨9, 1, false, false, false, [0], []⟩, ⟨10, 1, false, false, false, [0], []⟩, ⟨11, 1, false, false, false, [0], []⟩, ⟨12, 1, false, false, false, [], []⟩, ⟨13, 1, true, false, false, [0], []⟩] 2, .one 14] ?_); simp only [go_sem]) | ((with_reducible refine aCd ?_ ?_ (fun hb => ?_) (fun hb => ?_)); (iterate 2 simp only [go_sem]); all_goals (simp only [go_sem] at hb; try simp only [bls] at hb)) | ((iterate 6 try ((fail_if_success with_reducible refine hK _ ?_ ?_ ?_); clear hK K)); with_reducible refine hK _ ?_ ?_ ?_; rotate_left; (focus (simp only [go_sem]; exact rfl)); clear hK K) | ((first | (with_reducible first | refine xA ?_ | refine xD ?_ | refine xO ?_ | refine xR ?_ | refine xG ?_ | refine xH ?_ | refine xM ?_) | ((with_reducible refine gA ?_); refine xA ?_) | ((with_reducible refine gD ?_); refine xD ?_) | ((with_reducible refine gG ?_); refine xG ?_)); simp only [go_sem]) | (with_reducible refine aGs (fun hg0 => ?_) (fun hg0 => ?_) <;> first | (with_reducible first | exact aF1 hg0 | exact aF2 hg0) | (simp only [hg0, go_sem])) | (with_reducible refine aNk ?_; intro bnil hnil; try simp only []) | exact aZ | fail))
  all_goals first | omega | skip
  refine awp_loop _ (by simp only [go_sem]; rfl) Nat (fun k => k ≤ l.length) (fun k => [(8, .one (.own 2)), (9, .one (.int .i64 k))]) (fun k H => H.set 2 (.row 35 2 (conD (allC n l W k)))) (fun k => l.length - k) 0 (by omega) ?_ ?_
  ·have e0 : conD (allC n l W 0) = [] := rfl
   rw [e0]
   (simp only [SubF, List.set_cons_succ, List.set_cons_zero, go_sem]; (try simp only [List.set_cons_succ, List.set_cons_zero, go_sem]); repeat' (first | exact True.intro | with_reducible refine And.intro ?_ ?_ | rfl | omega))
  rintro k hkk L hL
  have hq : ((k : Nat) : Int).toNat = k := by omega
  have hal := allC_length n l W k
  by_cases hlt : k < l.length
  ·have a1 := l6_at hlt [.int .i8 0, .int .i8 0, .int .i8 0, .int .i8 0, .int .i8 0, .int .i8 0]
   have a2 := l6_at hlt []
   have hs := allC_succ n l W k
   generalize l.getD k f60 = f at *
   have hSm := SmallO_c n f (f 5) hfit
   have hcl : (Small n f (f 5)).fac.length = n.init.length := smallL_length f _
   have hck : conK n W k f = if W = k then ⟨(Small n f (f 5)).fac ++ [1], (Small n f (f 5)).bound⟩ else Small n f (f 5) := rfl
   generalize Small n f (f 5) = c at *
   simp only [sixD] at a1 a2
   simp only [Net.d] at hSm
   (simp only [List.set_cons_succ, List.set_cons_zero, go_sem] at hL ⊢)
   (repeat' (first | (with_reducible first | exact True.intro | refine And.intro ?_ ?_ | refine aBl ?_ | (refine aS 17 [] ?_; intro K hK)) | ((with_reducible first | refine aGo ?_ | refine rH Ty_ok mixed 8 [0, 1, 2, 3, 4, 5, 6, 7, 8, 9, 10, 11, 12, 13, 14, 15, 16, 17, 18, 19, 20, 21, 22, 23, 24, 25, 27, 28, 29, 30, 31] (.alt 26 (.alt 32 (.alt 33 (.alt 34 .leaf .nil) .nil) (.alt 33 (.alt 32 (.alt 34 .leaf .nil) .nil) .nil)) (.alt 33 (.alt 26 (.alt 32 (.alt 34 .leaf .nil) .nil) .nil) .nil)) 4 ?_ | refine rP Ty_ok mixed 19 [1, 2, 7, 8] [.mid [pe 0, pe 3, pe 4, pe 5, ⟨6, 0, true, false, false, [], []⟩, ⟨9, 1, false, false, false, [0], []⟩, ⟨10, 1, false, false, false, [0], []⟩, ⟨11, 1, false, false, false, [0], []⟩, ⟨12, 1, false, false, false, [], []⟩, ⟨13, 1, true, false, false, [0], []⟩] 2, .one 14] ?_); simp only [hq, a1, a2, w1, w2, hW, go_sem]) | ((with_reducible refine aCd ?_ ?_ (fun hb => ?_) (fun hb => ?_)); (iterate 2 simp only [hq, a1, a2, w1, w2, hW, go_sem]); all_goals (simp only [hq, a1, a2, w1, w2, hW, go_sem] at hb; try simp only [bls] at hb)) | ((iterate 6 try ((fail_if_success with_reducible refine hK _ ?_ ?_ ?_); clear hK K)); with_reducible refine hK _ ?_ ?_ ?_; rotate_left; (focus (simp only [hq, a1, a2, w1, w2, hW, go_sem]; exact rfl)); clear hK K) | ((first | (with_reducible first | refine xA ?_ | refine xD ?_ | refine xO ?_ | refine xR ?_ | refine xG ?_ | refine xH ?_ | refine xM ?_) | ((with_reducible refine gA ?_); refine xA ?_) | ((with_reducible refine gD ?_); refine xD ?_) | ((with_reducible refine gG ?_); refine xG ?_)); simp only [hq, a1, a2, w1, w2, hW, go_sem]) | (with_reducible refine aGs (fun hg0 => ?_) (fun hg0 => ?_) <;> first | (with_reducible first | exact aF1 hg0 | exact aF2 hg0) | (simp only [hg0, hq, a1, a2, w1, w2, hW, go_sem])) | (with_reducible refine aNk ?_; intro bnil hnil; try simp only []) | exact aZ | fail))
   all_goals first | omega | skip
   all_goals
    refine FCallAt_i hSm trivial (by simp only [go_sem]) (.inl ⟨rfl, rfl⟩) ?_
    simp only [go_sem]
    (repeat' (first | (with_reducible first | exact True.intro | refine And.intro ?_ ?_ | refine aBl ?_ | (refine aS 17 [] ?_; intro K hK)) | ((with_reducible first | refine aGo ?_ | refine rH Ty_ok mixed 8 [0, 1, 2, 3, 4, 5, 6, 7, 8, 9, 10, 11, 12, 13, 14, 15, 16, 17, 18, 19, 20, 21, 22, 23, 24, 25, 27, 28, 29, 30, 31] (.alt 26 (.alt 32 (.alt 33 (.alt 34 .leaf .nil) .nil) (.alt 33 (.alt 32 (.alt 34 .leaf .nil) .nil) .nil)) (.alt 33 (.alt 26 (.alt 32 (.alt 34 .leaf .nil) .nil) .nil) .nil)) 4 ?_ | refine rP Ty_ok mixed 19 [1, 2, 7, 8] [.mid [pe 0, pe 3, pe 4, pe 5, ⟨6, 0, true, false, false, [], []⟩, ⟨9, 1, false, false, false, [0], []⟩, ⟨10, 1, false, false, false, [0], []⟩, ⟨11, 1, false, false, false, [0], []⟩, ⟨12, 1, false, false, false, [], []⟩, ⟨13, 1, true, false, false, [0], []⟩] 2, .one 14] ?_); simp only [hq, a1, a2, w1, w2, hW, go_sem]) | ((with_reducible refine aCd ?_ ?_ (fun hb => ?_) (fun hb => ?_)); (iterate 2 simp only [hq, a1, a2, w1, w2, hW, go_sem]); all_goals (simp only [hq, a1, a2, w1, w2, hW, go_sem] at hb; try simp only [bls] at hb)) | ((iterate 6 try ((fail_if_success with_reducible refine hK _ ?_ ?_ ?_); clear hK K)); with_reducible refine hK _ ?_ ?_ ?_; rotate_left; (focus (simp only [hq, a1, a2, w1, w2, hW, go_sem]; exact rfl)); clear hK K) | (with_reducible refine aGs (fun hg0 => ?_) (fun hg0 => ?_) <;> first | (with_reducible first | exact aF1 hg0 | exact aF2 hg0) | (simp only [hg0, hq, a1, a2, w1, w2, hW, go_sem])) | (with_reducible refine aNk ?_; intro bnil hnil; try simp only []) | exact aZ | fail))
   all_goals first | omega | skip
   all_goals
    refine hL _ (k + 1) (by omega) ?_ (by omega)
    first | rw [hs, hck, if_pos (by omega), con_snoc, ← ints_append] | rw [hs, hck, if_neg (by omega), con_snoc]
    (simp only [SubF, ints_one, List.set_cons_succ, List.set_cons_zero, go_sem]; (try simp only [ints_one, List.set_cons_succ, List.set_cons_zero, go_sem]); repeat' (first | exact True.intro | with_reducible refine And.intro ?_ ?_ | rfl | omega))
  ·have hkl : k = l.length := by omega
   subst hkl
   have hsf : ∀ f : Nat → Int, (Small n f (f 5)).fac.length = n.init.length := fun f => smallL_length f _
   have hcf : ∀ i, i < l.length → (conK n W i (l.getD i f60)).fac.length ≤ 1000 := fun i hi => by
    unfold conK
    have := hsf (l.getD i f60)
    split
    ·simp only [List.length_append, List.length_singleton]; omega
    ·omega
   have hag := fun i (hi : i < l.length) => allC_get n l W (i := i) hi
   have hEn := Enforce_c n (allC n l W l.length) hN (by omega) (fun c hc => by
    obtain ⟨i, hi, rfl⟩ : ∃ i, i < l.length ∧ c = conK n W i (l.getD i f60) := by
     simp only [allC, List.mem_map, List.mem_range] at hc
     obtain ⟨i, h1, h2⟩ := hc
     exact ⟨i, h1, h2.symm⟩
    exact hcf i hi)
   have hZ := none_c Net.zero ⟨by decide, by decide, fun t ht => by simp [Net.zero] at ht, fun t ht => by simp [Net.zero] at ht⟩
   rw [decide_eq_true (rfl : Net.zero = Net.zero)] at hZ
   generalize hall : allC n l W l.length = all at *
   by_cases hWl : W < l.length
   ·have hb1 := hag W hWl
    have hsz : conE n (all.getD W Con.no) = 4 := by
     rw [hb1, conK, if_pos rfl]
     have := hsf (l.getD W f60)
     unfold conE
     rw [if_neg (by omega), if_pos (by simp only [List.length_append, List.length_singleton]; omega)]
    have hck := ckE_of (n := n) (l := all) (i := W) (by omega) (fun j hj => by
     rw [hag j (by omega), conK, if_neg (by omega)]
     exact Small_ok n _ _ hN) (by omega)
    have hR : enfR n all = (Net.zero, 4) := by rw [enfR, if_pos (by omega), hck, hsz]
    rw [hR] at hEn
    simp only [Net.d, Net.zero] at hEn hZ
    (simp only [List.set_cons_succ, List.set_cons_zero, go_sem] at hL ⊢)
    (repeat' (first | (with_reducible first | exact True.intro | refine And.intro ?_ ?_ | refine aBl ?_ | (refine aS 17 [] ?_; intro K hK)) | ((with_reducible first | refine aGo ?_ | refine rH Ty_ok mixed 8 [0, 1, 2, 3, 4, 5, 6, 7, 8, 9, 10, 11, 12, 13, 14, 15, 16, 17, 18, 19, 20, 21, 22, 23, 24, 25, 27, 28, 29, 30, 31] (.alt 26 (.alt 32 (.alt 33 (.alt 34 .leaf .nil) .nil) (.alt 33 (.alt 32 (.alt 34 .leaf .nil) .nil) .nil)) (.alt 33 (.alt 26 (.alt 32 (.alt 34 .leaf .nil) .nil) .nil) .nil)) 4 ?_ | refine rP Ty_ok mixed 19 [1, 2, 7, 8] [.mid [pe 0, pe 3, pe 4, pe 5, ⟨6, 0, true, false, false, [], []⟩, ⟨9, 1, false, false, false, [0], []⟩, ⟨10, 1, false, false, false, [0], []⟩, ⟨11, 1, false, false, false, [0], []⟩, ⟨12, 1, false, false, false, [], []⟩, ⟨13, 1, true, false, false, [0], []⟩] 2, .one 14] ?_); simp only [go_sem]) | ((with_reducible refine aCd ?_ ?_ (fun hb => ?_) (fun hb => ?_)); (iterate 2 simp only [go_sem]); all_goals (simp only [go_sem] at hb; try simp only [bls] at hb)) | ((iterate 6 try ((fail_if_success with_reducible refine hK _ ?_ ?_ ?_); clear hK K)); with_reducible refine hK _ ?_ ?_ ?_; rotate_left; (focus (simp only [go_sem]; exact rfl)); clear hK K) | (with_reducible refine aGs (fun hg0 => ?_) (fun hg0 => ?_) <;> first | (with_reducible first | exact aF1 hg0 | exact aF2 hg0) | (simp only [hg0, go_sem])) | (with_reducible refine aNk ?_; intro bnil hnil; try simp only []) | exact aZ | fail))
    all_goals first | omega | skip
    (refine MCallAt_i [2] [] (ACalls.toM hEn) ?_ ?_; (focus (simp only [mside, handOk, go_sem]; (first | done | exact (by decide) | exact ⟨by decide, fun t ht => ht.elim⟩ | (refine ⟨by decide, ?_⟩; simp; done)))); simp only [go_sem])
    (repeat' (first | (with_reducible first | exact True.intro | refine And.intro ?_ ?_ | refine aBl ?_ | (refine aS 17 [] ?_; intro K hK)) | ((with_reducible first | refine aGo ?_ | refine rH Ty_ok mixed 8 [0, 1, 2, 3, 4, 5, 6, 7, 8, 9, 10, 11, 12, 13, 14, 15, 16, 17, 18, 19, 20, 21, 22, 23, 24, 25, 27, 28, 29, 30, 31] (.alt 26 (.alt 32 (.alt 33 (.alt 34 .leaf .nil) .nil) (.alt 33 (.alt 32 (.alt 34 .leaf .nil) .nil) .nil)) (.alt 33 (.alt 26 (.alt 32 (.alt 34 .leaf .nil) .nil) .nil) .nil)) 4 ?_ | refine rP Ty_ok mixed 19 [1, 2, 7, 8] [.mid [pe 0, pe 3, pe 4, pe 5, ⟨6, 0, true, false, false, [], []⟩, ⟨9, 1, false, false, false, [0], []⟩, ⟨10, 1, false, false, false, [0], []⟩, ⟨11, 1, false, false, false, [0], []⟩, ⟨12, 1, false, false, false, [], []⟩, ⟨13, 1, true, false, false, [0], []⟩] 2, .one 14] ?_); simp only [w1, w2, hW, go_sem]) | ((with_reducible refine aCd ?_ ?_ (fun hb => ?_) (fun hb => ?_)); (iterate 2 simp only [w1, w2, hW, go_sem]); all_goals (simp only [w1, w2, hW, go_sem] at hb; try simp only [bls] at hb)) | ((iterate 6 try ((fail_if_success with_reducible refine hK _ ?_ ?_ ?_); clear hK K)); with_reducible refine hK _ ?_ ?_ ?_; rotate_left; (focus (simp only [w1, w2, hW, go_sem]; exact rfl)); clear hK K) | (with_reducible refine aGs (fun hg0 => ?_) (fun hg0 => ?_) <;> first | (with_reducible first | exact aF1 hg0 | exact aF2 hg0) | (simp only [hg0, w1, w2, hW, go_sem])) | (with_reducible refine aNk ?_; intro bnil hnil; try simp only []) | exact aZ | fail))
    all_goals first | omega | skip
    refine awp_loop _ (by simp only [go_sem]; rfl) Nat (fun k => k = 0) (fun k => [(14, .one (.int .i64 4)), (15, .one (.int .i64 0))]) (fun _ H => H) (fun k => k) 0 rfl ?_ ?_
    ·(simp only [SubF, go_sem]; (try simp only [go_sem]); repeat' (first | exact True.intro | with_reducible refine And.intro ?_ ?_ | rfl | omega))
    rintro _ rfl L2 hL2
    (simp only [go_sem] at hL2 ⊢)
    (repeat' (first | (with_reducible first | exact True.intro | refine And.intro ?_ ?_ | refine aBl ?_ | (refine aS 17 [] ?_; intro K hK)) | ((with_reducible first | refine aGo ?_ | refine rH Ty_ok mixed 8 [0, 1, 2, 3, 4, 5, 6, 7, 8, 9, 10, 11, 12, 13, 14, 15, 16, 17, 18, 19, 20, 21, 22, 23, 24, 25, 27, 28, 29, 30, 31] (.alt 26 (.alt 32 (.alt 33 (.alt 34 .leaf .nil) .nil) (.alt 33 (.alt 32 (.alt 34 .leaf .nil) .nil) .nil)) (.alt 33 (.alt 26 (.alt 32 (.alt 34 .leaf .nil) .nil) .nil) .nil)) 4 ?_ | refine rP Ty_ok mixed 19 [1, 2, 7, 8] [.mid [pe 0, pe 3, pe 4, pe 5, ⟨6, 0, true, false, false, [], []⟩, ⟨9, 1, false, false, false, [0], []⟩, ⟨10, 1, false, false, false, [0], []⟩, ⟨11, 1, false, false, false, [0], []⟩, ⟨12, 1, false, false, false, [], []⟩, ⟨13, 1, true, false, false, [0], []⟩] 2, .one 14] ?_); simp only [go_sem]) | ((with_reducible refine aCd ?_ ?_ (fun hb => ?_) (fun hb => ?_)); (iterate 2 simp only [go_sem]); all_goals (simp only [go_sem] at hb; try simp only [bls] at hb)) | ((iterate 6 try ((fail_if_success with_reducible refine hK _ ?_ ?_ ?_); clear hK K)); with_reducible refine hK _ ?_ ?_ ?_; rotate_left; (focus (simp only [go_sem]; exact rfl)); clear hK K) | ((first | (with_reducible first | refine xA ?_ | refine xD ?_ | refine xO ?_ | refine xR ?_ | refine xG ?_ | refine xH ?_ | refine xM ?_) | ((with_reducible refine gA ?_); refine xA ?_) | ((with_reducible refine gD ?_); refine xD ?_) | ((with_reducible refine gG ?_); refine xG ?_)); simp only [go_sem]) | (with_reducible refine aGs (fun hg0 => ?_) (fun hg0 => ?_) <;> first | (with_reducible first | exact aF1 hg0 | exact aF2 hg0) | (simp only [hg0, go_sem])) | (with_reducible refine aNk ?_; intro bnil hnil; try simp only []) | exact aZ | fail))
    all_goals first | omega | skip
   ·have hck : ckE n all = 0 := ckE_zero fun c hc => by
     rw [← hall] at hc
     simp only [allC, List.mem_map, List.mem_range] at hc
     obtain ⟨i, h1, rfl⟩ := hc
     rw [conK, if_neg (by omega)]
     exact Small_ok n _ _ hN
    have hR : enfR n all = enfF 0 n all := by rw [enfR, if_neg (by omega)]
    generalize enfR n all = R at *
    simp only [Net.d] at hEn
    (simp only [List.set_cons_succ, List.set_cons_zero, go_sem] at hL ⊢)
    (repeat' (first | (with_reducible first | exact True.intro | refine And.intro ?_ ?_ | refine aBl ?_ | (refine aS 17 [] ?_; intro K hK)) | ((with_reducible first | refine aGo ?_ | refine rH Ty_ok mixed 8 [0, 1, 2, 3, 4, 5, 6, 7, 8, 9, 10, 11, 12, 13, 14, 15, 16, 17, 18, 19, 20, 21, 22, 23, 24, 25, 27, 28, 29, 30, 31] (.alt 26 (.alt 32 (.alt 33 (.alt 34 .leaf .nil) .nil) (.alt 33 (.alt 32 (.alt 34 .leaf .nil) .nil) .nil)) (.alt 33 (.alt 26 (.alt 32 (.alt 34 .leaf .nil) .nil) .nil) .nil)) 4 ?_ | refine rP Ty_ok mixed 19 [1, 2, 7, 8] [.mid [pe 0, pe 3, pe 4, pe 5, ⟨6, 0, true, false, false, [], []⟩, ⟨9, 1, false, false, false, [0], []⟩, ⟨10, 1, false, false, false, [0], []⟩, ⟨11, 1, false, false, false, [0], []⟩, ⟨12, 1, false, false, false, [], []⟩, ⟨13, 1, true, false, false, [0], []⟩] 2, .one 14] ?_); simp only [go_sem]) | ((with_reducible refine aCd ?_ ?_ (fun hb => ?_) (fun hb => ?_)); (iterate 2 simp only [go_sem]); all_goals (simp only [go_sem] at hb; try simp only [bls] at hb)) | ((iterate 6 try ((fail_if_success with_reducible refine hK _ ?_ ?_ ?_); clear hK K)); with_reducible refine hK _ ?_ ?_ ?_; rotate_left; (focus (simp only [go_sem]; exact rfl)); clear hK K) | (with_reducible refine aGs (fun hg0 => ?_) (fun hg0 => ?_) <;> first | (with_reducible first | exact aF1 hg0 | exact aF2 hg0) | (simp only [hg0, go_sem])) | (with_reducible refine aNk ?_; intro bnil hnil; try simp only []) | exact aZ | fail))
    all_goals first | omega | skip
    (refine MCallAt_i [2] [] (ACalls.toM hEn) ?_ ?_; (focus (simp only [mside, handOk, go_sem]; (first | done | exact (by decide) | exact ⟨by decide, fun t ht => ht.elim⟩ | (refine ⟨by decide, ?_⟩; simp; done)))); simp only [go_sem])
    (repeat' (first | (with_reducible first | exact True.intro | refine And.intro ?_ ?_ | refine aBl ?_ | (refine aS 17 [] ?_; intro K hK)) | ((with_reducible first | refine aGo ?_ | refine rH Ty_ok mixed 8 [0, 1, 2, 3, 4, 5, 6, 7, 8, 9, 10, 11, 12, 13, 14, 15, 16, 17, 18, 19, 20, 21, 22, 23, 24, 25, 27, 28, 29, 30, 31] (.alt 26 (.alt 32 (.alt 33 (.alt 34 .leaf .nil) .nil) (.alt 33 (.alt 32 (.alt 34 .leaf .nil) .nil) .nil)) (.alt 33 (.alt 26 (.alt 32 (.alt 34 .leaf .nil) .nil) .nil) .nil)) 4 ?_ | refine rP Ty_ok mixed 19 [1, 2, 7, 8] [.mid [pe 0, pe 3, pe 4, pe 5, ⟨6, 0, true, false, false, [], []⟩, ⟨9, 1, false, false, false, [0], []⟩, ⟨10, 1, false, false, false, [0], []⟩, ⟨11, 1, false, false, false, [0], []⟩, ⟨12, 1, false, false, false, [], []⟩, ⟨13, 1, true, false, false, [0], []⟩] 2, .one 14] ?_); simp only [w1, w2, hW, go_sem]) | ((with_reducible refine aCd ?_ ?_ (fun hb => ?_) (fun hb => ?_)); (iterate 2 simp only [w1, w2, hW, go_sem]); all_goals (simp only [w1, w2, hW, go_sem] at hb; try simp only [bls] at hb)) | ((iterate 6 try ((fail_if_success with_reducible refine hK _ ?_ ?_ ?_); clear hK K)); with_reducible refine hK _ ?_ ?_ ?_; rotate_left; (focus (simp only [w1, w2, hW, go_sem]; exact rfl)); clear hK K) | (with_reducible refine aGs (fun hg0 => ?_) (fun hg0 => ?_) <;> first | (with_reducible first | exact aF1 hg0 | exact aF2 hg0) | (simp only [hg0, w1, w2, hW, go_sem])) | (with_reducible refine aNk ?_; intro bnil hnil; try simp only []) | exact aZ | fail))
    all_goals first | omega | skip
    refine awp_loop _ (by simp only [go_sem]; rfl) (Nat × Net × Int) (fun s => s.1 ≤ l.length ∧ (s.2.2 = 0 ∧ NetOk s.2.1 ∧ s.2.1.init.length = n.init.length + s.1 ∧ R = enfF s.1 s.2.1 (all.drop s.1) ∨ s.2.2 ≠ 0 ∧ R = (Net.zero, s.2.2))) (fun s => [(14, .one (.int .i64 s.2.2)), (15, .one (.int .i64 s.1))]) (fun s H => H.set 4 (.var 31 [.list (ints s.2.1.init), .list (trsD s.2.1.trs)])) (fun s => l.length - s.1) (0, n, 0) ⟨by simp only; omega, .inl ⟨rfl, hno, rfl, by simpa using hR⟩⟩ ?_ ?_
    ·(simp only [SubF, List.set_cons_succ, List.set_cons_zero, go_sem]; (try simp only [List.set_cons_succ, List.set_cons_zero, go_sem]); repeat' (first | exact True.intro | with_reducible refine And.intro ?_ ?_ | rfl | omega))
    rintro ⟨i, M, e⟩ ⟨hi, hI⟩ L2 hL2
    simp only at hi hI
    have hq2 : ((i : Nat) : Int).toNat = i := by omega
    rcases hI with ⟨rfl, hMo, hMi, hRi⟩ | ⟨he, hRe⟩
    ·by_cases hil : i < l.length
     ·have hg := con_get (l := all) (k := i) (by omega) [.nil, .int .i64 0]
      have hg2 := con_get (l := all) (k := i) (by omega) []
      have hci : conE n (all.getD i Con.no) = 0 := by
       rw [hag i hil, conK, if_neg (by omega)]
       exact Small_ok n _ _ hN
      have hfl : (all.getD i Con.no).fac.length = n.init.length := by
       rw [hag i hil, conK, if_neg (by omega)]
       exact hsf _
      rw [drop_getD all i Con.no (by omega), enfF] at hRi
      generalize all.getD i Con.no = c at *
      have hpo := pad_ok (i := i) (netE_of hMo) hci hMi
      have hW2 := with_c M (pad c i) hpo
      have hM10 := hMo.init
      have hMt10 := hMo.trs
      (simp only [List.set_cons_succ, List.set_cons_zero, go_sem] at hL2 ⊢)
      (repeat' (first | (with_reducible first | exact True.intro | refine And.intro ?_ ?_ | refine aBl ?_ | (refine aS 17 [] ?_; intro K hK)) | ((with_reducible first | refine aGo ?_ | refine rH Ty_ok mixed 8 [0, 1, 2, 3, 4, 5, 6, 7, 8, 9, 10, 11, 12, 13, 14, 15, 16, 17, 18, 19, 20, 21, 22, 23, 24, 25, 27, 28, 29, 30, 31] (.alt 26 (.alt 32 (.alt 33 (.alt 34 .leaf .nil) .nil) (.alt 33 (.alt 32 (.alt 34 .leaf .nil) .nil) .nil)) (.alt 33 (.alt 26 (.alt 32 (.alt 34 .leaf .nil) .nil) .nil) .nil)) 4 ?_ | refine rP Ty_ok mixed 19 [1, 2, 7, 8] [.mid [pe 0, pe 3, pe 4, pe 5, ⟨6, 0, true, false, false, [], []⟩, ⟨9, 1, false, false, false, [0], []⟩, ⟨10, 1, false, false, false, [0], []⟩, ⟨11, 1, false, false, false, [0], []⟩, ⟨12, 1, false, false, false, [], []⟩, ⟨13, 1, true, false, false, [0], []⟩] 2, .one 14] ?_); simp only [hq2, hg, hg2, go_sem]) | ((with_reducible refine aCd ?_ ?_ (fun hb => ?_) (fun hb => ?_)); (iterate 2 simp only [hq2, hg, hg2, go_sem]); all_goals (simp only [hq2, hg, hg2, go_sem] at hb; try simp only [bls] at hb)) | ((iterate 6 try ((fail_if_success with_reducible refine hK _ ?_ ?_ ?_); clear hK K)); with_reducible refine hK _ ?_ ?_ ?_; rotate_left; (focus (simp only [hq2, hg, hg2, go_sem]; exact rfl)); clear hK K) | (with_reducible refine aGs (fun hg0 => ?_) (fun hg0 => ?_) <;> first | (with_reducible first | exact aF1 hg0 | exact aF2 hg0) | (simp only [hg0, hq2, hg, hg2, go_sem])) | (with_reducible refine aNk ?_; intro bnil hnil; try simp only []) | exact aZ | fail))
      all_goals first | omega | skip
      refine awp_loop _ (by simp only [go_sem]; rfl) Nat (fun j => j ≤ i) (fun _ => []) (fun j H => H.set 5 (.row 3 1 (ints (c.fac ++ List.replicate j 0)))) (fun j => i - j) 0 (by omega) ?_ ?_
      ·have e0 : c.fac ++ List.replicate 0 0 = c.fac := by simp
       rw [e0]
       (simp only [SubF, List.set_cons_succ, List.set_cons_zero, go_sem]; (try simp only [List.set_cons_succ, List.set_cons_zero, go_sem]); repeat' (first | exact True.intro | with_reducible refine And.intro ?_ ?_ | rfl | omega))
      rintro j hj L3 hL3
      have hjl : (c.fac ++ List.replicate j (0 : Int)).length = n.init.length + j := by rw [List.length_append, List.length_replicate, hfl]
      have hj1 : c.fac ++ List.replicate (j + 1) (0 : Int) = c.fac ++ List.replicate j 0 ++ [0] := by rw [List.replicate_succ', List.append_assoc]
      have hpd : j = i → (pad c i).d = [.list (ints (c.fac ++ List.replicate j 0)), .int .i64 c.bound] := fun h => by rw [h]; rfl
      generalize hX : c.fac ++ List.replicate j (0 : Int) = X at *
      by_cases hji : j < i
      ·(simp only [List.set_cons_succ, List.set_cons_zero, go_sem] at hL3 ⊢)
       (repeat' (first | (with_reducible first | exact True.intro | refine And.intro ?_ ?_ | refine aBl ?_ | (refine aS 17 [] ?_; intro K hK)) | ((with_reducible first | refine aGo ?_ | refine rH Ty_ok mixed 8 [0, 1, 2, 3, 4, 5, 6, 7, 8, 9, 10, 11, 12, 13, 14, 15, 16, 17, 18, 19, 20, 21, 22, 23, 24, 25, 27, 28, 29, 30, 31] (.alt 26 (.alt 32 (.alt 33 (.alt 34 .leaf .nil) .nil) (.alt 33 (.alt 32 (.alt 34 .leaf .nil) .nil) .nil)) (.alt 33 (.alt 26 (.alt 32 (.alt 34 .leaf .nil) .nil) .nil) .nil)) 4 ?_ | refine rP Ty_ok mixed 19 [1, 2, 7, 8] [.mid [pe 0, pe 3, pe 4, pe 5, ⟨6, 0, true, false, false, [], []⟩, ⟨9, 1, false, false, false, [0], []⟩, ⟨10, 1, false, false, false, [0], []⟩, ⟨11, 1, false, false, false, [0], []⟩, ⟨12, 1, false, false, false, [], []⟩, ⟨13, 1, true, false, false, [0], []⟩] 2, .one 14] ?_); simp only [hjl, go_sem]) | ((with_reducible refine aCd ?_ ?_ (fun hb => ?_) (fun hb => ?_)); (iterate 2 simp only [hjl, go_sem]); all_goals (simp only [hjl, go_sem] at hb; try simp only [bls] at hb)) | ((iterate 6 try ((fail_if_success with_reducible refine hK _ ?_ ?_ ?_); clear hK K)); with_reducible refine hK _ ?_ ?_ ?_; rotate_left; (focus (simp only [hjl, go_sem]; exact rfl)); clear hK K) | (with_reducible refine aGs (fun hg0 => ?_) (fun hg0 => ?_) <;> first | (with_reducible first | exact aF1 hg0 | exact aF2 hg0) | (simp only [hg0, hjl, go_sem])) | (with_reducible refine aNk ?_; intro bnil hnil; try simp only []) | exact aZ | fail))
       all_goals first | omega | skip
       refine hL3 _ (j + 1) (by omega) ?_ (by omega)
       simp only [hj1, ← ints_append]
       (simp only [SubF, ints_one, List.set_cons_succ, List.set_cons_zero, go_sem]; (try simp only [ints_one, List.set_cons_succ, List.set_cons_zero, go_sem]); repeat' (first | exact True.intro | with_reducible refine And.intro ?_ ?_ | rfl | omega))
      ·rw [hpd (by omega)] at hW2
       simp only [Net.d] at hW2
       (simp only [List.set_cons_succ, List.set_cons_zero, go_sem] at hL3 ⊢)
       (repeat' (first | (with_reducible first | exact True.intro | refine And.intro ?_ ?_ | refine aBl ?_ | (refine aS 17 [] ?_; intro K hK)) | ((with_reducible first | refine aGo ?_ | refine rH Ty_ok mixed 8 [0, 1, 2, 3, 4, 5, 6, 7, 8, 9, 10, 11, 12, 13, 14, 15, 16, 17, 18, 19, 20, 21, 22, 23, 24, 25, 27, 28, 29, 30, 31] (.alt 26 (.alt 32 (.alt 33 (.alt 34 .leaf .nil) .nil) (.alt 33 (.alt 32 (.alt 34 .leaf .nil) .nil) .nil)) (.alt 33 (.alt 26 (.alt 32 (.alt 34 .leaf .nil) .nil) .nil) .nil)) 4 ?_ | refine rP Ty_ok mixed 19 [1, 2, 7, 8] [.mid [pe 0, pe 3, pe 4, pe 5, ⟨6, 0, true, false, false, [], []⟩, ⟨9, 1, false, false, false, [0], []⟩, ⟨10, 1, false, false, false, [0], []⟩, ⟨11, 1, false, false, false, [0], []⟩, ⟨12, 1, false, false, false, [], []⟩, ⟨13, 1, true, false, false, [0], []⟩] 2, .one 14] ?_); simp only [hjl, go_sem]) | ((with_reducible refine aCd ?_ ?_ (fun hb => ?_) (fun hb => ?_)); (iterate 2 simp only [hjl, go_sem]); all_goals (simp only [hjl, go_sem] at hb; try simp only [bls] at hb)) | ((iterate 6 try ((fail_if_success with_reducible refine hK _ ?_ ?_ ?_); clear hK K)); with_reducible refine hK _ ?_ ?_ ?_; rotate_left; (focus (simp only [hjl, go_sem]; exact rfl)); clear hK K) | (with_reducible refine aGs (fun hg0 => ?_) (fun hg0 => ?_) <;> first | (with_reducible first | exact aF1 hg0 | exact aF2 hg0) | (simp only [hg0, hjl, go_sem])) | (with_reducible refine aNk ?_; intro bnil hnil; try simp only []) | exact aZ | fail))
       all_goals first | omega | skip
       (refine MCallAt_i [5] [] (ACalls.toM hW2) ?_ ?_; (focus (simp only [mside, handOk, go_sem]; (first | done | exact (by decide) | exact ⟨by decide, fun t ht => ht.elim⟩ | (refine ⟨by decide, ?_⟩; simp; done)))); simp only [go_sem])
       (repeat' (first | (with_reducible first | exact True.intro | refine And.intro ?_ ?_ | refine aBl ?_ | (refine aS 17 [] ?_; intro K hK)) | ((with_reducible first | refine aGo ?_ | refine rH Ty_ok mixed 8 [0, 1, 2, 3, 4, 5, 6, 7, 8, 9, 10, 11, 12, 13, 14, 15, 16, 17, 18, 19, 20, 21, 22, 23, 24, 25, 27, 28, 29, 30, 31] (.alt 26 (.alt 32 (.alt 33 (.alt 34 .leaf .nil) .nil) (.alt 33 (.alt 32 (.alt 34 .leaf .nil) .nil) .nil)) (.alt 33 (.alt 26 (.alt 32 (.alt 34 .leaf .nil) .nil) .nil) .nil)) 4 ?_ | refine rP Ty_ok mixed 19 [1, 2, 7, 8] [.mid [pe 0, pe 3, pe 4, pe 5, ⟨6, 0, true, false, false, [], []⟩, ⟨9, 1, false, false, false, [0], []⟩, ⟨10, 1, false, false, false, [0], []⟩, ⟨11, 1, false, false, false, [0], []⟩, ⟨12, 1, false, false, false, [], []⟩, ⟨13, 1, true, false, false, [0], []⟩] 2, .one 14] ?_); simp only [hjl, go_sem]) | ((with_reducible refine aCd ?_ ?_ (fun hb => ?_) (fun hb => ?_)); (iterate 2 simp only [hjl, go_sem]); all_goals (simp only [hjl, go_sem] at hb; try simp only [bls] at hb)) | ((iterate 6 try ((fail_if_success with_reducible refine hK _ ?_ ?_ ?_); clear hK K)); with_reducible refine hK _ ?_ ?_ ?_; rotate_left; (focus (simp only [hjl, go_sem]; exact rfl)); clear hK K) | (with_reducible refine aGs (fun hg0 => ?_) (fun hg0 => ?_) <;> first | (with_reducible first | exact aF1 hg0 | exact aF2 hg0) | (simp only [hg0, hjl, go_sem])) | (with_reducible refine aNk ?_; intro bnil hnil; try simp only []) | exact aZ | fail))
       all_goals first | omega | skip
       refine hL2 _ (i + 1, monL M (pad c i), monE M (pad c i)) ⟨by simp only; omega, ?_⟩ ?_ (by simp only; omega)
       ·simp only
        by_cases hm0 : monE M (pad c i) = 0
        ·rw [if_neg (by omega)] at hRi
         refine .inl ⟨hm0, mon_okL hm0, ?_, hRi⟩
         rw [(monOk_of hm0).2.2, mon_init]; omega
        ·rw [if_pos hm0] at hRi
         exact .inr ⟨hm0, hRi⟩
       ·(simp only [SubF, List.set_cons_succ, List.set_cons_zero, go_sem]; (try simp only [List.set_cons_succ, List.set_cons_zero, go_sem]); repeat' (first | exact True.intro | with_reducible refine And.intro ?_ ?_ | rfl | omega))
     ·have hil2 : i = l.length := by omega
      subst hil2
      rw [List.drop_of_length_le (by omega), enfF] at hRi
      subst hRi
      have hE := netEqual_c M M hMo.fits
      simp only [Net.d] at hE
      (simp only [List.set_cons_succ, List.set_cons_zero, go_sem] at hL2 ⊢)
      (repeat' (first | (with_reducible first | exact True.intro | refine And.intro ?_ ?_ | refine aBl ?_ | (refine aS 17 [] ?_; intro K hK)) | ((with_reducible first | refine aGo ?_ | refine rH Ty_ok mixed 8 [0, 1, 2, 3, 4, 5, 6, 7, 8, 9, 10, 11, 12, 13, 14, 15, 16, 17, 18, 19, 20, 21, 22, 23, 24, 25, 27, 28, 29, 30, 31] (.alt 26 (.alt 32 (.alt 33 (.alt 34 .leaf .nil) .nil) (.alt 33 (.alt 32 (.alt 34 .leaf .nil) .nil) .nil)) (.alt 33 (.alt 26 (.alt 32 (.alt 34 .leaf .nil) .nil) .nil) .nil)) 4 ?_ | refine rP Ty_ok mixed 19 [1, 2, 7, 8] [.mid [pe 0, pe 3, pe 4, pe 5, ⟨6, 0, true, false, false, [], []⟩, ⟨9, 1, false, false, false, [0], []⟩, ⟨10, 1, false, false, false, [0], []⟩, ⟨11, 1, false, false, false, [0], []⟩, ⟨12, 1, false, false, false, [], []⟩, ⟨13, 1, true, false, false, [0], []⟩] 2, .one 14] ?_); simp only [go_sem]) | ((with_reducible refine aCd ?_ ?_ (fun hb => ?_) (fun hb => ?_)); (iterate 2 simp only [go_sem]); all_goals (simp only [go_sem] at hb; try simp only [bls] at hb)) | ((iterate 6 try ((fail_if_success with_reducible refine hK _ ?_ ?_ ?_); clear hK K)); with_reducible refine hK _ ?_ ?_ ?_; rotate_left; (focus (simp only [go_sem]; exact rfl)); clear hK K) | ((first | (with_reducible first | refine xA ?_ | refine xD ?_ | refine xO ?_ | refine xR ?_ | refine xG ?_ | refine xH ?_ | refine xM ?_) | ((with_reducible refine gA ?_); refine xA ?_) | ((with_reducible refine gD ?_); refine xD ?_) | ((with_reducible refine gG ?_); refine xG ?_)); simp only [go_sem]) | (with_reducible refine aGs (fun hg0 => ?_) (fun hg0 => ?_) <;> first | (with_reducible first | exact aF1 hg0 | exact aF2 hg0) | (simp only [hg0, go_sem])) | (with_reducible refine aNk ?_; intro bnil hnil; try simp only []) | exact aZ | fail))
      all_goals first | omega | simp
    ·subst hRe
     simp only [Net.d, Net.zero] at hZ
     (simp only [Net.zero, List.set_cons_succ, List.set_cons_zero, go_sem] at hL2 ⊢)
     (repeat' (first | (with_reducible first | exact True.intro | refine And.intro ?_ ?_ | refine aBl ?_ | (refine aS 17 [] ?_; intro K hK)) | ((with_reducible first | refine aGo ?_ | refine rH Ty_ok mixed 8 [0, 1, 2, 3, 4, 5, 6, 7, 8, 9, 10, 11, 12, 13, 14, 15, 16, 17, 18, 19, 20, 21, 22, 23, 24, 25, 27, 28, 29, 30, 31] (.alt 26 (.alt 32 (.alt 33 (.alt 34 .leaf .nil) .nil) (.alt 33 (.alt 32 (.alt 34 .leaf .nil) .nil) .nil)) (.alt 33 (.alt 26 (.alt 32 (.alt 34 .leaf .nil) .nil) .nil) .nil)) 4 ?_ | refine rP Ty_ok mixed 19 [1, 2, 7, 8] [.mid [pe 0, pe 3, pe 4, pe 5, ⟨6, 0, true, false, false, [], []⟩, ⟨9, 1, false, false, false, [0], []⟩, ⟨10, 1, false, false, false, [0], []⟩, ⟨11, 1, false, false, false, [0], []⟩, ⟨12, 1, false, false, false, [], []⟩, ⟨13, 1, true, false, false, [0], []⟩] 2, .one 14] ?_); simp only [go_sem]) | ((with_reducible refine aCd ?_ ?_ (fun hb => ?_) (fun hb => ?_)); (iterate 2 simp only [go_sem]); all_goals (simp only [go_sem] at hb; try simp only [bls] at hb)) | ((iterate 6 try ((fail_if_success with_reducible refine hK _ ?_ ?_ ?_); clear hK K)); with_reducible refine hK _ ?_ ?_ ?_; rotate_left; (focus (simp only [go_sem]; exact rfl)); clear hK K) | ((first | (with_reducible first | refine xA ?_ | refine xD ?_ | refine xO ?_ | refine xR ?_ | refine xG ?_ | refine xH ?_ | refine xM ?_) | ((with_reducible refine gA ?_); refine xA ?_) | ((with_reducible refine gD ?_); refine xD ?_) | ((with_reducible refine gG ?_); refine xG ?_)); simp only [go_sem]) | (with_reducible refine aGs (fun hg0 => ?_) (fun hg0 => ?_) <;> first | (with_reducible first | exact aF1 hg0 | exact aF2 hg0) | (simp only [hg0, go_sem])) | (with_reducible refine aNk ?_; intro bnil hnil; try simp only []) | exact aZ | fail))
     all_goals first | omega | skip
 ·(refine ACalls.of_body Ty_ok mixed Try.func3 rfl (by kernel_rfl) Try.ntmps3 (by simp) (congrArg Array.toList Try.results3) ?_)
  simp only [slotsOf]
  (repeat' (first | (with_reducible first | exact True.intro | refine And.intro ?_ ?_ | refine aBl ?_ | (refine aS 17 [] ?_; intro K hK)) | ((with_reducible first | refine aGo ?_ | refine rH Ty_ok mixed 8 [0, 1, 2, 3, 4, 5, 6, 7, 8, 9, 10, 11, 12, 13, 14, 15, 16, 17, 18, 19, 20, 21, 22, 23, 24, 25, 27, 28, 29, 30, 31] (.alt 26 (.alt 32 (.alt 33 (.alt 34 .leaf .nil) .nil) (.alt 33 (.alt 32 (.alt 34 .leaf .nil) .nil) .nil)) (.alt 33 (.alt 26 (.alt 32 (.alt 34 .leaf .nil) .nil) .nil) .nil)) 4 ?_ | refine rP Ty_ok mixed 19 [1, 2, 7, 8] [.mid [pe 0, pe 3, pe 4, pe 5, ⟨6, 0, true, false, false, [], []⟩, ⟨9, 1, false, false, false, [0], []⟩, ⟨10, 1, false, false, false, [0], []⟩, ⟨11, 1, false, false, false, [0], []⟩, ⟨12, 1, false, false, false, [], []⟩, ⟨13, 1, true, false, false, [0], []⟩] 2, .one 14] ?_); simp only [go_sem]) | ((with_reducible refine aCd ?_ ?_ (fun hb => ?_) (fun hb => ?_)); (iterate 2 simp only [go_sem]); all_goals (simp only [go_sem] at hb; try simp only [bls] at hb)) | ((iterate 6 try ((fail_if_success with_reducible refine hK _ ?_ ?_ ?_); clear hK K)); with_reducible refine hK _ ?_ ?_ ?_; rotate_left; (focus (simp only [go_sem]; exact rfl)); clear hK K) | ((first | (with_reducible first | refine xA ?_ | refine xD ?_ | refine xO ?_ | refine xR ?_ | refine xG ?_ | refine xH ?_ | refine xM ?_) | ((with_reducible refine gA ?_); refine xA ?_) | ((with_reducible refine gD ?_); refine xD ?_) | ((with_reducible refine gG ?_); refine xG ?_)); simp only [go_sem]) | (with_reducible refine aGs (fun hg0 => ?_) (fun hg0 => ?_) <;> first | (with_reducible first | exact aF1 hg0 | exact aF2 hg0) | (simp only [hg0, go_sem])) | (with_reducible refine aNk ?_; intro bnil hnil; try simp only []) | exact aZ | fail))
  all_goals first | omega | skip
end Go.Proofs.Ytgbhmieaoaojoaa
