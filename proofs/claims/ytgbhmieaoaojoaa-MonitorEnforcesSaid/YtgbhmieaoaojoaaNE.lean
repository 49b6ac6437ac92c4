/-
 Contracts: Enforce.
-/
import Derived.Test.YtgbhmieaoaojoaaN19
set_option linter.unusedSimpArgs false
set_option linter.unusedVariables false
namespace Go.Proofs.Ytgbhmieaoaojoaa
open Go.Eng Go.RowKit
def pad (c : Con) (i : Nat) : Con := ⟨c.fac ++ List.replicate i 0, c.bound⟩
def Con.no : Con := ⟨[], 0⟩
def conD (l : List Con) : List (List D) := l.map Con.d
theorem con_length (l : List Con) : (conD l).length = l.length := by simp [conD]
theorem con_get {l : List Con} {k : Nat} (hk : k < l.length) (z : List D) : (conD l).getD k z = [.list (ints (l.getD k Con.no).fac), .int .i64 (l.getD k Con.no).bound] := by
 simp only [conD, List.getD, List.getElem?_map, List.getElem?_eq_getElem hk]
 rfl
theorem con_sz (l : List Con) : (∀ r : List D, r ∈ conD l → r.length = 2) ↔ True := ⟨fun _ => trivial, fun _ r hr => by obtain ⟨e, _, rfl⟩ := List.mem_map.1 hr; rfl⟩
theorem con_append (xs ys : List Con) : conD xs ++ conD ys = conD (xs ++ ys) := by simp [conD]
attribute [go_sem] con_length con_sz
def ckE (n : Net) : List Con → Int
 | [] => 0
 | c :: l => if conE n c ≠ 0 then conE n c else ckE n l
def enfF : Nat → Net → List Con → Net × Int
 | _, n, [] => (n, 0)
 | i, n, c :: l => if monE n (pad c i) ≠ 0 then (Net.zero, monE n (pad c i)) else enfF (i + 1) (monL n (pad c i)) l
def enfR (n : Net) (l : List Con) : Net × Int := if ckE n l ≠ 0 then (Net.zero, ckE n l) else enfF 0 n l
theorem ints_pad (l : List Int) (k : Nat) : ints l ++ List.replicate k [D.int .i64 0] = ints (l ++ List.replicate k 0) := by
 simp [ints]
theorem mon_okL {n : Net} {c : Con} (h : monE n c = 0) : NetOk (monL n c) := by
 obtain ⟨h1, _, h3⟩ := monOk_of h
 rw [h3]
 exact mon_ok h1
set_option maxHeartbeats 16000000 in
theorem Enforce_c (n : Net) (l : List Con) (hE : netE n = 0) (hl : l.length ≤ 1000) (hc : ∀ c ∈ l, c.fac.length ≤ 1000) :
  ACalls Try.prog 7 [.agg n.d, .one (.list (conD l))] (.tup [.agg (enfR n l).1.d, .one (.int .i64 (enfR n l).2)]) [] := by
 have hn := netOk_of hE
 have hf := hn.fits
 have hi10 := hn.init
 have ht10 := hn.trs
 have h1 := netCheck_c n hf
 rw [hE] at h1
 have hR : enfR n l = if ckE n l ≠ 0 then (Net.zero, ckE n l) else enfF 0 n l := rfl
 generalize enfR n l = R at *
 have hC := ACalls.frozen (CloneInts_c n.init hf.init)
 simp only [Net.d] at h1
 (refine ACalls.of_body Ty_ok mixed Try.func7 rfl (by kernel_rfl) Try.ntmps7 (by simp) (congrArg Array.toList Try.results7) ?_)
 simp only [slotsOf, Net.d]
 (repeat' (first | (with_reducible first | exact True.intro | refine And.intro ?_ ?_ | refine aBl ?_ | (refine aS 17 [24, 23, 25, 43, 42, 44, 64, 63, 65] ?_; intro K hK)) | ((with_reducible first | refine aGo ?_ | refine rP Ty_ok mixed 15 [0, 2, 4, 7] [.mid [pe 1, pe 3, pe 5, ⟨6, 0, true, false, false, [], []⟩, ⟨8, 1, false, false, false, [0], []⟩, ⟨9, 1, true, false, false, [], []⟩, ⟨10, 2, false, false, false, [], []⟩, ⟨11, 2, false, false, false, [], []⟩] 2, .one 12, .one 13, .one 14] ?_ | refine rP Ty_ok mixed 20 [1, 4, 6] [.mid [pe 0, pe 2, ⟨3, 0, true, false, false, [], []⟩, ⟨5, 1, true, false, true, [], [0]⟩, ⟨7, 2, false, false, false, [1, 0], []⟩, ⟨8, 2, false, false, false, [0], []⟩, ⟨9, 2, true, false, false, [0], []⟩, ⟨10, 3, false, false, false, [0], []⟩, ⟨11, 3, false, false, false, [0], []⟩, ⟨12, 3, false, true, false, [0], []⟩, ⟨13, 3, true, false, false, [2, 1, 0], []⟩] 4, .one 14, .one 15] ?_); simp only [go_sem]) | ((with_reducible refine aCd ?_ ?_ (fun hb => ?_) (fun hb => ?_)); (iterate 2 simp only [go_sem]); all_goals (simp only [go_sem] at hb; try simp only [bls] at hb)) | ((iterate 6 try ((fail_if_success with_reducible refine hK _ ?_ ?_ ?_); clear hK K)); with_reducible refine hK _ ?_ ?_ ?_; rotate_left; (focus (simp only [go_sem]; exact rfl)); clear hK K) | ((first | (with_reducible first | refine xA ?_ | refine xD ?_ | refine xO ?_ | refine xR ?_ | refine xG ?_ | refine xH ?_ | refine xM ?_) | ((with_reducible refine gA ?_); refine xA ?_) | ((with_reducible refine gD ?_); refine xD ?_) | ((with_reducible refine gG ?_); refine xG ?_)); simp only [go_sem]) | (with_reducible refine aGs (fun hg0 => ?_) (fun hg0 => ?_) <;> first | (with_reducible first | exact aF1 hg0 | exact aF2 hg0) | (simp only [hg0, go_sem])) | (with_reducible refine aNk ?_; intro bnil hnil; try simp only []) | exact aZ | fail))
 all_goals first | omega | skip
 generalize hB : ckE n l = B at hR
 refine awp_loop _ (by simp only [go_sem]; rfl) Nat (fun k => k ≤ l.length ∧ ckE n (l.drop k) = B) (fun k => [(25, .one (.int .i64 k))]) (fun _ H => H) (fun k => l.length - k) 0 ⟨by omega, hB⟩ ?_ ?_
 ·(simp only [SubF, go_sem]; (try simp only [go_sem]); repeat' (first | exact True.intro | with_reducible refine And.intro ?_ ?_ | rfl | omega))
 rintro k ⟨hk, hBk⟩ L hL
 have hp : ((k : Nat) : Int).toNat = k := by omega
 by_cases hlt : k < l.length
 ·have hg := con_get hlt [.nil, .int .i64 0]
  have hmem := getD_mem l k Con.no hlt
  have h2 := conCheck_c n (l.getD k Con.no) hf (by have := hc _ hmem; omega)
  rw [drop_getD l k Con.no hlt, ckE] at hBk
  generalize l.getD k Con.no = c at *
  simp only [Net.d, Con.d] at h2
  by_cases h0 : conE n c = 0
  ·rw [if_neg (by omega)] at hBk
   rw [h0] at h2
   (simp only [go_sem] at hL ⊢)
   (repeat' (first | (with_reducible first | exact True.intro | refine And.intro ?_ ?_ | refine aBl ?_ | (refine aS 17 [24, 23, 25, 43, 42, 44, 64, 63, 65] ?_; intro K hK)) | ((with_reducible first | refine aGo ?_ | refine rP Ty_ok mixed 15 [0, 2, 4, 7] [.mid [pe 1, pe 3, pe 5, ⟨6, 0, true, false, false, [], []⟩, ⟨8, 1, false, false, false, [0], []⟩, ⟨9, 1, true, false, false, [], []⟩, ⟨10, 2, false, false, false, [], []⟩, ⟨11, 2, false, false, false, [], []⟩] 2, .one 12, .one 13, .one 14] ?_ | refine rP Ty_ok mixed 20 [1, 4, 6] [.mid [pe 0, pe 2, ⟨3, 0, true, false, false, [], []⟩, ⟨5, 1, true, false, true, [], [0]⟩, ⟨7, 2, false, false, false, [1, 0], []⟩, ⟨8, 2, false, false, false, [0], []⟩, ⟨9, 2, true, false, false, [0], []⟩, ⟨10, 3, false, false, false, [0], []⟩, ⟨11, 3, false, false, false, [0], []⟩, ⟨12, 3, false, true, false, [0], []⟩, ⟨13, 3, true, false, false, [2, 1, 0], []⟩] 4, .one 14, .one 15] ?_); simp only [hg, hp, go_sem]) | ((with_reducible refine aCd ?_ ?_ (fun hb => ?_) (fun hb => ?_)); (iterate 2 simp only [hg, hp, go_sem]); all_goals (simp only [hg, hp, go_sem] at hb; try simp only [bls] at hb)) | ((iterate 6 try ((fail_if_success with_reducible refine hK _ ?_ ?_ ?_); clear hK K)); with_reducible refine hK _ ?_ ?_ ?_; rotate_left; (focus (simp only [hg, hp, go_sem]; exact rfl)); clear hK K) | ((first | (with_reducible first | refine xA ?_ | refine xD ?_ | refine xO ?_ | refine xR ?_ | refine xG ?_ | refine xH ?_ | refine xM ?_) | ((with_reducible refine gA ?_); refine xA ?_) | ((with_reducible refine gD ?_); refine xD ?_) | ((with_reducible refine gG ?_); refine xG ?_)); simp only [hg, hp, go_sem]) | (with_reducible refine aGs (fun hg0 => ?_) (fun hg0 => ?_) <;> first | (with_reducible first | exact aF1 hg0 | exact aF2 hg0) | (simp only [hg0, hg, hp, go_sem])) | (with_reducible refine aNk ?_; intro bnil hnil; try simp only []) | exact aZ | fail))
   all_goals first | omega | skip
   exact hL _ (k + 1) ⟨by omega, hBk⟩ (by (simp only [SubF, go_sem]; (try simp only [go_sem]); repeat' (first | exact True.intro | with_reducible refine And.intro ?_ ?_ | rfl | omega))) (by omega)
  ·rw [if_pos h0] at hBk
   rw [if_pos (by omega)] at hR
   rw [hBk] at h2 h0
   subst hR
   (simp only [go_sem] at hL ⊢)
   (repeat' (first | (with_reducible first | exact True.intro | refine And.intro ?_ ?_ | refine aBl ?_ | (refine aS 17 [24, 23, 25, 43, 42, 44, 64, 63, 65] ?_; intro K hK)) | ((with_reducible first | refine aGo ?_ | refine rP Ty_ok mixed 15 [0, 2, 4, 7] [.mid [pe 1, pe 3, pe 5, ⟨6, 0, true, false, false, [], []⟩, ⟨8, 1, false, false, false, [0], []⟩, ⟨9, 1, true, false, false, [], []⟩, ⟨10, 2, false, false, false, [], []⟩, ⟨11, 2, false, false, false, [], []⟩] 2, .one 12, .one 13, .one 14] ?_ | refine rP Ty_ok mixed 20 [1, 4, 6] [.mid [pe 0, pe 2, ⟨3, 0, true, false, false, [], []⟩, ⟨5, 1, true, false, true, [], [0]⟩, ⟨7, 2, false, false, false, [1, 0], []⟩, ⟨8, 2, false, false, false, [0], []⟩, ⟨9, 2, true, false, false, [0], []⟩, ⟨10, 3, false, false, false, [0], []⟩, ⟨11, 3, false, false, false, [0], []⟩, ⟨12, 3, false, true, false, [0], []⟩, ⟨13, 3, true, false, false, [2, 1, 0], []⟩] 4, .one 14, .one 15] ?_); simp only [hg, hp, go_sem]) | ((with_reducible refine aCd ?_ ?_ (fun hb => ?_) (fun hb => ?_)); (iterate 2 simp only [hg, hp, go_sem]); all_goals (simp only [hg, hp, go_sem] at hb; try simp only [bls] at hb)) | ((iterate 6 try ((fail_if_success with_reducible refine hK _ ?_ ?_ ?_); clear hK K)); with_reducible refine hK _ ?_ ?_ ?_; rotate_left; (focus (simp only [hg, hp, go_sem]; exact rfl)); clear hK K) | ((first | (with_reducible first | refine xA ?_ | refine xD ?_ | refine xO ?_ | refine xR ?_ | refine xG ?_ | refine xH ?_ | refine xM ?_) | ((with_reducible refine gA ?_); refine xA ?_) | ((with_reducible refine gD ?_); refine xD ?_) | ((with_reducible refine gG ?_); refine xG ?_)); simp only [hg, hp, go_sem]) | (with_reducible refine aGs (fun hg0 => ?_) (fun hg0 => ?_) <;> first | (with_reducible first | exact aF1 hg0 | exact aF2 hg0) | (simp only [hg0, hg, hp, go_sem])) | (with_reducible refine aNk ?_; intro bnil hnil; try simp only []) | exact aZ | fail))
   all_goals first | omega | rfl | skip
 have hkl : k = l.length := by omega
 subst hkl
 rw [List.drop_length] at hBk
 have hB0 : B = 0 := hBk.symm
 rw [if_neg (by omega)] at hR
 (simp only [go_sem] at hL ⊢)
 (repeat' (first | (with_reducible first | exact True.intro | refine And.intro ?_ ?_ | refine aBl ?_ | (refine aS 17 [24, 23, 25, 43, 42, 44, 64, 63, 65] ?_; intro K hK)) | ((with_reducible first | refine aGo ?_ | refine rP Ty_ok mixed 15 [0, 2, 4, 7] [.mid [pe 1, pe 3, pe 5, ⟨6, 0, true, false, false, [], []⟩, ⟨8, 1, false, false, false, [0], []⟩, ⟨9, 1, true, false, false, [], []⟩, ⟨10, 2, false, false, false, [], []⟩, ⟨11, 2, false, false, false, [], []⟩] 2, .one 12, .one 13, .one 14] ?_ | refine rP Ty_ok mixed 20 [1, 4, 6] [.mid [pe 0, pe 2, ⟨3, 0, true, false, false, [], []⟩, ⟨5, 1, true, false, true, [], [0]⟩, ⟨7, 2, false, false, false, [1, 0], []⟩, ⟨8, 2, false, false, false, [0], []⟩, ⟨9, 2, true, false, false, [0], []⟩, ⟨10, 3, false, false, false, [0], []⟩, ⟨11, 3, false, false, false, [0], []⟩, ⟨12, 3, false, true, false, [0], []⟩, ⟨13, 3, true, false, false, [2, 1, 0], []⟩] 4, .one 14, .one 15] ?_); simp only [go_sem]) | ((with_reducible refine aCd ?_ ?_ (fun hb => ?_) (fun hb => ?_)); (iterate 2 simp only [go_sem]); all_goals (simp only [go_sem] at hb; try simp only [bls] at hb)) | ((iterate 6 try ((fail_if_success with_reducible refine hK _ ?_ ?_ ?_); clear hK K)); with_reducible refine hK _ ?_ ?_ ?_; rotate_left; (focus (simp only [go_sem]; exact rfl)); clear hK K) | ((first | (with_reducible first | refine xA ?_ | refine xD ?_ | refine xO ?_ | refine xR ?_ | refine xG ?_ | refine xH ?_ | refine xM ?_) | ((with_reducible refine gA ?_); refine xA ?_) | ((with_reducible refine gD ?_); refine xD ?_) | ((with_reducible refine gG ?_); refine xG ?_)); simp only [go_sem]) | (with_reducible refine aGs (fun hg0 => ?_) (fun hg0 => ?_) <;> first | (with_reducible first | exact aF1 hg0 | exact aF2 hg0) | (simp only [hg0, go_sem])) | (with_reducible refine aNk ?_; intro bnil hnil; try simp only []) | exact aZ | fail))
 all_goals first | omega | skip
 refine awp_loopT [.cell 2 1 58 3] _ (by simp only [go_sem]; rfl) Nat (fun k => k ≤ n.trs.length) (fun k => [(44, .one (.int .i64 k))]) (fun k => [.var 31 [.list (ints n.init), .list (trsD n.trs)], .var 31 [.nil, .nil], .var 31 [.list (ints n.init), .own 3], .row 58 3 (trsD (n.trs.take k))]) (fun k => n.trs.length - k) 0 (by omega) ?_ ?_
 ·have e0 : trsD (n.trs.take 0) = [] := rfl
  rw [e0]
  (simp only [SubF, go_sem]; (try simp only [go_sem]); repeat' (first | exact True.intro | with_reducible refine And.intro ?_ ?_ | rfl | omega))
 rintro k hk L hL
 have hp : ((k : Nat) : Int).toNat = k := by omega
 have hml : (n.trs.take k).length = k := by rw [List.length_take]; omega
 by_cases hlt : k < n.trs.length
 ·have hg := trs_get hlt [.int .i64 0, .nil, .nil]
  have hmem := getD_mem n.trs k Tr.no hlt
  have hc1 := ACalls.frozen (CloneArcs_c (n.trs.getD k Tr.no).inn (hf.inn _ hmem))
  have hc2 := ACalls.frozen (CloneArcs_c (n.trs.getD k Tr.no).out (hf.out _ hmem))
  have e1 : trsD (n.trs.take (k + 1)) = trsD (n.trs.take k) ++ [[.int .i64 (n.trs.getD k Tr.no).event, .list (arcsD (n.trs.getD k Tr.no).inn), .list (arcsD (n.trs.getD k Tr.no).out)]] := by
   rw [take_succ_getD n.trs k Tr.no hlt, ← trs_append]; rfl
  generalize n.trs.getD k Tr.no = t at *
  (simp only [go_sem] at hL ⊢)
  (repeat' (first | (with_reducible first | exact True.intro | refine And.intro ?_ ?_ | refine aBl ?_ | (refine aS 17 [24, 23, 25, 43, 42, 44, 64, 63, 65] ?_; intro K hK)) | ((with_reducible first | refine aGo ?_ | refine rP Ty_ok mixed 15 [0, 2, 4, 7] [.mid [pe 1, pe 3, pe 5, ⟨6, 0, true, false, false, [], []⟩, ⟨8, 1, false, false, false, [0], []⟩, ⟨9, 1, true, false, false, [], []⟩, ⟨10, 2, false, false, false, [], []⟩, ⟨11, 2, false, false, false, [], []⟩] 2, .one 12, .one 13, .one 14] ?_ | refine rP Ty_ok mixed 20 [1, 4, 6] [.mid [pe 0, pe 2, ⟨3, 0, true, false, false, [], []⟩, ⟨5, 1, true, false, true, [], [0]⟩, ⟨7, 2, false, false, false, [1, 0], []⟩, ⟨8, 2, false, false, false, [0], []⟩, ⟨9, 2, true, false, false, [0], []⟩, ⟨10, 3, false, false, false, [0], []⟩, ⟨11, 3, false, false, false, [0], []⟩, ⟨12, 3, false, true, false, [0], []⟩, ⟨13, 3, true, false, false, [2, 1, 0], []⟩] 4, .one 14, .one 15] ?_); simp only [hg, hp, go_sem]) | ((with_reducible refine aCd ?_ ?_ (fun hb => ?_) (fun hb => ?_)); (iterate 2 simp only [hg, hp, go_sem]); all_goals (simp only [hg, hp, go_sem] at hb; try simp only [bls] at hb)) | ((iterate 6 try ((fail_if_success with_reducible refine hK _ ?_ ?_ ?_); clear hK K)); with_reducible refine hK _ ?_ ?_ ?_; rotate_left; (focus (simp only [hg, hp, go_sem]; exact rfl)); clear hK K) | ((first | (with_reducible first | refine xA ?_ | refine xD ?_ | refine xO ?_ | refine xR ?_ | refine xG ?_ | refine xH ?_ | refine xM ?_) | ((with_reducible refine gA ?_); refine xA ?_) | ((with_reducible refine gD ?_); refine xD ?_) | ((with_reducible refine gG ?_); refine xG ?_)); simp only [hg, hp, go_sem]) | (with_reducible refine aGs (fun hg0 => ?_) (fun hg0 => ?_) <;> first | (with_reducible first | exact aF1 hg0 | exact aF2 hg0) | (simp only [hg0, hg, hp, go_sem])) | (with_reducible refine aNk ?_; intro bnil hnil; try simp only []) | exact aZ | fail))
  all_goals first | omega | skip
  refine hL _ (k + 1) (by omega) ?_ (by omega)
  rw [e1]
  (simp only [SubF, go_sem]; (try simp only [go_sem]); repeat' (first | exact True.intro | with_reducible refine And.intro ?_ ?_ | rfl | omega))
 have hkl : k = n.trs.length := by omega
 subst hkl
 rw [List.take_length] at *
 (simp only [go_sem] at hL ⊢)
 (repeat' (first | (with_reducible first | exact True.intro | refine And.intro ?_ ?_ | refine aBl ?_ | (refine aS 17 [24, 23, 25, 43, 42, 44, 64, 63, 65] ?_; intro K hK)) | ((with_reducible first | refine aGo ?_ | refine rP Ty_ok mixed 15 [0, 2, 4, 7] [.mid [pe 1, pe 3, pe 5, ⟨6, 0, true, false, false, [], []⟩, ⟨8, 1, false, false, false, [0], []⟩, ⟨9, 1, true, false, false, [], []⟩, ⟨10, 2, false, false, false, [], []⟩, ⟨11, 2, false, false, false, [], []⟩] 2, .one 12, .one 13, .one 14] ?_ | refine rP Ty_ok mixed 20 [1, 4, 6] [.mid [pe 0, pe 2, ⟨3, 0, true, false, false, [], []⟩, ⟨5, 1, true, false, true, [], [0]⟩, ⟨7, 2, false, false, false, [1, 0], []⟩, ⟨8, 2, false, false, false, [0], []⟩, ⟨9, 2, true, false, false, [0], []⟩, ⟨10, 3, false, false, false, [0], []⟩, ⟨11, 3, false, false, false, [0], []⟩, ⟨12, 3, false, true, false, [0], []⟩, ⟨13, 3, true, false, false, [2, 1, 0], []⟩] 4, .one 14, .one 15] ?_); simp only [go_sem]) | ((with_reducible refine aCd ?_ ?_ (fun hb => ?_) (fun hb => ?_)); (iterate 2 simp only [go_sem]); all_goals (simp only [go_sem] at hb; try simp only [bls] at hb)) | ((iterate 6 try ((fail_if_success with_reducible refine hK _ ?_ ?_ ?_); clear hK K)); with_reducible refine hK _ ?_ ?_ ?_; rotate_left; (focus (simp only [go_sem]; exact rfl)); clear hK K) | (with_reducible refine aGs (fun hg0 => ?_) (fun hg0 => ?_) <;> first | (with_reducible first | exact aF1 hg0 | exact aF2 hg0) | (simp only [hg0, go_sem])) | (with_reducible refine aNk ?_; intro bnil hnil; try simp only []) | exact aZ | fail))
 all_goals first | omega | skip
 refine awp_loop _ (by simp only [go_sem]; rfl) (Nat × Net) (fun s => s.1 ≤ l.length ∧ R = enfF s.1 s.2 (l.drop s.1) ∧ NetOk s.2) (fun s => [(65, .one (.int .i64 s.1))]) (fun s _ => [.var 31 [.list (ints n.init), .list (trsD n.trs)], .var 31 [.nil, .nil], .var 31 [.list (ints s.2.init), .list (trsD s.2.trs)]]) (fun s => l.length - s.1) (0, n) ⟨by omega, hR, hn⟩ ?_ ?_
 ·(simp only [SubF, go_sem]; (try simp only [go_sem]); repeat' (first | exact True.intro | with_reducible refine And.intro ?_ ?_ | rfl | omega))
 rintro ⟨k, o⟩ ⟨hk, hres, ho⟩ L hL
 dsimp only at hk hres ho
 have hp : ((k : Nat) : Int).toNat = k := by omega
 by_cases hlt : k < l.length
 ·have hg := con_get hlt [.nil, .int .i64 0]
  have hmem := getD_mem l k Con.no hlt
  have hfl := hc _ hmem
  have hcc := CloneInts_c (l.getD k Con.no).fac (by omega)
  have hMo := Monitor_c o (pad (l.getD k Con.no) k) ho.fits (by simp only [pad, List.length_append, List.length_replicate]; omega)
  rw [drop_getD l k Con.no hlt, enfF] at hres
  generalize l.getD k Con.no = c at *
  have hip := ints_pad c.fac k
  have hpd : pad c k = ⟨c.fac ++ List.replicate k 0, c.bound⟩ := rfl
  generalize pad c k = q at *
  have hq1 : q.fac = c.fac ++ List.replicate k 0 := by rw [hpd]
  have hq2 : q.bound = c.bound := by rw [hpd]
  simp only [Net.d, Con.d, hq1, hq2] at hMo
  by_cases h0 : monE o q = 0
  ·rw [if_neg (by omega)] at hres
   have hok := mon_okL h0
   rw [h0] at hMo
   generalize monL o q = o2 at *
   (simp only [go_sem] at hL ⊢)
   (repeat' (first | (with_reducible first | exact True.intro | refine And.intro ?_ ?_ | refine aBl ?_ | (refine aS 17 [24, 23, 25, 43, 42, 44, 64, 63, 65] ?_; intro K hK)) | ((with_reducible first | refine aGo ?_ | refine rP Ty_ok mixed 15 [0, 2, 4, 7] [.mid [pe 1, pe 3, pe 5, ⟨6, 0, true, false, false, [], []⟩, ⟨8, 1, false, false, false, [0], []⟩, ⟨9, 1, true, false, false, [], []⟩, ⟨10, 2, false, false, false, [], []⟩, ⟨11, 2, false, false, false, [], []⟩] 2, .one 12, .one 13, .one 14] ?_ | refine rP Ty_ok mixed 20 [1, 4, 6] [.mid [pe 0, pe 2, ⟨3, 0, true, false, false, [], []⟩, ⟨5, 1, true, false, true, [], [0]⟩, ⟨7, 2, false, false, false, [1, 0], []⟩, ⟨8, 2, false, false, false, [0], []⟩, ⟨9, 2, true, false, false, [0], []⟩, ⟨10, 3, false, false, false, [0], []⟩, ⟨11, 3, false, false, false, [0], []⟩, ⟨12, 3, false, true, false, [0], []⟩, ⟨13, 3, true, false, false, [2, 1, 0], []⟩] 4, .one 14, .one 15] ?_); simp only [hg, hp, hip, go_sem]) | ((with_reducible refine aCd ?_ ?_ (fun hb => ?_) (fun hb => ?_)); (iterate 2 simp only [hg, hp, hip, go_sem]); all_goals (simp only [hg, hp, hip, go_sem] at hb; try simp only [bls] at hb)) | ((iterate 6 try ((fail_if_success with_reducible refine hK _ ?_ ?_ ?_); clear hK K)); with_reducible refine hK _ ?_ ?_ ?_; rotate_left; (focus (simp only [hg, hp, hip, go_sem]; exact rfl)); clear hK K) | ((first | (with_reducible first | refine xA ?_ | refine xD ?_ | refine xO ?_ | refine xR ?_ | refine xG ?_ | refine xH ?_ | refine xM ?_) | ((with_reducible refine gA ?_); refine xA ?_) | ((with_reducible refine gD ?_); refine xD ?_) | ((with_reducible refine gG ?_); refine xG ?_)); simp only [hg, hp, hip, go_sem]) | (with_reducible refine aGs (fun hg0 => ?_) (fun hg0 => ?_) <;> first | (with_reducible first | exact aF1 hg0 | exact aF2 hg0) | (simp only [hg0, hg, hp, hip, go_sem])) | (with_reducible refine aNk ?_; intro bnil hnil; try simp only []) | exact aZ | fail))
   all_goals first | omega | (intro r hr; rw [(List.mem_replicate.1 hr).2]; rfl) | (rw [List.length_replicate]; omega) | skip
   exact hL _ (k + 1, o2) ⟨by omega, hres, hok⟩ (by (simp only [SubF, go_sem]; (try simp only [go_sem]); repeat' (first | exact True.intro | with_reducible refine And.intro ?_ ?_ | rfl | omega))) (by omega)
  ·rw [if_pos h0] at hres
   generalize hmE : monE o q = e at *
   have hz : monL o q = Net.zero := by rw [monL, if_neg (by omega)]
   rw [hz] at hMo
   simp only [Net.zero] at hMo
   subst hres
   (simp only [go_sem] at hL ⊢)
   (repeat' (first | (with_reducible first | exact True.intro | refine And.intro ?_ ?_ | refine aBl ?_ | (refine aS 17 [24, 23, 25, 43, 42, 44, 64, 63, 65] ?_; intro K hK)) | ((with_reducible first | refine aGo ?_ | refine rP Ty_ok mixed 15 [0, 2, 4, 7] [.mid [pe 1, pe 3, pe 5, ⟨6, 0, true, false, false, [], []⟩, ⟨8, 1, false, false, false, [0], []⟩, ⟨9, 1, true, false, false, [], []⟩, ⟨10, 2, false, false, false, [], []⟩, ⟨11, 2, false, false, false, [], []⟩] 2, .one 12, .one 13, .one 14] ?_ | refine rP Ty_ok mixed 20 [1, 4, 6] [.mid [pe 0, pe 2, ⟨3, 0, true, false, false, [], []⟩, ⟨5, 1, true, false, true, [], [0]⟩, ⟨7, 2, false, false, false, [1, 0], []⟩, ⟨8, 2, false, false, false, [0], []⟩, ⟨9, 2, true, false, false, [0], []⟩, ⟨10, 3, false, false, false, [0], []⟩, ⟨11, 3, false, false, false, [0], []⟩, ⟨12, 3, false, true, false, [0], []⟩, ⟨13, 3, true, false, false, [2, 1, 0], []⟩] 4, .one 14, .one 15] ?_); simp only [hg, hp, hip, go_sem]) | ((with_reducible refine aCd ?_ ?_ (fun hb => ?_) (fun hb => ?_)); (iterate 2 simp only [hg, hp, hip, go_sem]); all_goals (simp only [hg, hp, hip, go_sem] at hb; try simp only [bls] at hb)) | ((iterate 6 try ((fail_if_success with_reducible refine hK _ ?_ ?_ ?_); clear hK K)); with_reducible refine hK _ ?_ ?_ ?_; rotate_left; (focus (simp only [hg, hp, hip, go_sem]; exact rfl)); clear hK K) | ((first | (with_reducible first | refine xA ?_ | refine xD ?_ | refine xO ?_ | refine xR ?_ | refine xG ?_ | refine xH ?_ | refine xM ?_) | ((with_reducible refine gA ?_); refine xA ?_) | ((with_reducible refine gD ?_); refine xD ?_) | ((with_reducible refine gG ?_); refine xG ?_)); simp only [hg, hp, hip, go_sem]) | (with_reducible refine aGs (fun hg0 => ?_) (fun hg0 => ?_) <;> first | (with_reducible first | exact aF1 hg0 | exact aF2 hg0) | (simp only [hg0, hg, hp, hip, go_sem])) | (with_reducible refine aNk ?_; intro bnil hnil; try simp only []) | exact aZ | fail))
   all_goals first | omega | (intro r hr; rw [(List.mem_replicate.1 hr).2]; rfl) | (rw [List.length_replicate]; omega) | rfl | skip
 ·have hkl : k = l.length := by omega
  subst hkl
  rw [List.drop_length] at hres
  subst hres
  (simp only [go_sem] at hL ⊢)
  (repeat' (first | (with_reducible first | exact True.intro | refine And.intro ?_ ?_ | refine aBl ?_ | (refine aS 17 [24, 23, 25, 43, 42, 44, 64, 63, 65] ?_; intro K hK)) | ((with_reducible first | refine aGo ?_ | refine rP Ty_ok mixed 15 [0, 2, 4, 7] [.mid [pe 1, pe 3, pe 5, ⟨6, 0, true, false, false, [], []⟩, ⟨8, 1, false, false, false, [0], []⟩, ⟨9, 1, true, false, false, [], []⟩, ⟨10, 2, false, false, false, [], []⟩, ⟨11, 2, false, false, false, [], []⟩] 2, .one 12, .one 13, .one 14] ?_ | refine rP Ty_ok mixed 20 [1, 4, 6] [.mid [pe 0, pe 2, ⟨3, 0, true, false, false, [], []⟩, ⟨5, 1, true, false, true, [], [0]⟩, ⟨7, 2, false, false, false, [1, 0], []⟩, ⟨8, 2, false, false, false, [0], []⟩, ⟨9, 2, true, false, false, [0], []⟩, ⟨10, 3, false, false, false, [0], []⟩, ⟨11, 3, false, false, false, [0], []⟩, ⟨12, 3, false, true, false, [0], []⟩, ⟨13, 3, true, false, false, [2, 1, 0], []⟩] 4, .one 14, .one 15] ?_); simp only [go_sem]) | ((with_reducible refine aCd ?_ ?_ (fun hb => ?_) (fun hb => ?_)); (iterate 2 simp only [go_sem]); all_goals (simp only [go_sem] at hb; try simp only [bls] at hb)) | ((iterate 6 try ((fail_if_success with_reducible refine hK _ ?_ ?_ ?_); clear hK K)); with_reducible refine hK _ ?_ ?_ ?_; rotate_left; (focus (simp only [go_sem]; exact rfl)); clear hK K) | (with_reducible refine aGs (fun hg0 => ?_) (fun hg0 => ?_) <;> first | (with_reducible first | exact aF1 hg0 | exact aF2 hg0) | (simp only [hg0, go_sem])) | (with_reducible refine aNk ?_; intro bnil hnil; try simp only []) | exact aZ | fail))
  all_goals first | omega | rfl | skip
end Go.Proofs.Ytgbhmieaoaojoaa
