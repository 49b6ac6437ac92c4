/-
 Contracts: nets with a control place.
-/
import Derived.Test.YtgbhmieaoaojoaaN5
set_option linter.unusedSimpArgs false
set_option linter.unusedVariables false
namespace Go.Proofs.Ytgbhmieaoaojoaa
open Go.Eng Go.RowKit
theorem Effects_c (n : Net) (c : Con) (hn : n.Fits) (hc : c.fac.length ≤ 1000000) (h0 : conE n c = 0) (hno : NetOk n) (hl : c.fac.length = n.init.length) (hs : Sm 16 c.fac) : ACalls Try.prog 12 [.agg n.d, .agg c.d] (.tup [.one (.list (ints (effL n c))), .one (.int .i64 0)]) [] := by
 have h1 := conCheck_c n c hn hc
 have h2 := ACalls.frozen (effects_c n c hno hl hs)
 rw [h0] at h1
 simp only [Net.d, Con.d] at h1 h2
 (refine ACalls.of_body Ty_ok mixed Try.func12 rfl (by kernel_rfl) Try.ntmps12 (by simp) (congrArg Array.toList Try.results12) ?_)
 simp only [slotsOf, Net.d, Con.d]
 (repeat' (first | (with_reducible first | exact True.intro | refine And.intro ?_ ?_ | refine aBl ?_ | (refine aS 7 [] ?_; intro K hK)) | ((with_reducible first | refine aGo ?_); simp only [go_sem]) | ((with_reducible refine aCd ?_ ?_ (fun hb => ?_) (fun hb => ?_)); (iterate 2 simp only [go_sem]); all_goals (simp only [go_sem] at hb; try simp only [bls] at hb)) | ((iterate 6 try ((fail_if_success with_reducible refine hK _ ?_ ?_ ?_); clear hK K)); with_reducible refine hK _ ?_ ?_ ?_; rotate_left; (focus (simp only [go_sem]; exact rfl)); clear hK K) | ((first | (with_reducible first | refine xA ?_ | refine xD ?_ | refine xO ?_ | refine xR ?_ | refine xG ?_ | refine xH ?_ | refine xM ?_) | ((with_reducible refine gA ?_); refine xA ?_) | ((with_reducible refine gD ?_); refine xD ?_) | ((with_reducible refine gG ?_); refine xG ?_)); simp only [go_sem]) | (with_reducible refine aGs (fun hg0 => ?_) (fun hg0 => ?_) <;> first | (with_reducible first | exact aF1 hg0 | exact aF2 hg0) | (simp only [hg0, go_sem])) | (with_reducible refine aNk ?_; intro bnil hnil; try simp only []) | exact aZ | fail))
theorem conOk_of {n : Net} {c : Con} (h : conE n c = 0) : netE n = 0 ∧ c.fac.length = n.init.length ∧ Sm 16 c.fac ∧ -65536 ≤ c.bound ∧ c.bound ≤ 65536 := by
 unfold conE at h
 split at h
 ·rename_i h1; exact absurd h h1
 rename_i h1
 split at h
 ·cases h
 rename_i h2
 split at h
 ·cases h
 rename_i h3
 simp only [Bool.or_eq_true, List.any_eq_true, not_or, not_exists, not_and] at h3
 refine ⟨by simpa using h1, by omega, ⟨fun x hx => ?_⟩, ?_⟩
 ·have := h3.1 x hx
  simp [largeB] at this
  omega
 ·have := h3.2
  simp [largeB] at this
  omega
def monT (place : Int) (e : Int) (t : Tr) : Tr := ⟨t.event, t.inn ++ (if 0 < e then [⟨place, e⟩] else []), t.out ++ (if e < 0 then [⟨place, -e⟩] else [])⟩
def monTrs (n : Net) (c : Con) (k : Nat) : List Tr := (n.trs.take k).map fun t => monT n.init.length (effT c.fac t) t
theorem monTrs_succ (n : Net) (c : Con) (k : Nat) (hk : k < n.trs.length) : monTrs n c (k + 1) = monTrs n c k ++ [monT n.init.length (effT c.fac (n.trs.getD k Tr.no)) (n.trs.getD k Tr.no)] := by
 rw [monTrs, take_succ_getD n.trs k Tr.no hk, List.map_append]; rfl
theorem monTrs_length (n : Net) (c : Con) (k : Nat) : (monTrs n c k).length ≤ k := by simp [monTrs]; omega
def monNet (n : Net) (c : Con) : Net := ⟨n.init ++ [c.bound - dot c.fac n.init], monTrs n c n.trs.length⟩
def Net.zero : Net := ⟨[], []⟩
def monE (n : Net) (c : Con) : Int := if conE n c ≠ 0 then conE n c else if c.bound - dot c.fac n.init < 0 then 19 else if n.init.length = 10 ∨ 65536 < c.bound - dot c.fac n.init ∨ (effL n c).any (largeB 8) = true then 3 else 0
def monL (n : Net) (c : Con) : Net := if monE n c = 0 then monNet n c else Net.zero
theorem effL_get (n : Net) (c : Con) (k : Nat) (hk : k < n.trs.length) : (effL n c).getD k 0 = effT c.fac (n.trs.getD k Tr.no) := by
 simp [effL, List.getD, List.getElem?_map, List.getElem?_eq_getElem hk]
theorem effL_length (n : Net) (c : Con) : (effL n c).length = n.trs.length := by simp [effL]
theorem trsD_one (e : Int) (i o : List Arc) : trsD [⟨e, i, o⟩] = [[D.int .i64 e, D.list (arcsD i), D.list (arcsD o)]] := rfl
set_option maxHeartbeats 16000000 in
theorem Monitor_c (n : Net) (c : Con) (hn : n.Fits) (hc : c.fac.length ≤ 1000000) : ACalls Try.prog 13 [.agg n.d, .agg c.d] (.tup [.agg (monL n c).d, .one (.int .i64 (monE n c))]) [] := by
 have h1 := conCheck_c n c hn hc
 by_cases h0 : conE n c = 0
 ·obtain ⟨q1, q2, q3, q4, q5⟩ := conOk_of h0
  have hno := netOk_of q1
  have hi10 := hno.init
  have ht10 := hno.trs
  have hsm : Sm 65536 n.init := ⟨fun x hx => by have := hno.tok x hx; omega⟩
  have h2 := value_c c n.init (by omega) q3 hsm (by omega) hn.init
  have h3 := effects_c n c hno q2 q3
  have hd := dot_fits q3 hsm (by omega)
  have hEl := effL_length n c
  rw [h0] at h1
  simp only [Net.d, Con.d] at h1 h2 h3
  have hEget := effL_get n c
  have hmE : monE n c = if c.bound - dot c.fac n.init < 0 then 19 else if n.init.length = 10 ∨ 65536 < c.bound - dot c.fac n.init ∨ (effL n c).any (largeB 8) = true then 3 else 0 := by
   rw [monE, if_neg (by omega)]
  have z19 : c.bound - dot c.fac n.init < 0 → monL n c = Net.zero ∧ monE n c = 19 := fun h => by
   have e : monE n c = 19 := by rw [hmE, if_pos h]
   exact ⟨by rw [monL, if_neg (by omega)], e⟩
  have z3 : 0 ≤ c.bound - dot c.fac n.init → ((n.init.length : Int) = 10 ∨ 65536 < c.bound - dot c.fac n.init) ∨ (effL n c).any (largeB 8) = true → monL n c = Net.zero ∧ monE n c = 3 := fun h h' => by
   have e : monE n c = 3 := by
    rw [hmE, if_neg (by omega), if_pos]
    rcases h' with (h' | h') | h'
    ·exact .inl (by omega)
    ·exact .inr (.inl h')
    ·exact .inr (.inr h')
   exact ⟨by rw [monL, if_neg (by omega)], e⟩
  (refine ACalls.of_body Ty_ok mixed Try.func13 rfl (by kernel_rfl) Try.ntmps13 (by simp) (congrArg Array.toList Try.results13) ?_)
  simp only [slotsOf, Net.d, Con.d]
  (repeat' (first | (with_reducible first | exact True.intro | refine And.intro ?_ ?_ | refine aBl ?_ | (refine aS 14 [59, 58, 60] ?_; intro K hK)) | ((with_reducible first | refine aGo ?_ | refine rP Ty_ok mixed 4 [0, 3] [.mid [pe 1, pe 2, pe 4, ⟨5, 0, true, false, false, [], []⟩, ⟨6, 1, false, false, false, [], []⟩, ⟨7, 1, false, false, false, [], []⟩] 1] ?_ | refine rP Ty_ok mixed 15 [0, 2, 5] [.mid [pe 1, pe 3, ⟨4, 0, true, false, false, [], []⟩, ⟨6, 1, false, false, false, [0], []⟩, ⟨7, 1, true, false, false, [], []⟩, ⟨8, 2, false, false, false, [], []⟩, ⟨9, 2, true, false, false, [1, 0], []⟩] 3, .one 10] ?_ | refine rP Ty_ok mixed 17 [0, 2, 3, 4] [.mid [pe 1, pe 5, pe 6, pe 7, pe 8] 0, .one 9, .one 10, .one 11] ?_ | refine rP Ty_ok mixed 19 [0, 2, 3, 4] [.mid [pe 1, pe 5, pe 6, pe 7, pe 8, pe 9] 0, .one 10, .one 11, .one 12] ?_); simp only [go_sem]) | ((with_reducible refine aCd ?_ ?_ (fun hb => ?_) (fun hb => ?_)); (iterate 2 simp only [go_sem]); all_goals (simp only [go_sem] at hb; try simp only [bls] at hb)) | ((iterate 6 try ((fail_if_success with_reducible refine hK _ ?_ ?_ ?_); clear hK K)); with_reducible refine hK _ ?_ ?_ ?_; rotate_left; (focus (simp only [go_sem]; exact rfl)); clear hK K) | ((first | (with_reducible first | refine xA ?_ | refine xD ?_ | refine xO ?_ | refine xR ?_ | refine xG ?_ | refine xH ?_ | refine xM ?_ | refine cA (ContainsFuncInts_c (effL n c) 31 [] (largeB 8) (by rw [hEl]; omega) capsOk_nil (fun e _ => monitor1_c e)) ?_ | refine cD (ContainsFuncInts_c (effL n c) 31 [] (largeB 8) (by rw [hEl]; omega) capsOk_nil (fun e _ => monitor1_c e)) ?_ | refine cO (ContainsFuncInts_c (effL n c) 31 [] (largeB 8) (by rw [hEl]; omega) capsOk_nil (fun e _ => monitor1_c e)) ?_ | refine cR (ContainsFuncInts_c (effL n c) 31 [] (largeB 8) (by rw [hEl]; omega) capsOk_nil (fun e _ => monitor1_c e)) ?_ | refine cG (fun hg => (ContainsFuncInts_c (effL n c) 31 [] (largeB 8) (by rw [hEl]; omega) capsOk_nil (fun e _ => monitor1_c e))) ?_ | refine cH (fun hg => (ContainsFuncInts_c (effL n c) 31 [] (largeB 8) (by rw [hEl]; omega) capsOk_nil (fun e _ => monitor1_c e))) ?_ | refine cM (fun hg => (ContainsFuncInts_c (effL n c) 31 [] (largeB 8) (by rw [hEl]; omega) capsOk_nil (fun e _ => monitor1_c e))) ?_ | refine cA (CloneInts_c n.init hn.init) ?_ | refine cD (CloneInts_c n.init hn.init) ?_ | refine cO (CloneInts_c n.init hn.init) ?_ | refine cR (CloneInts_c n.init hn.init) ?_ | refine cG (fun hg => (CloneInts_c n.init hn.init)) ?_ | refine cH (fun hg => (CloneInts_c n.init hn.init)) ?_ | refine cM (fun hg => (CloneInts_c n.init hn.init)) ?_) | ((with_reducible refine gA ?_); refine xA ?_) | ((with_reducible refine gD ?_); refine xD ?_) | ((with_reducible refine gG ?_); refine xG ?_) | ((with_reducible refine gA ?_); refine cA (ContainsFuncInts_c (effL n c) 31 [] (largeB 8) (by rw [hEl]; omega) capsOk_nil (fun e _ => monitor1_c e)) ?_) | ((with_reducible refine gD ?_); refine cD (ContainsFuncInts_c (effL n c) 31 [] (largeB 8) (by rw [hEl]; omega) capsOk_nil (fun e _ => monitor1_c e)) ?_) | ((with_reducible refine gG ?_); refine cG (fun hg => (ContainsFuncInts_c (effL n c) 31 [] (largeB 8) (by rw [hEl]; omega) capsOk_nil (fun e _ => monitor1_c e))) ?_) | ((with_reducible refine gA ?_); refine cA (CloneInts_c n.init hn.init) ?_) | ((with_reducible refine gD ?_); refine cD (CloneInts_c n.init hn.init) ?_) | ((with_reducible refine gG ?_); refine cG (fun hg => (CloneInts_c n.init hn.init)) ?_)); simp only [go_sem]) | (with_reducible refine aGs (fun hg0 => ?_) (fun hg0 => ?_) <;> first | (with_reducible first | exact aF1 hg0 | exact aF2 hg0) | (simp only [hg0, go_sem])) | (with_reducible refine aNk ?_; intro bnil hnil; try simp only []) | exact aZ | fail))
  all_goals first
   | (rw [(z19 hb).1]; rfl)
   | exact (z19 hb).2.symm
   | (rw [(z3 (by omega) (by assumption)).1]; rfl)
   | exact (z3 (by omega) (by assumption)).2.symm
   | skip
  rename_i hb1 hb2
  have e : monE n c = 0 := by
   rw [hmE, if_neg (by omega), if_neg]
   rintro (h | h | h)
   ·omega
   ·omega
   ·rw [hb.2] at h; cases h
  have eL : monL n c = monNet n c := by rw [monL, if_pos e]
  have hany : ∀ x ∈ effL n c, -8 ≤ x ∧ x ≤ 8 := fun x hx => by
   have h7 := hb.2
   rw [List.any_eq_false] at h7
   have := h7 x hx
   simp [largeB] at this
   omega
  refine awp_loopT [.cell 7 1 58 3] _ (by simp only [go_sem]; rfl) Nat (fun k => k ≤ n.trs.length) (fun k => [(60, .one (.int .i64 k))]) (fun k => [.var 31 [.list (ints n.init), .list (trsD n.trs)], .var 35 [.list (ints c.fac), .int .i64 c.bound], .var 31 [.nil, .nil], .gone, .row 3 1 (ints (effL n c)), .row 3 1 (ints n.init ++ [[.int .i64 (c.bound - dot c.fac n.init)]]), .row 3 1 [[.int .i64 (c.bound - dot c.fac n.init)]], .var 31 [.own 5, .own 8], .row 58 3 (trsD (monTrs n c k))]) (fun k => n.trs.length - k) 0 (by omega) ?_ ?_
  ·(simp only [SubF, go_sem]; (try simp only [go_sem]); repeat' (first | exact True.intro | with_reducible refine And.intro ?_ ?_ | rfl | omega))
  ·rintro k hk L hL
   have hp : ((k : Nat) : Int).toNat = k := by omega
   have hml := monTrs_length n c k
   by_cases hlt : k < n.trs.length
   ·have hg := trs_get hlt [.int .i64 0, .nil, .nil]
    have hmem := getD_mem n.trs k Tr.no hlt
    have hi1 := hno.inn _ hmem
    have hi2 := hno.out _ hmem
    have hE := hEget k hlt
    have hEb := hany _ (getD_mem (effL n c) k 0 (by omega))
    have hEat := ints_at (l := effL n c) (k := k) (by omega)
    have hms := monTrs_succ n c k hlt
    rw [hE] at hEb hEat
    generalize effT c.fac (n.trs.getD k Tr.no) = E at *
    generalize n.trs.getD k Tr.no = t at *
    have hf1 := arcs_few _ _ hi1
    have hf2 := arcs_few _ _ hi2
    have hfl1 := arcs_flat t.inn
    have hfl2 := arcs_flat t.out
    (simp only [go_sem] at hL ⊢)
    (repeat' (first | (with_reducible first | exact True.intro | refine And.intro ?_ ?_ | refine aBl ?_ | (refine aS 14 [59, 58, 60] ?_; intro K hK)) | ((with_reducible first | refine aGo ?_ | refine rP Ty_ok mixed 4 [0, 3] [.mid [pe 1, pe 2, pe 4, ⟨5, 0, true, false, false, [], []⟩, ⟨6, 1, false, false, false, [], []⟩, ⟨7, 1, false, false, false, [], []⟩] 1] ?_ | refine rP Ty_ok mixed 15 [0, 2, 5] [.mid [pe 1, pe 3, ⟨4, 0, true, false, false, [], []⟩, ⟨6, 1, false, false, false, [0], []⟩, ⟨7, 1, true, false, false, [], []⟩, ⟨8, 2, false, false, false, [], []⟩, ⟨9, 2, true, false, false, [1, 0], []⟩] 3, .one 10] ?_ | refine rP Ty_ok mixed 17 [0, 2, 3, 4] [.mid [pe 1, pe 5, pe 6, pe 7, pe 8] 0, .one 9, .one 10, .one 11] ?_ | refine rP Ty_ok mixed 19 [0, 2, 3, 4] [.mid [pe 1, pe 5, pe 6, pe 7, pe 8, pe 9] 0, .one 10, .one 11, .one 12] ?_); simp only [hg, hEat, hp, hE, go_sem]) | ((with_reducible refine aCd ?_ ?_ (fun hb => ?_) (fun hb => ?_)); (iterate 2 simp only [hg, hEat, hp, hE, go_sem]); all_goals (simp only [hg, hEat, hp, hE, go_sem] at hb; try simp only [bls] at hb)) | ((iterate 6 try ((fail_if_success with_reducible refine hK _ ?_ ?_ ?_); clear hK K)); with_reducible refine hK _ ?_ ?_ ?_; rotate_left; (focus (simp only [hg, hEat, hp, hE, go_sem]; exact rfl)); clear hK K) | ((first | (with_reducible first | refine cA (CloneArcs_c t.inn (by omega)) ?_ | refine cD (CloneArcs_c t.inn (by omega)) ?_ | refine cO (CloneArcs_c t.inn (by omega)) ?_ | refine cR (CloneArcs_c t.inn (by omega)) ?_ | refine cG (fun hg => (CloneArcs_c t.inn (by omega))) ?_ | refine cH (fun hg => (CloneArcs_c t.inn (by omega))) ?_ | refine cM (fun hg => (CloneArcs_c t.inn (by omega))) ?_ | refine cA (CloneArcs_c t.out (by omega)) ?_ | refine cD (CloneArcs_c t.out (by omega)) ?_ | refine cO (CloneArcs_c t.out (by omega)) ?_ | refine cR (CloneArcs_c t.out (by omega)) ?_ | refine cG (fun hg => (CloneArcs_c t.out (by omega))) ?_ | refine cH (fun hg => (CloneArcs_c t.out (by omega))) ?_ | refine cM (fun hg => (CloneArcs_c t.out (by omega))) ?_) | ((with_reducible refine gA ?_); refine cA (CloneArcs_c t.inn (by omega)) ?_) | ((with_reducible refine gD ?_); refine cD (CloneArcs_c t.inn (by omega)) ?_) | ((with_reducible refine gG ?_); refine cG (fun hg => (CloneArcs_c t.inn (by omega))) ?_) | ((with_reducible refine gA ?_); refine cA (CloneArcs_c t.out (by omega)) ?_) | ((with_reducible refine gD ?_); refine cD (CloneArcs_c t.out (by omega)) ?_) | ((with_reducible refine gG ?_); refine cG (fun hg => (CloneArcs_c t.out (by omega))) ?_)); simp only [hg, hEat, hp, hE, go_sem]) | (with_reducible refine aGs (fun hg0 => ?_) (fun hg0 => ?_) <;> first | (with_reducible first | exact aF1 hg0 | exact aF2 hg0) | (simp only [hg0, hg, hEat, hp, hE, go_sem])) | (with_reducible refine aNk ?_; intro bnil hnil; try simp only []) | exact aZ | fail))
    all_goals first | omega | skip
    ·have e1 : trsD (monTrs n c (k + 1)) = trsD (monTrs n c k) ++ [[.int .i64 t.event, .list (arcsD t.inn ++ [[.int .i64 n.init.length, .int .i64 E]]), .list (arcsD t.out)]] := by
      rw [hms, ← trs_append, monT, if_pos ‹0 < E›, if_neg (by omega), List.append_nil, trsD_one, ← arcs_append]; rfl
     refine hL _ (k + 1) (by omega) ?_ (by omega)
     rw [e1]
     (simp only [SubF, go_sem]; (try simp only [go_sem]); repeat' (first | exact True.intro | with_reducible refine And.intro ?_ ?_ | rfl | omega))
    ·have e1 : trsD (monTrs n c (k + 1)) = trsD (monTrs n c k) ++ [[.int .i64 t.event, .list (arcsD t.inn), .list (arcsD t.out ++ [[.int .i64 n.init.length, .int .i64 (-E)]])]] := by
      rw [hms, ← trs_append, monT, if_neg (by omega), if_pos (by omega), List.append_nil, trsD_one, ← arcs_append]; rfl
     refine hL _ (k + 1) (by omega) ?_ (by omega)
     rw [e1]
     (simp only [SubF, go_sem]; (try simp only [go_sem]); repeat' (first | exact True.intro | with_reducible refine And.intro ?_ ?_ | rfl | omega))
    ·have e1 : trsD (monTrs n c (k + 1)) = trsD (monTrs n c k) ++ [[.int .i64 t.event, .list (arcsD t.inn), .list (arcsD t.out)]] := by
      rw [hms, ← trs_append, monT, if_neg (by omega), if_neg (by omega), List.append_nil, List.append_nil, trsD_one]
     refine hL _ (k + 1) (by omega) ?_ (by omega)
     rw [e1]
     (simp only [SubF, go_sem]; (try simp only [go_sem]); repeat' (first | exact True.intro | with_reducible refine And.intro ?_ ?_ | rfl | omega))
   ·(simp only [go_sem] at hL ⊢)
    (repeat' (first | (with_reducible first | exact True.intro | refine And.intro ?_ ?_ | refine aBl ?_ | (refine aS 14 [59, 58, 60] ?_; intro K hK)) | ((with_reducible first | refine aGo ?_ | refine rP Ty_ok mixed 4 [0, 3] [.mid [pe 1, pe 2, pe 4, ⟨5, 0, true, false, false, [], []⟩, ⟨6, 1, false, false, false, [], []⟩, ⟨7, 1, false, false, false, [], []⟩] 1] ?_ | refine rP Ty_ok mixed 15 [0, 2, 5] [.mid [pe 1, pe 3, ⟨4, 0, true, false, false, [], []⟩, ⟨6, 1, false, false, false, [0], []⟩, ⟨7, 1, true, false, false, [], []⟩, ⟨8, 2, false, false, false, [], []⟩, ⟨9, 2, true, false, false, [1, 0], []⟩] 3, .one 10] ?_ | refine rP Ty_ok mixed 17 [0, 2, 3, 4] [.mid [pe 1, pe 5, pe 6, pe 7, pe 8] 0, .one 9, .one 10, .one 11] ?_ | refine rP Ty_ok mixed 19 [0, 2, 3, 4] [.mid [pe 1, pe 5, pe 6, pe 7, pe 8, pe 9] 0, .one 10, .one 11, .one 12] ?_); simp only [e, go_sem]) | ((with_reducible refine aCd ?_ ?_ (fun hb => ?_) (fun hb => ?_)); (iterate 2 simp only [e, go_sem]); all_goals (simp only [e, go_sem] at hb; try simp only [bls] at hb)) | ((iterate 6 try ((fail_if_success with_reducible refine hK _ ?_ ?_ ?_); clear hK K)); with_reducible refine hK _ ?_ ?_ ?_; rotate_left; (focus (simp only [e, go_sem]; exact rfl)); clear hK K) | (with_reducible refine aGs (fun hg0 => ?_) (fun hg0 => ?_) <;> first | (with_reducible first | exact aF1 hg0 | exact aF2 hg0) | (simp only [hg0, e, go_sem])) | (with_reducible refine aNk ?_; intro bnil hnil; try simp only []) | exact aZ | fail))
    all_goals first | omega | skip
    ·rw [eL, monNet, ← ints_append]; rfl
    ·rw [eL, monNet, show k = n.trs.length by omega]
 ·(refine ACalls.of_body Ty_ok mixed Try.func13 rfl (by kernel_rfl) Try.ntmps13 (by simp) (congrArg Array.toList Try.results13) ?_)
  have hz : monE n c = conE n c := by rw [monE, if_pos h0]
  have hz2 : monL n c = Net.zero := by rw [monL, if_neg (by omega)]
  simp only [Net.d, Con.d] at h1
  simp only [slotsOf, Net.d, Con.d, hz, hz2, Net.zero]
  (repeat' (first | (with_reducible first | exact True.intro | refine And.intro ?_ ?_ | refine aBl ?_ | (refine aS 14 [59, 58, 60] ?_; intro K hK)) | ((with_reducible first | refine aGo ?_ | refine rP Ty_ok mixed 4 [0, 3] [.mid [pe 1, pe 2, pe 4, ⟨5, 0, true, false, false, [], []⟩, ⟨6, 1, false, false, false, [], []⟩, ⟨7, 1, false, false, false, [], []⟩] 1] ?_ | refine rP Ty_ok mixed 15 [0, 2, 5] [.mid [pe 1, pe 3, ⟨4, 0, true, false, false, [], []⟩, ⟨6, 1, false, false, false, [0], []⟩, ⟨7, 1, true, false, false, [], []⟩, ⟨8, 2, false, false, false, [], []⟩, ⟨9, 2, true, false, false, [1, 0], []⟩] 3, .one 10] ?_ | refine rP Ty_ok mixed 17 [0, 2, 3, 4] [.mid [pe 1, pe 5, pe 6, pe 7, pe 8] 0, .one 9, .one 10, .one 11] ?_ | refine rP Ty_ok mixed 19 [0, 2, 3, 4] [.mid [pe 1, pe 5, pe 6, pe 7, pe 8, pe 9] 0, .one 10, .one 11, .one 12] ?_); simp only [go_sem]) | ((with_reducible refine aCd ?_ ?_ (fun hb => ?_) (fun hb => ?_)); (iterate 2 simp only [go_sem]); all_goals (simp only [go_sem] at hb; try simp only [bls] at hb)) | ((iterate 6 try ((fail_if_success with_reducible refine hK _ ?_ ?_ ?_); clear hK K)); with_reducible refine hK _ ?_ ?_ ?_; rotate_left; (focus (simp only [go_sem]; exact rfl)); clear hK K) | ((first | (with_reducible first | refine xA ?_ | refine xD ?_ | refine xO ?_ | refine xR ?_ | refine xG ?_ | refine xH ?_ | refine xM ?_) | ((with_reducible refine gA ?_); refine xA ?_) | ((with_reducible refine gD ?_); refine xD ?_) | ((with_reducible refine gG ?_); refine xG ?_)); simp only [go_sem]) | (with_reducible refine aGs (fun hg0 => ?_) (fun hg0 => ?_) <;> first | (with_reducible first | exact aF1 hg0 | exact aF2 hg0) | (simp only [hg0, go_sem])) | (with_reducible refine aNk ?_; intro bnil hnil; try simp only []) | exact aZ | fail))
  all_goals first | omega | skip
  all_goals rfl
end Go.Proofs.Ytgbhmieaoaojoaa
