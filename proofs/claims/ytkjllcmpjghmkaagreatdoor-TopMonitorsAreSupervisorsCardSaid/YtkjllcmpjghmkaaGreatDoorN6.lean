/-
 Contracts: nets with a control place.
-/
import Derived.Test.YtkjllcmpjghmkaaGreatDoorN4
set_option linter.unusedSimpArgs false
set_option linter.unusedVariables false
namespace Go.Proofs.YtkjllcmpjghmkaaGreatDoor
open Go.Eng Go.RowKit
theorem z0s {l : List Int} {k : Nat} (h : k < l.length) : (ints l).getD k [] = [.int .i64 (l.getD k 0)] := by
 simp [ints, List.getD, List.getElem?_eq_getElem h]
theorem zhg (l : List Int) (k : Nat) (z : Int) : (ints l).set k [.int .i64 z] = ints (l.set k z) := by
 simp [ints, List.map_set]
theorem z88 (n : Nat) : List.replicate n [D.int .i64 0] = ints (List.replicate n 0) := by simp [ints]
theorem z8A {α : Type} (l : List α) (k : Nat) (x d : α) (h : k < l.length) : (l.set k x).getD k d = x := by simp [List.getD, h]
theorem zgH {α : Type} (l : List α) (k : Nat) (d : α) (h : k < l.length) : l.set k (l.getD k d) = l := by
 simp [List.getD, List.getElem?_eq_getElem h]
attribute [go_sem] zhg
theorem z9e {l : List Arc} {k : Nat} (h : k < l.length) : (arcsD l).getD k [] = [.int .i64 (l.getD k Arc.no).place, .int .i64 (l.getD k Arc.no).weight] := by
 simp [arcsD, List.getD, List.getElem?_eq_getElem h, Arc.d]
def effUp (n : Net) (c : Con) (k : Nat) : List Int := (n.trs.take k).map (effT c.fac) ++ List.replicate (n.trs.length - k) 0
theorem zam (n : Net) (c : Con) (k : Nat) (hk : k ≤ n.trs.length) : (effUp n c k).length = n.trs.length := by simp [effUp]; omega
theorem zhx (n : Net) (c : Con) (k : Nat) (hk : k < n.trs.length) : (effUp n c k).getD k 0 = 0 := by
 have h1 : ((n.trs.take k).map (effT c.fac)).length = k := by simp; omega
 rw [effUp, List.getD, List.getElem?_append_right (by omega), h1, Nat.sub_self, List.getElem?_replicate]
 split <;> rfl
theorem zfH (n : Net) (c : Con) (k : Nat) (hk : k < n.trs.length) : (effUp n c k).set k (effT c.fac (n.trs.getD k Tr.no)) = effUp n c (k + 1) := by
 have h1 : ((n.trs.take k).map (effT c.fac)).length = k := by simp; omega
 rw [effUp, effUp, z07 n.trs k Tr.no hk, List.map_append, List.set_append_right _ _ (by omega), h1, Nat.sub_self]
 have h2 : n.trs.length - k = (n.trs.length - (k + 1)) + 1 := by omega
 rw [h2, List.replicate_succ, List.set_cons_zero]
 simp
theorem zfI (n : Net) (c : Con) : effUp n c n.trs.length = effL n c := by simp [effUp, effL]
theorem z3u (fac : List Int) (hf : Sm 16 fac) : ∀ (l : List Arc), (∀ a ∈ l, 1 ≤ a.weight ∧ a.weight ≤ 8) → -(l.length * 128 : Int) ≤ dotA fac l ∧ dotA fac l ≤ l.length * 128
 | [], _ => by simp [dotA]
 | a :: l, h => by
  have ih := z3u fac hf l fun b hb => h b (by simp [hb])
  have h1 := z31 (A := 16) (B := 8) (hf.get (by omega) a.place.toNat) (show -8 ≤ a.weight ∧ a.weight ≤ 8 by have := h a (by simp); omega) (by omega) (by omega)
  simp only [dotA, List.length_cons, Int.natCast_add]
  omega
theorem z9g {places : Nat} {l : List Arc} (h : ArcsIn places l) {k : Nat} (hk : k < l.length) : 0 ≤ (l.getD k Arc.no).place ∧ (l.getD k Arc.no).place < places ∧ 1 ≤ (l.getD k Arc.no).weight ∧ (l.getD k Arc.no).weight ≤ 8 :=
 ⟨(h.place _ (z01 l k Arc.no hk)).1, (h.place _ (z01 l k Arc.no hk)).2, (h.weight _ (z01 l k Arc.no hk)).1, (h.weight _ (z01 l k Arc.no hk)).2⟩
set_option maxHeartbeats 16000000 in
theorem z6Y (n : Net) (c : Con) (hn : NetOk n) (hl : c.fac.length = n.init.length) (hf : Sm 16 c.fac) : ACalls Tryz.prog 39 [.agg n.d, .agg c.d] (.one (.own 0)) [.row 3 1 (ints (effL n c))] := by
 have ht := hn.trs
 have hi10 := hn.init
 (refine ACalls.of_body_own Ty_ok mixed Tryz.func39 rfl (by kernel_rfl) Tryz.ntmps39 (by simp) (congrArg Array.toList Tryz.results39) ?_)
 simp only [z00, Net.d, Con.d]
 (repeat' (first | (with_reducible first | refine And.intro ?_ ?_ | refine aBl ?_ | (refine aS 12 [18, 17, 26, 25, 27, 49, 48, 50, 19] ?_; intro K hK)) | ((with_reducible refine aGo ?_); simp only [go_sem]) | ((iterate 6 try ((fail_if_success with_reducible refine hK _ ?_ ?_ ?_); clear hK K)); with_reducible refine hK _ ?_ ?_ ?_; rotate_left; (focus (simp only [go_sem]; exact rfl)); clear hK K) | exact aZ | fail))
 refine z02 _ (by simp only [go_sem]; rfl) Nat (fun k => k ≤ n.trs.length) (fun k => [(5, .one (.own 3)), (19, .one (.int .i64 k))]) (fun k H => [.var 32 [.list (ints n.init), .list (trsD n.trs)], .var 36 [.list (ints c.fac), .int .i64 c.bound], .row 3 1 [], .row 3 1 (ints (effUp n c k))]) (fun k => n.trs.length - k) 0 (by omega) ?_ ?_
 ·(simp only [SubF, z88, go_sem]; (try simp only [z88, go_sem]); repeat' (first | exact True.intro | with_reducible refine And.intro ?_ ?_ | rfl | omega))
 ·rintro k hk L hL
  have hp : ((k : Nat) : Int).toNat = k := by omega
  by_cases hlt : k < n.trs.length
  ·have hg := z1K hlt [.int .i64 0, .nil, .nil]
   have hmem := z01 n.trs k Tr.no hlt
   have hi1 := hn.inn _ hmem
   have hi2 := hn.out _ hmem
   have hset := zfH n c k hlt
   have hEl := zam n c k hk
   have hEk := zhx n c k hlt
   generalize effUp n c k = E at hset hEl hEk
   generalize n.trs.getD k Tr.no = t at hg hi1 hi2 hset
   have hf1 := z1R _ _ hi1
   have hf2 := z1R _ _ hi2
   (simp only [go_sem] at hL ⊢)
   (repeat' (first | (with_reducible first | refine And.intro ?_ ?_ | refine aBl ?_ | (refine aS 12 [18, 17, 26, 25, 27, 49, 48, 50, 19] ?_; intro K hK)) | ((with_reducible refine aGo ?_); simp only [hg, go_sem]) | ((with_reducible refine aCd ?_ ?_ (fun hb => ?_) (fun hb => ?_)); (iterate 2 simp only [hg, go_sem]); all_goals (simp only [hg, go_sem] at hb; try simp only [bls] at hb)) | ((iterate 6 try ((fail_if_success with_reducible refine hK _ ?_ ?_ ?_); clear hK K)); with_reducible refine hK _ ?_ ?_ ?_; rotate_left; (focus (simp only [hg, go_sem]; exact rfl)); clear hK K) | exact aZ | fail))
   refine z02 _ (by simp only [go_sem]; rfl) Nat (fun j => j ≤ t.inn.length) (fun j => [(5, .one (.own 3)), (27, .one (.int .i64 j))]) (fun j H => [.var 32 [.list (ints n.init), .list (trsD n.trs)], .var 36 [.list (ints c.fac), .int .i64 c.bound], .row 3 1 [], .row 3 1 (ints (E.set k (-(dotA c.fac (t.inn.take j))))), .var 66 [.int .i64 t.event, .list (arcsD t.inn), .list (arcsD t.out)]]) (fun j => t.inn.length - j) 0 (by omega) ?_ ?_
   ·have e0 : E.set k (-(dotA c.fac (t.inn.take 0))) = E := by
     have := zgH E k 0 (by omega)
     rw [hEk] at this
     simpa [dotA] using this
    rw [e0]
    (simp only [SubF, go_sem]; (try simp only [go_sem]); repeat' (first | exact True.intro | with_reducible refine And.intro ?_ ?_ | rfl | omega))
   ·rintro j hj L2 hL2
    have hq : ((j : Nat) : Int).toNat = j := by omega
    by_cases hlj : j < t.inn.length
    ·have ha := z9g hi1 hlj
     have haD := z9e hlj
     have b0 := z31 (hf.get (by omega) (t.inn.getD j Arc.no).place.toNat) (show -8 ≤ (t.inn.getD j Arc.no).weight ∧ (t.inn.getD j Arc.no).weight ≤ 8 by omega) (by omega) (by omega)
     have b1 := z3u c.fac hf (t.inn.take j) fun a ha => hi1.weight a (List.mem_of_mem_take ha)
     have b2 : (t.inn.take j).length ≤ 10 := by simp; omega
     have e1 := zap c.fac t.inn j hlj
     generalize dotA c.fac (t.inn.take j) = X at *
     have hlen2 : (E.set k (-X)).length = n.trs.length := by simp; omega
     have hrow := z0s (l := E.set k (-X)) (k := k) (by omega)
     rw [z8A E k _ 0 (by omega)] at hrow
     simp only [go_sem] at hL2 ⊢
     (repeat' (first | (with_reducible first | refine And.intro ?_ ?_ | refine aBl ?_ | (refine aS 12 [18, 17, 26, 25, 27, 49, 48, 50, 19] ?_; intro K hK)) | ((with_reducible first | refine aGo ?_ | refine rP Ty_ok mixed 8 [0, 1, 4, 6, 10] [.mid [pe 2, pe 3, pe 5, pe 7, pe 8, pe 9, pe 11, pe 12, pe 13, pe 14] 0, .one 15] ?_); simp only [hrow, haD, hq, hp, hlen2, go_sem]) | ((with_reducible refine aCd ?_ ?_ (fun hb => ?_) (fun hb => ?_)); (iterate 2 simp only [hrow, haD, hq, hp, hlen2, go_sem]); all_goals (simp only [hrow, haD, hq, hp, hlen2, go_sem] at hb; try simp only [bls] at hb)) | ((iterate 6 try ((fail_if_success with_reducible refine hK _ ?_ ?_ ?_); clear hK K)); with_reducible refine hK _ ?_ ?_ ?_; rotate_left; (focus (simp only [hrow, haD, hq, hp, hlen2, go_sem]; exact rfl)); clear hK K) | exact aZ | fail))
     all_goals first | omega | skip
     rw [List.set_set]
     refine hL2 _ (j + 1) (by omega) ?_ (by omega)
     rw [e1, show -X - c.fac.getD (t.inn.getD j Arc.no).place.toNat 0 * (t.inn.getD j Arc.no).weight = -(X + c.fac.getD (t.inn.getD j Arc.no).place.toNat 0 * (t.inn.getD j Arc.no).weight) by omega]
     (simp only [SubF, go_sem]; (try simp only [go_sem]); repeat' (first | exact True.intro | with_reducible refine And.intro ?_ ?_ | rfl | omega))
    ·simp only [go_sem] at hL2 ⊢
     (repeat' (first | (with_reducible first | refine And.intro ?_ ?_ | refine aBl ?_ | (refine aS 12 [18, 17, 26, 25, 27, 49, 48, 50, 19] ?_; intro K hK)) | ((with_reducible first | refine aGo ?_ | refine rP Ty_ok mixed 8 [0, 1, 4, 6, 10] [.mid [pe 2, pe 3, pe 5, pe 7, pe 8, pe 9, pe 11, pe 12, pe 13, pe 14] 0, .one 15] ?_); simp only [go_sem]) | ((with_reducible refine aCd ?_ ?_ (fun hb => ?_) (fun hb => ?_)); (iterate 2 simp only [go_sem]); all_goals (simp only [go_sem] at hb; try simp only [bls] at hb)) | ((iterate 6 try ((fail_if_success with_reducible refine hK _ ?_ ?_ ?_); clear hK K)); with_reducible refine hK _ ?_ ?_ ?_; rotate_left; (focus (simp only [go_sem]; exact rfl)); clear hK K) | exact aZ | fail))
     all_goals first | omega | skip
     rw [List.take_of_length_le (by omega)]
     have b1 := z3u c.fac hf t.inn hi1.weight
     refine z02 _ (by simp only [go_sem]; rfl) Nat (fun j => j ≤ t.out.length) (fun j => [(5, .one (.own 3)), (50, .one (.int .i64 j))]) (fun j H => [.var 32 [.list (ints n.init), .list (trsD n.trs)], .var 36 [.list (ints c.fac), .int .i64 c.bound], .row 3 1 [], .row 3 1 (ints (E.set k (dotA c.fac (t.out.take j) - dotA c.fac t.inn))), .var 66 [.int .i64 t.event, .list (arcsD t.inn), .list (arcsD t.out)]]) (fun j => t.out.length - j) 0 (by omega) ?_ ?_
     ·rw [show dotA c.fac (t.out.take 0) - dotA c.fac t.inn = -dotA c.fac t.inn by simp [dotA]]
      (simp only [SubF, go_sem]; (try simp only [go_sem]); repeat' (first | exact True.intro | with_reducible refine And.intro ?_ ?_ | rfl | omega))
     ·rintro i hi L3 hL3
      have hq : ((i : Nat) : Int).toNat = i := by omega
      by_cases hli : i < t.out.length
      ·have ha := z9g hi2 hli
       have haD := z9e hli
       have b0 := z31 (hf.get (by omega) (t.out.getD i Arc.no).place.toNat) (show -8 ≤ (t.out.getD i Arc.no).weight ∧ (t.out.getD i Arc.no).weight ≤ 8 by omega) (by omega) (by omega)
       have b3 := z3u c.fac hf (t.out.take i) fun a ha => hi2.weight a (List.mem_of_mem_take ha)
       have b2 : (t.out.take i).length ≤ 10 := by simp; omega
       have e1 := zap c.fac t.out i hli
       generalize dotA c.fac (t.out.take i) = X at *
       generalize dotA c.fac t.inn = Y at *
       have hlen2 : (E.set k (X - Y)).length = n.trs.length := by simp; omega
       have hrow := z0s (l := E.set k (X - Y)) (k := k) (by omega)
       rw [z8A E k _ 0 (by omega)] at hrow
       simp only [go_sem] at hL3 ⊢
       (repeat' (first | (with_reducible first | refine And.intro ?_ ?_ | refine aBl ?_ | (refine aS 12 [18, 17, 26, 25, 27, 49, 48, 50, 19] ?_; intro K hK)) | ((with_reducible first | refine aGo ?_ | refine rP Ty_ok mixed 13 [0, 1, 4, 6, 10] [.mid [pe 2, pe 3, pe 5, pe 7, pe 8, pe 9, pe 11, pe 12, pe 13, pe 14] 0, .one 15] ?_); simp only [hrow, haD, hq, hp, hlen2, go_sem]) | ((with_reducible refine aCd ?_ ?_ (fun hb => ?_) (fun hb => ?_)); (iterate 2 simp only [hrow, haD, hq, hp, hlen2, go_sem]); all_goals (simp only [hrow, haD, hq, hp, hlen2, go_sem] at hb; try simp only [bls] at hb)) | ((iterate 6 try ((fail_if_success with_reducible refine hK _ ?_ ?_ ?_); clear hK K)); with_reducible refine hK _ ?_ ?_ ?_; rotate_left; (focus (simp only [hrow, haD, hq, hp, hlen2, go_sem]; exact rfl)); clear hK K) | exact aZ | fail))
       all_goals first | omega | skip
       rw [List.set_set]
       refine hL3 _ (i + 1) (by omega) ?_ (by omega)
       rw [e1, show X - Y + c.fac.getD (t.out.getD i Arc.no).place.toNat 0 * (t.out.getD i Arc.no).weight = X + c.fac.getD (t.out.getD i Arc.no).place.toNat 0 * (t.out.getD i Arc.no).weight - Y by omega]
       (simp only [SubF, go_sem]; (try simp only [go_sem]); repeat' (first | exact True.intro | with_reducible refine And.intro ?_ ?_ | rfl | omega))
      ·simp only [go_sem] at hL3 ⊢
       (repeat' (first | (with_reducible first | refine And.intro ?_ ?_ | refine aBl ?_ | (refine aS 12 [18, 17, 26, 25, 27, 49, 48, 50, 19] ?_; intro K hK)) | ((with_reducible first | refine aGo ?_ | refine rP Ty_ok mixed 13 [0, 1, 4, 6, 10] [.mid [pe 2, pe 3, pe 5, pe 7, pe 8, pe 9, pe 11, pe 12, pe 13, pe 14] 0, .one 15] ?_); simp only [go_sem]) | ((with_reducible refine aCd ?_ ?_ (fun hb => ?_) (fun hb => ?_)); (iterate 2 simp only [go_sem]); all_goals (simp only [go_sem] at hb; try simp only [bls] at hb)) | ((iterate 6 try ((fail_if_success with_reducible refine hK _ ?_ ?_ ?_); clear hK K)); with_reducible refine hK _ ?_ ?_ ?_; rotate_left; (focus (simp only [go_sem]; exact rfl)); clear hK K) | exact aZ | fail))
       all_goals first | omega | skip
       rw [List.take_of_length_le (by omega)]
       refine hL _ (k + 1) (by omega) ?_ (by omega)
       rw [← hset, effT]
       (simp only [SubF, go_sem]; (try simp only [go_sem]); repeat' (first | exact True.intro | with_reducible refine And.intro ?_ ?_ | rfl | omega))
  ·(simp only [go_sem] at hL ⊢)
   (repeat' (first | (with_reducible first | refine And.intro ?_ ?_ | refine aBl ?_ | (refine aS 12 [18, 17, 26, 25, 27, 49, 48, 50, 19] ?_; intro K hK)) | ((with_reducible refine aGo ?_); simp only [go_sem]) | ((with_reducible refine aCd ?_ ?_ (fun hb => ?_) (fun hb => ?_)); (iterate 2 simp only [go_sem]); all_goals (simp only [go_sem] at hb; try simp only [bls] at hb)) | ((iterate 6 try ((fail_if_success with_reducible refine hK _ ?_ ?_ ?_); clear hK K)); with_reducible refine hK _ ?_ ?_ ?_; rotate_left; (focus (simp only [go_sem]; exact rfl)); clear hK K) | exact aZ | fail))
   all_goals first | omega | skip
   rw [show k = n.trs.length by omega, zfI]
end Go.Proofs.YtkjllcmpjghmkaaGreatDoor
set_option linter.unusedSimpArgs false
set_option linter.unusedVariables false
namespace Go.Proofs.YtkjllcmpjghmkaaGreatDoor
open Go.Eng Go.RowKit
theorem zgm (n : Net) (c : Con) (hn : n.Fits) (hc : c.fac.length ≤ 1000000) (h0 : conE n c = 0) (hno : NetOk n) (hl : c.fac.length = n.init.length) (hs : Sm 16 c.fac) : ACalls Tryz.prog 57 [.agg n.d, .agg c.d] (.tup [.one (.list (ints (effL n c))), .one (.int .i64 0)]) [] := by
 have h1 := z3v n c hn hc
 have h2 := ACalls.frozen (z6Y n c hno hl hs)
 rw [h0] at h1
 simp only [Net.d, Con.d] at h1 h2
 (refine ACalls.of_body Ty_ok mixed Tryz.func57 rfl (by kernel_rfl) Tryz.ntmps57 (by simp) (congrArg Array.toList Tryz.results57) ?_)
 simp only [z00, Net.d, Con.d]
 (repeat' (first | (with_reducible (refine aS 7 [] ?_; intro K hK)) | ((with_reducible refine aGo ?_); simp only [go_sem]) | ((with_reducible refine aCd ?_ ?_ (fun hb => ?_) (fun hb => ?_)); (iterate 2 simp only [go_sem]); all_goals (simp only [go_sem] at hb; try simp only [bls] at hb)) | ((iterate 6 try ((fail_if_success with_reducible refine hK _ ?_ ?_ ?_); clear hK K)); with_reducible refine hK _ ?_ ?_ ?_; rotate_left; (focus (simp only [go_sem]; exact rfl)); clear hK K) | ((with_reducible refine xA ?_); simp only [go_sem]) | fail))
theorem z1v {n : Net} {c : Con} (h : conE n c = 0) : netE n = 0 ∧ c.fac.length = n.init.length ∧ Sm 16 c.fac ∧ -65536 ≤ c.bound ∧ c.bound ≤ 65536 := by
 unfold conE at h
 split at h
 ·rename_i h1; exact absurd h h1
 rename_i h1
 split at h
 ·cases h
 rename_i h2
 split at h
 ·cases h
 rename_i h3
 simp only [Bool.or_eq_true, List.any_eq_true, not_or, not_exists, not_and] at h3
 refine ⟨by simpa using h1, by omega, ⟨fun x hx => ?_⟩, ?_⟩
 ·have := h3.1 x hx
  simp [z1j] at this
  omega
 ·have := h3.2
  simp [z1j] at this
  omega
def monT (place : Int) (e : Int) (t : Tr) : Tr := ⟨t.event, t.inn ++ (if 0 < e then [⟨place, e⟩] else []), t.out ++ (if e < 0 then [⟨place, -e⟩] else [])⟩
def z1F (n : Net) (c : Con) (k : Nat) : List Tr := (n.trs.take k).map fun t => monT n.init.length (effT c.fac t) t
theorem zbf (n : Net) (c : Con) (k : Nat) (hk : k < n.trs.length) : z1F n c (k + 1) = z1F n c k ++ [monT n.init.length (effT c.fac (n.trs.getD k Tr.no)) (n.trs.getD k Tr.no)] := by
 rw [z1F, z07 n.trs k Tr.no hk, List.map_append]; rfl
theorem z8R (n : Net) (c : Con) (k : Nat) : (z1F n c k).length ≤ k := by simp [z1F]; omega
def z04 (n : Net) (c : Con) : Net := ⟨n.init ++ [c.bound - dot c.fac n.init], z1F n c n.trs.length⟩
def Net.zero : Net := ⟨[], []⟩
def monE (n : Net) (c : Con) : Int := if conE n c ≠ 0 then conE n c else if c.bound - dot c.fac n.init < 0 then 19 else if n.init.length = 10 ∨ 65536 < c.bound - dot c.fac n.init ∨ (effL n c).any (z1j 8) = true then 3 else 0
def monL (n : Net) (c : Con) : Net := if monE n c = 0 then z04 n c else Net.zero
theorem z95 (n : Net) (c : Con) (k : Nat) (hk : k < n.trs.length) : (effL n c).getD k 0 = effT c.fac (n.trs.getD k Tr.no) := by
 simp [effL, List.getD, List.getElem?_map, List.getElem?_eq_getElem hk]
theorem z6Z (n : Net) (c : Con) : (effL n c).length = n.trs.length := by simp [effL]
theorem z5J (e : Int) (i o : List Arc) : trsD [⟨e, i, o⟩] = [[D.int .i64 e, D.list (arcsD i), D.list (arcsD o)]] := rfl
set_option maxHeartbeats 16000000 in
theorem z7u (n : Net) (c : Con) (hn : n.Fits) (hc : c.fac.length ≤ 1000000) : ACalls Tryz.prog 12 [.agg n.d, .agg c.d] (.tup [.agg (monL n c).d, .one (.int .i64 (monE n c))]) [] := by
 have h1 := z3v n c hn hc
 by_cases h0 : conE n c = 0
 ·obtain ⟨q1, q2, q3, q4, q5⟩ := z1v h0
  have hno := z0K q1
  have hi10 := hno.init
  have ht10 := hno.trs
  have hsm : Sm 65536 n.init := ⟨fun x hx => by have := hno.tok x hx; omega⟩
  have h2 := zei c n.init (by omega) q3 hsm (by omega) hn.init
  have h3 := z6Y n c hno q2 q3
  have hd := zcH q3 hsm (by omega)
  have hEl := z6Z n c
  rw [h0] at h1
  simp only [Net.d, Con.d] at h1 h2 h3
  have hEget := z95 n c
  have hmE : monE n c = if c.bound - dot c.fac n.init < 0 then 19 else if n.init.length = 10 ∨ 65536 < c.bound - dot c.fac n.init ∨ (effL n c).any (z1j 8) = true then 3 else 0 := by
   rw [monE, if_neg (by omega)]
  have z19 : c.bound - dot c.fac n.init < 0 → monL n c = Net.zero ∧ monE n c = 19 := fun h => by
   have e : monE n c = 19 := by rw [hmE, if_pos h]
   exact ⟨by rw [monL, if_neg (by omega)], e⟩
  have z3 : 0 ≤ c.bound - dot c.fac n.init → ((n.init.length : Int) = 10 ∨ 65536 < c.bound - dot c.fac n.init) ∨ (effL n c).any (z1j 8) = true → monL n c = Net.zero ∧ monE n c = 3 := fun h h' => by
   have e : monE n c = 3 := by
    rw [hmE, if_neg (by omega), if_pos]
    rcases h' with (h' | h') | h'
    ·exact .inl (by omega)
    ·exact .inr (.inl h')
    ·exact .inr (.inr h')
   exact ⟨by rw [monL, if_neg (by omega)], e⟩
  (refine ACalls.of_body Ty_ok mixed Tryz.func12 rfl (by kernel_rfl) Tryz.ntmps12 (by simp) (congrArg Array.toList Tryz.results12) ?_)
  simp only [z00, Net.d, Con.d]
  (repeat' (first | (with_reducible first | refine And.intro ?_ ?_ | refine aBl ?_ | (refine aS 14 [59, 58, 60] ?_; intro K hK)) | ((with_reducible first | refine aGo ?_ | refine rP Ty_ok mixed 4 [0, 3] [.mid [pe 1, pe 2, pe 4, ⟨5, 0, true, false, false, [], []⟩, ⟨6, 1, false, false, false, [], []⟩, ⟨7, 1, false, false, false, [], []⟩] 1] ?_); simp only [go_sem]) | ((with_reducible refine aCd ?_ ?_ (fun hb => ?_) (fun hb => ?_)); (iterate 2 simp only [go_sem]); all_goals (simp only [go_sem] at hb; try simp only [bls] at hb)) | ((iterate 6 try ((fail_if_success with_reducible refine hK _ ?_ ?_ ?_); clear hK K)); with_reducible refine hK _ ?_ ?_ ?_; rotate_left; (focus (simp only [go_sem]; exact rfl)); clear hK K) | ((first | (with_reducible first | refine xA ?_ | refine xO ?_ | refine cA (z10 n.init hn.init) ?_) | ((with_reducible refine gG ?_); refine cG (fun hg => (z1n (effL n c) 41 [] (z1j 8) (by rw [hEl]; omega) z4X (fun e _ => zdr e))) ?_)); simp only [go_sem]) | exact aZ | fail))
  all_goals first
   | (rw [(z19 hb).1]; rfl)
   | exact (z19 hb).2.symm
   | (rw [(z3 (by omega) (by assumption)).1]; rfl)
   | exact (z3 (by omega) (by assumption)).2.symm
   | skip
  rename_i hb1 hb2
  have e : monE n c = 0 := by
   rw [hmE, if_neg (by omega), if_neg]
   rintro (h | h | h)
   ·omega
   ·omega
   ·rw [hb.2] at h; cases h
  have eL : monL n c = z04 n c := by rw [monL, if_pos e]
  have hany : ∀ x ∈ effL n c, -8 ≤ x ∧ x ≤ 8 := fun x hx => by
   have h7 := hb.2
   rw [List.any_eq_false] at h7
   have := h7 x hx
   simp [z1j] at this
   omega
  refine z14 [.cell 7 1 66 3] _ (by simp only [go_sem]; rfl) Nat (fun k => k ≤ n.trs.length) (fun k => [(60, .one (.int .i64 k))]) (fun k => [.var 32 [.list (ints n.init), .list (trsD n.trs)], .var 36 [.list (ints c.fac), .int .i64 c.bound], .var 32 [.nil, .nil], .gone, .row 3 1 (ints (effL n c)), .row 3 1 (ints n.init ++ [[.int .i64 (c.bound - dot c.fac n.init)]]), .row 3 1 [[.int .i64 (c.bound - dot c.fac n.init)]], .var 32 [.own 5, .own 8], .row 66 3 (trsD (z1F n c k))]) (fun k => n.trs.length - k) 0 (by omega) ?_ ?_
  ·(simp only [SubF, go_sem]; (try simp only [go_sem]); repeat' (first | exact True.intro | with_reducible refine And.intro ?_ ?_ | rfl | omega))
  ·rintro k hk L hL
   have hp : ((k : Nat) : Int).toNat = k := by omega
   have hml := z8R n c k
   by_cases hlt : k < n.trs.length
   ·have hg := z1K hlt [.int .i64 0, .nil, .nil]
    have hmem := z01 n.trs k Tr.no hlt
    have hi1 := hno.inn _ hmem
    have hi2 := hno.out _ hmem
    have hE := hEget k hlt
    have hEb := hany _ (z01 (effL n c) k 0 (by omega))
    have hEat := z0s (l := effL n c) (k := k) (by omega)
    have hms := zbf n c k hlt
    rw [hE] at hEb hEat
    generalize effT c.fac (n.trs.getD k Tr.no) = E at *
    generalize n.trs.getD k Tr.no = t at *
    have hf1 := z1R _ _ hi1
    have hf2 := z1R _ _ hi2
    have hfl1 := zaK t.inn
    have hfl2 := zaK t.out
    (simp only [go_sem] at hL ⊢)
    (repeat' (first | (with_reducible first | refine And.intro ?_ ?_ | refine aBl ?_ | (refine aS 14 [59, 58, 60] ?_; intro K hK)) | ((with_reducible first | refine aGo ?_ | refine rP Ty_ok mixed 15 [0, 2, 5] [.mid [pe 1, pe 3, ⟨4, 0, true, false, false, [], []⟩, ⟨6, 1, false, false, false, [0], []⟩, ⟨7, 1, true, false, false, [], []⟩, ⟨8, 2, false, false, false, [], []⟩, ⟨9, 2, true, false, false, [1, 0], []⟩] 3, .one 10] ?_ | refine rP Ty_ok mixed 17 [0, 2, 3, 4] [.mid [pe 1, pe 5, pe 6, pe 7, pe 8] 0, .one 9, .one 10, .one 11] ?_ | refine rP Ty_ok mixed 19 [0, 2, 3, 4] [.mid [pe 1, pe 5, pe 6, pe 7, pe 8, pe 9] 0, .one 10, .one 11, .one 12] ?_); simp only [hg, hEat, hp, hE, go_sem]) | ((with_reducible refine aCd ?_ ?_ (fun hb => ?_) (fun hb => ?_)); (iterate 2 simp only [hg, hEat, hp, hE, go_sem]); all_goals (simp only [hg, hEat, hp, hE, go_sem] at hb; try simp only [bls] at hb)) | ((iterate 6 try ((fail_if_success with_reducible refine hK _ ?_ ?_ ?_); clear hK K)); with_reducible refine hK _ ?_ ?_ ?_; rotate_left; (focus (simp only [hg, hEat, hp, hE, go_sem]; exact rfl)); clear hK K) | ((with_reducible first | refine cR (z7w t.inn (by omega)) ?_ | refine cR (z7w t.out (by omega)) ?_); simp only [hg, hEat, hp, hE, go_sem]) | exact aZ | fail))
    all_goals first | omega | skip
    ·have e1 : trsD (z1F n c (k + 1)) = trsD (z1F n c k) ++ [[.int .i64 t.event, .list (arcsD t.inn ++ [[.int .i64 n.init.length, .int .i64 E]]), .list (arcsD t.out)]] := by
      rw [hms, ← z2n, monT, if_pos ‹0 < E›, if_neg (by omega), List.append_nil, z5J, ← z47]; rfl
     refine hL _ (k + 1) (by omega) ?_ (by omega)
     rw [e1]
     (simp only [SubF, go_sem]; (try simp only [go_sem]); repeat' (first | exact True.intro | with_reducible refine And.intro ?_ ?_ | rfl | omega))
    ·have e1 : trsD (z1F n c (k + 1)) = trsD (z1F n c k) ++ [[.int .i64 t.event, .list (arcsD t.inn), .list (arcsD t.out ++ [[.int .i64 n.init.length, .int .i64 (-E)]])]] := by
      rw [hms, ← z2n, monT, if_neg (by omega), if_pos (by omega), List.append_nil, z5J, ← z47]; rfl
     refine hL _ (k + 1) (by omega) ?_ (by omega)
     rw [e1]
     (simp only [SubF, go_sem]; (try simp only [go_sem]); repeat' (first | exact True.intro | with_reducible refine And.intro ?_ ?_ | rfl | omega))
    ·have e1 : trsD (z1F n c (k + 1)) = trsD (z1F n c k) ++ [[.int .i64 t.event, .list (arcsD t.inn), .list (arcsD t.out)]] := by
      rw [hms, ← z2n, monT, if_neg (by omega), if_neg (by omega), List.append_nil, List.append_nil, z5J]
     refine hL _ (k + 1) (by omega) ?_ (by omega)
     rw [e1]
     (simp only [SubF, go_sem]; (try simp only [go_sem]); repeat' (first | exact True.intro | with_reducible refine And.intro ?_ ?_ | rfl | omega))
   ·(simp only [go_sem] at hL ⊢)
    (repeat' (first | (with_reducible first | refine And.intro ?_ ?_ | refine aBl ?_ | (refine aS 14 [59, 58, 60] ?_; intro K hK)) | ((with_reducible first | refine aGo ?_ | refine rP Ty_ok mixed 15 [0, 2, 5] [.mid [pe 1, pe 3, ⟨4, 0, true, false, false, [], []⟩, ⟨6, 1, false, false, false, [0], []⟩, ⟨7, 1, true, false, false, [], []⟩, ⟨8, 2, false, false, false, [], []⟩, ⟨9, 2, true, false, false, [1, 0], []⟩] 3, .one 10] ?_); simp only [e, go_sem]) | ((with_reducible refine aCd ?_ ?_ (fun hb => ?_) (fun hb => ?_)); (iterate 2 simp only [e, go_sem]); all_goals (simp only [e, go_sem] at hb; try simp only [bls] at hb)) | ((iterate 6 try ((fail_if_success with_reducible refine hK _ ?_ ?_ ?_); clear hK K)); with_reducible refine hK _ ?_ ?_ ?_; rotate_left; (focus (simp only [e, go_sem]; exact rfl)); clear hK K) | exact aZ | fail))
    all_goals first | omega | skip
    ·rw [eL, z04, ← z0f]; rfl
    ·rw [eL, z04, show k = n.trs.length by omega]
 ·(refine ACalls.of_body Ty_ok mixed Tryz.func12 rfl (by kernel_rfl) Tryz.ntmps12 (by simp) (congrArg Array.toList Tryz.results12) ?_)
  have hz : monE n c = conE n c := by rw [monE, if_pos h0]
  have hz2 : monL n c = Net.zero := by rw [monL, if_neg (by omega)]
  simp only [Net.d, Con.d] at h1
  simp only [z00, Net.d, Con.d, hz, hz2, Net.zero]
  (repeat' (first | (with_reducible first | refine And.intro ?_ ?_ | (refine aS 14 [59, 58, 60] ?_; intro K hK)) | ((with_reducible first | refine aGo ?_ | refine rP Ty_ok mixed 4 [0, 3] [.mid [pe 1, pe 2, pe 4, ⟨5, 0, true, false, false, [], []⟩, ⟨6, 1, false, false, false, [], []⟩, ⟨7, 1, false, false, false, [], []⟩] 1] ?_); simp only [go_sem]) | ((with_reducible refine aCd ?_ ?_ (fun hb => ?_) (fun hb => ?_)); (iterate 2 simp only [go_sem]); all_goals (simp only [go_sem] at hb; try simp only [bls] at hb)) | ((iterate 6 try ((fail_if_success with_reducible refine hK _ ?_ ?_ ?_); clear hK K)); with_reducible refine hK _ ?_ ?_ ?_; rotate_left; (focus (simp only [go_sem]; exact rfl)); clear hK K) | ((with_reducible refine xA ?_); simp only [go_sem]) | exact aZ | fail))
  all_goals first | omega | skip
  all_goals rfl
end Go.Proofs.YtkjllcmpjghmkaaGreatDoor
