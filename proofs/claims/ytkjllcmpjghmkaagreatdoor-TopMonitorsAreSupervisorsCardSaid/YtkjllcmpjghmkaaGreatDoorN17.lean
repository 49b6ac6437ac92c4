/-
 Contracts: transitions that are enabled; firing.
-/
import Derived.Test.YtkjllcmpjghmkaaGreatDoorN6
set_option linter.unusedSimpArgs false
set_option linter.unusedVariables false
namespace Go.Proofs.YtkjllcmpjghmkaaGreatDoor
open Go.Eng Go.RowKit
def z34 (m : List Int) (a : Arc) : Bool := decide (m.getD a.place.toNat 0 < a.weight)
def enB (m : List Int) (t : Tr) : Bool := !t.inn.any (z34 m)
theorem zdP (m : List Int) (a : Arc) (h0 : 0 ≤ a.place) (h1 : a.place < m.length) (hm : m.length ≤ 1000000) : ACalls Tryz.prog 127 [.agg a.d, .one (.ref [.list (ints m)])] (.one (.bool (z34 m a))) [] := by
 (refine ACalls.of_body Ty_ok mixed Tryz.func127 rfl (by kernel_rfl) Tryz.ntmps127 (by simp) (congrArg Array.toList Tryz.results127) ?_)
 simp only [z00, Arc.d]
 (repeat' (first | (with_reducible first | refine And.intro ?_ ?_ | (refine aS 4 [] ?_; intro K hK)) | ((with_reducible first | refine aGo ?_ | refine rD (id := 1) ?_); simp only [go_sem]) | ((iterate 6 try ((fail_if_success with_reducible refine hK _ ?_ ?_ ?_); clear hK K)); with_reducible refine hK _ ?_ ?_ ?_; rotate_left; (focus (simp only [go_sem]; exact rfl)); clear hK K) | exact aZ | fail))
 rfl
theorem zfF (m : List Int) (t : Tr) (ht : ArcsIn m.length t.inn) (hm : m.length ≤ 1000000) : ACalls Tryz.prog 92 [.agg t.d, .one (.list (ints m))] (.one (.bool (enB m t))) [] := by
 have hf := z1R _ _ ht
 have h1 := z4H t.inn 127 [.ref [.list (ints m)]] (z34 m) (by omega) (z42 _) (fun a ha => zdP m a (ht.place a ha).1 (ht.place a ha).2 hm)
 (refine ACalls.of_body Ty_ok mixed Tryz.func92 rfl (by kernel_rfl) Tryz.ntmps92 (by simp) (congrArg Array.toList Tryz.results92) ?_)
 simp only [z00, Tr.d]
 (repeat' (first | (with_reducible (refine aS 5 [] ?_; intro K hK)) | ((with_reducible refine aGo ?_); simp only [go_sem]) | ((iterate 6 try ((fail_if_success with_reducible refine hK _ ?_ ?_ ?_); clear hK K)); with_reducible refine hK _ ?_ ?_ ?_; rotate_left; (focus (simp only [go_sem]; exact rfl)); clear hK K) | ((with_reducible refine xA ?_); simp only [go_sem]) | fail))
 rw [enB, Bool.not_not]
def z09 (s : Int) : List Int → List Arc → List Int
 | m, [] => m
 | m, a :: l => z09 s (m.set a.place.toNat (m.getD a.place.toNat 0 + s * a.weight)) l
theorem z1S (s : Int) : ∀ (l l' : List Arc) (m : List Int), z09 s m (l ++ l') = z09 s (z09 s m l) l'
 | [], l', m => rfl
 | a :: l, l', m => by simp only [List.cons_append, z09, z1S s l l']
theorem z7o (s : Int) (m : List Int) (l : List Arc) (k : Nat) (hk : k < l.length) : z09 s m (l.take (k + 1)) = (z09 s m (l.take k)).set (l.getD k Arc.no).place.toNat ((z09 s m (l.take k)).getD (l.getD k Arc.no).place.toNat 0 + s * (l.getD k Arc.no).weight) := by
 rw [z07 l k Arc.no hk, z1S]
 rfl
theorem z0g (s : Int) : ∀ (l : List Arc) (m : List Int), (z09 s m l).length = m.length
 | [], m => rfl
 | a :: l, m => by rw [z09, z0g s l]; simp
theorem Sm.mono {A B : Int} {l : List Int} (h : Sm A l) (hab : A ≤ B) : Sm B l := ⟨fun x hx => by have := h.all x hx; omega⟩
theorem z4D (s : Int) (hs : s = 1 ∨ s = -1) : ∀ (l : List Arc) (m : List Int) (A : Int), 0 ≤ A → Sm A m → (∀ a ∈ l, 1 ≤ a.weight ∧ a.weight ≤ 8) → Sm (A + 8 * l.length) (z09 s m l)
 | [], m, A, h0, h, _ => h.mono (by simp)
 | a :: l, m, A, h0, h, hw => by
  have h1 := h.get h0 a.place.toNat
  have h2 := hw a (by simp)
  have h3 := z4D s hs l (m.set a.place.toNat (m.getD a.place.toNat 0 + s * a.weight)) (A + 8) (by omega) ((h.mono (by omega)).set _ _ (by rcases hs with rfl | rfl <;> omega)) fun b hb => hw b (by simp [hb])
  rw [z09]
  refine h3.mono ?_
  simp only [List.length_cons, Int.natCast_add]
  omega
def z05 (t : Tr) (m : List Int) : List Int := z09 1 (z09 (-1) m t.inn) t.out
theorem z0y (t : Tr) (m : List Int) : (z05 t m).length = m.length := by rw [z05, z0g, z0g]
def zfE (t : Tr) (m : List Int) : Int := if (z05 t m).any tokB = true then 3 else 0
def zfD (t : Tr) (m : List Int) : List Int := if (z05 t m).any tokB = true then [] else z05 t m
set_option maxHeartbeats 16000000 in
theorem ziT (m : List Int) (t : Tr) (h1 : ArcsIn m.length t.inn) (h2 : ArcsIn m.length t.out) (hm : m.length ≤ 1000) (hs : Sm 1000000 m) : ACalls Tryz.prog 107 [.agg t.d, .one (.list (ints m))] (.tup [.one (.list (ints (zfD t m))), .one (.int .i64 (zfE t m))]) [] := by
 have hf1 := z1R _ _ h1
 have hf2 := z1R _ _ h2
 have hT := z8n (z05 t m) (by rw [z0y]; omega)
 (refine ACalls.of_body Ty_ok mixed Tryz.func107 rfl (by kernel_rfl) Tryz.ntmps107 (by simp) (congrArg Array.toList Tryz.results107) ?_)
 simp only [z00, Tr.d]
 (repeat' (first | (with_reducible first | refine aBl ?_ | (refine aS 11 [15, 14, 16, 32, 31, 33] ?_; intro K hK)) | ((with_reducible refine aGo ?_); simp only [go_sem]) | ((iterate 6 try ((fail_if_success with_reducible refine hK _ ?_ ?_ ?_); clear hK K)); with_reducible refine hK _ ?_ ?_ ?_; rotate_left; (focus (simp only [go_sem]; exact rfl)); clear hK K) | ((with_reducible refine cA (z10 m (by omega)) ?_); simp only [go_sem]) | fail))
 refine z02 _ (by simp only [go_sem]; rfl) Nat (fun j => j ≤ t.inn.length) (fun j => [(6, .one (.own 2)), (16, .one (.int .i64 j))]) (fun j H => [.var 66 [.int .i64 t.event, .list (arcsD t.inn), .list (arcsD t.out)], .row 3 1 [], .row 3 1 (ints (z09 (-1) m (t.inn.take j)))]) (fun j => t.inn.length - j) 0 (by omega) ?_ ?_
 ·(simp only [SubF, List.take_zero, z09, go_sem]; (try simp only [List.take_zero, z09, go_sem]); repeat' (first | exact True.intro | with_reducible refine And.intro ?_ ?_ | rfl | omega))
 ·rintro j hj L hL
  have hq : ((j : Nat) : Int).toNat = j := by omega
  by_cases hlj : j < t.inn.length
  ·have ha := z9g h1 hlj
   have haD := z9e hlj
   have e1 := z7o (-1) m t.inn j hlj
   have hl1 := z0g (-1) (t.inn.take j) m
   have hsm := z4D (-1) (.inr rfl) (t.inn.take j) m 1000000 (by omega) hs fun a ha => h1.weight a (List.mem_of_mem_take ha)
   have hlt : (t.inn.take j).length ≤ 1000 := by simp; omega
   have hb0 := (hsm.mono (B := 2000000) (by omega)).get (by omega) (t.inn.getD j Arc.no).place.toNat
   generalize z09 (-1) m (t.inn.take j) = X at *
   have hrow := z0s (l := X) (k := (t.inn.getD j Arc.no).place.toNat) (by omega)
   (simp only [go_sem] at hL ⊢)
   (repeat' (first | (with_reducible first | refine And.intro ?_ ?_ | refine aBl ?_ | (refine aS 11 [15, 14, 16, 32, 31, 33] ?_; intro K hK)) | ((with_reducible first | refine aGo ?_ | refine rP Ty_ok mixed 5 [0, 1, 5] [.mid [pe 2, pe 3, pe 4, pe 6, pe 7, pe 8] 0, .one 9] ?_); simp only [haD, hq, hrow, hl1, go_sem]) | ((with_reducible refine aCd ?_ ?_ (fun hb => ?_) (fun hb => ?_)); (iterate 2 simp only [haD, hq, hrow, hl1, go_sem]); all_goals (simp only [haD, hq, hrow, hl1, go_sem] at hb; try simp only [bls] at hb)) | ((iterate 6 try ((fail_if_success with_reducible refine hK _ ?_ ?_ ?_); clear hK K)); with_reducible refine hK _ ?_ ?_ ?_; rotate_left; (focus (simp only [haD, hq, hrow, hl1, go_sem]; exact rfl)); clear hK K) | exact aZ | fail))
   all_goals first | omega | skip
   refine hL _ (j + 1) (by omega) ?_ (by omega)
   rw [e1, show X.getD (t.inn.getD j Arc.no).place.toNat 0 + -1 * (t.inn.getD j Arc.no).weight = X.getD (t.inn.getD j Arc.no).place.toNat 0 - (t.inn.getD j Arc.no).weight by omega]
   (simp only [SubF, go_sem]; (try simp only [go_sem]); repeat' (first | exact True.intro | with_reducible refine And.intro ?_ ?_ | rfl | omega))
  ·(simp only [go_sem] at hL ⊢)
   (repeat' (first | (with_reducible first | refine And.intro ?_ ?_ | refine aBl ?_ | (refine aS 11 [15, 14, 16, 32, 31, 33] ?_; intro K hK)) | ((with_reducible first | refine aGo ?_ | refine rP Ty_ok mixed 5 [0, 1, 5] [.mid [pe 2, pe 3, pe 4, pe 6, pe 7, pe 8] 0, .one 9] ?_); simp only [go_sem]) | ((with_reducible refine aCd ?_ ?_ (fun hb => ?_) (fun hb => ?_)); (iterate 2 simp only [go_sem]); all_goals (simp only [go_sem] at hb; try simp only [bls] at hb)) | ((iterate 6 try ((fail_if_success with_reducible refine hK _ ?_ ?_ ?_); clear hK K)); with_reducible refine hK _ ?_ ?_ ?_; rotate_left; (focus (simp only [go_sem]; exact rfl)); clear hK K) | exact aZ | fail))
   all_goals first | omega | skip
   rw [List.take_of_length_le (by omega)]
   have hsm1 := z4D (-1) (.inr rfl) t.inn m 1000000 (by omega) hs h1.weight
   have hl1 := z0g (-1) t.inn m
   clear hL L
   refine z02 _ (by simp only [go_sem]; rfl) Nat (fun j => j ≤ t.out.length) (fun j => [(6, .one (.own 2)), (33, .one (.int .i64 j))]) (fun j H => [.var 66 [.int .i64 t.event, .list (arcsD t.inn), .list (arcsD t.out)], .row 3 1 [], .row 3 1 (ints (z09 1 (z09 (-1) m t.inn) (t.out.take j)))]) (fun j => t.out.length - j) 0 (by omega) ?_ ?_
   ·(simp only [SubF, List.take_zero, z09, go_sem]; (try simp only [List.take_zero, z09, go_sem]); repeat' (first | exact True.intro | with_reducible refine And.intro ?_ ?_ | rfl | omega))
   ·rintro i hi L hL
    have hq : ((i : Nat) : Int).toNat = i := by omega
    by_cases hli : i < t.out.length
    ·have ha := z9g h2 hli
     have haD := z9e hli
     have e1 := z7o 1 (z09 (-1) m t.inn) t.out i hli
     have hl2 := z0g 1 (t.out.take i) (z09 (-1) m t.inn)
     have hsm := z4D 1 (.inl rfl) (t.out.take i) _ _ (by omega) hsm1 fun a ha => h2.weight a (List.mem_of_mem_take ha)
     have hlt : (t.out.take i).length ≤ 1000 := by simp; omega
     have hb0 := (hsm.mono (B := 2000000) (by omega)).get (by omega) (t.out.getD i Arc.no).place.toNat
     rw [hl1] at hl2
     generalize z09 1 (z09 (-1) m t.inn) (t.out.take i) = X at *
     have hrow := z0s (l := X) (k := (t.out.getD i Arc.no).place.toNat) (by omega)
     (simp only [go_sem] at hL ⊢)
     (repeat' (first | (with_reducible first | refine And.intro ?_ ?_ | refine aBl ?_ | (refine aS 11 [15, 14, 16, 32, 31, 33] ?_; intro K hK)) | ((with_reducible first | refine aGo ?_ | refine rP Ty_ok mixed 10 [0, 1, 5] [.mid [pe 2, pe 3, pe 4, pe 6, pe 7, pe 8] 0, .one 9] ?_); simp only [haD, hq, hrow, hl2, go_sem]) | ((with_reducible refine aCd ?_ ?_ (fun hb => ?_) (fun hb => ?_)); (iterate 2 simp only [haD, hq, hrow, hl2, go_sem]); all_goals (simp only [haD, hq, hrow, hl2, go_sem] at hb; try simp only [bls] at hb)) | ((iterate 6 try ((fail_if_success with_reducible refine hK _ ?_ ?_ ?_); clear hK K)); with_reducible refine hK _ ?_ ?_ ?_; rotate_left; (focus (simp only [haD, hq, hrow, hl2, go_sem]; exact rfl)); clear hK K) | exact aZ | fail))
     all_goals first | omega | skip
     refine hL _ (i + 1) (by omega) ?_ (by omega)
     rw [e1, Int.one_mul]
     (simp only [SubF, go_sem]; (try simp only [go_sem]); repeat' (first | exact True.intro | with_reducible refine And.intro ?_ ?_ | rfl | omega))
    ·have e2 : z09 1 (z09 (-1) m t.inn) (t.out.take i) = z05 t m := by rw [List.take_of_length_le (by omega)]; rfl
     rw [e2]
     (simp only [go_sem] at hL ⊢)
     (repeat' (first | (with_reducible first | refine And.intro ?_ ?_ | refine aBl ?_ | (refine aS 11 [15, 14, 16, 32, 31, 33] ?_; intro K hK)) | ((with_reducible first | refine aGo ?_ | refine rP Ty_ok mixed 10 [0, 1, 5] [.mid [pe 2, pe 3, pe 4, pe 6, pe 7, pe 8] 0, .one 9] ?_); simp only [go_sem]) | ((with_reducible refine aCd ?_ ?_ (fun hb => ?_) (fun hb => ?_)); (iterate 2 simp only [go_sem]); all_goals (simp only [go_sem] at hb; try simp only [bls] at hb)) | ((iterate 6 try ((fail_if_success with_reducible refine hK _ ?_ ?_ ?_); clear hK K)); with_reducible refine hK _ ?_ ?_ ?_; rotate_left; (focus (simp only [go_sem]; exact rfl)); clear hK K) | ((with_reducible refine xA ?_); simp only [go_sem]) | exact aZ | fail))
     all_goals first | omega | skip
     all_goals (first | rw [zfD] | rw [zfE])
     all_goals first | (rw [if_pos (by simpa using hb)]; done) | (rw [if_neg (by simpa using hb)]; done) | skip
     all_goals first | (rw [if_pos (by simpa using hb)]; rfl) | (rw [if_neg (by simpa using hb)]; rfl)
def ableL (n : Net) (m : List Int) (k : Nat) : List Int := ((List.range k).filter fun i => enB m (n.trs.getD i Tr.no)).map fun (i : Nat) => (i : Int)
theorem ze9 (n : Net) (m : List Int) (k : Nat) : ableL n m (k + 1) = ableL n m k ++ if enB m (n.trs.getD k Tr.no) = true then [(k : Int)] else [] := by
 simp only [ableL, List.range_succ, List.filter_append, List.map_append]
 congr 1
 by_cases h : enB m (n.trs.getD k Tr.no) = true
 ·rw [List.filter_cons, if_pos h, if_pos h]; rfl
 ·rw [List.filter_cons, if_neg h, if_neg h]; rfl
theorem z2k (n : Net) (m : List Int) (k : Nat) : (ableL n m k).length ≤ k := by
 simp only [ableL, List.length_map]
 exact Nat.le_trans (List.length_filter_le _ _) (by simp)
theorem z4G {n : Net} {m : List Int} {k : Nat} {t : Int} (h : t ∈ ableL n m k) : 0 ≤ t ∧ t < k ∧ enB m (n.trs.getD t.toNat Tr.no) = true := by
 simp only [ableL, List.mem_map, List.mem_filter, List.mem_range] at h
 obtain ⟨i, ⟨h1, h2⟩, rfl⟩ := h
 exact ⟨by omega, by omega, by rw [Int.toNat_natCast]; exact h2⟩
set_option maxHeartbeats 16000000 in
theorem zge (n : Net) (m : List Int) (hn : NetOk n) (hl : m.length = n.init.length) : ACalls Tryz.prog 51 [.agg n.d, .one (.list (ints m))] (.one (.own 0)) [.row 3 1 (ints (ableL n m n.trs.length))] := by
 have ht := hn.trs
 have hi10 := hn.init
 (refine ACalls.of_body_own Ty_ok mixed Tryz.func51 rfl (by kernel_rfl) Tryz.ntmps51 (by simp) (congrArg Array.toList Tryz.results51) ?_)
 simp only [z00, Net.d]
 (repeat' (first | (with_reducible first | refine aBl ?_ | (refine aS 8 [10, 9, 11] ?_; intro K hK)) | ((with_reducible refine aGo ?_); simp only [go_sem]) | ((iterate 6 try ((fail_if_success with_reducible refine hK _ ?_ ?_ ?_); clear hK K)); with_reducible refine hK _ ?_ ?_ ?_; rotate_left; (focus (simp only [go_sem]; exact rfl)); clear hK K) | fail))
 refine z02 _ (by simp only [go_sem]; rfl) Nat (fun k => k ≤ n.trs.length) (fun k => [(5, .one (.own 2)), (11, .one (.int .i64 k))]) (fun k H => [.var 32 [.list (ints n.init), .list (trsD n.trs)], .row 3 1 [], .row 3 1 (ints (ableL n m k))]) (fun k => n.trs.length - k) 0 (by omega) ?_ ?_
 ·have e0 : ints (ableL n m 0) = [] := rfl
  rw [e0]
  (simp only [SubF, go_sem]; (try simp only [go_sem]); repeat' (first | exact True.intro | with_reducible refine And.intro ?_ ?_ | rfl | omega))
 ·rintro k hk L hL
  have hp : ((k : Nat) : Int).toNat = k := by omega
  have hal := z2k n m k
  by_cases hlt : k < n.trs.length
  ·have hg := z1K hlt [.int .i64 0, .nil, .nil]
   have hg2 := z1K hlt []
   have hi1 := hn.inn _ (z01 n.trs k Tr.no hlt)
   have hs := ze9 n m k
   generalize n.trs.getD k Tr.no = t at *
   have hE := zfF m t (by rw [hl]; exact hi1) (by omega)
   simp only [Tr.d] at hE
   (simp only [go_sem] at hL ⊢)
   (repeat' (first | (with_reducible first | refine And.intro ?_ ?_ | refine aBl ?_ | (refine aS 8 [10, 9, 11] ?_; intro K hK)) | ((with_reducible refine aGo ?_); simp only [hg, hg2, hp, go_sem]) | ((with_reducible refine aCd ?_ ?_ (fun hb => ?_) (fun hb => ?_)); (iterate 2 simp only [hg, hg2, hp, go_sem]); all_goals (simp only [hg, hg2, hp, go_sem] at hb; try simp only [bls] at hb)) | ((iterate 6 try ((fail_if_success with_reducible refine hK _ ?_ ?_ ?_); clear hK K)); with_reducible refine hK _ ?_ ?_ ?_; rotate_left; (focus (simp only [hg, hg2, hp, go_sem]; exact rfl)); clear hK K) | ((with_reducible refine xA ?_); simp only [hg, hg2, hp, go_sem]) | exact aZ | fail))
   all_goals first | omega | skip
   ·refine hL _ (k + 1) (by omega) ?_ (by omega)
    rw [hs, if_pos hb, ← z0f]
    (simp only [SubF, z0e, go_sem]; (try simp only [z0e, go_sem]); repeat' (first | exact True.intro | with_reducible refine And.intro ?_ ?_ | rfl | omega))
   ·refine hL _ (k + 1) (by omega) ?_ (by omega)
    rw [hs, if_neg (by rw [hb]; decide), List.append_nil]
    (simp only [SubF, go_sem]; (try simp only [go_sem]); repeat' (first | exact True.intro | with_reducible refine And.intro ?_ ?_ | rfl | omega))
  ·(simp only [go_sem] at hL ⊢)
   (repeat' (first | (with_reducible first | refine And.intro ?_ ?_ | refine aBl ?_ | (refine aS 8 [10, 9, 11] ?_; intro K hK)) | ((with_reducible refine aGo ?_); simp only [go_sem]) | ((with_reducible refine aCd ?_ ?_ (fun hb => ?_) (fun hb => ?_)); (iterate 2 simp only [go_sem]); all_goals (simp only [go_sem] at hb; try simp only [bls] at hb)) | ((iterate 6 try ((fail_if_success with_reducible refine hK _ ?_ ?_ ?_); clear hK K)); with_reducible refine hK _ ?_ ?_ ?_; rotate_left; (focus (simp only [go_sem]; exact rfl)); clear hK K) | exact aZ | fail))
   all_goals first | omega | skip
   rw [show k = n.trs.length by omega]
def markE (n : Net) (m : List Int) : Int := if netE n ≠ 0 then netE n else if m.length ≠ n.init.length then 4 else if m.any tokB = true then 2 else 0
theorem z3O (n : Net) (m : List Int) (hf : n.Fits) (hm : m.length ≤ 1000000) : ACalls Tryz.prog 28 [.agg n.d, .one (.list (ints m))] (.one (.int .i64 (markE n m))) [] := by
 have h1 := z2s n hf
 have hi := hf.init
 simp only [Net.d] at h1
 (refine ACalls.of_body Ty_ok mixed Tryz.func28 rfl (by kernel_rfl) Tryz.ntmps28 (by simp) (congrArg Array.toList Tryz.results28) ?_)
 simp only [z00, Net.d]
 (repeat' (first | (with_reducible first | refine aBl ?_ | (refine aS 6 [] ?_; intro K hK)) | ((with_reducible refine aGo ?_); simp only [go_sem]) | ((with_reducible refine aCd ?_ ?_ (fun hb => ?_) (fun hb => ?_)); (iterate 2 simp only [go_sem]); all_goals (simp only [go_sem] at hb; try simp only [bls] at hb)) | ((iterate 6 try ((fail_if_success with_reducible refine hK _ ?_ ?_ ?_); clear hK K)); with_reducible refine hK _ ?_ ?_ ?_; rotate_left; (focus (simp only [go_sem]; exact rfl)); clear hK K) | ((with_reducible first | refine xA ?_ | refine cA (z8n m hm) ?_); simp only [go_sem]) | fail))
 ·rw [markE, if_pos hb]
 ·rw [markE, if_neg (by omega), if_pos (by omega)]
 ·rw [markE, if_neg (by omega), if_neg (by omega), if_pos (by simpa using hb)]
 ·rw [markE, if_neg (by omega), if_neg (by omega), if_neg (by simpa using hb)]
theorem ziL {n : Net} {m : List Int} (h : markE n m = 0) : NetOk n ∧ m.length = n.init.length ∧ ∀ x ∈ m, 0 ≤ x ∧ x ≤ 65536 := by
 unfold markE at h
 split at h
 ·rename_i h1; exact absurd h h1
 rename_i h1
 split at h
 ·cases h
 rename_i h2
 split at h
 ·cases h
 rename_i h3
 refine ⟨z0K (by omega), by omega, fun x hx => ?_⟩
 have : tokB x ≠ true := fun hh => h3 (List.any_eq_true.2 ⟨x, hx, hh⟩)
 simp [tokB] at this
 omega
def z5V (n : Net) (m : List Int) : List Int := if markE n m = 0 then ableL n m n.trs.length else []
theorem zgl (n : Net) (m : List Int) (hf : n.Fits) (hm : m.length ≤ 1000000) : ACalls Tryz.prog 48 [.agg n.d, .one (.list (ints m))] (.tup [.one (.list (ints (z5V n m))), .one (.int .i64 (markE n m))]) [] := by
 have h1 := z3O n m hf hm
 by_cases h0 : markE n m = 0
 ·obtain ⟨q1, q2, q3⟩ := ziL h0
  have h2 := zge n m q1 q2
  rw [z5V, if_pos h0]
  rw [h0] at h1 ⊢
  simp only [Net.d] at h1 h2
  (refine ACalls.of_body Ty_ok mixed Tryz.func48 rfl (by kernel_rfl) Tryz.ntmps48 (by simp) (congrArg Array.toList Tryz.results48) ?_)
  simp only [z00, Net.d]
  (repeat' (first | (with_reducible (refine aS 7 [] ?_; intro K hK)) | ((with_reducible refine aGo ?_); simp only [go_sem]) | ((with_reducible refine aCd ?_ ?_ (fun hb => ?_) (fun hb => ?_)); (iterate 2 simp only [go_sem]); all_goals (simp only [go_sem] at hb; try simp only [bls] at hb)) | ((iterate 6 try ((fail_if_success with_reducible refine hK _ ?_ ?_ ?_); clear hK K)); with_reducible refine hK _ ?_ ?_ ?_; rotate_left; (focus (simp only [go_sem]; exact rfl)); clear hK K) | ((with_reducible refine xA ?_); simp only [go_sem]) | fail))
 ·rw [z5V, if_neg h0]
  simp only [Net.d] at h1
  (refine ACalls.of_body Ty_ok mixed Tryz.func48 rfl (by kernel_rfl) Tryz.ntmps48 (by simp) (congrArg Array.toList Tryz.results48) ?_)
  simp only [z00, Net.d]
  (repeat' (first | (with_reducible (refine aS 7 [] ?_; intro K hK)) | ((with_reducible refine aGo ?_); simp only [go_sem]) | ((with_reducible refine aCd ?_ ?_ (fun hb => ?_) (fun hb => ?_)); (iterate 2 simp only [go_sem]); all_goals (simp only [go_sem] at hb; try simp only [bls] at hb)) | ((iterate 6 try ((fail_if_success with_reducible refine hK _ ?_ ?_ ?_); clear hK K)); with_reducible refine hK _ ?_ ?_ ?_; rotate_left; (focus (simp only [go_sem]; exact rfl)); clear hK K) | ((with_reducible refine xA ?_); simp only [go_sem]) | exact aZ | fail))
  all_goals first | omega | skip
  all_goals rfl
end Go.Proofs.YtkjllcmpjghmkaaGreatDoor
