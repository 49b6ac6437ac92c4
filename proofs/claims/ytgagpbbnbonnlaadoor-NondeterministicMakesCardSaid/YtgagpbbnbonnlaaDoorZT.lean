/-
 Chapter 05: a set as a text; the table of what was found.
-/
import Derived.Test.YtgagpbbnbonnlaaDoorB2
import Derived.Test.YtgagpbbnbonnlaaDoorYL
set_option linter.unusedSimpArgs false
set_option linter.unusedVariables false
namespace Go.Proofs.YtgagpbbnbonnlaaDoor
open Go.RowKit Go.Eng
set_option maxHeartbeats 6400000 in
set_option maxRecDepth 100000 in
theorem text_walk (l : List Int) (h0 : l ≠ []) (ad : Addr) (c : Nat) (w : World) (hl : l.length ≤ 1000000) (hr : ∀ x ∈ l, -9223372036854775808 ≤ x ∧ x ≤ 9223372036854775807)
  (hlt : ad.block < w.heap.size) (hcell : ∀ k, k < l.length → w.cell? (ad.add k) = some (.int .i64 (l.getD k 0)))
  (hgl : 0 < w.heap.size) (htab : Lib.TabIs Tryd.prog w "internal/strconv.uint64pow10" .u64 Lib.pow10Tab) :
  Calls Tryd.prog 50 #[.slice (some ad) l.length c] w fun e w' => e = .returned (.string ⟨(keyB l).toArray⟩) ∧ Eng.Below w.heap.size w w' := by
 have hne : keyB l ≠ [] := by
  cases l with
  | nil => exact absurd rfl h0
  | cons a t => simp [keyB]
 have hI0 : Lib.IsBuilder 100 5 w.heap.size w.heap.size [] (w.alloc (.cells #[.pointer none, .slice none 0 0] 100)) := Lib.fresh_isBuilder _ _ w
 have hb0 : Eng.Below w.heap.size w (w.alloc (.cells #[.pointer none, .slice none 0 0] 100)) := (Eng.Below.refl _ w).alloc (Nat.le_refl _) _
 go_enter Tryd.func50, Tryd.ntmps50
 go_wp2
 go_loopw [8] (fun i wr => ∃ k : Nat, k ≤ l.length ∧ i = .int .i64 k ∧ Lib.IsBuilder 100 5 w.heap.size w.heap.size (Lib.byteCells (keyB (l.take k))) wr ∧ Eng.Below w.heap.size w wr)
  (fun i wr => l.length - (intOf i).toNat)
 case atStart => exact ⟨0, Nat.zero_le _, rfl, hI0, hb0⟩
 case round =>
  obtain ⟨k, hk, rfl, hI, hb⟩ := hrel
  have hs := hb.size
  by_cases hlk : k < l.length
  ·have hc : wr.cell? (ad.add k) = some (.int .i64 (l.getD k 0)) := by
    rw [World.cell?_of_block (w := w) (by rw [Eng.block_add]; exact hb.block _ hlt)]
    exact hcell k hlk
   have hx := hr _ (getD_mem l k 0 hlk)
   have ht := tab_keep globTab hb hgl htab
   have hsucc := keyB_succ l k hlk
   have hkl := keyB_length (l.take k) fun x hx => hr x (List.mem_of_mem_take hx)
   have hil := Lib.itoa_length_le _ hx.1 hx.2
   have htk : (l.take k).length = k := by simp; omega
   have hlt' : ((k : Int) < (l.length : Int)) := by omega
   generalize l.getD k 0 = x at *
   clear hI0 hb0 hcell
   go_wp2_with (go_at_call 75; refine (Tryd.strconv_Itoa x hx.1 hx.2 _ ht).mono ?_; rintro e W1 ⟨rfl, kk, os, rfl⟩)
   have hg := grow_below wr kk os
   have hI1 := isBuilder_keep hg hI
   have hb1 := below_up hb hg hs
   have hs1 := hb1.size
   clear hI hb ht hc
   generalize Sort.grow (wr.drewN kk) os = W1 at *
   have hsz : (⟨(Lib.itoa x ++ [32]).toArray⟩ : ByteArray).size = (Lib.itoa x).length + 1 := by simp [ByteArray.size]
   have hsc : Lib.strCells ⟨(Lib.itoa x ++ [32]).toArray⟩ = Lib.byteCells (Lib.itoa x ++ [32]) := by rw [Lib.strCells_eq]
   have hcat : (⟨(Lib.itoa x).toArray⟩ : ByteArray) ++ ⟨#[32]⟩ = ⟨(Lib.itoa x ++ [32]).toArray⟩ := by
    apply ByteArray.ext
    simp
   go_wp2_with (go_at_call 74; refine (WriteString_b w.heap.size w.heap.size _ _ _ hI1 (by rw [Lib.byteCells_length]; rw [hcat, hsz]; omega) hs1).mono ?_; rintro e W2 ⟨rfl, hI2, hb2⟩)
   rw [hcat, hsc, ← Lib.byteCells_append, ← hsucc] at hI2
   exact ⟨⟨k + 1, by omega, by go_num, .inr hI2, hb1.trans hb2⟩, by simp [intOf]; omega⟩
  ·have hkl : k = l.length := by omega
   subst hkl
   rw [List.take_length] at hI
   go_wp2_with (go_at_call 76; refine (String_b w.heap.size w.heap.size (keyB l) _ hI hne).mono ?_; rintro e W2 ⟨rfl, hb2⟩)
   go_wp2
   go_ret
   exact ⟨rfl, hb.trans hb2⟩
theorem text_c (l : List Int) (h0 : l ≠ []) (hl : l.length ≤ 1000000) (hr : ∀ x ∈ l, -9223372036854775808 ≤ x ∧ x ≤ 9223372036854775807) : ACalls Tryd.prog 50 [.one (.list (ints l))] (.one (.str (keyB l))) [] := by
 refine ⟨by kernel_rfl, fun w M vs hM hv => ?_⟩
 obtain ⟨v, rest, rfl, h1, h2⟩ := hv
 obtain rfl : rest = [] := h2
 obtain ⟨A, c, rfl, _, _, h3⟩ : ∃ A c, v = .slice A (ints l).length c ∧ (ints l).length ≤ c ∧ c ≤ maxLen ∧ ((ints l) = [] ∨ ∃ ad sz, A = some ad ∧ ad.block < w.heap.size ∧ ¬ M ad.block ∧ RepRows w M ad sz 0 (ints l)) := h1
 rcases h3 with h3 | ⟨ad, sz, rfl, hlt, _, hrows⟩
 ·exact absurd (List.map_eq_nil_iff.1 h3) h0
 obtain ⟨hg, ht⟩ := tab_of hM
 rw [ints_length]
 refine (text_walk l h0 ad c w hl hr hlt (fun k hk => ?_) hg ht).mono ?_
 ·obtain ⟨us, q1, q2, q3⟩ := RepRows.get (ints l) 0 hrows k [.int .i64 (l.getD k 0)] (by simp [ints, List.getD, List.getElem?_eq_getElem hk])
  obtain ⟨u, rest, rfl, q4, q5⟩ := q3
  obtain rfl : rest = [] := q5
  obtain rfl : u = .int .i64 (l.getD k 0) := q4
  have := q2 0 _ rfl
  simp only [List.length_singleton] at q1
  rw [← q1] at this
  simpa using this
 ·rintro e w' ⟨rfl, hb⟩
  exact ⟨_, [], rfl, hb, rfl, fun t o x ho => by simp at ho, fun g hg => (owned_none hg).elim, fun t t' x x' g h1 => by simp at h1, rfl⟩
/-! keys tell markings apart -/
def digVal (l : List UInt8) : Nat := l.foldl (fun a b => 10 * a + (b.toNat - 48)) 0
theorem digVal_snoc (l : List UInt8) (b : UInt8) : digVal (l ++ [b]) = 10 * digVal l + (b.toNat - 48) := by simp [digVal, List.foldl_append]
theorem dig_toNat (d : Nat) (h : d < 10) : (UInt8.ofNat (48 + d)).toNat = 48 + d := by
 simp [UInt8.toNat_ofNat']
 omega
theorem digVal_dec (u : Nat) : digVal (Lib.decDigits u) = u := by
 induction u using Nat.strongRecOn with
 | ind u ih =>
  rw [Lib.decDigits]
  split
  ·rename_i h
   have e := dig_toNat u h
   simp only [digVal, List.foldl_cons, List.foldl_nil, e]
   omega
  ·rename_i h
   rw [digVal_snoc, ih (u / 10) (by omega), dig_toNat _ (Nat.mod_lt _ (by omega))]
   omega
theorem dec_no32 (u : Nat) : ∀ b ∈ Lib.decDigits u, b ≠ 32 := by
 have hd : ∀ d : Nat, d < 10 → UInt8.ofNat (48 + d) ≠ 32 := fun d h e => by
  have := congrArg UInt8.toNat e
  rw [dig_toNat d h] at this
  have e32 : (32 : UInt8).toNat = 32 := rfl
  omega
 induction u using Nat.strongRecOn with
 | ind u ih =>
  intro b hb
  rw [Lib.decDigits] at hb
  split at hb
  ·rename_i h
   rw [List.mem_singleton] at hb; subst hb
   exact hd u h
  ·rename_i h
   rcases List.mem_append.1 hb with hb | hb
   ·exact ih (u / 10) (by omega) b hb
   ·rw [List.mem_singleton] at hb; subst hb
    exact hd _ (Nat.mod_lt _ (by omega))
theorem cut_at {l l' r r' : List UInt8} (h1 : ∀ b ∈ l, b ≠ 32) (h2 : ∀ b ∈ l', b ≠ 32) (h : l ++ 32 :: r = l' ++ 32 :: r') : l = l' ∧ r = r' := by
 induction l generalizing l' with
 | nil =>
  cases l' with
  | nil => simp at h; exact ⟨rfl, h⟩
  | cons b l' => simp at h; exact absurd h.1.symm (h2 b (by simp))
 | cons a l ih =>
  cases l' with
  | nil => simp at h; exact absurd h.1 (h1 a (by simp))
  | cons b l' =>
   simp only [List.cons_append, List.cons.injEq] at h
   obtain ⟨e1, e2⟩ := ih (fun b hb => h1 b (by simp [hb])) (fun b hb => h2 b (by simp [hb])) h.2
   exact ⟨by rw [h.1, e1], e2⟩
theorem itoa_nat {x : Int} (h : 0 ≤ x) : Lib.itoa x = Lib.decDigits x.toNat := by rw [Lib.itoa, if_neg (by omega)]
theorem keyB_inj : ∀ (a b : List Int), (∀ x ∈ a, 0 ≤ x) → (∀ x ∈ b, 0 ≤ x) → keyB a = keyB b → a = b
 | [], [], _, _, _ => rfl
 | [], y :: b, _, _, h => by simp [keyB] at h
 | x :: a, [], _, _, h => by simp [keyB] at h
 | x :: a, y :: b, h1, h2, h => by
  have hx := h1 x (by simp)
  have hy := h2 y (by simp)
  simp only [keyB, List.flatMap_cons, List.append_assoc, List.cons_append, List.nil_append, itoa_nat hx, itoa_nat hy] at h
  obtain ⟨e1, e2⟩ := cut_at (dec_no32 _) (dec_no32 _) h
  have e3 := congrArg digVal e1
  rw [digVal_dec, digVal_dec] at e3
  rw [keyB_inj a b (fun z hz => h1 z (by simp [hz])) (fun z hz => h2 z (by simp [hz])) e2, show x = y by omega]
/-! the table of what was found -/
def setsK : Nat → List (List Int) → List (AV × AV)
 | _, [] => []
 | i, x :: r => (.one (.str (keyB x)), .one (.int .i64 i)) :: setsK (i + 1) r
theorem eqKey_str (a b : List UInt8) : eqKey (.one (.str a)) (.one (.str b)) = (a == b) := rfl
theorem findKV_sets {m : List Int} (hm : ∀ x ∈ m, 0 ≤ x) : ∀ (l : List (List Int)) (i : Nat), (∀ x ∈ l, ∀ y ∈ x, 0 ≤ y) → findKV (.one (.str (keyB m))) (setsK i l) = (fndS m i l).map fun (k : Nat) => AV.one (.int .i64 (k : Int))
 | [], i, _ => rfl
 | x :: r, i, h => by
  simp only [setsK, findKV, fndS, eqKey_str, beq_iff_eq]
  by_cases e : x = m
  ·rw [if_pos e, if_pos (by rw [e])]; rfl
  ·rw [if_neg e, if_neg fun e' => e (keyB_inj _ _ (h x (by simp)) hm e'.symm)]
   exact findKV_sets hm r (i + 1) fun y hy => h y (by simp [hy])
theorem setKV_sets {m : List Int} (hm : ∀ x ∈ m, 0 ≤ x) : ∀ (l : List (List Int)) (i : Nat), (∀ x ∈ l, ∀ y ∈ x, 0 ≤ y) → fndS m i l = none → setKV (.one (.str (keyB m))) (.one (.int .i64 ((i + l.length : Nat) : Int))) (setsK i l) = setsK i (l ++ [m])
 | [], i, _, _ => rfl
 | x :: r, i, h, hn => by
  simp only [fndS] at hn
  split at hn
  ·cases hn
  ·rename_i e
   simp only [setsK, setKV, eqKey_str, beq_iff_eq, List.cons_append]
   rw [if_neg fun e' => e (keyB_inj _ _ (h x (by simp)) hm e'.symm)]
   congr 1
   have := setKV_sets hm r (i + 1) (fun y hy => h y (by simp [hy])) hn
   rw [← this]
   congr 3
   simp only [List.length_cons]; omega
theorem fz_sets (t : Nat) (o : AObj) (kd : KeyKind) : ∀ (l : List (List Int)) (i : Nat), AObj.fz t o (.map kd (setsK i l)) = .map kd (setsK i l)
 | [], i => rfl
 | x :: r, i => by
  have := fz_sets t o kd r (i + 1)
  simp only [AObj.fz, setsK, List.map_cons, AObj.map.injEq, true_and] at this ⊢
  rw [this]; rfl
theorem ren_sets (f : Nat → Option Nat) (kd : KeyKind) : ∀ (l : List (List Int)) (i : Nat), AObj.ren f (.map kd (setsK i l)) = .map kd (setsK i l)
 | [], i => rfl
 | x :: r, i => by
  have := ren_sets f kd r (i + 1)
  simp only [AObj.ren, setsK, List.map_cons, AObj.map.injEq, true_and] at this ⊢
  rw [this]; rfl
theorem lt_sets (m : Nat) (kd : KeyKind) : ∀ (l : List (List Int)) (i : Nat), (AObj.map kd (setsK i l)).tagsLt m = true
 | [], i => rfl
 | x :: r, i => by
  have := lt_sets m kd r (i + 1)
  simp only [AObj.tagsLt, setsK, List.all_cons, Bool.and_eq_true] at this ⊢
  exact ⟨⟨rfl, rfl⟩, this⟩
theorem ren_sets' (f : Nat → Option Nat) (l : List (List Int)) (i : Nat) : (setsK i l).map (fun kv => (kv.1.ren f, kv.2.ren f)) = setsK i l := by
 have := ren_sets f .str l i
 simp only [AObj.ren, AObj.map.injEq, true_and] at this
 exact this
theorem fz_sets' (t : Nat) (o : AObj) (l : List (List Int)) (i : Nat) : (setsK i l).map (fun kv => (kv.1.fz t o, kv.2.fz t o)) = setsK i l := by
 have := fz_sets t o .str l i
 simp only [AObj.fz, AObj.map.injEq, true_and] at this
 exact this
theorem lt_sets' (m : Nat) (l : List (List Int)) (i : Nat) : ((setsK i l).all fun kv => kv.1.tagsLt m && kv.2.tagsLt m) = true := lt_sets m .str l i
attribute [go_sem ↓] fz_sets ren_sets lt_sets ren_sets' fz_sets' lt_sets'
def wordsD (l : List (List Int)) : List (List D) := l.map fun m => [.list (ints m)]
theorem words_length (l : List (List Int)) : (wordsD l).length = l.length := by simp [wordsD]
theorem words_sz (l : List (List Int)) : (∀ r : List D, r ∈ wordsD l → r.length = 1) ↔ True := ⟨fun _ => trivial, fun _ r hr => by obtain ⟨e, _, rfl⟩ := List.mem_map.1 hr; rfl⟩
theorem words_append (xs ys : List (List Int)) : wordsD xs ++ wordsD ys = wordsD (xs ++ ys) := by simp [wordsD]
theorem words_at {l : List (List Int)} {k : Nat} (hk : k < l.length) (z : List D) : (wordsD l).getD k z = [.list (ints (l.getD k []))] := by
 simp only [wordsD, List.getD, List.getElem?_map, List.getElem?_eq_getElem hk]; rfl
theorem words_one (x : List Int) : [[D.list (ints x)]] = wordsD [x] := rfl
attribute [go_sem] words_length words_sz
end Go.Proofs.YtgagpbbnbonnlaaDoor
