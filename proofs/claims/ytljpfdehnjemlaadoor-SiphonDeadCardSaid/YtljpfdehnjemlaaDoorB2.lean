/-
 The contract of net.key: a list of numbers as a text.
-/
import Derived.Test.YtljpfdehnjemlaaDoorB1
import Derived.Test.YtljpfdehnjemlaaDoorSh
import Derived.Test.YtljpfdehnjemlaaDoorN1
import Derived.Lib.ItoaLen
set_option linter.unusedSimpArgs false
set_option linter.unusedVariables false
namespace Go.Proofs.YtljpfdehnjemlaaDoor
open Go.RowKit Go.Eng
def keyB (l : List Int) : List UInt8 := l.flatMap fun x => Lib.itoa x ++ [32]
theorem keyB_succ (l : List Int) (k : Nat) (h : k < l.length) : keyB (l.take (k + 1)) = keyB (l.take k) ++ (Lib.itoa (l.getD k 0) ++ [32]) := by
 rw [take_succ_getD l k 0 h, keyB, keyB, List.flatMap_append]
 simp
theorem tab_keep {w w' : World} {B : Nat} {g : Nat} {zs : List Int} (hg : Tryd.prog.globalNamed "internal/strconv.uint64pow10" = some g) (hb : Eng.Below B w w') (hlt : g < B) (h : Lib.TabIs Tryd.prog w "internal/strconv.uint64pow10" .u64 zs) : Lib.TabIs Tryd.prog w' "internal/strconv.uint64pow10" .u64 zs := by
 unfold Lib.TabIs World.var? at *
 rw [hg] at h ⊢
 simp only [Option.bind_some] at h ⊢
 rw [hb.block g hlt]
 exact h
theorem keyB_length (l : List Int) (hr : ∀ x ∈ l, -9223372036854775808 ≤ x ∧ x ≤ 9223372036854775807) : (keyB l).length ≤ 22 * l.length := by
 induction l with
 | nil => simp [keyB]
 | cons a l ih =>
  have h1 := Lib.itoa_length_le a (hr a (by simp)).1 (hr a (by simp)).2
  have h2 := ih fun x hx => hr x (by simp [hx])
  simp only [keyB, List.flatMap_cons, List.length_append, List.length_cons, List.length_nil] at h2 ⊢
  omega
theorem grow_below (w : World) (n : Nat) (os : Array Obj) : Eng.Below w.heap.size w (Sort.grow (w.drewN n) os) :=
 ⟨⟨rfl, rfl, rfl, by simp [Sort.grow, World.drewN], fun k hk => by
  show (w.heap ++ os)[k]? = w.heap[k]?
  rw [Array.getElem?_append_left hk]⟩, Nat.le_add_right _ _⟩
theorem builderAt_keep {T e : TypeId} {B b : Nat} {p : Value} {bs : List Value} {w w' : World} (hb : Eng.Below w.heap.size w w') (h : Lib.BuilderAt T e B b p bs w) : Lib.BuilderAt T e B b p bs w' := by
 obtain ⟨hB, v, hbk, hown, hne⟩ := h
 refine ⟨hB, v, (hb.block b (block_lt hbk)).trans hbk, hown.kept (row := none) ⟨hb.os, hb.tape, hb.output, hb.size, fun k hk _ => hb.block k hk⟩ ?_, hne⟩
 cases v.ownBlock with
 | none => exact .inl rfl
 | some g => exact .inr (by simp)
theorem isBuilder_keep {T e : TypeId} {B b : Nat} {bs : List Value} {w w' : World} (hb : Eng.Below w.heap.size w w') (h : Lib.IsBuilder T e B b bs w) : Lib.IsBuilder T e B b bs w' := h.imp (builderAt_keep hb) (builderAt_keep hb)
theorem below_up {B : Nat} {w w' w'' : World} (h : Eng.Below B w w') (k : Eng.Below w'.heap.size w' w'') (hB : B ≤ w'.heap.size) : Eng.Below B w w'' := h.trans (k.mono hB)
theorem globTab : Tryd.prog.globalNamed "internal/strconv.uint64pow10" = some 0 := by kernel_rfl
set_option maxHeartbeats 6400000 in
set_option maxRecDepth 100000 in
theorem key_walk (l : List Int) (h0 : l ≠ []) (ad : Addr) (c : Nat) (w : World) (hl : l.length ≤ 1000000) (hr : ∀ x ∈ l, -9223372036854775808 ≤ x ∧ x ≤ 9223372036854775807)
  (hlt : ad.block < w.heap.size) (hcell : ∀ k, k < l.length → w.cell? (ad.add k) = some (.int .i64 (l.getD k 0)))
  (hgl : 0 < w.heap.size) (htab : Lib.TabIs Tryd.prog w "internal/strconv.uint64pow10" .u64 Lib.pow10Tab) :
  Calls Tryd.prog 51 #[.slice (some ad) l.length c] w fun e w' => e = .returned (.string ⟨(keyB l).toArray⟩) ∧ Eng.Below w.heap.size w w' := by
 have hne : keyB l ≠ [] := by
  cases l with
  | nil => exact absurd rfl h0
  | cons a t => simp [keyB]
 have hI0 : Lib.IsBuilder 123 5 w.heap.size w.heap.size [] (w.alloc (.cells #[.pointer none, .slice none 0 0] 123)) := Lib.fresh_isBuilder _ _ w
 have hb0 : Eng.Below w.heap.size w (w.alloc (.cells #[.pointer none, .slice none 0 0] 123)) := (Eng.Below.refl _ w).alloc (Nat.le_refl _) _
 go_enter Tryd.func51, Tryd.ntmps51
 go_wp2
 go_loopw [8] (fun i wr => ∃ k : Nat, k ≤ l.length ∧ i = .int .i64 k ∧ Lib.IsBuilder 123 5 w.heap.size w.heap.size (Lib.byteCells (keyB (l.take k))) wr ∧ Eng.Below w.heap.size w wr)
  (fun i wr => l.length - (intOf i).toNat)
 case atStart => exact ⟨0, Nat.zero_le _, rfl, hI0, hb0⟩
 case round =>
  obtain ⟨k, hk, rfl, hI, hb⟩ := hrel
  have hs := hb.size
  by_cases hlk : k < l.length
  ·have hc : wr.cell? (ad.add k) = some (.int .i64 (l.getD k 0)) := by
    rw [World.cell?_of_block (w := w) (by rw [Eng.block_add]; exact hb.block _ hlt)]
    exact hcell k hlk
   have hx := hr _ (getD_mem l k 0 hlk)
   have ht := tab_keep globTab hb hgl htab
   have hsucc := keyB_succ l k hlk
   have hkl := keyB_length (l.take k) fun x hx => hr x (List.mem_of_mem_take hx)
   have hil := Lib.itoa_length_le _ hx.1 hx.2
   have htk : (l.take k).length = k := by simp; omega
   have hlt' : ((k : Int) < (l.length : Int)) := by omega
   generalize l.getD k 0 = x at *
   clear hI0 hb0 hcell
   go_wp2_with (go_at_call 73; refine (Tryd.strconv_Itoa x hx.1 hx.2 _ ht).mono ?_; rintro e W1 ⟨rfl, kk, os, rfl⟩)
   have hg := grow_below wr kk os
   have hI1 := isBuilder_keep hg hI
   have hb1 := below_up hb hg hs
   have hs1 := hb1.size
   clear hI hb ht hc
   generalize Sort.grow (wr.drewN kk) os = W1 at *
   have hsz : (⟨(Lib.itoa x).toArray⟩ : ByteArray).size = (Lib.itoa x).length := by simp [ByteArray.size]
   have hsc : Lib.strCells ⟨(Lib.itoa x).toArray⟩ = Lib.byteCells (Lib.itoa x) := by rw [Lib.strCells_eq]
   go_wp2_with (go_at_call 72; refine (WriteString_b w.heap.size w.heap.size _ _ _ hI1 (by rw [Lib.byteCells_length, hsz]; omega) hs1).mono ?_; rintro e W2 ⟨rfl, hI2, hb2⟩)
   rw [hsc, ← Lib.byteCells_append] at hI2
   have hs2 := hb2.size
   have hlen2 : (keyB (l.take k) ++ Lib.itoa x).length ≤ 22 * l.length + 22 := by simp only [List.length_append]; omega
   go_wp2_with (go_at_call 74; refine (WriteByte_b w.heap.size w.heap.size _ _ _ (.inr hI2) (by rw [Lib.byteCells_length]; omega) (by omega)).mono ?_; rintro e W3 ⟨rfl, hI3, hb3⟩)
   have e32 : (Lib.byteCells (keyB (l.take k) ++ Lib.itoa x) ++ [Value.int .u8 32]) = Lib.byteCells (keyB (l.take (k + 1))) := by
    rw [hsucc]; simp [Lib.byteCells]
   rw [e32] at hI3
   go_wp2
   go_roundw
   case rel => exact ⟨k + 1, by omega, by go_num, .inr hI3, hb1.trans (hb2.trans hb3)⟩
   case measure => simp [intOf]; omega
  ·have hkl : k = l.length := by omega
   subst hkl
   rw [List.take_length] at hI
   go_wp2_with (go_at_call 75; refine (String_b w.heap.size w.heap.size (keyB l) _ hI hne).mono ?_; rintro e W2 ⟨rfl, hb2⟩)
   go_wp2
   go_ret
   exact ⟨rfl, hb.trans hb2⟩
theorem tab_of {w : World} {M : Nat → Prop} (hM : MOk w M []) : 0 < w.heap.size ∧ Lib.TabIs Tryd.prog w "internal/strconv.uint64pow10" .u64 Lib.pow10Tab := by
 obtain ⟨h1, _, e, fz, h3⟩ := hM.2 _ (List.mem_singleton.2 rfl)
 refine ⟨h1, ?_⟩
 unfold Lib.TabIs World.var?
 rw [globTab]
 simp only [Option.bind_some]
 have h3' : w.heap[0]? = some (.cells (Lib.pow10Tab.map fun z => Value.int .u64 z).toArray e fz) := h3
 rw [h3']
theorem key_c (l : List Int) (h0 : l ≠ []) (hl : l.length ≤ 1000000) (hr : ∀ x ∈ l, -9223372036854775808 ≤ x ∧ x ≤ 9223372036854775807) : ACalls Tryd.prog 51 [.one (.list (ints l))] (.one (.str (keyB l))) [] := by
 refine ⟨by kernel_rfl, fun w M vs hM hv => ?_⟩
 obtain ⟨v, rest, rfl, h1, h2⟩ := hv
 obtain rfl : rest = [] := h2
 obtain ⟨A, c, rfl, _, _, h3⟩ : ∃ A c, v = .slice A (ints l).length c ∧ (ints l).length ≤ c ∧ c ≤ maxLen ∧ ((ints l) = [] ∨ ∃ ad sz, A = some ad ∧ ad.block < w.heap.size ∧ ¬ M ad.block ∧ RepRows w M ad sz 0 (ints l)) := h1
 rcases h3 with h3 | ⟨ad, sz, rfl, hlt, _, hrows⟩
 ·exact absurd (List.map_eq_nil_iff.1 h3) h0
 obtain ⟨hg, ht⟩ := tab_of hM
 rw [ints_length]
 refine (key_walk l h0 ad c w hl hr hlt (fun k hk => ?_) hg ht).mono ?_
 ·obtain ⟨us, q1, q2, q3⟩ := RepRows.get (ints l) 0 hrows k [.int .i64 (l.getD k 0)] (by simp [ints, List.getD, List.getElem?_eq_getElem hk])
  obtain ⟨u, rest, rfl, q4, q5⟩ := q3
  obtain rfl : rest = [] := q5
  obtain rfl : u = .int .i64 (l.getD k 0) := q4
  have := q2 0 _ rfl
  simp only [List.length_singleton] at q1
  rw [← q1] at this
  simpa using this
 ·rintro e w' ⟨rfl, hb⟩
  exact ⟨_, [], rfl, hb, rfl, fun t o x ho => by simp at ho, fun g hg => (owned_none hg).elim, fun t t' x x' g h1 => by simp at h1, rfl⟩
end Go.Proofs.YtljpfdehnjemlaaDoor
