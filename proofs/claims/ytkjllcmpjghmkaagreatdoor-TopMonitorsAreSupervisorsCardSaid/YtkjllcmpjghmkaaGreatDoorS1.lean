/-
 The search of a net, in plain Lean: markings as keys; nodes, edges; what is found.
-/
import Derived.Test.YtkjllcmpjghmkaaGreatDoorB1
import Derived.Test.YtkjllcmpjghmkaaGreatDoorSh
import Derived.Test.YtkjllcmpjghmkaaGreatDoorN1
import Derived.Lib.ItoaLen
import Derived.Test.YtkjllcmpjghmkaaGreatDoorN17
set_option linter.unusedSimpArgs false
set_option linter.unusedVariables false
namespace Go.Proofs.YtkjllcmpjghmkaaGreatDoor
open Go.RowKit Go.Eng
def keyB (l : List Int) : List UInt8 := l.flatMap fun x => Lib.itoa x ++ [32]
theorem zfg (l : List Int) (k : Nat) (h : k < l.length) : keyB (l.take (k + 1)) = keyB (l.take k) ++ (Lib.itoa (l.getD k 0) ++ [32]) := by
 rw [z07 l k 0 h, keyB, keyB, List.flatMap_append]
 simp
theorem zgy {w w' : World} {B : Nat} {g : Nat} {zs : List Int} (hg : Tryz.prog.globalNamed "internal/strconv.uint64pow10" = some g) (hb : Eng.Below B w w') (hlt : g < B) (h : Lib.TabIs Tryz.prog w "internal/strconv.uint64pow10" .u64 zs) : Lib.TabIs Tryz.prog w' "internal/strconv.uint64pow10" .u64 zs := by
 unfold Lib.TabIs World.var? at *
 rw [hg] at h ⊢
 simp only [Option.bind_some] at h ⊢
 rw [hb.block g hlt]
 exact h
theorem zbk (l : List Int) (hr : ∀ x ∈ l, -9223372036854775808 ≤ x ∧ x ≤ 9223372036854775807) : (keyB l).length ≤ 22 * l.length := by
 induction l with
 | nil => simp [keyB]
 | cons a l ih =>
  have h1 := Lib.itoa_length_le a (hr a (by simp)).1 (hr a (by simp)).2
  have h2 := ih fun x hx => hr x (by simp [hx])
  simp only [keyB, List.flatMap_cons, List.length_append, List.length_cons, List.length_nil] at h2 ⊢
  omega
theorem zdK (w : World) (n : Nat) (os : Array Obj) : Eng.Below w.heap.size w (Sort.grow (w.drewN n) os) :=
 ⟨⟨rfl, rfl, rfl, by simp [Sort.grow, World.drewN], fun k hk => by
  show (w.heap ++ os)[k]? = w.heap[k]?
  rw [Array.getElem?_append_left hk]⟩, Nat.le_add_right _ _⟩
theorem z3M {T e : TypeId} {B b : Nat} {p : Value} {bs : List Value} {w w' : World} (hb : Eng.Below w.heap.size w w') (h : Lib.BuilderAt T e B b p bs w) : Lib.BuilderAt T e B b p bs w' := by
 obtain ⟨hB, v, hbk, hown, hne⟩ := h
 refine ⟨hB, v, (hb.block b (z9a hbk)).trans hbk, hown.kept (row := none) ⟨hb.os, hb.tape, hb.output, hb.size, fun k hk _ => hb.block k hk⟩ ?_, hne⟩
 cases v.ownBlock with
 | none => exact .inl rfl
 | some g => exact .inr (by simp)
theorem z7A {T e : TypeId} {B b : Nat} {bs : List Value} {w w' : World} (hb : Eng.Below w.heap.size w w') (h : Lib.IsBuilder T e B b bs w) : Lib.IsBuilder T e B b bs w' := h.imp (z3M hb) (z3M hb)
theorem zhD {B : Nat} {w w' w'' : World} (h : Eng.Below B w w') (k : Eng.Below w'.heap.size w' w'') (hB : B ≤ w'.heap.size) : Eng.Below B w w'' := h.trans (k.mono hB)
theorem zfv : Tryz.prog.globalNamed "internal/strconv.uint64pow10" = some 0 := by kernel_rfl
set_option maxHeartbeats 6400000 in
set_option maxRecDepth 100000 in
theorem zhe (l : List Int) (h0 : l ≠ []) (ad : Addr) (c : Nat) (w : World) (hl : l.length ≤ 1000000) (hr : ∀ x ∈ l, -9223372036854775808 ≤ x ∧ x ≤ 9223372036854775807)
  (hlt : ad.block < w.heap.size) (hcell : ∀ k, k < l.length → w.cell? (ad.add k) = some (.int .i64 (l.getD k 0)))
  (hgl : 0 < w.heap.size) (htab : Lib.TabIs Tryz.prog w "internal/strconv.uint64pow10" .u64 Lib.pow10Tab) :
  Calls Tryz.prog 108 #[.slice (some ad) l.length c] w fun e w' => e = .returned (.string ⟨(keyB l).toArray⟩) ∧ Eng.Below w.heap.size w w' := by
 have hne : keyB l ≠ [] := by
  cases l with
  | nil => exact absurd rfl h0
  | cons a t => simp [keyB]
 have hI0 : Lib.IsBuilder 220 5 w.heap.size w.heap.size [] (w.alloc (.cells #[.pointer none, .slice none 0 0] 220)) := Lib.fresh_isBuilder _ _ w
 have hb0 : Eng.Below w.heap.size w (w.alloc (.cells #[.pointer none, .slice none 0 0] 220)) := (Eng.Below.refl _ w).alloc (Nat.le_refl _) _
 go_enter Tryz.func108, Tryz.ntmps108
 go_wp2
 go_loopw [8] (fun i wr => ∃ k : Nat, k ≤ l.length ∧ i = .int .i64 k ∧ Lib.IsBuilder 220 5 w.heap.size w.heap.size (Lib.byteCells (keyB (l.take k))) wr ∧ Eng.Below w.heap.size w wr)
  (fun i wr => l.length - (intOf i).toNat)
 case atStart => exact ⟨0, Nat.zero_le _, rfl, hI0, hb0⟩
 case round =>
  obtain ⟨k, hk, rfl, hI, hb⟩ := hrel
  have hs := hb.size
  by_cases hlk : k < l.length
  ·have hc : wr.cell? (ad.add k) = some (.int .i64 (l.getD k 0)) := by
    rw [World.cell?_of_block (w := w) (by rw [Eng.block_add]; exact hb.block _ hlt)]
    exact hcell k hlk
   have hx := hr _ (z01 l k 0 hlk)
   have ht := zgy zfv hb hgl htab
   have hsucc := zfg l k hlk
   have hkl := zbk (l.take k) fun x hx => hr x (List.mem_of_mem_take hx)
   have hil := Lib.itoa_length_le _ hx.1 hx.2
   have htk : (l.take k).length = k := by simp; omega
   have hlt' : ((k : Int) < (l.length : Int)) := by omega
   generalize l.getD k 0 = x at *
   clear hI0 hb0 hcell
   go_wp2_with (go_at_call 134; refine (Tryz.strconv_Itoa x hx.1 hx.2 _ ht).mono ?_; rintro e W1 ⟨rfl, kk, os, rfl⟩)
   have hg := zdK wr kk os
   have hI1 := z7A hg hI
   have hb1 := zhD hb hg hs
   have hs1 := hb1.size
   clear hI hb ht hc
   generalize Sort.grow (wr.drewN kk) os = W1 at *
   have hsz : (⟨(Lib.itoa x).toArray⟩ : ByteArray).size = (Lib.itoa x).length := by simp [ByteArray.size]
   have hsc : Lib.strCells ⟨(Lib.itoa x).toArray⟩ = Lib.byteCells (Lib.itoa x) := by rw [Lib.strCells_eq]
   go_wp2_with (go_at_call 133; refine (z9k w.heap.size w.heap.size _ _ _ hI1 (by rw [Lib.byteCells_length, hsz]; omega) hs1).mono ?_; rintro e W2 ⟨rfl, hI2, hb2⟩)
   rw [hsc, ← Lib.byteCells_append] at hI2
   have hs2 := hb2.size
   have hlen2 : (keyB (l.take k) ++ Lib.itoa x).length ≤ 22 * l.length + 22 := by simp only [List.length_append]; omega
   go_wp2_with (go_at_call 135; refine (zbS w.heap.size w.heap.size _ _ _ (.inr hI2) (by rw [Lib.byteCells_length]; omega) (by omega)).mono ?_; rintro e W3 ⟨rfl, hI3, hb3⟩)
   have e32 : (Lib.byteCells (keyB (l.take k) ++ Lib.itoa x) ++ [Value.int .u8 32]) = Lib.byteCells (keyB (l.take (k + 1))) := by
    rw [hsucc]; simp [Lib.byteCells]
   rw [e32] at hI3
   go_wp2
   go_roundw
   case rel => exact ⟨k + 1, by omega, by go_num, .inr hI3, hb1.trans (hb2.trans hb3)⟩
   case measure => simp [intOf]; omega
  ·have hkl : k = l.length := by omega
   subst hkl
   rw [List.take_length] at hI
   go_wp2_with (go_at_call 136; refine (zhN w.heap.size w.heap.size (keyB l) _ hI hne).mono ?_; rintro e W2 ⟨rfl, hb2⟩)
   go_wp2
   go_ret
   exact ⟨rfl, hb.trans hb2⟩
theorem zjm {w : World} {M : Nat → Prop} (hM : MOk w M []) : 0 < w.heap.size ∧ Lib.TabIs Tryz.prog w "internal/strconv.uint64pow10" .u64 Lib.pow10Tab := by
 obtain ⟨h1, _, e, fz, h3⟩ := hM.2 _ (List.mem_singleton.2 rfl)
 refine ⟨h1, ?_⟩
 unfold Lib.TabIs World.var?
 rw [zfv]
 simp only [Option.bind_some]
 have h3' : w.heap[0]? = some (.cells (Lib.pow10Tab.map fun z => Value.int .u64 z).toArray e fz) := h3
 rw [h3']
theorem key_c (l : List Int) (h0 : l ≠ []) (hl : l.length ≤ 1000000) (hr : ∀ x ∈ l, -9223372036854775808 ≤ x ∧ x ≤ 9223372036854775807) : ACalls Tryz.prog 108 [.one (.list (ints l))] (.one (.str (keyB l))) [] := by
 refine ⟨by kernel_rfl, fun w M vs hM hv => ?_⟩
 obtain ⟨v, rest, rfl, h1, h2⟩ := hv
 obtain rfl : rest = [] := h2
 obtain ⟨A, c, rfl, _, _, h3⟩ : ∃ A c, v = .slice A (ints l).length c ∧ (ints l).length ≤ c ∧ c ≤ maxLen ∧ ((ints l) = [] ∨ ∃ ad sz, A = some ad ∧ ad.block < w.heap.size ∧ ¬ M ad.block ∧ RepRows w M ad sz 0 (ints l)) := h1
 rcases h3 with h3 | ⟨ad, sz, rfl, hlt, _, hrows⟩
 ·exact absurd (List.map_eq_nil_iff.1 h3) h0
 obtain ⟨hg, ht⟩ := zjm hM
 rw [z0r]
 refine (zhe l h0 ad c w hl hr hlt (fun k hk => ?_) hg ht).mono ?_
 ·obtain ⟨us, q1, q2, q3⟩ := RepRows.get (ints l) 0 hrows k [.int .i64 (l.getD k 0)] (by simp [ints, List.getD, List.getElem?_eq_getElem hk])
  obtain ⟨u, rest, rfl, q4, q5⟩ := q3
  obtain rfl : rest = [] := q5
  obtain rfl : u = .int .i64 (l.getD k 0) := q4
  have := q2 0 _ rfl
  simp only [List.length_singleton] at q1
  rw [← q1] at this
  simpa using this
 ·rintro e w' ⟨rfl, hb⟩
  exact ⟨_, [], rfl, hb, rfl, fun t o x ho => by simp at ho, fun g hg => (z3o hg).elim, fun t t' x x' g h1 => by simp at h1, rfl⟩
end Go.Proofs.YtkjllcmpjghmkaaGreatDoor
set_option linter.unusedSimpArgs false
set_option linter.unusedVariables false
namespace Go.Proofs.YtkjllcmpjghmkaaGreatDoor
open Go.Eng Go.RowKit
def z8d (l : List UInt8) : Nat := l.foldl (fun a b => 10 * a + (b.toNat - 48)) 0
theorem zbt (l : List UInt8) (b : UInt8) : z8d (l ++ [b]) = 10 * z8d l + (b.toNat - 48) := by simp [z8d, List.foldl_append]
theorem z73 (d : Nat) (h : d < 10) : (UInt8.ofNat (48 + d)).toNat = 48 + d := by
 simp [UInt8.toNat_ofNat']
 omega
theorem z8c (u : Nat) : z8d (Lib.decDigits u) = u := by
 induction u using Nat.strongRecOn with
 | ind u ih =>
  rw [Lib.decDigits]
  split
  ·rename_i h
   have e := z73 u h
   simp only [z8d, List.foldl_cons, List.foldl_nil, e]
   omega
  ·rename_i h
   rw [zbt, ih (u / 10) (by omega), z73 _ (Nat.mod_lt _ (by omega))]
   omega
theorem zcK (u : Nat) : ∀ b ∈ Lib.decDigits u, b ≠ 32 := by
 have hd : ∀ d : Nat, d < 10 → UInt8.ofNat (48 + d) ≠ 32 := fun d h e => by
  have := congrArg UInt8.toNat e
  rw [z73 d h] at this
  have e32 : (32 : UInt8).toNat = 32 := rfl
  omega
 induction u using Nat.strongRecOn with
 | ind u ih =>
  intro b hb
  rw [Lib.decDigits] at hb
  split at hb
  ·rename_i h
   rw [List.mem_singleton] at hb; subst hb
   exact hd u h
  ·rename_i h
   rcases List.mem_append.1 hb with hb | hb
   ·exact ih (u / 10) (by omega) b hb
   ·rw [List.mem_singleton] at hb; subst hb
    exact hd _ (Nat.mod_lt _ (by omega))
theorem zjU {l l' r r' : List UInt8} (h1 : ∀ b ∈ l, b ≠ 32) (h2 : ∀ b ∈ l', b ≠ 32) (h : l ++ 32 :: r = l' ++ 32 :: r') : l = l' ∧ r = r' := by
 induction l generalizing l' with
 | nil =>
  cases l' with
  | nil => simp at h; exact ⟨rfl, h⟩
  | cons b l' => simp at h; exact absurd h.1.symm (h2 b (by simp))
 | cons a l ih =>
  cases l' with
  | nil => simp at h; exact absurd h.1 (h1 a (by simp))
  | cons b l' =>
   simp only [List.cons_append, List.cons.injEq] at h
   obtain ⟨e1, e2⟩ := ih (fun b hb => h1 b (by simp [hb])) (fun b hb => h2 b (by simp [hb])) h.2
   exact ⟨by rw [h.1, e1], e2⟩
theorem zcB {x : Int} (h : 0 ≤ x) : Lib.itoa x = Lib.decDigits x.toNat := by rw [Lib.itoa, if_neg (by omega)]
theorem z8Y : ∀ (a b : List Int), (∀ x ∈ a, 0 ≤ x) → (∀ x ∈ b, 0 ≤ x) → keyB a = keyB b → a = b
 | [], [], _, _, _ => rfl
 | [], y :: b, _, _, h => by simp [keyB] at h
 | x :: a, [], _, _, h => by simp [keyB] at h
 | x :: a, y :: b, h1, h2, h => by
  have hx := h1 x (by simp)
  have hy := h2 y (by simp)
  simp only [keyB, List.flatMap_cons, List.append_assoc, List.cons_append, List.nil_append, zcB hx, zcB hy] at h
  obtain ⟨e1, e2⟩ := zjU (zcK _) (zcK _) h
  have e3 := congrArg z8d e1
  rw [z8c, z8c] at e3
  rw [z8Y a b (fun z hz => h1 z (by simp [hz])) (fun z hz => h2 z (by simp [hz])) e2, show x = y by omega]
structure SN where
 m : List Int
 before : Int
 tr : Int
 deriving DecidableEq
def SN.no : SN := ⟨[], 0, 0⟩
def SN.d (x : SN) : List D := [.list (ints x.m), .int .i64 x.before, .int .i64 x.tr]
def snsD (l : List SN) : List (List D) := l.map SN.d
theorem zde (l : List SN) : (snsD l).length = l.length := by simp [snsD]
theorem z1X {l : List SN} {k : Nat} (hk : k < l.length) (z : List D) : (snsD l).getD k z = [.list (ints (l.getD k SN.no).m), .int .i64 (l.getD k SN.no).before, .int .i64 (l.getD k SN.no).tr] := by
 simp only [snsD, List.getD, List.getElem?_map, List.getElem?_eq_getElem hk]; rfl
theorem zjp (l : List SN) : (∀ r : List D, r ∈ snsD l → r.length = 3) ↔ True := ⟨fun _ => trivial, fun _ r hr => by obtain ⟨e, _, rfl⟩ := List.mem_map.1 hr; rfl⟩
theorem zdf (xs ys : List SN) : snsD xs ++ snsD ys = snsD (xs ++ ys) := by simp [snsD]
theorem zij (m : List Int) (b t : Int) : [[D.list (ints m), D.int .i64 b, D.int .i64 t]] = snsD [⟨m, b, t⟩] := rfl
structure Edg where
 src : Int
 ev : Int
 dst : Int
 deriving DecidableEq
def Edg.no : Edg := ⟨0, 0, 0⟩
def Edg.d (x : Edg) : List D := [.int .i64 x.src, .int .i64 x.ev, .int .i64 x.dst]
def edgsD (l : List Edg) : List (List D) := l.map Edg.d
theorem z2O (l : List Edg) : (edgsD l).length = l.length := by simp [edgsD]
theorem z0p {l : List Edg} {k : Nat} (hk : k < l.length) (z : List D) : (edgsD l).getD k z = [.int .i64 (l.getD k Edg.no).src, .int .i64 (l.getD k Edg.no).ev, .int .i64 (l.getD k Edg.no).dst] := by
 simp only [edgsD, List.getD, List.getElem?_map, List.getElem?_eq_getElem hk]; rfl
theorem ziV (l : List Edg) : (∀ r : List D, r ∈ edgsD l → r.length = 3) ↔ True := ⟨fun _ => trivial, fun _ r hr => by obtain ⟨e, _, rfl⟩ := List.mem_map.1 hr; rfl⟩
theorem zbr (xs ys : List Edg) : edgsD xs ++ edgsD ys = edgsD (xs ++ ys) := by simp [edgsD]
attribute [go_sem] zde zjp z2O ziV
def z0P : Nat → List SN → List (AV × AV)
 | _, [] => []
 | i, x :: r => (.one (.str (keyB x.m)), .one (.int .i64 i)) :: z0P (i + 1) r
def fndF (m : List Int) : Nat → List SN → Option Nat
 | _, [] => none
 | i, x :: r => if x.m = m then some i else fndF m (i + 1) r
theorem zal (a b : List UInt8) : eqKey (.one (.str a)) (.one (.str b)) = (a == b) := rfl
theorem z5y {m : List Int} (hm : ∀ x ∈ m, 0 ≤ x) : ∀ (l : List SN) (i : Nat), (∀ x ∈ l, ∀ y ∈ x.m, 0 ≤ y) → z0q (.one (.str (keyB m))) (z0P i l) = (fndF m i l).map fun (k : Nat) => AV.one (.int .i64 (k : Int))
 | [], i, _ => rfl
 | x :: r, i, h => by
  simp only [z0P, z0q, fndF, zal, beq_iff_eq]
  by_cases e : x.m = m
  ·rw [if_pos e, if_pos (by rw [e])]; rfl
  ·rw [if_neg e, if_neg fun e' => e (z8Y _ _ (h x (by simp)) hm e'.symm)]
   exact z5y hm r (i + 1) fun y hy => h y (by simp [hy])
theorem z6o {m : List Int} {before tr : Int} (hm : ∀ x ∈ m, 0 ≤ x) : ∀ (l : List SN) (i : Nat), (∀ x ∈ l, ∀ y ∈ x.m, 0 ≤ y) → fndF m i l = none → setKV (.one (.str (keyB m))) (.one (.int .i64 ((i + l.length : Nat) : Int))) (z0P i l) = z0P i (l ++ [⟨m, before, tr⟩])
 | [], i, _, _ => rfl
 | x :: r, i, h, hn => by
  simp only [fndF] at hn
  split at hn
  ·cases hn
  ·rename_i e
   simp only [z0P, setKV, zal, beq_iff_eq, List.cons_append]
   rw [if_neg fun e' => e (z8Y _ _ (h x (by simp)) hm e'.symm)]
   congr 1
   have := z6o (before := before) (tr := tr) hm r (i + 1) (fun y hy => h y (by simp [hy])) hn
   rw [← this]
   congr 3
   simp only [List.length_cons]; omega
theorem z94 (t : Nat) (o : AObj) (kd : KeyKind) : ∀ (l : List SN) (i : Nat), AObj.fz t o (.map kd (z0P i l)) = .map kd (z0P i l)
 | [], i => rfl
 | x :: r, i => by
  have := z94 t o kd r (i + 1)
  simp only [AObj.fz, z0P, List.map_cons, AObj.map.injEq, true_and] at this ⊢
  rw [this]; rfl
theorem z6w (f : Nat → Option Nat) (kd : KeyKind) : ∀ (l : List SN) (i : Nat), AObj.ren f (.map kd (z0P i l)) = .map kd (z0P i l)
 | [], i => rfl
 | x :: r, i => by
  have := z6w f kd r (i + 1)
  simp only [AObj.ren, z0P, List.map_cons, AObj.map.injEq, true_and] at this ⊢
  rw [this]; rfl
theorem z8U (m : Nat) (kd : KeyKind) : ∀ (l : List SN) (i : Nat), (AObj.map kd (z0P i l)).tagsLt m = true
 | [], i => rfl
 | x :: r, i => by
  have := z8U m kd r (i + 1)
  simp only [AObj.tagsLt, z0P, List.all_cons, Bool.and_eq_true] at this ⊢
  exact ⟨⟨rfl, rfl⟩, this⟩
theorem zdi (f : Nat → Option Nat) (l : List SN) (i : Nat) : (z0P i l).map (fun kv => (kv.1.ren f, kv.2.ren f)) = z0P i l := by
 have := z6w f .str l i
 simp only [AObj.ren, AObj.map.injEq, true_and] at this
 exact this
theorem zfy (t : Nat) (o : AObj) (l : List SN) (i : Nat) : (z0P i l).map (fun kv => (kv.1.fz t o, kv.2.fz t o)) = z0P i l := by
 have := z94 t o .str l i
 simp only [AObj.fz, AObj.map.injEq, true_and] at this
 exact this
theorem zf4 (m : Nat) (l : List SN) (i : Nat) : ((z0P i l).all fun kv => kv.1.tagsLt m && kv.2.tagsLt m) = true := z8U m .str l i
attribute [go_sem ↓] z94 z6w z8U zdi zfy zf4
theorem zfA {m : List Int} : ∀ {l : List SN} {i k : Nat}, fndF m i l = some k → i ≤ k ∧ k < i + l.length
 | [], _, _, h => by cases h
 | x :: r, i, k, h => by
  simp only [fndF] at h
  split at h
  ·cases h; simp
  ·have := zfA h
   simp only [List.length_cons]; omega
def leqB : List Int → List Int → Bool
 | x :: a, y :: b => decide (x ≤ y) && leqB a b
 | _, _ => true
def pumpF (l : List SN) (last : List Int) : Nat → Int → Int → Int
 | 0, _, first => first
 | f + 1, i, first => if 0 ≤ i then pumpF l last f (l.getD i.toNat SN.no).before (if leqB (l.getD i.toNat SN.no).m last = true then i else first) else first
def z0D (l : List SN) : Int := pumpF l (l.getD (l.length - 1) SN.no).m (l.length + 1) (l.getD (l.length - 1) SN.no).before (-1)
inductive SOut where
 | err (e : Int)
 | pump (nodes : List SN) (edges : List Edg) (p : Int)
 | cont (nodes : List SN) (edges : List Edg)
def stepF (n : Net) (lim : Nat) (i : Nat) (t : Int) (nodes : List SN) (edges : List Edg) : SOut :=
 let m := z05 (n.trs.getD t.toNat Tr.no) (nodes.getD i SN.no).m
 if m.any tokB = true then .err 3
 else match fndF m 0 nodes with
  | some k => .cont nodes (edges ++ [⟨i, t, k⟩])
  | none =>
   let nodes' := nodes ++ [⟨m, i, t⟩]
   if 0 ≤ z0D nodes' then .pump nodes' edges (z0D nodes') else if lim < nodes'.length then .err 3 else .cont nodes' (edges ++ [⟨i, t, nodes.length⟩])
def z0t (n : Net) (lim : Nat) (i : Nat) : List Int → List SN → List Edg → SOut
 | [], nodes, edges => .cont nodes edges
 | t :: ts, nodes, edges => match stepF n lim i t nodes edges with
  | .cont nodes' edges' => z0t n lim i ts nodes' edges'
  | r => r
def z0x (n : Net) (lim : Nat) : Nat → Nat → List SN → List Edg → SOut
 | 0, _, _, _ => .err 3
 | f + 1, i, nodes, edges => if i < nodes.length then
   match z0t n lim i (ableL n (nodes.getD i SN.no).m n.trs.length) nodes edges with
   | .cont nodes' edges' => z0x n lim f (i + 1) nodes' edges'
   | r => r
  else .cont nodes edges
def z0w (n : Net) (lim : Nat) : SOut := z0x n lim (lim + 2) 0 [⟨n.init, -1, -1⟩] []
end Go.Proofs.YtkjllcmpjghmkaaGreatDoor
