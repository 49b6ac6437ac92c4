/-
 Chapter 47: the events of a net.
-/
import Derived.Test.YtkjllcmpjghmkaaGreatDoorE3
import Derived.Shelf.GgSortFunc.Insertion
import Derived.Test.YtkjllcmpjghmkaaGreatDoorS4
import Derived.Test.YtkjllcmpjghmkaaGreatDoorSh2
import Derived.Lib.SlKept
import Derived.Lib.RowBridge
import Derived.Lib.SliceRun
import Derived.Deep.LoopGhost
import Derived.Test.YtkjllcmpjghmkaaGreatDoorS8
import Derived.Test.YtkjllcmpjghmkaaGreatDoorS6
set_option linter.unusedSimpArgs false
set_option linter.unusedVariables false
namespace Go.Eng
open Go.RowKit Go.Sort Go.Lib Go.Proofs
theorem z91 {w w' : World} (h : Go.Eng.Below w.heap.size w w') : ∃ q os, w' = grow (w.drewN q) os := by
 obtain ⟨⟨h1, h2, h3, h4, h5⟩, h6⟩ := h
 refine ⟨w'.drawn - w.drawn, w'.heap.extract w.heap.size w'.heap.size, ?_⟩
 obtain ⟨hp, tp, dr, os, out⟩ := w
 obtain ⟨hp', tp', dr', os', out'⟩ := w'
 simp only at h1 h2 h3 h4 h5 h6
 subst h1 h2 h3
 have e : hp' = hp ++ hp'.extract hp.size hp'.size := by
  apply Array.ext_getElem?
  intro k
  by_cases hk : k < hp.size
  ·rw [Array.getElem?_append_left hk, h5 k hk]
  ·rw [Array.getElem?_append_right (by omega), Array.getElem?_extract]
   split
   ·congr 1; omega
   ·rw [Array.getElem?_eq_none (by omega)]
 have e2 : dr + (dr' - dr) = dr' := by omega
 simp only [grow, World.drewN]
 rw [← e, e2]
variable {α : Type} [Inhabited α]
theorem z2d {enc : α → Value} {w : World} {g off m : Nat} {dk : Array α} {os : Array Obj} {cur : Array Value} {e : TypeId} {fz : Nat × Nat} (h : w.heap[g]? = some (.cells cur e fz)) :
  (sortWorld enc w g off m dk os).heap[g]? = some (.cells (putCells enc off dk cur) e fz) := by
 have hlt : g < w.heap.size := (Array.getElem?_eq_some_iff.1 h).1
 unfold sortWorld grow putRow mapBlock Sort.ahead
 simp only
 rw [Array.getElem?_append_left (by simpa using hlt), Array.getElem?_modify, if_pos rfl, h]
 rfl
theorem z1W {enc : α → Value} {w : World} {g off m k : Nat} {dk : Array α} {os : Array Obj} (hk : k < w.heap.size) (hne : k ≠ g) : (sortWorld enc w g off m dk os).heap[k]? = w.heap[k]? := by
 unfold sortWorld grow putRow mapBlock Sort.ahead
 simp only
 rw [Array.getElem?_append_left (by simpa using hk), Array.getElem?_modify, if_neg (fun e => hne e.symm)]
theorem z1t {enc : α → Value} {w : World} {g off m : Nat} {dk : Array α} {os : Array Obj} : w.heap.size ≤ (sortWorld enc w g off m dk os).heap.size := by
 unfold sortWorld grow putRow mapBlock Sort.ahead
 simp
theorem z2S {enc : α → Value} {w : World} {g off m : Nat} {dk : Array α} {os : Array Obj} {X : Nat → Prop} (hX : X g) : BelowX X w (sortWorld enc w g off m dk os) :=
 ⟨rfl, rfl, rfl, z1t, fun k hk hx => z1W hk (fun e => hx (e ▸ hX)), Nat.le_add_right _ _⟩
theorem z4l (enc : α → Value) (off : Nat) (d : Array α) (c : Array Value) : (putCells enc off d c).size = c.size := by simp [putCells]
theorem z5p (enc : α → Value) (d : Array α) (c : Array Value) (j : Nat) (hj : j < d.size) (hc : j < c.size) : (putCells enc 0 d c)[j]? = some (enc d[j]!) := by
 simp only [putCells, Array.getElem?_mapIdx, Array.getElem?_eq_getElem hc, Option.map_some]
 rw [if_pos ⟨by omega, by omega⟩, Nat.sub_zero]
theorem z3I {enc : α → Value} {w : World} {g : Nat} {d : Array α} {cur : Array Value} {e : TypeId} (h : w.heap[g]? = some (.cells cur e (0, 0))) (hd : ∀ j, j < d.size → cur[j]? = some (enc d[j]!)) : Holds enc w g 0 d := by
 intro j hj
 constructor
 ·unfold World.cell?
  simp only [h, Nat.zero_add]
  exact hd j hj
 ·unfold World.frozen?
  simp [h]
theorem resM_row {w w' : World} {M0 : Nat → Prop} {g n c e p : Nat} {rows' : List (List D)} {cur' : Array Value} {r : AV} {v : Value}
  (hg : ¬ M0 g ∧ g < w.heap.size) (hn' : rows'.length ≤ c) (hp : p = 0 ∨ rows'.length = n) (hc : 0 < c) (hcm : c ≤ maxLen)
  (hw : BelowX (fun k => k = g) w w') (h1 : w'.heap[g]? = some (.cells cur' e (0, 0))) (h2 : cur'.size = c * 1)
  (h3 : RepRows w' (fun k => M0 k ∨ k = g) ⟨g, 0, none⟩ 1 0 rows')
  (hv : ∀ M β, β = [.slice (some ⟨g, 0, none⟩) rows'.length c] → RepV w' M β r v) (hp1 : p ≤ 1) :
  ∃ v' β, Ending.returned v = .returned v' ∧ ResM w w' M0 [.slice (some ⟨g, 0, none⟩) n c] p r [.row e 1 rows'] v' β := by
 have hb : ∀ m, hblk (.slice (some ⟨g, 0, none⟩) m c) = some g := fun m => hblk_row hc
 have ho : ∀ m k, owned [.slice (some ⟨g, 0, none⟩) m c] k ↔ k = g := by
  intro m k
  constructor
  ·rintro ⟨t, h, ht, hh⟩
   cases t with
   | zero => simp at ht; subst ht; rw [hb] at hh; simpa using hh.symm
   | succ t => simp at ht
  ·rintro rfl
   exact ⟨0, _, rfl, hb m⟩
 refine ⟨v, [.slice (some ⟨g, 0, none⟩) rows'.length c], rfl, ?_, rfl, ?_, ?_, ?_, ?_, hv _ _ rfl⟩
 ·exact ⟨hw.os, hw.tape, hw.output, hw.size, fun k hk hx => hw.block k hk (fun e => hx ((ho _ _).2 e)), hw.drawn⟩
 ·intro t ht
  have : t = 0 := by omega
  subst this
  rcases hp with h | h
  ·omega
  ·rw [h]
 ·intro t o h hto hth
  cases t with
  | succ t => simp at hto
  | zero =>
   simp at hto hth
   subst hto hth
   refine ⟨_, c, rfl, hn', hcm, .inr ⟨hc, g, cur', rfl, h1, h2, ?_⟩⟩
   have : Mof M0 [.slice (some ⟨g, 0, none⟩) rows'.length c] = fun k => M0 k ∨ k = g := by
    funext k
    unfold Mof
    rw [ho]
   rw [this]
   exact h3
 ·intro k hk
  have := (ho _ _).1 hk
  subst this
  exact ⟨.inl ((ho _ _).2 rfl), Nat.lt_of_lt_of_le hg.2 hw.size⟩
 ·intro t t' x x' g' h1 h2 _ _
  cases t <;> cases t' <;> simp at h1 h2 ⊢
section
variable {w : World} {M0 : Nat → Prop} {F : List Value} {e : TypeId} {rows : List (List D)} {v : Value}
theorem zhY (hp : MPre w M0 F [.row e 1 rows]) (hv : RepV w (Mof M0 F) F (.one (.own 0)) v) :
  ∃ A c, F = [.slice A rows.length c] ∧ v = .slice A rows.length c ∧ rows.length ≤ c ∧ c ≤ maxLen ∧ (c = 0 ∨ 0 < c ∧ ∃ g cur, A = some ⟨g, 0, none⟩ ∧ (¬ M0 g ∧ g < w.heap.size) ∧
   w.heap[g]? = some (.cells cur e (0, 0)) ∧ cur.size = c * 1 ∧ RepRows w (Mof M0 F) ⟨g, 0, none⟩ 1 0 rows ∧ ∀ k, Mof M0 F k ↔ (M0 k ∨ k = g)) := by
 obtain ⟨h, rfl⟩ : ∃ h, F = [h] := List.length_eq_one_iff.1 hp.len
 have ho := hp.objs 0 _ h rfl rfl
 have hv0 := z0u (e := e) (sz := 1) (rows := rows) hv (fun x hx => by simp at hx; subst hx; exact ho)
 simp at hv0
 subst hv0
 obtain ⟨A, c, h1, h2, h3, h4⟩ := ho
 subst h1
 refine ⟨A, c, rfl, rfl, h2, h3, ?_⟩
 rcases h4 with h4 | ⟨hc0, g, cur, rfl, h5, h6, h7⟩
 ·exact .inl h4
 ·have hbl : hblk (.slice (some ⟨g, 0, none⟩) rows.length c) = some g := hblk_row hc0
  have hown : owned [.slice (some ⟨g, 0, none⟩) rows.length c] g := ⟨0, _, rfl, hbl⟩
  refine .inr ⟨hc0, g, cur, rfl, hp.out g hown, h5, h6, h7, fun k => ?_⟩
  unfold Mof
  constructor
  ·rintro (h | ⟨t, x, ht, hx⟩)
   ·exact .inl h
   ·cases t with
    | zero => simp at ht; subst ht; rw [hbl] at hx; exact .inr (by simpa using hx.symm)
    | succ t => simp at ht
  ·rintro (h | rfl)
   ·exact .inl h
   ·exact .inr hown
theorem zeD {p : Nat} {r : AV} {v : Value} (hp : MPre w M0 F [.row e 1 rows]) (hv : RepV w (Mof M0 F) F r v) : ∃ v' β, Ending.returned v = .returned v' ∧ ResM w w M0 F p r [.row e 1 rows] v' β :=
 ⟨v, F, rfl, BelowX.refl _ _, hp.len, fun _ _ => rfl, hp.objs, fun g hg => ⟨.inl hg, (hp.out g hg).2⟩, hp.dist, hv⟩
theorem z2Y {enc : α → Value} {w : World} {g m : Nat} {dk : Array α} {os : Array Obj} {M : Nat → Prop} (hM : M g) : Keeps w M (sortWorld enc w g 0 m dk os) M :=
 ⟨z1t, fun k hk hm => z1W hk (fun e => hm (e ▸ hM)), fun _ _ h => h⟩
theorem z6v {enc : α → Value} {d' : Array α} {os : Array Obj} {q g n c p : Nat} {cur : Array Value} {rows' : List (List D)} {r : AV} {v : Value}
  (hg : ¬ M0 g ∧ g < w.heap.size) (hn' : rows'.length ≤ c) (hp : p = 0 ∨ rows'.length = n) (hc : 0 < c) (hcm : c ≤ maxLen)
  (h1 : w.heap[g]? = some (.cells cur e (0, 0))) (h2 : cur.size = c * 1)
  (hrep : ∀ (j : Nat) (x : List D), rows'[j]? = some x → j < d'.size ∧ RepL w (fun k => M0 k ∨ k = g) x [enc d'[j]!])
  (hv : ∀ w' M β, β = [.slice (some ⟨g, 0, none⟩) rows'.length c] → RepV w' M β r v) (hp1 : p ≤ 1) :
  ∃ v' β, Ending.returned v = .returned v' ∧ ResM w (sortWorld enc w g 0 q d' os) M0 [.slice (some ⟨g, 0, none⟩) n c] p r [.row e 1 rows'] v' β := by
 refine resM_row hg hn' hp hc hcm (z2S rfl) (z2d h1) (by rw [z4l]; exact h2) ?_ (fun M β hb => hv _ M β hb) hp1
 refine RepRows.of_get _ _ fun i x hx => ?_
 obtain ⟨hi, hr⟩ := hrep i x hx
 have hlt : i < rows'.length := (List.getElem?_eq_some_iff.1 hx).1
 refine ⟨[enc d'[i]!], rfl, ?_, RepL.keep (z2Y (.inr rfl)) _ _ hr⟩
 intro j u hu
 cases j with
 | succ j => simp at hu
 | zero =>
  simp at hu
  subst hu
  have hat := z2d (enc := enc) (off := 0) (m := q) (dk := d') (os := os) h1
  rw [add_lit]
  unfold World.cell?
  simp only [hat]
  rw [show 0 + (0 + i * 1 + 0) = i by omega]
  exact z5p enc d' cur i hi (by omega)
theorem z8y {enc : α → Value} {w : World} {g q : Nat} {d : Array α} : putRow enc (Sort.ahead w q) g 0 d = sortWorld enc w g 0 q d #[] := by
 unfold sortWorld
 rw [grow_empty]
theorem zh1 {M' : Nat → Prop} (h : MOk w M0 F) (hs : ∀ g, M' g → g < w.heap.size) (hm : ∀ g, M' g → Mof M0 F g) : MOk w M' [] :=
 ⟨hs, fun x hx => by
  obtain ⟨h1, ⟨h2, h3⟩, h4⟩ := h.2 x hx
  refine ⟨h1, ⟨fun hm' => ?_, fun ⟨t, y, ht, _⟩ => by simp at ht⟩, h4⟩
  rcases hm _ hm' with h | h
  ·exact h2 h
  ·exact h3 h⟩
theorem zdt {M' : Nat → Prop} {enc : α → Value} {g m : Nat} {dk : Array α} {os : Array Obj} (h : MOk w M' []) (hg : M' g) : MOk (sortWorld enc w g 0 m dk os) M' [] :=
 ⟨fun k hk => Nat.lt_of_lt_of_le (h.1 k hk) z1t, fun x hx => by
  obtain ⟨h1, h2, e, fz, h4⟩ := h.2 x hx
  exact ⟨Nat.lt_of_lt_of_le h1 z1t, h2, e, fz, (z1W h1 (fun e' => h2.1 (e' ▸ hg))).trans h4⟩⟩
theorem zdo {P : Program} {f : FuncId} (h : okFn P f = true) : ∀ args w, (callFunc f args).run P w = .ok (.enter f args) w := by
 intro args w
 unfold okFn at h
 cases hfn : P.funcs[f]? with
 | none => rw [hfn] at h; cases h
 | some fn =>
  rw [hfn] at h
  simp only [Bool.and_eq_true, bne_iff_ne] at h
  obtain ⟨c, hbody⟩ : ∃ c, fn.body = some c := by
   cases hb : fn.body with
   | none => rw [hb] at h; simp at h
   | some c => exact ⟨c, rfl⟩
  simp [callFunc, hfn, h.1, hbody]
end
end Go.Eng
set_option linter.unusedSimpArgs false
set_option linter.unusedVariables false
namespace Go.Proofs.YtkjllcmpjghmkaaGreatDoor
open Go.RowKit Go.Eng Go.Sort Go.Lib Go.Proofs
theorem ziz {n c g : Nat} : ∀ (w' : World) (M : Nat → Prop) (β : List Value), β = [.slice (some ⟨g, 0, none⟩) n c] → RepV w' M β (.one (.own 0)) (.slice (some ⟨g, 0, none⟩) n c) := by
 rintro w' M β rfl
 exact ⟨.inl rfl, rfl⟩
theorem zdG {w : World} {M : Nat → Prop} {g c : Nat} {e : TypeId} {cur : Array Value} {l : List Int} (h5 : w.heap[g]? = some (.cells cur e (0, 0))) (h7 : RepRows w M ⟨g, 0, none⟩ 1 0 (ints l)) :
  ∀ j, j < l.length → cur[j]? = some (.int .i64 (l.getD j 0)) := by
 intro j hj
 obtain ⟨us, q1, q2, q3⟩ := RepRows.get (ints l) 0 h7 j [.int .i64 (l.getD j 0)] (by simp [ints, List.getD, List.getElem?_eq_getElem hj])
 obtain ⟨u, rest, rfl, q4, q5⟩ := q3
 obtain rfl : rest = [] := q5
 obtain rfl : u = .int .i64 (l.getD j 0) := q4
 have := q2 0 _ rfl
 rw [add_lit] at this
 unfold World.cell? at this
 simp only [h5] at this
 rwa [show 0 + (0 + j * 1 + 0) = j by omega] at this
theorem z9d (l : List Int) (j : Nat) (h : j < l.length) : (l.toArray)[j]! = l.getD j 0 := by
 simp [getElem!_pos, List.getD, h]
theorem ints_holds {w : World} {M : Nat → Prop} {g : Nat} {e : TypeId} {cur : Array Value} {l : List Int} (h5 : w.heap[g]? = some (.cells cur e (0, 0))) (h7 : RepRows w M ⟨g, 0, none⟩ 1 0 (ints l)) : Holds (Value.int .i64) w g 0 l.toArray :=
 z3I h5 fun j hj => by
  have hj' : j < l.length := by simpa using hj
  rw [z9d l j hj']
  exact zdG (c := 0) h5 h7 j hj'
theorem zcC {w : World} {M : Nat → Prop} {l : List Int} {d : Array Int} (hl : ∀ j, j < l.length → j < d.size ∧ d[j]! = l.getD j 0) : ∀ (j : Nat) (x : List D), (ints l)[j]? = some x → j < d.size ∧ RepL w M x [Value.int .i64 d[j]!] := by
 intro j x hx
 have hj : j < l.length := by have := (List.getElem?_eq_some_iff.1 hx).1; simpa [z0r] using this
 obtain ⟨h1, h2⟩ := hl j hj
 refine ⟨h1, ?_⟩
 have : x = [.int .i64 (l.getD j 0)] := by
  simp [ints, List.getElem?_eq_getElem hj] at hx
  simp [← hx, List.getD, List.getElem?_eq_getElem hj]
 subst this
 rw [h2]
 exact ⟨_, [], rfl, rfl, rfl⟩
def sortI (l : List Int) : List Int := l.mergeSort fun x y => decide (x ≤ y)
theorem z1z (l : List Int) : (sortI l).length = l.length := (List.mergeSort_perm l _).length_eq
theorem zhU {w : World} {M : Nat → Prop} {β vs : List Value} {a : AV} (h : RepVL w M β [a] vs) : ∃ v, vs = [v] ∧ RepV w M β a v := by
 obtain ⟨v, rest, rfl, h1, h2⟩ := h
 obtain rfl : rest = [] := h2
 exact ⟨v, rfl, h1⟩
theorem zjj {w : World} {M : Nat → Prop} {β vs : List Value} {a b : AV} (h : RepVL w M β [a, b] vs) : ∃ v u, vs = [v, u] ∧ RepV w M β a v ∧ RepV w M β b u := by
 obtain ⟨v, rest, rfl, h1, h2⟩ := h
 obtain ⟨u, rest, rfl, h3, h4⟩ := h2
 obtain rfl : rest = [] := h4
 exact ⟨v, u, rfl, h1, h3⟩
theorem zec (l : List Int) (hl : l.length ≤ 1000000) : MCalls Tryz.prog 64 1 [.row 3 1 (ints l)] [.one (.own 0)] (.tup []) [.row 3 1 (ints (sortI l))] := by
 refine ⟨by kernel_rfl, rfl, fun w M0 F vs hM hp hv => ?_⟩
 obtain ⟨v, rfl, hv1⟩ := zhU hv
 obtain ⟨A, c, rfl, rfl, h2, h3, h4⟩ := zhY hp hv1
 rw [z0r] at *
 by_cases h0 : l.length = 0
 ·obtain rfl : l = [] := List.length_eq_zero_iff.1 h0
  refine (Tryz.slices_Sort_int_none A c w).mono ?_
  rintro e w' ⟨rfl, rfl⟩
  have e : sortI [] = [] := List.length_eq_zero_iff.1 (by rw [z1z]; rfl)
  rw [e]
  exact zeD hp ⟨[], rfl, rfl⟩
 ·rcases h4 with h4 | ⟨hc0, g, cur, rfl, hg, h5, h6, h7, h8⟩
  ·omega
  ·refine (Tryz.slices_Sort_int g 0 c l w (ints_holds h5 h7) hg.2 (by omega)).mono ?_
   rintro e w' ⟨rfl, q, os, rfl⟩
   refine z6v (enc := Value.int .i64) (d' := (sortI l).toArray) (q := q) (os := os) hg (by rw [z0r, z1z]; exact h2) (.inr (by rw [z0r, z1z])) hc0 h3 h5 h6 (zcC fun j hj => ⟨by simpa using hj, z9d _ _ hj⟩) (fun _ _ _ _ => ⟨[], rfl, rfl⟩) (Nat.le_refl _)
def compI (l : List Int) : List Int := Lib.compact l
theorem z9m (l : List Int) (hl : l.length ≤ 1000000) : MCalls Tryz.prog 65 0 [.row 3 1 (ints l)] [.one (.own 0)] (.one (.own 0)) [.row 3 1 (ints (compI l))] := by
 have hcl : (compI l).length ≤ l.length := Lib.compact_length_le l
 refine ⟨by kernel_rfl, rfl, fun w M0 F vs hM hp hv => ?_⟩
 obtain ⟨v, rfl, hv1⟩ := zhU hv
 obtain ⟨A, c, rfl, rfl, h2, h3, h4⟩ := zhY hp hv1
 rw [z0r] at *
 by_cases h0 : l.length = 0
 ·obtain rfl : l = [] := List.length_eq_zero_iff.1 h0
  refine (Tryz.slices_Compact_int_empty A c w).mono ?_
  rintro e w' ⟨rfl, rfl⟩
  exact zeD hp ⟨.inl rfl, rfl⟩
 ·rcases h4 with h4 | ⟨hc0, g, cur, rfl, hg, h5, h6, h7, h8⟩
  ·omega
  ·refine (Tryz.slices_Compact_int g 0 c l w (ints_holds h5 h7) (by omega) (by omega)).mono ?_
   rintro e w' ⟨rfl, q, rfl⟩
   rw [z8y]
   have e1 : (Lib.compact l).length = (ints (compI l)).length := by rw [z0r]; rfl
   rw [e1]
   refine z6v (enc := Value.int .i64) (os := #[]) (q := q) hg (by rw [z0r]; omega) (.inl rfl) hc0 h3 h5 h6 (zcC fun j hj => ⟨?_, ?_⟩) ziz (Nat.zero_le _)
   ·simp only [List.size_toArray, List.length_append, List.length_replicate]
    have : (Lib.compact l).length = (compI l).length := rfl
    omega
   ·have hj' : j < (Lib.compact l).length := hj
    rw [z9d _ _ (by simp only [List.length_append, List.length_replicate]; omega)]
    simp only [List.getD, List.getElem?_append_left hj']
    rfl
end Go.Proofs.YtkjllcmpjghmkaaGreatDoor
set_option linter.unusedSimpArgs false
set_option linter.unusedVariables false
namespace Go.Proofs.YtkjllcmpjghmkaaGreatDoor
open Go.Eng Go.RowKit
theorem zft {n : Net} (hi : n.init.length ≤ 1000) : ∀ nd ed, bndF n = .inr (nd, ed) → nd.length ≤ 4096 ∧ ∀ x ∈ nd, x.m.length ≤ 1000 := fun nd ed h => by
 obtain ⟨_, hN, hl⟩ := zcP h
 exact ⟨hl, fun x hx => by rw [hN.len x hx]; exact hi⟩
def exN : Net := ⟨[2, 0], [⟨0, [⟨0, 1⟩], [⟨1, 1⟩]⟩]⟩
theorem zjM : grR (bndF (z6C 1)) = .tup [.one (.list (edgsD [⟨0, 0, 1⟩, ⟨1, 0, 2⟩, ⟨1, 1, 0⟩, ⟨2, 1, 1⟩])), .one (.list (z0v [[2, 0], [1, 1], [0, 2]])), .one (.int .i64 0)] := by kernel_rfl
theorem zj3 : bddR (z6C 2) = .tup [.one (.list []), .one (.list (ints [0, 1])), .one (.bool false), .one (.int .i64 0)] := by kernel_rfl
theorem zjT : dlR exN (bndF exN) = .tup [.one (.list (ints [0, 0])), .one (.bool true), .one (.int .i64 0)] := by kernel_rfl
theorem zgW (w : Int) : (z6C w).d = [.list [[.int .i64 2], [.int .i64 0]], .list [[.int .i64 0, .list [[.int .i64 0, .int .i64 1]], .list [[.int .i64 1, .int .i64 1]]], [.int .i64 1, .list [[.int .i64 1, .int .i64 1]], .list [[.int .i64 0, .int .i64 w]]]]] := rfl
theorem exN_d : exN.d = [.list [[.int .i64 2], [.int .i64 0]], .list [[.int .i64 0, .list [[.int .i64 0, .int .i64 1]], .list [[.int .i64 1, .int .i64 1]]]]] := rfl
set_option maxHeartbeats 8000000 in
theorem zfe : ACalls Tryz.prog 60 [] (.one (.bool true)) [] := by
 have m1 := zeY 1
 have m2 := zeY 2
 have g1 := zji (z6C 1) (by constructor <;> decide +kernel) (by decide) (zft (by decide))
 have b1 := zgn (z6C 2) (by constructor <;> decide +kernel) (by decide)
 have d1 := zeg exN (by constructor <;> decide +kernel) (by decide)
 rw [zjM] at g1
 rw [zj3] at b1
 rw [zjT] at d1
 have s1 := zbT [[2, 0], [1, 1], [0, 2]] [[2, 0], [1, 1], [0, 2]] (by decide) (by decide)
 have s2 := z5b [0, 1] [0, 1] (by decide)
 have s3 := z5b [0, 0] [0, 0] (by decide)
 simp only [zgW, exN_d, z0v, ints, List.map_cons, List.map_nil, decide_true] at m1 m2 g1 b1 d1 s1 s2 s3
 (refine ACalls.of_body Ty_ok mixed Tryz.func60 rfl (by kernel_rfl) Tryz.ntmps60 (by simp) (congrArg Array.toList Tryz.results60) ?_)
 simp only [z00]
 (repeat' (first | (with_reducible (refine aS 1 [8, 3, 2, 7, 6, 4, 5, 11, 10, 9] ?_; intro K hK)) | ((with_reducible refine aGo ?_); simp only [go_sem]) | ((iterate 6 try ((fail_if_success with_reducible refine hK _ ?_ ?_ ?_); clear hK K)); with_reducible refine hK _ ?_ ?_ ?_; rotate_left; (focus (simp only [go_sem]; exact rfl)); clear hK K) | ((with_reducible first | refine xA ?_ | refine xG ?_); simp only [go_sem]) | fail))
 all_goals first | omega | skip
end Go.Proofs.YtkjllcmpjghmkaaGreatDoor
set_option linter.unusedSimpArgs false
set_option linter.unusedVariables false
namespace Go.Proofs.YtkjllcmpjghmkaaGreatDoor
open Go.Eng Go.RowKit Go.Lib
theorem zfP {l : List Int} (h : l.Pairwise (· ≤ ·)) : (compI l).Pairwise (· < ·) := by
 unfold compI Lib.compact compactUpTo
 rw [List.pairwise_map, List.pairwise_filter]
 refine List.pairwise_lt_range.imp_of_mem fun {i j} hi hj hij _ hk => ?_
 rw [List.mem_range] at hi hj
 rw [List.pairwise_iff_getElem] at h
 simp only [keeps, decide_eq_true_eq] at hk
 have hne := hk.resolve_left (by omega)
 simp only [List.getElem!_toArray, getElem!_pos l i hi, getElem!_pos l j hj, getElem!_pos l (j - 1) (by omega)] at hne ⊢
 have h1 := h (j - 1) j (by omega) hj (by omega)
 by_cases e : i = j - 1
 ·subst e; omega
 ·have h4 := h i (j - 1) hi (by omega) (by omega)
  omega
theorem z9W {l : List Int} {z : Int} : z ∈ compI l ↔ z ∈ l := by
 unfold compI Lib.compact compactUpTo
 rw [List.mem_map]
 constructor
 ·rintro ⟨j, hj, rfl⟩
  rw [List.mem_filter, List.mem_range] at hj
  simp only [List.getElem!_toArray, getElem!_pos l j hj.1]
  exact List.getElem_mem hj.1
 ·intro hz
  obtain ⟨j, hj, e⟩ := List.getElem_of_mem hz
  have key : ∀ n (hn : n < l.length), l[n] = z → ∃ j, (j ∈ List.filter (keeps l.toArray) (List.range l.length)) ∧ l.toArray[j]! = z := by
   intro n
   induction n with
   | zero =>
    intro hn e
    exact ⟨0, by rw [List.mem_filter, List.mem_range]; exact ⟨hn, by simp [keeps]⟩, by simp only [List.getElem!_toArray, getElem!_pos l 0 hn, e]⟩
   | succ n ih =>
    intro hn e
    by_cases h : l[n] = z
    ·exact ih (by omega) h
    ·refine ⟨n + 1, ?_, by simp only [List.getElem!_toArray, getElem!_pos l (n + 1) hn, e]⟩
     rw [List.mem_filter, List.mem_range]
     refine ⟨hn, ?_⟩
     simp only [keeps, decide_eq_true_eq, List.getElem!_toArray, Nat.add_sub_cancel, getElem!_pos l (n + 1) hn, getElem!_pos l n (by omega)]
     exact .inr (by rw [e]; exact fun h' => h h'.symm)
  exact key j hj e
theorem zgG (l : List Int) : (sortI l).Pairwise (· ≤ ·) := by
 have := List.pairwise_mergeSort (le := fun x y : Int => decide (x ≤ y)) (fun a b c h k => by simp at *; omega) (fun a b => by simp; omega) l
 exact this.imp fun h => by simpa using h
theorem zcr (l : List Int) (x : Int) : x ∈ sortI l ↔ x ∈ l := (List.mergeSort_perm l _).mem_iff
def evL (n : Net) : List Int := n.trs.map Tr.event
def evsN (n : Net) : List Int := compI (sortI (evL n))
theorem z41 (n : Net) : (evsN n).length ≤ n.trs.length := by
 have h := Lib.compact_length_le (sortI (evL n))
 rw [z1z, evL, List.length_map] at h
 exact h
theorem zht (l : List Tr) (k : Nat) (h : k < l.length) : (l.take (k + 1)).map Tr.event = (l.take k).map Tr.event ++ [(l.getD k Tr.no).event] := by
 rw [z07 l k Tr.no h, List.map_append]; rfl
end Go.Proofs.YtkjllcmpjghmkaaGreatDoor
