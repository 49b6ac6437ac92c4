/-
 The abstract machine over data, part 4: contracts of the kit over one slice of the call's own, as contracts of calls that turn what they are handed.
-/
import Derived.Test.YtljpfdehnjemlaaDoorE3
import Derived.Shelf.GgSortFunc.Insertion
set_option linter.unusedSimpArgs false
set_option linter.unusedVariables false
namespace Go.Eng
open Go.RowKit Go.Sort Go.Lib Go.Proofs
theorem grow_of_below {w w' : World} (h : Go.Eng.Below w.heap.size w w') : ∃ q os, w' = grow (w.drewN q) os := by
 obtain ⟨⟨h1, h2, h3, h4, h5⟩, h6⟩ := h
 refine ⟨w'.drawn - w.drawn, w'.heap.extract w.heap.size w'.heap.size, ?_⟩
 obtain ⟨hp, tp, dr, os, out⟩ := w
 obtain ⟨hp', tp', dr', os', out'⟩ := w'
 simp only at h1 h2 h3 h4 h5 h6
 subst h1 h2 h3
 have e : hp' = hp ++ hp'.extract hp.size hp'.size := by
  apply Array.ext_getElem?
  intro k
  by_cases hk : k < hp.size
  ·rw [Array.getElem?_append_left hk, h5 k hk]
  ·rw [Array.getElem?_append_right (by omega), Array.getElem?_extract]
   split
   ·congr 1; omega
   ·rw [Array.getElem?_eq_none (by omega)]
 have e2 : dr + (dr' - dr) = dr' := by omega
 simp only [grow, World.drewN]
 rw [← e, e2]
variable {α : Type} [Inhabited α]
theorem sortWorld_at {enc : α → Value} {w : World} {g off m : Nat} {dk : Array α} {os : Array Obj} {cur : Array Value} {e : TypeId} {fz : Nat × Nat} (h : w.heap[g]? = some (.cells cur e fz)) :
  (sortWorld enc w g off m dk os).heap[g]? = some (.cells (putCells enc off dk cur) e fz) := by
 have hlt : g < w.heap.size := (Array.getElem?_eq_some_iff.1 h).1
 unfold sortWorld grow putRow mapBlock Sort.ahead
 simp only
 rw [Array.getElem?_append_left (by simpa using hlt), Array.getElem?_modify, if_pos rfl, h]
 rfl
theorem sortWorld_other {enc : α → Value} {w : World} {g off m k : Nat} {dk : Array α} {os : Array Obj} (hk : k < w.heap.size) (hne : k ≠ g) : (sortWorld enc w g off m dk os).heap[k]? = w.heap[k]? := by
 unfold sortWorld grow putRow mapBlock Sort.ahead
 simp only
 rw [Array.getElem?_append_left (by simpa using hk), Array.getElem?_modify, if_neg (fun e => hne e.symm)]
theorem sortWorld_size {enc : α → Value} {w : World} {g off m : Nat} {dk : Array α} {os : Array Obj} : w.heap.size ≤ (sortWorld enc w g off m dk os).heap.size := by
 unfold sortWorld grow putRow mapBlock Sort.ahead
 simp
theorem sortWorld_belowX {enc : α → Value} {w : World} {g off m : Nat} {dk : Array α} {os : Array Obj} {X : Nat → Prop} (hX : X g) : BelowX X w (sortWorld enc w g off m dk os) :=
 ⟨rfl, rfl, rfl, sortWorld_size, fun k hk hx => sortWorld_other hk (fun e => hx (e ▸ hX)), Nat.le_add_right _ _⟩
theorem putCells_size (enc : α → Value) (off : Nat) (d : Array α) (c : Array Value) : (putCells enc off d c).size = c.size := by simp [putCells]
theorem putCells_get (enc : α → Value) (d : Array α) (c : Array Value) (j : Nat) (hj : j < d.size) (hc : j < c.size) : (putCells enc 0 d c)[j]? = some (enc d[j]!) := by
 simp only [putCells, Array.getElem?_mapIdx, Array.getElem?_eq_getElem hc, Option.map_some]
 rw [if_pos ⟨by omega, by omega⟩, Nat.sub_zero]
theorem holds_of_cells {enc : α → Value} {w : World} {g : Nat} {d : Array α} {cur : Array Value} {e : TypeId} (h : w.heap[g]? = some (.cells cur e (0, 0))) (hd : ∀ j, j < d.size → cur[j]? = some (enc d[j]!)) : Holds enc w g 0 d := by
 intro j hj
 constructor
 ·unfold World.cell?
  simp only [h, Nat.zero_add]
  exact hd j hj
 ·unfold World.frozen?
  simp [h]
theorem resM_row {w w' : World} {M0 : Nat → Prop} {g n c e p : Nat} {rows' : List (List D)} {cur' : Array Value} {r : AV} {v : Value}
  (hg : ¬ M0 g ∧ g < w.heap.size) (hn' : rows'.length ≤ c) (hp : p = 0 ∨ rows'.length = n) (hc : 0 < c) (hcm : c ≤ maxLen)
  (hw : BelowX (fun k => k = g) w w') (h1 : w'.heap[g]? = some (.cells cur' e (0, 0))) (h2 : cur'.size = c * 1)
  (h3 : RepRows w' (fun k => M0 k ∨ k = g) ⟨g, 0, none⟩ 1 0 rows')
  (hv : ∀ M β, β = [.slice (some ⟨g, 0, none⟩) rows'.length c] → RepV w' M β r v) (hp1 : p ≤ 1) :
  ∃ v' β, Ending.returned v = .returned v' ∧ ResM w w' M0 [.slice (some ⟨g, 0, none⟩) n c] p r [.row e 1 rows'] v' β := by
 have hb : ∀ m, hblk (.slice (some ⟨g, 0, none⟩) m c) = some g := fun m => hblk_row hc
 have ho : ∀ m k, owned [.slice (some ⟨g, 0, none⟩) m c] k ↔ k = g := by
  intro m k
  constructor
  ·rintro ⟨t, h, ht, hh⟩
   cases t with
   | zero => simp at ht; subst ht; rw [hb] at hh; simpa using hh.symm
   | succ t => simp at ht
  ·rintro rfl
   exact ⟨0, _, rfl, hb m⟩
 refine ⟨v, [.slice (some ⟨g, 0, none⟩) rows'.length c], rfl, ?_, rfl, ?_, ?_, ?_, ?_, hv _ _ rfl⟩
 ·exact ⟨hw.os, hw.tape, hw.output, hw.size, fun k hk hx => hw.block k hk (fun e => hx ((ho _ _).2 e)), hw.drawn⟩
 ·intro t ht
  have : t = 0 := by omega
  subst this
  rcases hp with h | h
  ·omega
  ·rw [h]
 ·intro t o h hto hth
  cases t with
  | succ t => simp at hto
  | zero =>
   simp at hto hth
   subst hto hth
   refine ⟨_, c, rfl, hn', hcm, .inr ⟨hc, g, cur', rfl, h1, h2, ?_⟩⟩
   have : Mof M0 [.slice (some ⟨g, 0, none⟩) rows'.length c] = fun k => M0 k ∨ k = g := by
    funext k
    unfold Mof
    rw [ho]
   rw [this]
   exact h3
 ·intro k hk
  have := (ho _ _).1 hk
  subst this
  exact ⟨.inl ((ho _ _).2 rfl), Nat.lt_of_lt_of_le hg.2 hw.size⟩
 ·intro t t' x x' g' h1 h2 _ _
  cases t <;> cases t' <;> simp at h1 h2 ⊢
section
variable {w : World} {M0 : Nat → Prop} {F : List Value} {e : TypeId} {rows : List (List D)} {v : Value}
theorem row_in (hp : MPre w M0 F [.row e 1 rows]) (hv : RepV w (Mof M0 F) F (.one (.own 0)) v) :
  ∃ A c, F = [.slice A rows.length c] ∧ v = .slice A rows.length c ∧ rows.length ≤ c ∧ c ≤ maxLen ∧ (c = 0 ∨ 0 < c ∧ ∃ g cur, A = some ⟨g, 0, none⟩ ∧ (¬ M0 g ∧ g < w.heap.size) ∧
   w.heap[g]? = some (.cells cur e (0, 0)) ∧ cur.size = c * 1 ∧ RepRows w (Mof M0 F) ⟨g, 0, none⟩ 1 0 rows ∧ ∀ k, Mof M0 F k ↔ (M0 k ∨ k = g)) := by
 obtain ⟨h, rfl⟩ : ∃ h, F = [h] := List.length_eq_one_iff.1 hp.len
 have ho := hp.objs 0 _ h rfl rfl
 have hv0 := own_live (e := e) (sz := 1) (rows := rows) hv (fun x hx => by simp at hx; subst hx; exact ho)
 simp at hv0
 subst hv0
 obtain ⟨A, c, h1, h2, h3, h4⟩ := ho
 subst h1
 refine ⟨A, c, rfl, rfl, h2, h3, ?_⟩
 rcases h4 with h4 | ⟨hc0, g, cur, rfl, h5, h6, h7⟩
 ·exact .inl h4
 ·have hbl : hblk (.slice (some ⟨g, 0, none⟩) rows.length c) = some g := hblk_row hc0
  have hown : owned [.slice (some ⟨g, 0, none⟩) rows.length c] g := ⟨0, _, rfl, hbl⟩
  refine .inr ⟨hc0, g, cur, rfl, hp.out g hown, h5, h6, h7, fun k => ?_⟩
  unfold Mof
  constructor
  ·rintro (h | ⟨t, x, ht, hx⟩)
   ·exact .inl h
   ·cases t with
    | zero => simp at ht; subst ht; rw [hbl] at hx; exact .inr (by simpa using hx.symm)
    | succ t => simp at ht
  ·rintro (h | rfl)
   ·exact .inl h
   ·exact .inr hown
theorem sortWorld_keeps {enc : α → Value} {w : World} {g m : Nat} {dk : Array α} {os : Array Obj} {M : Nat → Prop} (hM : M g) : Keeps w M (sortWorld enc w g 0 m dk os) M :=
 ⟨sortWorld_size, fun k hk hm => sortWorld_other hk (fun e => hm (e ▸ hM)), fun _ _ h => h⟩
theorem resM_sorted {enc : α → Value} {d' : Array α} {os : Array Obj} {q g n c p : Nat} {cur : Array Value} {rows' : List (List D)} {r : AV} {v : Value}
  (hg : ¬ M0 g ∧ g < w.heap.size) (hn' : rows'.length ≤ c) (hp : p = 0 ∨ rows'.length = n) (hc : 0 < c) (hcm : c ≤ maxLen)
  (h1 : w.heap[g]? = some (.cells cur e (0, 0))) (h2 : cur.size = c * 1)
  (hrep : ∀ (j : Nat) (x : List D), rows'[j]? = some x → j < d'.size ∧ RepL w (fun k => M0 k ∨ k = g) x [enc d'[j]!])
  (hv : ∀ w' M β, β = [.slice (some ⟨g, 0, none⟩) rows'.length c] → RepV w' M β r v) (hp1 : p ≤ 1) :
  ∃ v' β, Ending.returned v = .returned v' ∧ ResM w (sortWorld enc w g 0 q d' os) M0 [.slice (some ⟨g, 0, none⟩) n c] p r [.row e 1 rows'] v' β := by
 refine resM_row hg hn' hp hc hcm (sortWorld_belowX rfl) (sortWorld_at h1) (by rw [putCells_size]; exact h2) ?_ (fun M β hb => hv _ M β hb) hp1
 refine RepRows.of_get _ _ fun i x hx => ?_
 obtain ⟨hi, hr⟩ := hrep i x hx
 have hlt : i < rows'.length := (List.getElem?_eq_some_iff.1 hx).1
 refine ⟨[enc d'[i]!], rfl, ?_, RepL.keep (sortWorld_keeps (.inr rfl)) _ _ hr⟩
 intro j u hu
 cases j with
 | succ j => simp at hu
 | zero =>
  simp at hu
  subst hu
  have hat := sortWorld_at (enc := enc) (off := 0) (m := q) (dk := d') (os := os) h1
  rw [add_lit]
  unfold World.cell?
  simp only [hat]
  rw [show 0 + (0 + i * 1 + 0) = i by omega]
  exact putCells_get enc d' cur i hi (by omega)
theorem resM_below {p : Nat} {r : AV} {v : Value} {w' : World} (hp : MPre w M0 F [.row e 1 rows]) (hb : Go.Eng.Below w.heap.size w w') (hv : RepV w' (Mof M0 F) F r v) : ∃ v' β, Ending.returned v = .returned v' ∧ ResM w w' M0 F p r [.row e 1 rows] v' β :=
 ⟨v, F, rfl, BelowX.of hb, hp.len, fun _ _ => rfl, fun t o h a b => (hp.objs t o h a b).same (same_of_below hb (fun g hg => (hp.out g hg).2) _) b, fun g hg => ⟨.inl hg, Nat.lt_of_lt_of_le (hp.out g hg).2 hb.size⟩, hp.dist, hv⟩
theorem repD_of_free {M : Nat → Prop} {β : List Value} {d : D} (h : d.tagsLt0 0 = true) {v : Value} (hr : RepC0 w M β d v) : RepD w M d v := by
 cases d <;> first | exact hr | (simp [D.tagsLt0] at h)
theorem keeps_less {M M' : Nat → Prop} (h : ∀ g, M' g → M g) : Keeps w M w M' := ⟨Nat.le_refl _, fun _ _ _ => rfl, fun g _ hm hm' => hm (h g hm')⟩
theorem mok_less {M' : Nat → Prop} (h : MOk w M0 F) (hs : ∀ g, M' g → g < w.heap.size) (hm : ∀ g, M' g → Mof M0 F g) : MOk w M' [] :=
 ⟨hs, fun x hx => by
  obtain ⟨h1, ⟨h2, h3⟩, h4⟩ := h.2 x hx
  refine ⟨h1, ⟨fun hm' => ?_, fun ⟨t, y, ht, _⟩ => by simp at ht⟩, h4⟩
  rcases hm _ hm' with h | h
  ·exact h2 h
  ·exact h3 h⟩
theorem mok_sorted {M' : Nat → Prop} {enc : α → Value} {g m : Nat} {dk : Array α} {os : Array Obj} (h : MOk w M' []) (hg : M' g) : MOk (sortWorld enc w g 0 m dk os) M' [] :=
 ⟨fun k hk => Nat.lt_of_lt_of_le (h.1 k hk) sortWorld_size, fun x hx => by
  obtain ⟨h1, h2, e, fz, h4⟩ := h.2 x hx
  exact ⟨Nat.lt_of_lt_of_le h1 sortWorld_size, h2, e, fz, (sortWorld_other h1 (fun e' => h2.1 (e' ▸ hg))).trans h4⟩⟩
theorem okFn_enter {P : Program} {f : FuncId} (h : okFn P f = true) : ∀ args w, (callFunc f args).run P w = .ok (.enter f args) w := by
 intro args w
 unfold okFn at h
 cases hfn : P.funcs[f]? with
 | none => rw [hfn] at h; cases h
 | some fn =>
  rw [hfn] at h
  simp only [Bool.and_eq_true, bne_iff_ne] at h
  obtain ⟨c, hbody⟩ : ∃ c, fn.body = some c := by
   cases hb : fn.body with
   | none => rw [hb] at h; simp at h
   | some c => exact ⟨c, rfl⟩
  simp [callFunc, hfn, h.1, hbody]
theorem mof_lt (hM : MOk w M0 F) (hp : MPre w M0 F [.row e 1 rows]) : ∀ g, Mof M0 F g → g < w.heap.size := by
 rintro g (h | h)
 ·exact hM.1 g h
 ·exact (hp.out g h).2
end
end Go.Eng
