/-
  The abstract machine: append.
-/
import Derived.Test.YtjldfifepbdlmaaDoorEngK
import Derived.Maps.AppendAt
set_option linter.unusedSimpArgs false
set_option linter.unusedVariables false
namespace Go.Eng
open Go.RowKit

section
variable {P : Program} {T : Tab} {W0 w : World} {M M0 : Nat → Prop} {F : List Value} {σ : AState} {a : Act} {β : List Value} {Kc : Act → World → Prop} {Q : Exit → Act → World → Prop} {K : AState → Prop}
theorem RepL.pieces : ∀ (rows : List (List D)) (vss : List (List Value)), rows.length = vss.length → (∀ (i : Nat) (r : List D) (vs : List Value), rows[i]? = some r → vss[i]? = some vs → RepL w M r vs) → RepL w M rows.flatten vss.flatten
  | [], [], _, _ => by simp [RepL]
  | [], v :: vs, h, _ => by simp at h
  | d :: ds, [], h, _ => by simp at h
  | d :: ds, v :: vs, h, k => by
    simp only [List.flatten_cons]
    exact RepL.append _ _ _ _ (k 0 d v rfl rfl) (RepL.pieces ds vs (by simpa using h) fun i b u hb hu => k (i + 1) b u (by simpa using hb) (by simpa using hu))
/-- the cells of rows in memory, in one list -/
theorem RepRows.cellList {ad : Addr} {sz : Nat} : ∀ (rows : List (List D)) (o : Nat), RepRows w M ad sz o rows → ∃ vs, vs.length = rows.length * sz ∧ reads w ad o vs ∧ RepL w M rows.flatten vs
  | [], o, _ => ⟨[], by simp, fun j u hu => by simp at hu, by simp [RepL]⟩
  | r :: rs, o, h => by
    simp only [RepRows] at h
    obtain ⟨⟨vs, h1, h2, h3⟩, h4⟩ := h
    obtain ⟨us, k1, k2, k3⟩ := RepRows.cellList rs (o + sz) h4
    refine ⟨vs ++ us, by simp [h1, k1, Nat.succ_mul, Nat.add_comm], ?_, by simp only [List.flatten_cons]; exact RepL.append _ _ _ _ h3 k3⟩
    intro j u hu
    rw [List.getElem?_append] at hu
    split at hu
    · exact h2 j u hu
    · have := k2 (j - vs.length) u hu
      rwa [show o + sz + (j - vs.length) = o + j by omega] at this
theorem flatten_chunks {α : Type} {sz : Nat} : ∀ (rows : List (List α)), (∀ r ∈ rows, r.length = sz) → chunks sz rows.length rows.flatten = rows
  | [], _ => rfl
  | r :: rs, h => by
    have hr := h r (by simp)
    simp only [List.length_cons, chunks, List.flatten_cons]
    rw [List.take_append, List.drop_append, hr]
    simp only [Nat.sub_self, List.take_zero, List.append_nil, List.drop_zero]
    rw [List.take_of_length_le (by omega), List.drop_of_length_le (by omega), List.nil_append, flatten_chunks rs (fun q hq => h q (by simp [hq]))]
theorem run_append_nothing (t ty e : TypeId) (i : TypeInfo) (ht : P.underlying t = some (.slice e)) (hi : P.info? e = some i) (A : Option Addr) (n c : Nat) (hnc : n ≤ c) (b : Nat) :
    (Builtin.append_ #[t, t] ty #[.slice A n c, .slice none 0 b]).run P w = .ok (.slice A n c) w := by
  have hnc' : n + 0 ≤ c := by omega
  cases A <;> simp [Builtin.append_, run_underlying ht, sizeOf, typeInfo, hi, Builtin.lenOf, Builtin.firstCells, hnc, storeCells]
/-- what is appended, as cells: nil, or at an address -/
theorem srcRows_sound (h : Sim W0 M0 F σ a w β) {x : AV} {v : Value} {news : List (List D)} {sz : Nat} (hv : RepV w (Mof M0 β) β x v) (hs : srcRows σ.H x = some news) (hsz : ∀ r ∈ news, r.length = sz) :
    ∃ (A : Option Addr) (c : Nat) (vs : List Value), v = .slice A news.length c ∧ vs.length = news.length * sz ∧ RepL w (Mof M0 β) news.flatten vs ∧ ((A = none ∧ news = []) ∨ ∃ ad, A = some ad ∧ ∀ j u, vs[j]? = some u → w.cell? (ad.add j) = some u) := by
  have key : ∀ (ad : Addr) (sz' : Nat), RepRows w (Mof M0 β) ad sz' 0 news → ∃ vs : List Value, vs.length = news.length * sz ∧ RepL w (Mof M0 β) news.flatten vs ∧ ∀ j u, vs[j]? = some u → w.cell? (ad.add j) = some u := by
    intro ad sz' hr
    obtain ⟨vs, h1, h2, h3⟩ := RepRows.cellList news 0 hr
    refine ⟨vs, ?_, h3, fun j u hu => reads_get h2 hu⟩
    cases news with
    | nil => simpa using h1
    | cons r rs =>
      have e1 := hr.rowlen (i := 0) (r := r) rfl
      have e2 := hsz r (by simp)
      rw [h1, ← e1, e2]
  unfold srcRows at hs
  split at hs
  · cases hs
    obtain ⟨A, e0⟩ : ∃ A, v = .slice A 0 0 := hv
    subst e0
    cases A with
    | none => exact ⟨none, 0, [], rfl, by simp, by simp [RepL], .inl ⟨rfl, rfl⟩⟩
    | some ad => exact ⟨some ad, 0, [], rfl, by simp, by simp [RepL], .inr ⟨ad, rfl, fun j u hu => by simp at hu⟩⟩
  · rename_i rows
    cases hs
    obtain ⟨A, c, rfl, h1, h2, h3⟩ := hv
    rcases h3 with rfl | ⟨ad, sz', rfl, _, _, hr⟩
    · cases A with
      | none => exact ⟨none, c, [], rfl, by simp, by simp [RepL], .inl ⟨rfl, rfl⟩⟩
      | some ad => exact ⟨some ad, c, [], rfl, by simp, by simp [RepL], .inr ⟨ad, rfl, fun j u hu => by simp at hu⟩⟩
    · obtain ⟨vs, k1, k2, k3⟩ := key ad sz' hr
      exact ⟨some ad, c, vs, rfl, k1, k2, .inr ⟨ad, rfl, k3⟩⟩
  · rename_i o
    split at hs
    · rename_i e sz' rows hH
      cases hs
      have hβ := own_live hv fun y hy => h.objs o _ y hH hy
      obtain ⟨A, c, rfl, h1, h2, h3⟩ := h.objs o _ v hH hβ
      rcases h3 with rfl | ⟨_, g, cur, rfl, _, _, hr⟩
      · have : news = [] := List.eq_nil_of_length_eq_zero (by omega)
        subst this
        cases A with
        | none => exact ⟨none, 0, [], rfl, by simp, by simp [RepL], .inl ⟨rfl, rfl⟩⟩
        | some ad => exact ⟨some ad, 0, [], rfl, by simp, by simp [RepL], .inr ⟨ad, rfl, fun j u hu => by simp at hu⟩⟩
      · obtain ⟨vs, k1, k2, k3⟩ := key _ sz' hr
        exact ⟨_, c, vs, rfl, k1, k2, .inr ⟨_, rfl, k3⟩⟩
    · cases hs
  · cases hs
/-- append onto the slice whose handle is 'hd0' -/
theorem append_run (hT : TabOk P T) {t ty : TypeId} {e ob sz : Nat} {rows news : List (List D)} {v2 hd0 : Value} (hdesc : (T t).desc = .slice e) (h : Sim W0 M0 F σ a w β) (hβ : β[ob]? = some hd0) (hH : σ.H[ob]? = some (.row e sz rows))
    (hsrc : ∀ sz, (∀ r ∈ news, r.length = sz) → ∃ (A : Option Addr) (c : Nat) (vs : List Value), v2 = .slice A news.length c ∧ vs.length = news.length * sz ∧ RepL w (Mof M0 β) news.flatten vs ∧ ((A = none ∧ news = []) ∨ ∃ ad, A = some ad ∧ ∀ j u, vs[j]? = some u → w.cell? (ad.add j) = some u))
    (hk : (T e).desc ≠ .other) (hsz : 0 < (T e).size) (hsz' : sz = (T e).size) (hrl : ∀ r ∈ news, r.length = sz) (hby : (rows.length + news.length) * (T e).bytes ≤ 140737488355328) (hmx : rows.length + news.length ≤ 9223372036854775807) :
    ∃ v' w', (Builtin.append_ #[t, t] ty #[hd0, v2]).run P w = .ok v' w' ∧ w.grownBy w' (hblk hd0) ∧ (∀ g, hblk v' = some g → hblk hd0 = some g ∨ (w.heap.size ≤ g ∧ g < w'.heap.size)) ∧ (∃ A' c', v' = .slice A' (rows.length + news.length) c') ∧
      ObjRep w' (Mof M0 (β.set ob v')) (β.set ob v') (.row e sz (rows ++ news)) v' := by
  subst hsz'
  obtain ⟨A, c, hev, hlen, hcm, hr⟩ := h.objs ob _ _ hH hβ
  subst hev
  obtain ⟨A2, c2, vs, hx, hvl, hvr, hsrc'⟩ := hsrc (T e).size hrl
  subst hx
  obtain ⟨i, z, hinfo, hi1, hi2, hi3, hi4⟩ := (hT e).info hk
  have hzr := zerosOk_rep (w := w) (M := fun _ => False) _ _ hi4.1
  have hzs : z.cells.size = (T e).size := by
    have := RepL.length_eq _ _ hzr
    simp at this
    have := hi4.2.2
    omega
  -- what comes back, in any case
  have fin : ∀ (v' : Value) (w' : World), (Builtin.append_ #[t, t] ty #[.slice A rows.length c, .slice A2 news.length c2]).run P w = .ok v' w' → w.grownBy w' (hblk (.slice A rows.length c)) →
      (∀ g, hblk v' = some g → hblk (.slice A rows.length c) = some g ∨ (w.heap.size ≤ g ∧ g < w'.heap.size)) → (∃ A' c', v' = .slice A' (rows.length + news.length) c') →
      ObjRep w' (Mof M0 (β.set ob v')) (β.set ob v') (.row e (T e).size (rows ++ news)) v' → ∃ v' w', (Builtin.append_ #[t, t] ty #[.slice A rows.length c, .slice A2 news.length c2]).run P w = .ok v' w' ∧ w.grownBy w' (hblk (.slice A rows.length c)) ∧ (∀ g, hblk v' = some g → hblk (.slice A rows.length c) = some g ∨ (w.heap.size ≤ g ∧ g < w'.heap.size)) ∧ (∃ A' c', v' = .slice A' (rows.length + news.length) c') ∧ ObjRep w' (Mof M0 (β.set ob v')) (β.set ob v') (.row e (T e).size (rows ++ news)) v' := fun v' w' r1 r3 hnew hv' hobj => ⟨v', w', r1, r3, hnew, hv', hobj⟩
  have keepOf : ∀ (v' : Value) (w' : World), w.grownBy w' (hblk (.slice A rows.length c)) → (∀ g, hblk v' = some g → hblk (.slice A rows.length c) = some g ∨ (w.heap.size ≤ g ∧ g < w'.heap.size)) → Keeps w (Mof M0 β) w' (Mof M0 (β.set ob v')) := by
    intro v' w' r3 hnew
    refine ⟨r3.size, fun g hlt hm => r3.block g hlt fun e => hm (.inr ⟨ob, _, hβ, e.symm⟩), fun g hlt hm hm' => ?_⟩
    rcases hm' with hm' | hm'
    · exact hm (.inl hm')
    · rcases owned_set hm' with hb | ⟨t', y, _, h1, h2⟩
      · rcases hnew g hb with hb | hb
        · exact hm (.inr ⟨ob, _, hβ, hb⟩)
        · omega
      · exact hm (.inr ⟨t', y, h1, h2⟩)
  -- a new row
  have fresh : ∀ (xs : List Value) (cap : Nat), xs.length = rows.length * (T e).size → RepL w (Mof M0 β) rows.flatten xs → (∀ r ∈ rows, r.length = (T e).size) → 0 < cap → rows.length + news.length ≤ cap → cap ≤ maxLen → ∀ (w1 : World) (cells : Array Value),
      w1.heap[w.heap.size]? = some (.cells cells e (0, 0)) → cells.size = cap * (T e).size → cells.toList.take ((rows.length + news.length) * (T e).size) = xs ++ vs → w.grownBy w1 (hblk (.slice A rows.length c)) → w.heap.size < w1.heap.size →
      (Builtin.append_ #[t, t] ty #[.slice A rows.length c, .slice A2 news.length c2]).run P w = .ok (.slice (some ⟨w.heap.size, 0, none⟩) (rows.length + news.length) cap) w1 → ∃ v' w', (Builtin.append_ #[t, t] ty #[.slice A rows.length c, .slice A2 news.length c2]).run P w = .ok v' w' ∧ w.grownBy w' (hblk (.slice A rows.length c)) ∧ (∀ g, hblk v' = some g → hblk (.slice A rows.length c) = some g ∨ (w.heap.size ≤ g ∧ g < w'.heap.size)) ∧ (∃ A' c', v' = .slice A' (rows.length + news.length) c') ∧ ObjRep w' (Mof M0 (β.set ob v')) (β.set ob v') (.row e (T e).size (rows ++ news)) v' := by
    intro xs cap hxl hold hrows hcap0 hroom hcapm w1 cells hheap hcs htake hgr hlt hrun
    have hnew : ∀ g, hblk (Value.slice (some ⟨w.heap.size, 0, none⟩) (rows.length + news.length) cap) = some g → hblk (.slice A rows.length c) = some g ∨ (w.heap.size ≤ g ∧ g < w1.heap.size) := fun g hg => by
      have := hblk_slice hg
      simp at this
      subst this
      exact .inr ⟨Nat.le_refl _, hlt⟩
    have hkeep := keepOf _ w1 hgr hnew
    have hall : RepL w1 (Mof M0 (β.set ob (.slice (some ⟨w.heap.size, 0, none⟩) (rows.length + news.length) cap))) (rows ++ news).flatten (xs ++ vs) := by
      rw [List.flatten_append]
      exact RepL.append _ _ _ _ (RepL.keep hkeep _ _ hold) (RepL.keep hkeep _ _ hvr)
    have hrows' : ∀ r ∈ rows ++ news, r.length = (T e).size := fun r hrm => by
      rcases List.mem_append.1 hrm with hrm | hrm
      · exact hrows r hrm
      · exact hrl r hrm
    refine fin _ w1 hrun hgr hnew ⟨_, _, rfl⟩ ⟨some ⟨w.heap.size, 0, none⟩, cap, by rw [List.length_append], by rw [List.length_append]; exact hroom, hcapm, .inr ⟨hcap0, w.heap.size, cells, rfl, hheap, hcs, ?_⟩⟩
    have hch := RepRows.of_cells (w := w1) (ad := ⟨w.heap.size, 0, none⟩) (sz := (T e).size) (n := (rows ++ news).length) hall (by rw [List.length_append, List.length_append, hxl, hvl, Nat.add_mul]) (by
      intro j u hu
      refine reads_cells hheap j u ?_
      rw [← htake, List.getElem?_take] at hu
      split at hu
      · exact hu
      · cases hu)
    rwa [flatten_chunks _ hrows'] at hch
  rcases hr with rfl | ⟨hc0, g, cur, rfl, hg, hcs, hrr⟩
  · -- no row yet
    have hr0 : rows = [] := List.eq_nil_of_length_eq_zero (by omega)
    subst hr0
    simp only [List.length_nil, Nat.zero_add, List.nil_append] at *
    by_cases hm0 : news.length = 0
    · have hn0 : news = [] := List.eq_nil_of_length_eq_zero hm0
      subst hn0
      have hvs : vs = [] := List.eq_nil_of_length_eq_zero (by simpa using hvl)
      subst hvs
      have hrun : (Builtin.append_ #[t, t] ty #[.slice A 0 0, .slice A2 0 c2]).run P w = .ok (.slice A 0 0) w := by
        cases A <;> cases A2 <;> simp [Builtin.append_, run_underlying (under_slice hT hdesc), sizeOf, typeInfo, hinfo, Builtin.lenOf, Builtin.firstCells, storeCells, loadCells, loadCellsFrom]
      exact fin _ w hrun (grownBy_refl w _) (fun g hg => .inl hg) ⟨A, 0, rfl⟩ ⟨A, 0, rfl, Nat.le_refl _, Nat.zero_le _, .inl rfl⟩
    · rcases hsrc' with ⟨rfl, hn0⟩ | ⟨ad, rfl, hcell⟩
      · exact absurd (by rw [hn0]; rfl) hm0
      · have hcap := grownCap_ge w news.length 0 e
        have hcapm := grownCap_le_maxLen w news.length 0 e (by simp only [maxLen]; omega)
        have hnc : Builtin.nextslicecap news.length 0 = news.length := nextslicecap_zero (by omega)
        have hzc : (Builtin.zeroCells z.cells (grownCap w news.length 0 e - news.length)).size = (grownCap w news.length 0 e - news.length) * (T e).size := by rw [size_zeroCells, hzs]
        have hrun : (Builtin.append_ #[t, t] ty #[.slice A 0 0, .slice (some ad) news.length c2]).run P w = .ok (.slice (some ⟨w.heap.size, 0, none⟩) news.length (grownCap w news.length 0 e)) (w.drew.alloc (.cells (vs.toArray ++ Builtin.zeroCells z.cells (grownCap w news.length 0 e - news.length)) e)) := by
          cases A with
          | none => exact run_append_nil (P := P) w t ty e i z (under_slice hT hdesc) hinfo hi3 ad news.length c2 vs (by rw [hvl, hi1]) hcell (by omega) (by omega) (by rw [hi2]; omega)
          | some b =>
            have := run_append_grow (P := P) w t ty e i z (under_slice hT hdesc) hinfo hi3 b 0 0 [] (by simp) (fun j v hv => by simp at hv) ad news.length c2 vs (by rw [hvl, hi1]) hcell (by omega) (by omega) (by rw [Nat.zero_add, hnc, hi2]; omega)
            simpa using this
        refine fresh [] (grownCap w news.length 0 e) (by simp) (by simp [RepL]) (by simp) (by omega) hcap hcapm _ _ (heap_alloc_new w.drew _) ?_ ?_ ⟨rfl, rfl, rfl, by simp, fun k hk _ => heap_alloc_old w.drew _ hk⟩ (by simp) hrun
        · simp only [Array.size_append, List.size_toArray, hzc, hvl, ← Nat.add_mul]
          congr 1
          omega
        · simp only [Array.toList_append, List.nil_append]
          rw [← hvl]
          exact List.take_left
  · -- there is one
    have hob : hblk (.slice (some ⟨g, 0, none⟩) rows.length c) = (Value.slice (some ⟨g, 0, none⟩) rows.length c).ownBlock := hblk_row hc0
    obtain ⟨xs, hxs, hown, hold⟩ : ∃ xs : List Value, xs.length = rows.length * (T e).size ∧ w.ownsRow 0 e (T e).size (.slice (some ⟨g, 0, none⟩) rows.length c) rows.length xs ∧ RepL w (Mof M0 β) rows.flatten xs := by
      obtain ⟨vs', k1, k2, k3⟩ := RepRows.cellList rows 0 hrr
      refine ⟨vs', k1, ⟨k1, .inr ⟨g, c, cur, rfl, Nat.zero_le _, hg, hlen, hcm, hcs, ?_⟩⟩, k3⟩
      apply List.ext_getElem?
      intro j
      rw [List.getElem?_take]
      split
      · rename_i hj
        have hjl : j < vs'.length := by omega
        have := k2 j _ (List.getElem?_eq_getElem hjl)
        rw [add_lit, Nat.zero_add, Nat.zero_add, cell_of_row w g _ cur _ _ hg] at this
        rw [List.getElem?_eq_getElem hjl]
        simpa using this
      · rename_i hj
        rw [List.getElem?_eq_none (by omega)]
    have hrows : ∀ r ∈ rows, r.length = (T e).size := fun r hrm => by
      obtain ⟨q, hq, rfl⟩ := List.mem_iff_getElem.1 hrm
      exact hrr.rowlen (List.getElem?_eq_getElem hq)
    have hrun : ∃ v' w', (Builtin.append_ #[t, t] ty #[.slice (some ⟨g, 0, none⟩) rows.length c, .slice A2 news.length c2]).run P w = .ok v' w' ∧ w'.ownsRow 0 e (T e).size v' (rows.length + news.length) (xs ++ vs) ∧ w.grownBy w' (Value.slice (some ⟨g, 0, none⟩) rows.length c).ownBlock ∧ (v' = .slice none 0 0 → False) ∧ (v'.ownBlock = (Value.slice (some ⟨g, 0, none⟩) rows.length c).ownBlock ∨ v'.ownBlock = some w.heap.size) := by
      rcases hsrc' with ⟨rfl, hn0⟩ | ⟨ad, rfl, hcell⟩
      · subst hn0
        have hvs : vs = [] := List.eq_nil_of_length_eq_zero (by simpa using hvl)
        subst hvs
        exact ⟨_, w, run_append_nothing t ty e i (under_slice hT hdesc) hinfo _ rows.length c hlen c2, by simpa using hown, grownBy_refl w _, (fun hh => by cases hh), .inl rfl⟩
      · obtain ⟨v', w', r1, r2, r3, r4, r5⟩ := run_append_own_at (P := P) w 0 t ty e i z (T e).size (T e).bytes (under_slice hT hdesc) hinfo hi3 hi1 hi2 hzs hsz _ _ xs hown ad news.length c2 vs hvl hcell (RepCL.oneCell (RepL.toC (β := β) hvr)) (by simp only [maxLen]; omega) hby (Nat.zero_le _)
        exact ⟨v', w', r1, r2, r3, (fun hh => by have := (r4.1 hh).1; cases this), r5⟩
    obtain ⟨v', w', r1, r2, r3, r4, r5⟩ := hrun
    rcases r2.2 with ⟨rfl, hz⟩ | ⟨g', cap, cur', rfl, _, q1, q2, q3, q4, q5⟩
    · exact (r4 rfl).elim
    have hcap : 0 < cap ∨ cap = 0 := by omega
    rcases hcap with hcap | hcap
    · have hnew : ∀ k, hblk (Value.slice (some ⟨g', 0, none⟩) (rows.length + news.length) cap) = some k → hblk (.slice (some ⟨g, 0, none⟩) rows.length c) = some k ∨ (w.heap.size ≤ k ∧ k < w'.heap.size) := by
        intro k hk
        have e1 := hblk_slice hk
        simp at e1
        subst e1
        rcases r5 with r5 | r5
        · left; rw [hob, ← r5]; rfl
        · right
          simp only [Value.ownBlock, Option.some.injEq] at r5
          have := (Array.getElem?_eq_some_iff.1 q1).1
          exact ⟨by omega, this⟩
      rw [← hob] at r3
      have hkeep := keepOf _ w' r3 hnew
      refine fin _ w' r1 r3 hnew ⟨_, _, rfl⟩ ⟨some ⟨g', 0, none⟩, cap, by rw [List.length_append], by rw [List.length_append]; exact q2, q3, .inr ⟨hcap, g', cur', rfl, q1, q4, ?_⟩⟩
      have hall : RepL w' (Mof M0 (β.set ob (.slice (some ⟨g', 0, none⟩) (rows.length + news.length) cap))) (rows ++ news).flatten (xs ++ vs) := by
        rw [List.flatten_append]
        exact RepL.append _ _ _ _ (RepL.keep hkeep _ _ hold) (RepL.keep hkeep _ _ hvr)
      have hrows' : ∀ r ∈ rows ++ news, r.length = (T e).size := fun r hrm => by
        rcases List.mem_append.1 hrm with hrm | hrm
        · exact hrows r hrm
        · exact hrl r hrm
      have hch := RepRows.of_cells (w := w') (ad := ⟨g', 0, none⟩) (sz := (T e).size) (n := (rows ++ news).length) hall (by rw [r2.1, List.length_append]) (by
        intro j u hu
        refine reads_cells q1 j u ?_
        rw [← q5, List.getElem?_take] at hu
        split at hu
        · exact hu
        · cases hu)
      rwa [flatten_chunks _ hrows'] at hch
    · subst hcap
      have h00 : rows.length + news.length = 0 := by omega
      have hr0 : rows = [] := List.eq_nil_of_length_eq_zero (by omega)
      have hn0 : news = [] := List.eq_nil_of_length_eq_zero (by omega)
      subst hr0; subst hn0
      rw [← hob] at r3
      exact fin _ w' r1 r3 (fun k hk => by rw [hblk_zero] at hk; cases hk) ⟨_, _, rfl⟩ ⟨_, 0, rfl, Nat.le_refl _, Nat.zero_le _, .inl rfl⟩
theorem tAppendAt_sound (hT : TabOk P T) {o : Oper} {t : TypeId} {d : Nat} {e ob : Nat} {nd : Prop} {news : List (List D)} {v2 : Value} {hd0 : Value} (hdesc : (T t).desc = .slice e) (hd : o.dst = some d) (h : Sim W0 M0 F σ a w β) (hβ : β[ob]? = some hd0)
    (hsrc : ∀ sz, (∀ r ∈ news, r.length = sz) → ∃ (A : Option Addr) (c : Nat) (vs : List Value), v2 = .slice A news.length c ∧ vs.length = news.length * sz ∧ RepL w (Mof M0 β) news.flatten vs ∧ ((A = none ∧ news = []) ∨ ∃ ad, A = some ad ∧ ∀ j u, vs[j]? = some u → w.cell? (ad.add j) = some u))
    (hex : ∀ v' w', (Builtin.append_ #[t, t] o.type #[hd0, v2]).run P w = .ok v' w' → (execOp a.eval o).run P w = .ok (.value v') w')
    (ht : tAppendAt T e ob nd news d σ K) (hK : ∀ σ' a' w', K σ' → SimS W0 M0 F σ' a' w' → Kc a' w') : o.wp P a w Kc Q := by
  unfold tAppendAt at ht
  cases hH : σ.H[ob]? with
  | none => rw [hH] at ht; exact ht.elim
  | some obj =>
    rw [hH] at ht
    cases obj with
    | row e' sz rows =>
      obtain ⟨⟨_, hpin, hk, hsz, rfl, hsz', hrl, hby, hmx, hdn⟩, hK'⟩ := ht
      obtain ⟨v', w', r1, r3, hnew, hv', hobj⟩ := append_run (P := P) (ty := o.type) hT hdesc h hβ hH hsrc hk hsz hsz' hrl hby hmx
      refine upon_value (u := v') (w' := w') (hex v' w' r1) ?_
      rw [hd]
      refine hK _ _ _ hK' ⟨β.set ob v', Sim.put (h.turn (o := .gone) (.inl hpin) hβ r3 hnew ⟨(fun _ _ _ hh => by cases hh), (fun _ _ hh => by cases hh)⟩ hobj) hdn ⟨.inl ?_, ?_⟩⟩
      · rw [List.getElem?_set, if_pos rfl, if_pos (List.getElem?_eq_some_iff.1 hβ).1]
      · obtain ⟨A', c', rfl⟩ := hv'
        rfl
    | _ => exact ht.elim
theorem tAppend_sound (hT : TabOk P T) {o : Oper} {s x : Operand} {t : TypeId} {d : Nat} (ho : o.op = .call { callee := .builtin .append, args := #[s, x], argTypes := #[t, t] }) (hd : o.dst = some d) (h : Sim W0 M0 F σ a w β) (ht : tAppend T s x t d σ K) (hK : ∀ σ' a' w', K σ' → SimS W0 M0 F σ' a' w' → Kc a' w') : o.wp P a w Kc Q := by
  have hex : ∀ v' w', (Builtin.append_ #[t, t] o.type #[a.eval s, a.eval x]).run P w = .ok v' w' → (execOp a.eval o).run P w = .ok (.value v') w' := fun v' w' r => by
    simp [execOp, ho, resolve, invoke, builtin, r]
  unfold tAppend at ht
  split at ht
  · rename_i e ob news hdesc hes hsrc
    have hn : (σ.ev s).need ∧ (σ.ev x).need := by
      unfold tAppendAt at ht
      split at ht
      · exact ht.1.1
      · exact ht.elim
    have e1 := h.evs hn.1
    rw [hes] at e1
    have hβ : β[ob]? = some (a.eval s) := by
      unfold tAppendAt at ht
      split at ht
      · rename_i hH
        exact own_live e1 fun y hy => h.objs ob _ y hH hy
      · exact ht.elim
    exact tAppendAt_sound hT hdesc hd h hβ (fun sz hsz => srcRows_sound h (h.evs hn.2) hsrc hsz) hex ht hK
  · rename_i e news hdesc hes hsrc
    obtain ⟨hn, ht⟩ := ht
    have e1 := h.evs hn.1
    rw [hes] at e1
    obtain ⟨A, hA⟩ : ∃ A, a.eval s = .slice A 0 0 := e1
    have hp := h.push (Hn := [.row e (T e).size []]) (βn := [.slice A 0 0]) (Below.refl w.heap.size w) rfl (fun g ⟨t, y, hy, hg⟩ => by
        cases t with
        | zero => simp at hy; subst hy; rw [hblk_zero] at hg; cases hg
        | succ t => simp at hy) (fun t t' y y' g hy hy' _ _ => by
        cases t <;> cases t' <;> first | rfl | (simp at hy; done) | (simp at hy'; done)) (fun t o' y ho' hy => by
        cases t with
        | zero => simp at ho' hy; subst ho'; subst hy; exact ⟨A, 0, rfl, Nat.le_refl _, Nat.zero_le _, .inl rfl⟩
        | succ t => simp at hy)
    have hob : (β ++ [Value.slice A 0 0])[σ.H.length]? = some (.slice A 0 0) := by rw [← h.len]; simp
    have hk : Keeps w (Mof M0 β) w (Mof M0 (β ++ [Value.slice A 0 0])) := ⟨Nat.le_refl _, fun _ _ _ => rfl, fun g _ hm hm' => hm (by
      rcases hm' with hm' | ⟨t, y, hy, hg⟩
      · exact .inl hm'
      · rw [List.getElem?_append] at hy
        split at hy
        · exact .inr ⟨t, y, hy, hg⟩
        · cases hi : t - β.length with
          | zero => rw [hi] at hy; simp at hy; subst hy; rw [hblk_zero] at hg; cases hg
          | succ q => rw [hi] at hy; simp at hy)⟩
    refine tAppendAt_sound hT hdesc hd hp hob (fun sz hsz => ?_) (fun v' w' r => hex v' w' (by rw [hA]; exact r)) ht hK
    obtain ⟨A2, c2, vs, k1, k2, k3, k4⟩ := srcRows_sound h (h.evs hn.2) hsrc hsz
    exact ⟨A2, c2, vs, k1, k2, RepL.keep hk _ _ k3, k4⟩
  · exact ht.elim
end

/-! ### a slice held against nil: true only where it is empty -/
def NilK (rows : List (List D)) (t : Bool) (k : Bool → Prop) : Prop := ∀ b, (b = t → rows = []) → k b
def tNilCmp (T : Tab) (t : TypeId) (yes : Bool) (x : Operand) (d : Nat) (σ : AState) (K : AState → Prop) : Prop :=
  match (T t).desc, srcRows σ.H (σ.evs x) with
  | .slice _, some rows => ((σ.ev x).need ∧ d < σ.n) ∧ NilK rows yes fun b => K (σ.put d (.one (.bool b)))
  | _, _ => False
section
variable {P : Program} {T : Tab} {W0 w : World} {M M0 : Nat → Prop} {F : List Value} {σ : AState} {a : Act} {β : List Value} {Kc : Act → World → Prop} {Q : Exit → Act → World → Prop} {K : AState → Prop}
theorem tNilCmp_sound (hT : TabOk P T) {o : Oper} {yes : Bool} {t t' : TypeId} {x : Operand} {d : Nat} (ho : o.op = .binOp (if yes then .eql else .neq) t x (.const (.slice none 0 0)) t') (hd : o.dst = some d) (h : Sim W0 M0 F σ a w β) (ht : tNilCmp T t yes x d σ K) (hK : ∀ σ' a' w', K σ' → SimS W0 M0 F σ' a' w' → Kc a' w') : o.wp P a w Kc Q := by
  unfold tNilCmp at ht
  split at ht
  · rename_i e rows hdesc hsrc
    obtain ⟨⟨hn, hdn⟩, hk⟩ := ht
    obtain ⟨A, c, hx, hA⟩ : ∃ A c, a.eval x = .slice A rows.length c ∧ (A = none → rows = []) := by
      have hv := h.evs hn
      unfold srcRows at hsrc
      split at hsrc
      · rename_i he
        rw [he] at hv
        cases hsrc
        obtain ⟨A, e0⟩ : ∃ A, a.eval x = .slice A 0 0 := hv
        exact ⟨A, 0, e0, fun _ => rfl⟩
      · rename_i rows' he
        rw [he] at hv
        cases hsrc
        obtain ⟨A, c, h1, _, _, h4⟩ := hv
        refine ⟨A, c, h1, fun hA => ?_⟩
        rcases h4 with h4 | ⟨ad, sz, h4, _⟩
        · exact h4
        · rw [hA] at h4; cases h4
      · rename_i ob he
        rw [he] at hv
        cases hH : σ.H[ob]? with
        | none => rw [hH] at hsrc; cases hsrc
        | some obj =>
          rw [hH] at hsrc
          cases obj with
          | row e' sz rows' =>
            cases hsrc
            have hβ := own_live hv fun y hy => h.objs ob _ y hH hy
            obtain ⟨A, c, h1, h2, _, h4⟩ := h.objs ob _ _ hH hβ
            refine ⟨A, c, h1, fun hA => ?_⟩
            rcases h4 with rfl | ⟨_, g, cur, h4, _⟩
            · exact List.eq_nil_of_length_eq_zero (by omega)
            · rw [hA] at h4; cases h4
          | _ => cases hsrc
      · cases hsrc
    have heq : ∀ w : World, (Op.equal t (.slice A rows.length c) (.slice none 0 0)).run P w = .ok A.isNone w := fun w => by
      have key : ∀ n, (Op.equalIn (n + 1) t (.slice A rows.length c) (.slice none 0 0)).run P w = .ok A.isNone w := fun n => by
        cases A <;> simp [Op.equalIn, run_underlying (under_slice hT hdesc)]
      exact key 9999
    have hconst : a.eval (.const (.slice none 0 0)) = .slice none 0 0 := rfl
    cases yes with
    | true =>
      refine upon_value (u := .bool A.isNone) (w' := w) ?_ ?_
      · simp [execOp, ho, hx, hconst, eqGuard, binOp, heq]
      · rw [hd]
        exact hK _ _ _ (hk A.isNone fun hb => hA (by simpa using hb)) ⟨β, h.put hdn rfl⟩
    | false =>
      refine upon_value (u := .bool (!A.isNone)) (w' := w) ?_ ?_
      · simp [execOp, ho, hx, hconst, eqGuard, binOp, heq]
      · rw [hd]
        exact hK _ _ _ (hk (!A.isNone) fun hb => hA (by simpa using hb)) ⟨β, h.put hdn rfl⟩
  · exact ht.elim
end

/-! ### maps -/
def tMakeMap (T : Tab) (t : TypeId) (d : Nat) (σ : AState) (K : AState → Prop) : Prop :=
  match (T t).desc with
  | .map kt _ => match (T kt).desc with
    | .string => d < σ.n ∧ K (σ.pushObj d (.map .str []) (.one (.mp σ.H.length)))
    | .int k => d < σ.n ∧ K (σ.pushObj d (.map (.int k) []) (.one (.mp σ.H.length)))
    | _ => False
  | _ => False
def tUpdate (T : Tab) (t : TypeId) (m k v : Operand) (σ : AState) (K : AState → Prop) : Prop :=
  match (T t).desc, σ.evs m with
  | .map kt _, .one (.mp o) =>
    match σ.H[o]? with
    | some (.map kd kvs) => ((σ.ev m).need ∧ (σ.ev k).need ∧ (σ.ev v).need ∧ (T kt).desc = keyDesc kd ∧ plainKey kd (σ.evs k) = true) ∧ K (σ.setObj o (.map kd (setKV (σ.evs k) (σ.evs v) kvs)))
    | _ => False
  | _, _ => False
section
variable {P : Program} {T : Tab} {W0 w : World} {M M0 : Nat → Prop} {F : List Value} {σ : AState} {a : Act} {β : List Value} {Kc : Act → World → Prop} {Q : Exit → Act → World → Prop} {K : AState → Prop}
theorem tMakeMap_sound {o : Oper} {t : TypeId} {d : Nat} (ho : o.op = .makeMap t none) (hd : o.dst = some d) (h : Sim W0 M0 F σ a w β) (ht : tMakeMap T t d σ K) (hK : ∀ σ' a' w', K σ' → SimS W0 M0 F σ' a' w' → Kc a' w') : o.wp P a w Kc Q := by
  have hb : Below w.heap.size w (w.alloc (.map #[] 0)) := (Below.refl _ _).alloc (Nat.le_refl _) _
  have main : ∀ kd, d < σ.n → K (σ.pushObj d (.map kd []) (.one (.mp σ.H.length))) → o.wp P a w Kc Q := by
    intro kd hdn hK'
    refine upon_value (u := .map (some w.heap.size)) (w' := w.alloc (.map #[] 0)) (by simp [execOp, ho, Instr.makeMap]) ?_
    rw [hd]
    refine hK _ _ _ hK' ⟨_, h.pushObj hdn hb (hd := .map (some w.heap.size)) (fun g hg => by cases hg; simp) ?_ (.inl ⟨w.heap.size, last_tag h _, rfl⟩)⟩
    exact ⟨fun kv hkv => by simp at hkv, w.heap.size, #[], 0, rfl, heap_alloc_new w _, rfl, fun i kv e a => by simp at a⟩
  unfold tMakeMap at ht
  split at ht
  · split at ht
    · exact main _ ht.1 ht.2
    · exact main _ ht.1 ht.2
    · exact ht.elim
  · exact ht.elim
theorem heap_set_map {w : World} {g : Nat} {o : Obj} (hg : g < w.heap.size) : (({ w with heap := w.heap.setIfInBounds g o } : World).heap[g]? = some o) ∧ w.grownBy { w with heap := w.heap.setIfInBounds g o } (some g) := by
  refine ⟨by simp [hg], rfl, rfl, rfl, by simp, fun k _ hk => ?_⟩
  have : g ≠ k := fun e => hk (by rw [e])
  simp [Array.getElem?_setIfInBounds, this]
theorem sameBits_plain {w : World} {M : Nat → Prop} {β : List Value} {kd : KeyKind} {k : AV} {x y : Value} (hp : plainKey kd k = true) (hx : RepV w M β k x) (hy : RepV w M β k y) (n : Nat) : Instr.sameBits n x y = true ∧ x = y := by
  cases kd with
  | str =>
    cases k with
    | one d =>
      cases d <;> first | (cases hp; done) | skip
      have e1 := rep_str_inv hx
      have e2 := rep_str_inv hy
      subst e1; subst e2
      exact ⟨by cases n <;> simp [Instr.sameBits, beq_bytes], rfl⟩
    | _ => cases hp
  | int q =>
    cases k with
    | one d =>
      cases d <;> first | (cases hp; done) | skip
      have e1 := rep_int_inv hx
      have e2 := rep_int_inv hy
      subst e1; subst e2
      exact ⟨by cases n <;> simp [Instr.sameBits], rfl⟩
    | _ => cases hp
theorem tUpdate_sound (hT : TabOk P T) {o : Oper} {t : TypeId} {m k v : Operand} (ho : o.op = .mapUpdate t m k v ∨ o.op = .insert t m k v) (hd : o.dst = none) (h : Sim W0 M0 F σ a w β) (ht : tUpdate T t m k v σ K) (hK : ∀ σ' a' w', K σ' → SimS W0 M0 F σ' a' w' → Kc a' w') : o.wp P a w Kc Q := by
  unfold tUpdate at ht
  split at ht
  · rename_i kt et ob hdesc hm
    cases hH : σ.H[ob]? with
    | none => rw [hH] at ht; exact ht.elim
    | some obj =>
      rw [hH] at ht
      cases obj with
      | map kd kvs =>
        obtain ⟨⟨hn1, hn2, hn3, hkd, hpk⟩, hK'⟩ := ht
        have e1 := h.evs hn1
        rw [hm] at e1
        obtain ⟨g, hβ, hmv⟩ := mp_live e1 fun y hy => h.objs ob _ y hH hy
        have hkr := h.evs hn2
        have hvr := h.evs hn3
        obtain ⟨hp, g', es, clk, hge, hg, hlen, hrep⟩ := h.objs ob _ _ hH hβ
        cases hge
        have hglt : g < w.heap.size := (Array.getElem?_eq_some_iff.1 hg).1
        have hck := checkKey_plain (w := w) hT hkd hpk hkr false 9999
        have fin : ∀ (es' : Array MapEntry) (clk' : Nat), (Instr.mapUpdate t (a.eval m) (a.eval k) (a.eval v)).run P w = .ok () { w with heap := w.heap.setIfInBounds g (.map es' clk') } →
            (setKV (σ.evs k) (σ.evs v) kvs).length = es'.size →
            (∀ (i : Nat) (kv : AV × AV) (e : MapEntry), (setKV (σ.evs k) (σ.evs v) kvs)[i]? = some kv → es'[i]? = some e → RepV w (Mof M0 β) β kv.1 e.key ∧ RepV w (Mof M0 β) β kv.2 e.val) →
            (∀ kv ∈ setKV (σ.evs k) (σ.evs v) kvs, plainKey kd kv.1 = true) → o.wp P a w Kc Q := by
          intro es' clk' hrun hl2 hr2 hp2
          obtain ⟨q1, q2⟩ := heap_set_map (w := w) (g := g) (o := .map es' clk') hglt
          refine upon_skip hd (w' := { w with heap := w.heap.setIfInBounds g (.map es' clk') }) (by rcases ho with ho | ho <;> simp [execOp, ho, hrun]) ?_
          have hkeep : Keeps w (Mof M0 β) { w with heap := w.heap.setIfInBounds g (.map es' clk') } (Mof M0 β) :=
            ⟨q2.size, fun g' hlt hm' => q2.block g' hlt fun e => hm' (.inr ⟨ob, _, hβ, e.symm⟩), fun g' _ hm' => hm'⟩
          refine hK _ _ _ hK' ⟨β, h.write hβ q2 ⟨hp2, g, es', clk', rfl, q1, hl2, fun i kv e b c => ?_⟩⟩
          have := hr2 i kv e b c
          exact ⟨RepV.grow ⟨hkeep, fun _ _ x => x⟩ _ _ this.1, RepV.grow ⟨hkeep, fun _ _ x => x⟩ _ _ this.2⟩
        rcases findNow_sound hpk hkr kvs es.toList 0 hp (by simpa using hlen) (fun j kv e a b => hrep j kv e a (by simpa using b)) with ⟨a1, a2, a3⟩ | ⟨j, y, e, a1, a2, a3, a4, a5, a6, a7⟩
        · refine fin (es.push { key := a.eval k, val := a.eval v, born := clk }) (clk + 1) ?_ (by rw [a3]; simp [hlen]) (fun i kv e b c => ?_) (fun kv hkv => ?_)
          · simp only [hmv, Instr.mapUpdate, Sem.run_bind, run_underlying (under_map hT hdesc), Result.andThen_ok, MapKept.run_getObj_map hg, hck, findKey_run hT hkd a2, MapKept.run_setObj_map _ hg]
          · rw [a3, List.getElem?_append] at b
            rw [Array.getElem?_push] at c
            split at b
            · rename_i hi
              rw [if_neg (by omega)] at c
              exact hrep i kv e b c
            · rename_i hi
              cases hii : i - kvs.length with
              | zero =>
                rw [hii] at b
                simp at b
                rw [if_pos (by omega)] at c
                cases c
                subst b
                exact ⟨hkr, hvr⟩
              | succ q => rw [hii] at b; simp at b
          · rw [a3] at hkv
            rcases List.mem_append.1 hkv with hkv | hkv
            · exact hp kv hkv
            · simp at hkv; subst hkv; exact hpk
        · rw [Nat.zero_add] at a2
          have a3' : es[j]? = some e := by simpa using a3
          have hsb := sameBits_plain hpk a6 hkr 10000
          refine fin (es.modify j fun e => { e with key := a.eval k, val := a.eval v }) clk ?_ (by rw [a7]; simp [hlen]) (fun i kv e' b c => ?_) (fun kv hkv => ?_)
          · simp only [hmv, Instr.mapUpdate, Sem.run_bind, run_underlying (under_map hT hdesc), Result.andThen_ok, MapKept.run_getObj_map hg, hck, findKey_run hT hkd a2]
            have hgetD : (es[j]?.map (·.key)).getD (a.eval k) = e.key := by rw [a3']; rfl
            rw [hgetD]
            simp only [Instr.keyThatStays, hsb.1, if_true, Sem.run_pure, Result.andThen_ok, MapKept.run_setObj_map _ hg]
          · rw [a7, List.getElem?_set] at b
            rw [Array.getElem?_modify] at c
            by_cases hij : j = i
            · subst hij
              rw [if_pos rfl, if_pos a4] at b
              rw [if_pos rfl, a3'] at c
              cases b
              cases c
              exact ⟨hkr, hvr⟩
            · rw [if_neg hij] at b
              rw [if_neg hij] at c
              exact hrep i kv e' b c
          · rw [a7] at hkv
            rcases List.mem_or_eq_of_mem_set hkv with hkv | hkv
            · exact hp kv hkv
            · subst hkv; exact hpk
      | _ => exact ht.elim
  · exact ht.elim
end
end Go.Eng
