/-
 Chapter 23: an item put into a list: the library's Insert over a slice of the call's own.
-/
import Derived.Test.YtkjnjkdcpbgabaaGreatDoorU5
import Derived.Shelf.Spec.SlicesInsert
set_option linter.unusedSimpArgs false
set_option linter.unusedVariables false
namespace Go.Proofs.YtkjnjkdcpbgabaaGreatDoor
open Go.RowKit Go.Eng Go.Sort Go.Lib Go.Proofs
theorem run_copyK (w : World) (ty : TypeId) (b o dLen dCap : Nat) (a : Addr) (sLen sCap : Nat) (cs : List Value) (hn : cs.length = Nat.min sLen dLen * 9)
  (hsrc : ∀ j v, cs[j]? = some v → w.cell? (a.add j) = some v) (hc : ∀ j, j < cs.length → (w.cell? ⟨b, o + j, none⟩).isSome = true) (hf : ∀ j, j < cs.length → w.frozen? ⟨b, o + j, none⟩ = false) (h1 : ∀ v ∈ cs, v.oneCell' = true) :
  (Builtin.copy_ #[22, 22] ty #[.slice (some ⟨b, o, none⟩) dLen dCap, .slice (some a) sLen sCap]).run Tryz.prog w = .ok (goInt (Nat.min sLen dLen)) (w.setCells b o cs) := by
 obtain ⟨i, z, hinfo, hi1, _⟩ := itemInfo
 have hl := run_loadCells_list (P := Tryz.prog) w a cs hsrc
 have hst := run_storeCells_cells (P := Tryz.prog) b o cs 0 w (by simpa using hc) (by simpa using hf) h1
 simp [Builtin.copy_, run_underlying underItems, Builtin.lenOf, Builtin.firstCells, sizeOf, typeInfo, hinfo, hi1, ← hn, hl, hst]
structure InsOut (w : World) (g n i : Nat) (cur : Array Value) (vs : List Value) (g' c' : Nat) (w' : World) : Prop where
 below : BelowX (fun k => k = g) w w'
 own : g' = g ∨ w.heap.size ≤ g'
 cells : ∃ cur', w'.heap[g']? = some (.cells cur' 30 (0, 0)) ∧ cur'.size = c' * 9
 cap : n + 1 ≤ c' ∧ c' ≤ maxLen
 val : ∀ t, t < (n + 1) * 9 → w'.cell? ⟨g', t, none⟩ = if t < i * 9 then cur[t]? else if t < (i + 1) * 9 then vs[t - i * 9]? else cur[t - 9]?
section
variable {g g1 c c1 n i : Nat} {cur : Array Value} {vs : List Value} {w : World}
set_option maxHeartbeats 4000000 in
set_option maxRecDepth 1000000 in
theorem Insert_endroom (hblk : w.heap[g]? = some (.cells cur 30 (0, 0))) (hcs : cur.size = c * 9) (hroom : n + 1 ≤ c) (hn : n ≤ 1000) (hcm : c ≤ maxLen) (hvs : vs.length = 9) (hsrc : ∀ j u, vs[j]? = some u → w.cell? ⟨g1, j, none⟩ = some u) (h1 : ∀ u ∈ vs, u.oneCell' = true) :
  Calls Tryz.prog 53 #[.slice (some ⟨g, 0, none⟩) n c, .int .i64 n, .slice (some ⟨g1, 0, none⟩) 1 c1] w fun e w' => ∃ g' c', e = .returned (.slice (some ⟨g', 0, none⟩) (n + 1) c') ∧ InsOut w g n n cur vs g' c' w' := by
 obtain ⟨i0, z0, hinfo, hi1, hi2, hi3, hi4, hi5⟩ := itemInfo
 have hc9 : (n + 1) * 9 ≤ c * 9 := Nat.mul_le_mul_right 9 hroom
 have hrun : ∀ ty, (Builtin.append_ #[22, 22] ty #[.slice (some ⟨g, 0, none⟩) n c, .slice (some ⟨g1, 0, none⟩) 1 c1]).run Tryz.prog w = .ok (.slice (some ⟨g, 0, none⟩) (n + 1) c) (w.setCells g (n * 9) vs) := fun ty => by
  have := run_append_room_cells (P := Tryz.prog) w 22 ty 30 i0 underItems hinfo g 0 n c ⟨g1, 0, none⟩ 1 c1 vs (by rw [hvs, hi1]) (fun j u hu => by rw [Addr.add_lit, Nat.zero_add]; exact hsrc j u hu) h1 hroom (fun j hj => (row_cells hblk _ (by rw [hi1]; omega)).1) (fun j hj => (row_cells hblk _ (by rw [hi1]; omega)).2)
  rw [hi1, Nat.zero_add] at this
  exact this
 have HB : Aside (w.heap[g]? = some (.cells cur 30 (0, 0))) := hblk
 have HS : Aside (cur.size = c * 9) := hcs
 have HV : Aside (vs.length = 9) := hvs
 have hcz : c ≤ 9223372036854775807 := by simp only [maxLen] at hcm; omega
 clear hblk hcs hsrc hvs h1
 go_enter Tryz.func53, Tryz.ntmps53
 go_wp2_with (at_builtin; refine Lib.wpList_append_run _ rfl _ _ _ _ rfl _ _ rfl rfl _ _ (hrun _) ?_)
 go_ret
 obtain ⟨cur1, hb1, hs1⟩ := setCells_row g vs (n * 9) w cur HB.out
 refine ⟨g, c, rfl, setCells_belowX g vs _ w, .inl rfl, ⟨cur1, hb1, by rw [hs1]; exact HS.out⟩, ⟨hroom, hcm⟩, fun t ht => ?_⟩
 have hV := HV.out
 have hS := HS.out
 split
 ·rw [World.cell?_setCells_out g vs _ _ _ (fun _ _ => by left; show t < n * 9; omega)]
  exact cell_of_row _ _ _ _ _ _ HB.out
 ·have := World.cell?_setCells_in g vs (n * 9) w (fun j hj => (row_cells HB.out _ (by omega)).1) (t - n * 9) (by omega)
  rw [show n * 9 + (t - n * 9) = t by omega] at this
  rw [this, List.getElem?_eq_getElem (by omega)]
set_option maxHeartbeats 4000000 in
set_option maxRecDepth 1000000 in
theorem Insert_endgrow {A : Option Addr} (hA : (n = 0 ∧ c = 0) ∨ (A = some ⟨g, 0, none⟩ ∧ w.heap[g]? = some (.cells cur 30 (0, 0)) ∧ cur.size = c * 9)) (hnc : n ≤ c) (hroom : c < n + 1) (hn : n ≤ 1000) (hvs : vs.length = 9) (hsrc : ∀ j u, vs[j]? = some u → w.cell? ⟨g1, j, none⟩ = some u) (h1 : ∀ u ∈ vs, u.oneCell' = true) :
  Calls Tryz.prog 53 #[.slice A n c, .int .i64 n, .slice (some ⟨g1, 0, none⟩) 1 c1] w fun e w' => ∃ g' c', e = .returned (.slice (some ⟨g', 0, none⟩) (n + 1) c') ∧ InsOut w g n n cur vs g' c' w' := by
 obtain ⟨i0, z0, hinfo, hi1, hi2, hi3, hi4, hi5⟩ := itemInfo
 obtain rfl : c = n := by omega
 obtain ⟨xs, hxl, hxc, hA2⟩ : ∃ xs : List Value, xs.length = c * 9 ∧ (∀ t, t < c * 9 → xs[t]? = cur[t]?) ∧ ((A = none ∧ c = 0 ∧ c = 0) ∨ ∃ b, A = some b ∧ ∀ j u, xs[j]? = some u → w.cell? (b.add j) = some u) := by
  rcases hA with ⟨h0, _⟩ | ⟨rfl, hb, hs⟩
  ·refine ⟨[], by simp [h0], fun t ht => by omega, ?_⟩
   cases A with
   | none => exact .inl ⟨rfl, h0, h0⟩
   | some b => exact .inr ⟨b, rfl, fun j u hu => by simp at hu⟩
  ·refine ⟨cur.toList, by simp [hs], fun t _ => by simp, .inr ⟨_, rfl, fun j u hu => ?_⟩⟩
   rw [Addr.add_lit, Nat.zero_add, cell_of_row _ _ _ _ _ _ hb]
   simpa using hu
 have hbytes : (Ty 30).bytes ≤ 1000 := of_decide_eq_true (by kernel_rfl)
 have hby : (c + 1) * (Ty 30).bytes ≤ 140737488355328 := Nat.le_trans (Nat.mul_le_mul (show c + 1 ≤ 1001 by omega) hbytes) (by decide)
 have hgrow := fun ty => (appRun_slice (ty := ty) (c2 := c1) (A2 := some ⟨g1, 0, none⟩) (k := 1) (vs := vs) (w := w) underItems hinfo hi3 hi1 hi2 (by rw [hvs]) h1 (.inr ⟨_, rfl, fun j u hu => by rw [Addr.add_lit, Nat.zero_add]; exact hsrc j u hu⟩)).grow (by omega) A c c xs hxl hA2 (by omega) hby (by omega)
 have hge := grownCap_ge w (c + 1) c 30
 have hcm := grownCap_le_maxLen w (c + 1) c 30 (by simp only [maxLen]; omega)
 generalize grownCap w (c + 1) c 30 = c' at hgrow hge hcm
 obtain ⟨row, hrow⟩ : ∃ row, row = xs.toArray ++ vs.toArray ++ Builtin.zeroCells z0.cells (c' - (c + 1)) := ⟨_, rfl⟩
 rw [← hrow] at hgrow
 have hrs : row.size = c' * 9 := by
  rw [hrow]
  simp only [Array.size_append, List.size_toArray, size_zeroCells, hi4, hxl, hvs]
  omega
 have hrv : ∀ t, t < (c + 1) * 9 → row[t]? = if t < c * 9 then cur[t]? else vs[t - c * 9]? := fun t ht => by
  rw [hrow, Array.getElem?_append_left (by simp only [Array.size_append, List.size_toArray, hxl, hvs]; omega), Array.getElem?_append]
  simp only [List.size_toArray, List.getElem?_toArray, hxl]
  split
  ·exact hxc t ‹_›
  ·rfl
 have HR : Aside (row.size = c' * 9 ∧ (∀ t, t < (c + 1) * 9 → row[t]? = if t < c * 9 then cur[t]? else vs[t - c * 9]?) ∧ c + 1 ≤ c' ∧ c' ≤ maxLen) := ⟨hrs, hrv, hge, hcm⟩
 clear hrow hrs hrv hA hA2 hsrc h1 hvs hxl hxc hge hcm hby hbytes
 cases A with
 | none =>
  go_enter Tryz.func53, Tryz.ntmps53
  go_wp2_with (at_builtin; refine Lib.wpList_append_run _ rfl _ _ _ _ rfl _ _ rfl rfl _ _ (hgrow _) ?_)
  go_ret
  refine ⟨w.heap.size, c', rfl, ⟨rfl, rfl, rfl, by simp, fun k hk _ => heap_alloc_old w.drew _ hk, Nat.le_succ _⟩, .inr (Nat.le_refl _), ⟨row, heap_alloc_new w.drew _, HR.out.1⟩, HR.out.2.2, fun t ht => ?_⟩
  rw [show (w.alloc (.cells row 30)).drew.cell? ⟨w.heap.size, t, none⟩ = row[t]? from cell_of_row (w.alloc (.cells row 30)) _ _ _ _ _ (heap_alloc_new w _), HR.out.2.1 t ht]
  split
  ·rfl
  ·rfl
 | some a =>
  obtain ⟨ab, ao, asp⟩ := a
  go_enter Tryz.func53, Tryz.ntmps53
  go_wp2_with (at_builtin; refine Lib.wpList_append_run _ rfl _ _ _ _ rfl _ _ rfl rfl _ _ (hgrow _) ?_)
  all_goals
   go_ret
   refine ⟨w.heap.size, c', rfl, ⟨rfl, rfl, rfl, by simp, fun k hk _ => heap_alloc_old w.drew _ hk, Nat.le_succ _⟩, .inr (Nat.le_refl _), ⟨row, heap_alloc_new w.drew _, HR.out.1⟩, HR.out.2.2, fun t ht => ?_⟩
   rw [show (w.alloc (.cells row 30)).drew.cell? ⟨w.heap.size, t, none⟩ = row[t]? from cell_of_row (w.alloc (.cells row 30)) _ _ _ _ _ (heap_alloc_new w _), HR.out.2.1 t ht]
   split
   ·rfl
   ·rfl
set_option maxHeartbeats 8000000 in
set_option maxRecDepth 1000000 in
theorem Insert_shift {cur1 : Array Value} (hblk : w.heap[g]? = some (.cells cur 30 (0, 0))) (hblk1 : w.heap[g1]? = some (.cells cur1 30 (0, 0))) (hne : g1 ≠ g) (hi : i < n) (hcs : cur.size = c * 9) (hroom : n + 1 ≤ c) (hn : n ≤ 1000) (hcm : c ≤ maxLen) (hvs : vs.length = 9) (hsrc : ∀ j u, vs[j]? = some u → w.cell? ⟨g1, j, none⟩ = some u) (h1 : ∀ u ∈ vs, u.oneCell' = true)
  (hone : ∀ t u, t < n * 9 → cur[t]? = some u → u.oneCell' = true) (hcu : cur1.size ≠ 0) :
  Calls Tryz.prog 53 #[.slice (some ⟨g, 0, none⟩) n c, .int .i64 i, .slice (some ⟨g1, 0, none⟩) 1 c1] w fun e w' => ∃ g' c', e = .returned (.slice (some ⟨g', 0, none⟩) (n + 1) c') ∧ InsOut w g n i cur vs g' c' w' := by
 obtain ⟨i0, z0, hinfo, hi1, hi2, hi3, hi4, hi5⟩ := itemInfo
 have hc9 : (n + 1) * 9 ≤ c * 9 := Nat.mul_le_mul_right 9 hroom
 have hcz : c ≤ 9223372036854775807 := by simp only [maxLen] at hcm; omega
 obtain ⟨ms, hms⟩ : ∃ ms, ms = (cur.toList.drop (i * 9)).take ((n - i) * 9) := ⟨_, rfl⟩
 have hml : ms.length = (n - i) * 9 := by rw [hms]; simp; omega
 have hmg : ∀ t u, ms[t]? = some u → cur[i * 9 + t]? = some u := by
  intro t u hu
  rw [hms, List.getElem?_take] at hu
  split at hu
  ·rw [List.getElem?_drop] at hu; simpa using hu
  ·cases hu
 have hm1 : ∀ u ∈ ms, u.oneCell' = true := by
  intro u hu
  obtain ⟨t, ht, rfl⟩ := List.mem_iff_getElem.1 hu
  exact hone _ _ (by omega) (hmg t _ (List.getElem?_eq_getElem ht))
 have hsz : ∀ w, (Go.sizeOf 30).run Tryz.prog w = .ok 9 w := fun w => by simp [sizeOf, typeInfo, hinfo, hi1]
 have hov : ∀ lb cb, (callFunc 88 #[.slice (some ⟨g1, 0, none⟩) 1 c1, .slice (some ⟨g, (i + 1) * 9, none⟩) lb cb]).run Tryz.prog w = .ok (.value (.bool false)) w := fun lb cb => by
  rw [run_callFunc_extern Tryz.func88 (by kernel_rfl) (by kernel_rfl) (by kernel_rfl) (e := Extern.SlicesOverlaps.overlaps #[22, 22] #[4]) (by kernel_rfl),
   Lib.run_overlaps_apart w 22 4 30 underItems 9 hsz ⟨g1, 0, none⟩ ⟨g, (i + 1) * 9, none⟩ 1 c1 lb cb hne 30 30 cur1.size cur.size (by simp [World.shape?, hblk1]) (by simp [World.shape?, hblk]) (by omega) (by unfold World.frozen?; rw [hblk1]; simp) (by unfold World.frozen?; rw [hblk1]; simp)]
  rfl
 have hcp1 : ∀ ty dc sc, (Builtin.copy_ #[22, 22] ty #[.slice (some ⟨g, (i + 1) * 9, none⟩) (n - i) dc, .slice (some ⟨g, i * 9, none⟩) (n + 1 - i) sc]).run Tryz.prog w.drew = .ok (goInt ((n - i : Nat) : Int)) (w.drew.setCells g ((i + 1) * 9) ms) := fun ty dc sc => by
  have e1 : Nat.min (n + 1 - i) (n - i) = n - i := by simp only [Nat.min_def]; split <;> omega
  have := run_copyK w.drew ty g ((i + 1) * 9) (n - i) dc ⟨g, i * 9, none⟩ (n + 1 - i) sc ms (by rw [e1, hml]) (fun j u hu => by rw [Addr.add_lit]; exact (cell_of_row w.drew _ _ _ _ _ hblk).trans (hmg j u hu))
   (fun j hj => (row_cells (w := w.drew) hblk _ (by omega)).1) (fun j hj => (row_cells (w := w.drew) hblk _ (by omega)).2) hm1
  rw [e1] at this
  exact this
 obtain ⟨W1, hW1⟩ : ∃ W1, W1 = w.drew.setCells g ((i + 1) * 9) ms := ⟨_, rfl⟩
 obtain ⟨curA, hbA, hsA⟩ : ∃ curA, W1.heap[g]? = some (.cells curA 30 (0, 0)) ∧ curA.size = cur.size := by rw [hW1]; exact setCells_row g _ _ _ _ hblk
 have hg1c : ∀ j, W1.cell? ⟨g1, j, none⟩ = w.cell? ⟨g1, j, none⟩ := fun j => by
  rw [hW1, World.cell?_setCells_out g ms _ _ _ (fun h _ => absurd h hne)]
  rfl
 have hcp2 : ∀ ty dc, (Builtin.copy_ #[22, 22] ty #[.slice (some ⟨g, i * 9, none⟩) (n + 1 - i) dc, .slice (some ⟨g1, 0, none⟩) 1 c1]).run Tryz.prog W1 = .ok (goInt ((1 : Nat) : Int)) (W1.setCells g (i * 9) vs) := fun ty dc => by
  have e1 : Nat.min 1 (n + 1 - i) = 1 := by simp only [Nat.min_def]; split <;> omega
  have := run_copyK W1 ty g (i * 9) (n + 1 - i) dc ⟨g1, 0, none⟩ 1 c1 vs (by rw [e1, hvs]) (fun j u hu => by rw [Addr.add_lit, Nat.zero_add, hg1c]; exact hsrc j u hu)
   (fun j hj => (row_cells hbA _ (by omega)).1) (fun j hj => (row_cells hbA _ (by omega)).2) h1
  rw [e1] at this
  exact this
 rw [← hW1] at hcp1
 have HZ : Aside (InsOut w g n i cur vs g c (W1.setCells g (i * 9) vs)) := by
  obtain ⟨curB, hbB, hsB⟩ := setCells_row g vs (i * 9) W1 curA hbA
  refine ⟨?_, .inl rfl, ⟨curB, hbB, by rw [hsB, hsA]; exact hcs⟩, ⟨hroom, hcm⟩, fun t ht => ?_⟩
  ·rw [hW1]
   exact ((drew_belowX _ w).trans (setCells_belowX g ms _ _) fun _ _ h => h).trans (setCells_belowX g vs _ _) fun _ _ h => h
  have hcw : ∀ k, w.drew.cell? ⟨g, k, none⟩ = cur[k]? := fun k => cell_of_row w.drew _ _ _ _ _ hblk
  split
  ·rw [World.cell?_setCells_out g vs _ _ _ (fun _ _ => by left; show t < i * 9; omega), hW1, World.cell?_setCells_out g ms _ _ _ (fun _ _ => by left; show t < (i + 1) * 9; omega), hcw]
  ·split
   ·have := World.cell?_setCells_in g vs (i * 9) W1 (fun j hj => (row_cells hbA _ (by omega)).1) (t - i * 9) (by omega)
    rw [show i * 9 + (t - i * 9) = t by omega] at this
    rw [this, List.getElem?_eq_getElem (by omega)]
   ·rw [World.cell?_setCells_out g vs _ _ _ (fun _ _ => by right; show i * 9 + vs.length ≤ t; omega), hW1]
    have hlt : t - (i + 1) * 9 < ms.length := by omega
    have := World.cell?_setCells_in g ms ((i + 1) * 9) w.drew (fun j hj => (row_cells (w := w.drew) hblk _ (by omega)).1) (t - (i + 1) * 9) hlt
    rw [show (i + 1) * 9 + (t - (i + 1) * 9) = t by omega] at this
    rw [this, ← hmg _ _ (List.getElem?_eq_getElem hlt)]
    congr 1
    omega
 have hmx : Tryz.prog.follows .mixedOrders = true := by kernel_rfl
 have HMX : Aside _ := hmx
 clear hmx
 have hw1 : IntKind.i64.wrap ((i : Int) + 1) = (i : Int) + 1 := by rw [IntKind.wrap_i64]; omega
 have hb1 : (0 : Int) ≤ (i : Int) + 1 := by omega
 have hin : i ≤ n := by omega
 have htn : ((i : Int) + 1).toNat = i + 1 := by omega
 have hb2 : ¬ (c = i + 1) := by omega
 have hb3 : (i : Int) ≤ (n : Int) + 1 := by omega
 have hb4 : ¬ (c = i) := by omega
 have hz2 : ¬ ((i : Int) = (n : Int)) := by omega
 clear hblk hblk1 hcs hsrc hvs h1 hone hms hml hmg hm1 hsz hbA hsA hg1c hW1 hc9 hcu hne
 go_enter Tryz.func53, Tryz.ntmps53
 go_wp2_with (simp only [hov])
 have mixed := HMX.out
 go_region_law_o (refine step_copy_runI rfl _ _ 22 22 rfl _ _ (by simp [Act.eval, Act.put]) (by simp [Act.eval, Act.put]) (hcp1 _ _ _) ?_)
 clear mixed
 go_wp2_with (at_builtin; refine wpList_copy_runI _ rfl _ _ 22 22 rfl _ _ rfl rfl (hcp2 _ _) ?_)
 go_ret
 exact ⟨g, c, rfl, HZ.out⟩
set_option maxHeartbeats 8000000 in
set_option maxRecDepth 1000000 in
theorem Insert_grow (hblk : w.heap[g]? = some (.cells cur 30 (0, 0))) (hg1 : g1 < w.heap.size) (hi : i < n) (hcs : cur.size = c * 9) (hnc : n ≤ c) (hroom : c < n + 1) (hn : n ≤ 1000) (hvs : vs.length = 9) (hsrc : ∀ j u, vs[j]? = some u → w.cell? ⟨g1, j, none⟩ = some u) (h1 : ∀ u ∈ vs, u.oneCell' = true)
  (hone : ∀ t u, t < n * 9 → cur[t]? = some u → u.oneCell' = true) :
  Calls Tryz.prog 53 #[.slice (some ⟨g, 0, none⟩) n c, .int .i64 i, .slice (some ⟨g1, 0, none⟩) 1 c1] w fun e w' => ∃ g' c', e = .returned (.slice (some ⟨g', 0, none⟩) (n + 1) c') ∧ InsOut w g n i cur vs g' c' w' := by
 obtain ⟨i0, z0, hinfo, hi1, hi2, hi3, hi4, hi5⟩ := itemInfo
 obtain rfl : c = n := by omega
 have hbw : g < w.heap.size := (Array.getElem?_eq_some_iff.1 hblk).1
 obtain ⟨ms, hms⟩ : ∃ ms, ms = (cur.toList.drop (i * 9)).take ((c - i) * 9) := ⟨_, rfl⟩
 have hml : ms.length = (c - i) * 9 := by rw [hms]; simp; omega
 have hmg : ∀ t u, ms[t]? = some u → cur[i * 9 + t]? = some u := by
  intro t u hu
  rw [hms, List.getElem?_take] at hu
  split at hu
  ·rw [List.getElem?_drop] at hu; simpa using hu
  ·cases hu
 have hm1 : ∀ u ∈ ms, u.oneCell' = true := by
  intro u hu
  obtain ⟨t, ht, rfl⟩ := List.mem_iff_getElem.1 hu
  exact hone _ _ (by omega) (hmg t _ (List.getElem?_eq_getElem ht))
 have hbytes : (Ty 30).bytes ≤ 1000 := of_decide_eq_true (by kernel_rfl)
 have hby : ∀ k, k ≤ 1001 → k * (Ty 30).bytes ≤ 140737488355328 := fun k hk => Nat.le_trans (Nat.mul_le_mul hk hbytes) (by decide)
 have hik : i + (c + 1 - i) = c + 1 := by omega
 have hgrow := fun ty => (appRun_zeros (kq := .i64) (ty := ty) (k := c + 1 - i) (w := w) underItems Tryz.underlying3 hinfo hi3 hi1 hi2 hi4 (by decide) hi5 (by omega) (Nat.le_trans (hby _ (by omega)) (by decide))).grow (by omega) (some ⟨g, 0, none⟩) i c (cur.toList.take (i * 9)) (by simp; omega) (.inr ⟨_, rfl, fun j u hu => by
  rw [List.getElem?_take] at hu
  split at hu
  ·rw [Addr.add_lit, Nat.zero_add, cell_of_row _ _ _ _ _ _ hblk]; simpa using hu
  ·cases hu⟩) (by omega) (by rw [hik]; exact hby _ (by omega)) (by omega)
 rw [hik] at hgrow
 have hkk : ((c : Int) + 1 - (i : Int)) = ((c + 1 - i : Nat) : Int) := by omega
 have hge := grownCap_ge w (c + 1) c 30
 have hcm := grownCap_le_maxLen w (c + 1) c 30 (by simp only [maxLen]; omega)
 generalize grownCap w (c + 1) c 30 = G at hgrow hge hcm
 obtain ⟨row, hrow⟩ : ∃ row, row = (cur.toList.take (i * 9)).toArray ++ (Builtin.zeroCells z0.cells (c + 1 - i)).toList.toArray ++ Builtin.zeroCells z0.cells (G - (c + 1)) := ⟨_, rfl⟩
 rw [← hrow] at hgrow
 have hxl : (cur.toList.take (i * 9)).length = i * 9 := by simp; omega
 have hrs : row.size = G * 9 := by
  rw [hrow]
  simp only [Array.size_append, List.size_toArray, Array.length_toList, size_zeroCells, hi4, hxl]
  omega
 have hrv : ∀ t, t < i * 9 → row[t]? = cur[t]? := fun t ht => by
  rw [hrow, Array.append_assoc, Array.getElem?_append_left (by simp only [List.size_toArray, hxl]; exact ht)]
  simp only [List.getElem?_toArray, List.getElem?_take, if_pos ht]
  simp
 have hrz : ∀ ty, (Builtin.append_ #[22, 3] ty #[.slice (some ⟨g, 0, none⟩) i c, .int .i64 ((c : Int) + 1 - (i : Int))]).run Tryz.prog w = .ok (.slice (some ⟨w.heap.size, 0, none⟩) (c + 1) G) (w.drew.alloc (.cells row 30)) := fun ty => by rw [hkk]; exact hgrow ty
 obtain ⟨W1, hW1⟩ : ∃ W1, W1 = w.drew.alloc (.cells row 30) := ⟨_, rfl⟩
 rw [← hW1] at hrz
 have hb1 : W1.heap[w.heap.size]? = some (.cells row 30 (0, 0)) := by rw [hW1]; exact heap_alloc_new w.drew _
 have hold : ∀ k, k < w.heap.size → W1.heap[k]? = w.heap[k]? := fun k hk => by rw [hW1]; exact heap_alloc_old w.drew _ hk
 have hc9 : (c + 1) * 9 ≤ G * 9 := Nat.mul_le_mul_right 9 hge
 have hcpA : ∀ (W : World), (∀ x, W.cell? x = W1.cell? x) → (∀ x, W.frozen? x = W1.frozen? x) → ∀ ty dc, (Builtin.copy_ #[22, 22] ty #[.slice (some ⟨w.heap.size, i * 9, none⟩) (c + 1 - i) dc, .slice (some ⟨g1, 0, none⟩) 1 c1]).run Tryz.prog W = .ok (goInt ((1 : Nat) : Int)) (W.setCells w.heap.size (i * 9) vs) := fun W hWc hWf ty dc => by
  have e1 : Nat.min 1 (c + 1 - i) = 1 := by simp only [Nat.min_def]; split <;> omega
  have := run_copyK W ty w.heap.size (i * 9) (c + 1 - i) dc ⟨g1, 0, none⟩ 1 c1 vs (by rw [e1, hvs]) (fun j u hu => by rw [Addr.add_lit, Nat.zero_add, hWc, World.cell?_of_block (w := w) (hold _ hg1)]; exact hsrc j u hu)
   (fun j hj => by rw [hWc]; exact (row_cells hb1 _ (by omega)).1) (fun j hj => by rw [hWf]; exact (row_cells hb1 _ (by omega)).2) h1
  rw [e1] at this
  exact this
 obtain ⟨rowB, hbB, hsB⟩ := setCells_row w.heap.size vs (i * 9) W1 row hb1
 have hcpB : ∀ (W : World), (∀ x, W.cell? x = (W1.setCells w.heap.size (i * 9) vs).cell? x) → (∀ x, W.frozen? x = (W1.setCells w.heap.size (i * 9) vs).frozen? x) → ∀ ty dc sc, (Builtin.copy_ #[22, 22] ty #[.slice (some ⟨w.heap.size, (i + 1) * 9, none⟩) (c - i) dc, .slice (some ⟨g, i * 9, none⟩) (c - i) sc]).run Tryz.prog W = .ok (goInt ((c - i : Nat) : Int)) (W.setCells w.heap.size ((i + 1) * 9) ms) := fun W hWc hWf ty dc sc => by
  have e1 : Nat.min (c - i) (c - i) = c - i := by simp only [Nat.min_def]; split <;> omega
  have := run_copyK W ty w.heap.size ((i + 1) * 9) (c - i) dc ⟨g, i * 9, none⟩ (c - i) sc ms (by rw [e1, hml]) (fun j u hu => by
    rw [Addr.add_lit, hWc, World.cell?_setCells_out w.heap.size vs _ _ _ (fun h _ => absurd h (by show g ≠ w.heap.size; omega)), World.cell?_of_block (w := w) (hold _ hbw), cell_of_row _ _ _ _ _ _ hblk]
    exact hmg j u hu)
   (fun j hj => by rw [hWc]; exact (row_cells hbB _ (by omega)).1) (fun j hj => by rw [hWf]; exact (row_cells hbB _ (by omega)).2) hm1
  rw [e1] at this
  exact this
 subst hW1
 have HZ : Aside (∀ W : World, W = (((w.alloc (.cells row 30)).drew.setCells w.heap.size (i * 9) vs).drew).setCells w.heap.size ((i + 1) * 9) ms → InsOut w g c i cur vs w.heap.size G W) := by
  rintro W rfl
  have hbN : (w.alloc (.cells row 30)).drew.heap[w.heap.size]? = some (.cells row 30 (0, 0)) := heap_alloc_new w _
  obtain ⟨rA, hA1, hA2⟩ := setCells_row w.heap.size vs (i * 9) _ row hbN
  have hA1' : (((w.alloc (.cells row 30)).drew.setCells w.heap.size (i * 9) vs).drew).heap[w.heap.size]? = some (.cells rA 30 (0, 0)) := hA1
  obtain ⟨rB, hB1, hB2⟩ := setCells_row w.heap.size ms ((i + 1) * 9) _ rA hA1'
  have X1 : BelowX (fun k => k = g) w (w.alloc (.cells row 30)).drew := ⟨rfl, rfl, rfl, by simp, fun k hk _ => heap_alloc_old w _ hk, Nat.le_succ _⟩
  have hno : ∀ k, k < w.heap.size → k = w.heap.size → k = g := fun k h e => by omega
  refine ⟨((X1.trans (setCells_belowX w.heap.size vs _ _) hno).trans (drew_belowX (fun k => k = w.heap.size) _) hno).trans (setCells_belowX w.heap.size ms _ _) hno, .inr (Nat.le_refl _), ⟨rB, hB1, by rw [hB2, hA2]; exact hrs⟩, ⟨hge, hcm⟩, fun t ht => ?_⟩
  have hdc : ∀ x, (((w.alloc (.cells row 30)).drew.setCells w.heap.size (i * 9) vs).drew).cell? x = ((w.alloc (.cells row 30)).drew.setCells w.heap.size (i * 9) vs).cell? x := fun x => rfl
  split
  ·rw [World.cell?_setCells_out _ ms _ _ _ (fun _ _ => by left; show t < (i + 1) * 9; omega), hdc, World.cell?_setCells_out _ vs _ _ _ (fun _ _ => by left; show t < i * 9; omega), cell_of_row _ _ _ _ _ _ hbN]
   exact hrv t ‹_›
  ·split
   ·rw [World.cell?_setCells_out _ ms _ _ _ (fun _ _ => by left; show t < (i + 1) * 9; omega), hdc]
    have := World.cell?_setCells_in w.heap.size vs (i * 9) _ (fun j hj => (row_cells hbN _ (by omega)).1) (t - i * 9) (by omega)
    rw [show i * 9 + (t - i * 9) = t by omega] at this
    rw [this, List.getElem?_eq_getElem (by omega)]
   ·have hlt : t - (i + 1) * 9 < ms.length := by omega
    have := World.cell?_setCells_in w.heap.size ms ((i + 1) * 9) _ (fun j hj => (row_cells hA1' _ (by omega)).1) (t - (i + 1) * 9) hlt
    rw [show (i + 1) * 9 + (t - (i + 1) * 9) = t by omega] at this
    rw [this, ← hmg _ _ (List.getElem?_eq_getElem hlt)]
    congr 1
    omega
 have hE1 : ∀ x, ((w.alloc (.cells row 30)).drew).cell? x = (w.drew.alloc (.cells row 30)).cell? x := fun x => rfl
 have hE2 : ∀ x, ((w.alloc (.cells row 30)).drew).frozen? x = (w.drew.alloc (.cells row 30)).frozen? x := fun x => rfl
 have hF1 : ∀ x, (((w.alloc (.cells row 30)).drew.setCells w.heap.size (i * 9) vs).drew).cell? x = ((w.drew.alloc (.cells row 30)).setCells w.heap.size (i * 9) vs).cell? x := fun x => rfl
 have hF2 : ∀ x, (((w.alloc (.cells row 30)).drew.setCells w.heap.size (i * 9) vs).drew).frozen? x = ((w.drew.alloc (.cells row 30)).setCells w.heap.size (i * 9) vs).frozen? x := fun x => rfl
 have hmx : Tryz.prog.follows .mixedOrders = true := by kernel_rfl
 have HMX : Aside _ := hmx
 have hG63 : G ≤ 9223372036854775807 := by simp only [maxLen] at hcm; omega
 have hw1 : IntKind.i64.wrap ((i : Int) + 1) = (i : Int) + 1 := by rw [IntKind.wrap_i64]; omega
 have hz0 : (0 : Int) ≤ (i : Int) + 1 := by omega
 have hin : i ≤ c := by omega
 have htn : ((i : Int) + 1).toNat = i + 1 := by omega
 have hb2 : ¬ (c = i) := by omega
 have hb3 : (i : Int) ≤ (c : Int) := by omega
 have hGi : ¬ (G = i) := by omega
 have hGim : ¬ (G = i + 1) := by omega
 have hz2 : ¬ ((i : Int) = (c : Int)) := by omega
 have hz3 : (c : Int) < (c : Int) + 1 := by omega
 have hGc : c + 1 ≤ G := hge
 clear hmx hblk hcs hsrc hvs h1 hone hms hml hmg hm1 hbB hsB hrow hgrow hkk hrs hrv hb1 hold hc9 hge hcm hxl hby hbytes hik
 go_enter Tryz.func53, Tryz.ntmps53
 go_wp2_with (first
  | (at_builtin; refine Lib.wpList_append_run _ rfl _ _ _ _ rfl _ _ rfl rfl _ _ (hrz _) ?_)
  | (at_builtin; refine wpList_copy_runI _ rfl _ _ 22 22 rfl _ _ rfl rfl (hcpA _ hE1 hE2 _ _) ?_)
  | (at_builtin; refine wpList_copy_runI _ rfl _ _ 22 22 rfl _ _ rfl rfl (hcpB _ (fun _ => rfl) (fun _ => rfl) _ _ _) ?_))
 have mixed := HMX.out
 go_region_law_o (refine step_copy_runI rfl _ _ 22 22 rfl (.slice (some ⟨w.heap.size, (i + 1) * 9, none⟩) (c - i) (G - (i + 1))) (.slice (some ⟨g, i * 9, none⟩) (c - i) (c - i)) (by simp [Act.eval, Act.put]) (by simp [Act.eval, Act.put]) (hcpB _ hF1 hF2 3 (G - (i + 1)) (c - i)) ?_)
 clear mixed
 go_wp2
 go_ret
 exact ⟨w.heap.size, G, rfl, HZ.out _ rfl⟩
end
end Go.Proofs.YtkjnjkdcpbgabaaGreatDoor
