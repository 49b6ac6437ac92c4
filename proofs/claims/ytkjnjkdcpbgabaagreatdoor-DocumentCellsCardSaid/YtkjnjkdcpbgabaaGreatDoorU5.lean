/-
 Chapter 23: an item taken out of a list, put into a list: the library's Delete and Insert over a slice of the call's own.
-/
import Derived.Test.YtkjnjkdcpbgabaaGreatDoorU3
import Derived.Test.YtkjnjkdcpbgabaaGreatDoorE6
import Derived.Shelf.RegionOpenPlain
import Derived.WalkKit
import Derived.Deep.RegionLaw
import Derived.Lib.Walk
import Derived.Lib.SliceRun
import Derived.Lib.Overlaps
import Derived.Lib.AppendZerosOnto
import Derived.Laws.IdiomCopy
import Derived.Laws.NewBlocks
import Derived.Laws.Externs
set_option linter.unusedSimpArgs false
set_option linter.unusedVariables false
namespace Go.Proofs.YtkjnjkdcpbgabaaGreatDoor
open Go.RowKit Go.Eng Go.Sort Go.Lib Go.Proofs
theorem setCell_belowX (b o : Nat) (v : Value) (w : World) : BelowX (fun k => k = b) w (w.setCell ⟨b, o, none⟩ v) :=
 ⟨rfl, rfl, rfl, by simp, fun k _ hx => by
  simp only [World.setCell, Array.getElem?_modify]
  rw [if_neg (fun e => hx e.symm)], Nat.le_refl _⟩
theorem setCells_belowX (b : Nat) : ∀ (vs : List Value) (o : Nat) (w : World), BelowX (fun k => k = b) w (w.setCells b o vs)
 | [], _, w => BelowX.refl _ w
 | v :: vs, o, w => (setCell_belowX b o v w).trans (setCells_belowX b vs (o + 1) _) fun _ _ h => h
theorem setCells_row (b : Nat) {e : TypeId} {fz : Nat × Nat} : ∀ (vs : List Value) (o : Nat) (w : World) (cur : Array Value), w.heap[b]? = some (.cells cur e fz) → ∃ cur', (w.setCells b o vs).heap[b]? = some (.cells cur' e fz) ∧ cur'.size = cur.size
 | [], _, w, cur, h => ⟨cur, h, rfl⟩
 | v :: vs, o, w, cur, h => by
  have h1 : (w.setCell ⟨b, o, none⟩ v).heap[b]? = some (.cells (cur.setIfInBounds o v) e fz) := by
   simp only [World.setCell, Array.getElem?_modify, if_pos rfl, h, Option.map_some]
   rfl
  obtain ⟨cur', h2, h3⟩ := setCells_row b vs (o + 1) _ _ h1
  exact ⟨cur', h2, by rw [h3]; simp⟩
theorem drew_belowX (X : Nat → Prop) (w : World) : BelowX X w w.drew := ⟨rfl, rfl, rfl, Nat.le_refl _, fun _ _ _ => rfl, Nat.le_succ _⟩
theorem row_cells {w : World} {g : Nat} {cur : Array Value} {e : TypeId} (h : w.heap[g]? = some (.cells cur e (0, 0))) (k : Nat) (hk : k < cur.size) : (w.cell? ⟨g, k, none⟩).isSome = true ∧ w.frozen? ⟨g, k, none⟩ = false := by
 refine ⟨by rw [cell_of_row _ _ _ _ _ _ h, Array.getElem?_eq_getElem hk]; rfl, ?_⟩
 unfold World.frozen?
 rw [h]
 simp
theorem itemInfo : ∃ (i : TypeInfo) (z : Value), Tryz.prog.info? 30 = some i ∧ i.size = 9 ∧ i.bytes = (Ty 30).bytes ∧ i.zero = some z ∧ z.cells.size = 9 ∧ (∀ u ∈ z.cells.toList, u.oneCell' = true) := by
 obtain ⟨i, z, hinfo, hi1, hi2, hi3, hi4⟩ := (Ty_ok 30).info (of_decide_eq_true (by kernel_rfl))
 have hsz : (Ty 30).size = 9 := by kernel_rfl
 have hzr := zerosOk_rep (w := default) (M := fun _ => False) _ _ hi4.1
 have hzl := RepL.length_eq _ _ hzr
 have hzz : (Ty 30).zero.length = 9 := by kernel_rfl
 exact ⟨i, z, hinfo, by rw [hi1, hsz], hi2, hi3, by simp at hzl; omega, RepCL.oneCell (RepL.toC (β := []) hzr)⟩
theorem underItems : Tryz.prog.underlying 22 = some (.slice 30) := Tryz.underlying22
theorem run_clear_items (w : World) (ty : TypeId) (b o n c : Nat) (hn : 0 < n) (hc : ∀ j, j < n * 9 → (w.cell? ⟨b, o + j, none⟩).isSome = true) (hf : ∀ j, j < n * 9 → w.frozen? ⟨b, o + j, none⟩ = false) :
  ∃ zs : List Value, zs.length = n * 9 ∧ (∀ u ∈ zs, u.oneCell' = true) ∧ (Builtin.clear_ #[22] ty #[.slice (some ⟨b, o, none⟩) n c]).run Tryz.prog w = .ok (.tuple #[]) (w.setCells b o zs) := by
 obtain ⟨i, z, hinfo, hi1, hi2, hi3, hi4, hi5⟩ := itemInfo
 have hv : ∀ w, (zeroValue 30).run Tryz.prog w = .ok z w := fun w => by simp [zeroValue, typeInfo, hinfo, hi3]
 have hlen : (Builtin.zeroCells z.cells n).toList.length = n * 9 := by rw [Array.length_toList, size_zeroCells, hi4]
 have hone : ∀ u ∈ (Builtin.zeroCells z.cells n).toList, u.oneCell' = true := by
  intro u hu
  simp only [Builtin.zeroCells, Array.toList_map, List.mem_map, Array.toList_range, List.mem_range] at hu
  obtain ⟨j, hj, rfl⟩ := hu
  rw [getElem!_pos z.cells _ (Nat.mod_lt _ (by omega))]
  exact hi5 _ (by simp)
 have hst := run_storeCells_cells (P := Tryz.prog) b o (Builtin.zeroCells z.cells n).toList 0 w (by rw [hlen]; simpa using hc) (by rw [hlen]; simpa using hf) hone
 simp only [Nat.add_zero] at hst
 obtain ⟨m, rfl⟩ : ∃ m, n = m + 1 := ⟨n - 1, by omega⟩
 refine ⟨_, hlen, hone, ?_⟩
 simp only [Builtin.clear_]
 simp [run_underlying underItems, hv, hst]
set_option maxHeartbeats 4000000 in
set_option maxRecDepth 1000000 in
theorem Delete_w (g c n i : Nat) (cur : Array Value) (w : World) (hblk : w.heap[g]? = some (.cells cur 30 (0, 0))) (hcs : cur.size = c * 9) (hnc : n ≤ c) (hi : i < n) (hn : n ≤ 1000) (hc63 : c ≤ 9223372036854775807) (hone : ∀ t u, t < n * 9 → cur[t]? = some u → u.oneCell' = true) :
  Calls Tryz.prog 48 #[.slice (some ⟨g, 0, none⟩) n c, .int .i64 i, .int .i64 ((i : Int) + 1)] w fun e w' => e = .returned (.slice (some ⟨g, 0, none⟩) (n - 1) c) ∧
   ∃ news zs : List Value, news.length = (n - (i + 1)) * 9 ∧ (∀ t u, news[t]? = some u → cur[(i + 1) * 9 + t]? = some u) ∧ zs.length = 9 ∧ w' = (w.drew.setCells g (i * 9) news).setCells g ((n - 1) * 9) zs := by
 obtain ⟨i0, z0, hinfo, hi1, _, _, _, _⟩ := itemInfo
 have hc9 : n * 9 ≤ c * 9 := Nat.mul_le_mul_right 9 hnc
 obtain ⟨news, hnews⟩ : ∃ news, news = (cur.toList.drop ((i + 1) * 9)).take ((n - (i + 1)) * 9) := ⟨_, rfl⟩
 have hlen : news.length = (n - (i + 1)) * 9 := by rw [hnews]; simp; omega
 have hget : ∀ t u, news[t]? = some u → cur[(i + 1) * 9 + t]? = some u := by
  intro t u hu
  rw [hnews, List.getElem?_take] at hu
  split at hu
  ·rw [List.getElem?_drop] at hu
   simpa using hu
  ·cases hu
 have hcell : ∀ W : World, W.heap[g]? = some (.cells cur 30 (0, 0)) → ∀ k, W.cell? ⟨g, k, none⟩ = cur[k]? := fun W h k => cell_of_row _ _ _ _ _ _ h
 obtain ⟨A, hA, hsrc⟩ : ∃ A : Addr, (if c = i + 1 then (some (⟨g, 0, none⟩ : Addr)) else some ⟨g, (i + 1) * 9, none⟩) = some A ∧ Hid (∀ t u, news[t]? = some u → w.drew.cell? (A.add t) = some u) := by
  by_cases h : c = i + 1
  ·refine ⟨⟨g, 0, none⟩, by simp [h], fun t u hu => ?_⟩
   have h0 : news.length = 0 := by rw [hlen]; omega
   rw [List.length_eq_zero_iff.1 h0] at hu
   simp at hu
  ·refine ⟨⟨g, (i + 1) * 9, none⟩, by simp [h], fun t u hu => ?_⟩
   rw [Addr.add_lit]
   exact (hcell _ hblk _).trans (hget t u hu)
 have s1 : Hid (news.length = (n - (i + 1)) * 9) := hlen
 have s2 : Hid (∀ u ∈ news, u.oneCell' = true) := by
  intro u hu
  obtain ⟨t, ht, rfl⟩ := List.mem_iff_getElem.1 hu
  have := hget t _ (List.getElem?_eq_getElem ht)
  exact hone _ _ (by omega) this
 have s3 : Hid (∀ t, t < news.length → (w.drew.cell? ⟨g, 0 + i * 9 + t, none⟩).isSome = true ∧ w.drew.frozen? ⟨g, 0 + i * 9 + t, none⟩ = false) := by
  intro t ht
  rw [hlen] at ht
  exact row_cells (w := w.drew) hblk _ (by omega)
 obtain ⟨W1, hW1⟩ : ∃ W1, W1 = w.drew.setCells g (0 + i * 9) news := ⟨_, rfl⟩
 obtain ⟨cur1, hb1, hcs1⟩ : ∃ cur1, W1.heap[g]? = some (.cells cur1 30 (0, 0)) ∧ cur1.size = cur.size := by
  rw [hW1]
  exact setCells_row g _ _ _ _ hblk
 obtain ⟨zs, hz1, _, hclr⟩ : ∃ zs : List Value, zs.length = 9 ∧ (∀ u ∈ zs, u.oneCell' = true) ∧ ∀ ty, (Builtin.clear_ #[22] ty #[.slice (some ⟨g, (i + (n - (i + 1))) * 9, none⟩) (n - (i + (n - (i + 1)))) (c - (i + (n - (i + 1))))]).run Tryz.prog W1 = .ok (.tuple #[]) (W1.setCells g ((i + (n - (i + 1))) * 9) zs) := by
  have e1 : n - (i + (n - (i + 1))) = 1 := by omega
  rw [e1]
  obtain ⟨zs, q1, q2, q3⟩ := run_clear_items W1 0 g ((i + (n - (i + 1))) * 9) 1 (c - (i + (n - (i + 1)))) (by omega) (fun j hj => (row_cells hb1 _ (by rw [hcs1]; omega)).1) (fun j hj => (row_cells hb1 _ (by rw [hcs1]; omega)).2)
  exact ⟨zs, q1, q2, fun ty => by rw [← q3]; simp only [Builtin.clear_]⟩
 have HW : Hid (W1 = w.drew.setCells g (0 + i * 9) news) := hW1
 have HG : Aside (news.length = (n - (i + 1)) * 9 ∧ (∀ t u, news[t]? = some u → cur[(i + 1) * 9 + t]? = some u) ∧ zs.length = 9) := ⟨hlen, hget, hz1⟩
 have hic : i ≤ c := by omega
 have hjc : i + 1 ≤ c := by omega
 have hin1 : i + 1 ≤ n := by omega
 have hmx : Tryz.prog.follows .mixedOrders = true := by kernel_rfl
 have HMX : Aside _ := hmx
 clear hW1 hb1 hcs1 hget hnews hcell hblk hone hcs hmx hlen hz1
 go_enter Tryz.func48, Tryz.ntmps48
 go_wp2_with fail
 have mixed := HMX.out
 have hz1 : (0 : Int) ≤ (i : Int) + 1 := by omega
 have hz2 : (i : Int) + 1 ≤ (n : Int) := by omega
 go_region_law_o (refine step_append_room rfl (.tmp 22) (.tmp 25) 22 rfl 30 i0 9 underItems hinfo hi1 g 0 i c (by simp [Act.eval, Act.put]) A (n - (i + 1)) (c - (i + 1)) news (by simp [Act.eval, Act.put]) s1.out hsrc.out s2.out (by omega) s3.out ?_; rw [← HW.out])
 clear mixed
 go_wp2
 go_ret
 refine ⟨by rw [show i + (n - (i + 1)) = n - 1 by omega]; rfl, news, zs, HG.out.1, HG.out.2.1, HG.out.2.2, ?_⟩
 rw [HW.out, Nat.zero_add, show i + (n - (i + 1)) = n - 1 by omega]
theorem own_ret {n c g : Nat} : ∀ (w' : World) (M : Nat → Prop) (β : List Value), β = [.slice (some ⟨g, 0, none⟩) n c] → RepV w' M β (.one (.own 0)) (.slice (some ⟨g, 0, none⟩) n c) := by
 rintro w' M β rfl
 exact ⟨.inl rfl, rfl⟩
theorem vargs3 {w : World} {M : Nat → Prop} {β vs : List Value} {a b c : AV} (h : RepVL w M β [a, b, c] vs) : ∃ v u x, vs = [v, u, x] ∧ RepV w M β a v ∧ RepV w M β b u ∧ RepV w M β c x := by
 obtain ⟨v, r, rfl, h1, u, r2, rfl, h2, x, r3, rfl, h3, h4⟩ := h
 obtain rfl : r3 = [] := h4
 exact ⟨v, u, x, rfl, h1, h2, h3⟩
theorem erase_get (l : List It) (i j : Nat) (x : List D) (hi : i < l.length) (h : (itD (l.take i ++ l.drop (i + 1)))[j]? = some x) : j < l.length - 1 ∧ (itD l)[if j < i then j else j + 1]? = some x := by
 rw [← itD_append, ← itD_take, ← itD_drop] at h
 have hl : (itD l).length = l.length := itD_length l
 have hj : j < ((itD l).take i ++ (itD l).drop (i + 1)).length := (List.getElem?_eq_some_iff.1 h).1
 simp only [List.length_append, List.length_take, List.length_drop, hl] at hj
 refine ⟨by omega, ?_⟩
 rw [List.getElem?_append, List.length_take, hl, Nat.min_eq_left (by omega)] at h
 split
 ·rename_i hji
  rw [if_pos hji, List.getElem?_take, if_pos hji] at h
  exact h
 ·rename_i hji
  rw [if_neg hji, List.getElem?_drop] at h
  rw [← h]
  congr 1
  omega
theorem one_cells {w : World} {M : Nat → Prop} {g : Nat} {cur : Array Value} {e : TypeId} {rows : List (List D)} (hb : w.heap[g]? = some (.cells cur e (0, 0))) (hr : RepRows w M ⟨g, 0, none⟩ 9 0 rows) : ∀ t u, t < rows.length * 9 → cur[t]? = some u → u.oneCell' = true := by
 intro t u ht hu
 obtain ⟨vs, k1, k2, k3⟩ := RepRows.cellList rows 0 hr
 have hv := k2 t _ (List.getElem?_eq_getElem (by omega))
 rw [add_lit, Nat.zero_add, Nat.zero_add, cell_of_row _ _ _ _ _ _ hb, hu] at hv
 cases hv
 exact RepCL.oneCell (RepL.toC (β := []) k3) _ (List.getElem_mem _)
theorem Delete_c (l : List It) (i : Nat) (hi : i < l.length) (hl : l.length ≤ 1000) : MCalls Tryz.prog 48 0 [.row 30 9 (itD l)] [.one (.own 0), .one (.int .i64 i), .one (.int .i64 ((i : Int) + 1))] (.one (.own 0)) [.row 30 9 (itD (l.take i ++ l.drop (i + 1)))] := by
 refine ⟨by kernel_rfl, rfl, fun w M0 F vs hM hp hv => ?_⟩
 obtain ⟨v, u, x, rfl, hv1, rfl, rfl⟩ := vargs3 hv
 obtain ⟨A, c, rfl, rfl, h2, h3, h4⟩ := row_inK hp hv1
 rw [itD_length] at *
 rcases h4 with h4 | ⟨hc0, g, cur, rfl, hg, h5, h6, h7, h8⟩
 ·omega
 have hlen2 : (itD (l.take i ++ l.drop (i + 1))).length = l.length - 1 := by rw [itD_length, List.length_append, List.length_take, List.length_drop]; omega
 refine (Delete_w g c l.length i cur w h5 h6 h2 hi hl (by simp only [maxLen] at h3; omega) (by have := one_cells h5 h7; rwa [itD_length] at this)).mono ?_
 rintro e w' ⟨rfl, news, zs, n1, n2, n3, rfl⟩
 have hlen9 : l.length * 9 ≤ c * 9 := Nat.mul_le_mul_right 9 h2
 obtain ⟨cur1, hb1, hs1⟩ := setCells_row g news (i * 9) w.drew cur h5
 obtain ⟨cur2, hb2, hs2⟩ := setCells_row g zs ((l.length - 1) * 9) _ cur1 hb1
 have key : ∀ n', (itD (l.take i ++ l.drop (i + 1))).length = n' → RepRows ((w.drew.setCells g (i * 9) news).setCells g ((l.length - 1) * 9) zs) (fun k => M0 k ∨ k = g) ⟨g, 0, none⟩ 9 0 (itD (l.take i ++ l.drop (i + 1))) → ∃ v' β, Ending.returned (.slice (some ⟨g, 0, none⟩) n' c) = .returned v' ∧ ResM w ((w.drew.setCells g (i * 9) news).setCells g ((l.length - 1) * 9) zs) M0 [.slice (some ⟨g, 0, none⟩) l.length c] 0 (.one (.own 0)) [.row 30 9 (itD (l.take i ++ l.drop (i + 1)))] v' β := by
  rintro _ rfl hR
  exact resM_rowK hg (by omega) (.inl rfl) hc0 h3 (((drew_belowX _ w).trans (setCells_belowX g news _ _) fun _ _ h => h).trans (setCells_belowX g zs _ _) fun _ _ h => h) hb2 (by rw [hs2, hs1]; exact h6) hR (fun M β hb => own_ret _ M β hb) (Nat.zero_le _)
 refine key _ hlen2 ?_
 have hkeep : Keeps w (Mof M0 [.slice (some ⟨g, 0, none⟩) l.length c]) ((w.drew.setCells g (i * 9) news).setCells g ((l.length - 1) * 9) zs) fun k => M0 k ∨ k = g := by
  have hB := ((drew_belowX (fun k => k = g) w).trans (setCells_belowX g news (i * 9) _) fun _ _ h => h).trans (setCells_belowX g zs ((l.length - 1) * 9) _) fun _ _ h => h
  exact ⟨hB.size, fun k hk hm => hB.block k hk fun e => hm ((h8 k).2 (.inr e)), fun k hk hm hm' => hm ((h8 k).2 hm')⟩
 have hnew : ∀ t, t < news.length → (w.drew.setCells g (i * 9) news).cell? ⟨g, i * 9 + t, none⟩ = news[t]? := fun t ht => by
  rw [World.cell?_setCells_in g news (i * 9) w.drew (fun j hj => (row_cells (w := w.drew) h5 _ (by omega)).1) t ht, List.getElem?_eq_getElem ht]
 refine RepRows.of_get _ _ fun j x hx => ?_
 obtain ⟨hj, hx2⟩ := erase_get l i j x hi hx
 obtain ⟨us, k1, k2, k3⟩ := RepRows.get _ 0 h7 _ _ hx2
 refine ⟨us, k1, fun t u hu => ?_, RepL.keep hkeep _ _ k3⟩
 have ht : t < 9 := by have := (List.getElem?_eq_some_iff.1 hu).1; omega
 have h0 := k2 t u hu
 rw [add_lit, cell_of_row _ _ _ _ _ _ h5] at h0
 rw [add_lit, World.cell?_setCells_out g zs _ _ _ (fun _ _ => by left; show 0 + (0 + j * 9 + t) < (l.length - 1) * 9; omega)]
 split at h0
 ·rename_i hji
  rw [World.cell?_setCells_out g news _ _ _ (fun _ _ => by left; show 0 + (0 + j * 9 + t) < i * 9; omega)]
  show w.cell? _ = _
  rw [cell_of_row _ _ _ _ _ _ h5]
  exact h0
 ·rename_i hji
  have e1 : 0 + (0 + j * 9 + t) = i * 9 + ((j - i) * 9 + t) := by omega
  rw [e1, hnew _ (by rw [n1]; omega)]
  have hlt : (j - i) * 9 + t < news.length := by rw [n1]; omega
  have := n2 _ _ (List.getElem?_eq_getElem hlt)
  rw [List.getElem?_eq_getElem hlt, ← this, ← h0]
  congr 1
  omega
end Go.Proofs.YtkjnjkdcpbgabaaGreatDoor
