/-
 Chapter 05: Compact over edges.
-/
import Derived.Test.YtgagpbbnbonnlaaDoorZY
import Derived.Shelf.SlSortCmp.NoneTotal
set_option linter.unusedSimpArgs false
set_option linter.unusedVariables false
namespace Go.Proofs.YtgagpbbnbonnlaaDoor
open Go.RowKit Go.Eng Go.Sort Go.Lib Go.Proofs
theorem edV_guard (op : BinOp) (a b : Operand) (x y : Ed) (w : World) : Sem.run Tryd.prog (eqGuard op 43 a b (.agg (edV x).toArray) (.agg (edV y).toArray)) w = .ok () w :=
 run_eqGuard_agg w op _ a b _ _ (by kernel_rfl)
theorem edV_equal (x y : Ed) (w : World) : Sem.run Tryd.prog (Op.equal 43 (.agg (edV x).toArray) (.agg (edV y).toArray)) w = .ok (decide (x = y)) w := by
 have h3 : decide (x = y) = eqRow x.d y.d := by
  obtain ⟨a, b, c⟩ := x
  obtain ⟨d, e, f⟩ := y
  simp only [Ed.d, eqRow, eqD, Bool.and_true]
  rw [Bool.eq_iff_iff]
  simp
 rw [h3]
 have key : ∀ d, Sem.run Tryd.prog (Op.equalIn (d + 2) 43 (.agg (edV x).toArray) (.agg (edV y).toArray)) w = .ok (eqRow x.d y.d) w := fun d => by
  rw [run_equalIn_struct w (d + 1) _ _ _ (by kernel_rfl) (by kernel_rfl)]
  have hu := edV_repC w (fun _ => False) [] x
  have hv := edV_repC w (fun _ => False) [] y
  exact eqFields_run Ty_ok d (edV x) (edV y) _ 0 x.d y.d (of_decide_eq_true (by kernel_rfl)) (by kernel_rfl) (by simpa using hu) (by simpa using hv)
 exact key 9998
theorem edV_eql (x y : Ed) (w : World) : Sem.run Tryd.prog (binOp .eql 43 (.agg (edV x).toArray) (.agg (edV y).toArray)) w = .ok (.bool (decide (x = y))) w := by
 simp [binOp, edV_equal]
theorem edV_neq (x y : Ed) (w : World) : Sem.run Tryd.prog (binOp .neq 43 (.agg (edV x).toArray) (.agg (edV y).toArray)) w = .ok (.bool (!decide (x = y))) w := by
 simp [binOp, edV_equal, bne]
theorem setMany_set (d : Array Ed) (i : Nat) (x : Ed) (hi : i < d.size) : setMany (flatK edV 3 d) (i * 3) (edV x) = flatK edV 3 (d.setIfInBounds i x) := by
 refine ext_get! (by simp) fun t ht => ?_
 have ht' : t < d.size * 3 := by simpa using ht
 rw [get_setMany _ _ _ t (by simpa using ht'), get_flatK _ _ _ t ht', get_flatK _ _ _ t (by simpa using ht'), edV_length]
 by_cases a : t / 3 = i
 ·rw [if_pos (by omega), a, getElem!_set_same d i x hi, show t - i * 3 = t % 3 by omega]
 ·rw [if_neg (by omega), getElem!_set_other d i _ x a]
def edZ : Ed := ⟨0, 0, 0⟩
def zapE (d : Array Ed) (k : Nat) : Array Ed := (Array.range d.size).map fun i => if k ≤ i then edZ else d[i]!
theorem zapE_size (d : Array Ed) (k : Nat) : (zapE d k).size = d.size := by simp [zapE]
theorem zapE_get (d : Array Ed) (k j : Nat) (h : j < d.size) : (zapE d k)[j]! = if k ≤ j then edZ else d[j]! := by
 rw [getElem!_pos _ j (by rw [zapE_size]; exact h)]
 simp [zapE]
theorem edZ_cell (t : Nat) (h : t < 3) : (edV edZ)[t]! = .int .i64 0 := by
 have : t = 0 ∨ t = 1 ∨ t = 2 := by omega
 rcases this with rfl | rfl | rfl <;> rfl
theorem setMany_zap (d : Array Ed) (k : Nat) (hk : k ≤ d.size) : setMany (flatK edV 3 d) (k * 3) (List.replicate ((d.size - k) * 3) (.int .i64 0)) = flatK edV 3 (zapE d k) := by
 refine ext_get! (by simp [zapE_size]) fun t ht => ?_
 have ht' : t < d.size * 3 := by simpa using ht
 rw [get_setMany _ _ _ t (by simpa using ht'), get_flatK _ _ _ t ht', get_flatK _ _ _ t (by rw [zapE_size]; exact ht'), zapE_get _ _ _ (by omega), List.length_replicate]
 by_cases a : k ≤ t / 3
 ·rw [if_pos (by omega), if_pos a, edZ_cell _ (by omega), getElem!_pos _ _ (by rw [List.length_replicate]; omega), List.getElem_replicate]
 ·rw [if_neg (by omega), if_neg a]
theorem zeroCells_rep (zz : Array Value) (z : Value) (n : Nat) (h : zz.size = 3) (hz : ∀ i, i < 3 → zz[i]! = z) : (Builtin.zeroCells zz n).toList = List.replicate (n * 3) z := by
 refine List.eq_replicate_iff.2 ⟨by simp [Builtin.zeroCells, h], fun b hb => ?_⟩
 simp only [Builtin.zeroCells, Array.toList_map, List.mem_map] at hb
 obtain ⟨i, _, rfl⟩ := hb
 exact hz _ (by rw [h]; exact Nat.mod_lt _ (by decide))
theorem run_clear_eds (w : World) (ty : TypeId) (b o n c : Nat) (hn : 0 < n)
  (hc : ∀ j, j < n * 3 → (w.cell? ⟨b, o + j, none⟩).isSome = true) (hf : ∀ j, j < n * 3 → w.frozen? ⟨b, o + j, none⟩ = false) :
  (Builtin.clear_ #[27] ty #[.slice (some ⟨b, o, none⟩) n c]).run Tryd.prog w = .ok (.tuple #[]) (w.setCells b o (List.replicate (n * 3) (.int .i64 0))) := by
 have ht : Tryd.prog.underlying 27 = some (.slice 43) := by kernel_rfl
 have hv : ∀ w, (zeroValue 43).run Tryd.prog w = .ok (.agg #[.int .i64 0, .int .i64 0, .int .i64 0]) w := fun w => Tryd.zeroValue43 w
 have hzc := zeroCells_rep (Value.agg #[.int .i64 0, .int .i64 0, .int .i64 0]).cells (.int .i64 0) n rfl (fun i hi => by
  have : i = 0 ∨ i = 1 ∨ i = 2 := by omega
  rcases this with e | e | e <;> rw [e] <;> rfl)
 have hst := run_storeCells_cells (P := Tryd.prog) b o (List.replicate (n * 3) (.int .i64 0)) 0 w (by simpa using hc) (by simpa using hf) (by intro v hv'; rw [List.eq_of_mem_replicate hv']; rfl)
 simp only [Nat.add_zero] at hst
 obtain ⟨m, rfl⟩ : ∃ m, n = m + 1 := ⟨n - 1, by omega⟩
 simp only [Builtin.clear_]
 simp [run_underlying ht, hv, hzc, hst]
set_option maxHeartbeats 4000000 in
set_option maxRecDepth 1000000 in
theorem compact_w (g cap : Nat) (d : Array Ed) (w : World) (hH : HoldsK edV 3 w g 0 d) (hblk : g < w.heap.size) (hsz : d.size ≤ 1000000) (hcap : d.size ≤ cap) :
  Calls Tryd.prog 88 #[.slice (some ⟨g, 0, none⟩) d.size cap] w fun e w' => e = .returned (.slice (some ⟨g, 0, none⟩) (compactUpTo d d.size).length cap) ∧ ∃ q d', d'.size = d.size ∧ (∀ j, j < (compactUpTo d d.size).length → d'[j]! = (compactUpTo d d.size).getD j Ed.no) ∧ w' = sortWorldK edV 3 w g 0 q d' #[] := by
 have HS : Aside (∀ q, (∀ j, j < d.size → keeps d j = true) → (compactUpTo d d.size).length = d.size ∧ ∃ q' d', d'.size = d.size ∧ (∀ j, j < (compactUpTo d d.size).length → d'[j]! = (compactUpTo d d.size).getD j Ed.no) ∧ w.drewN q = sortWorldK edV 3 w g 0 q' d' #[]) := fun q hall => by
  have e : compactUpTo d d.size = d.toList := by rw [compactUpTo_all d _ hall, range_map_get]
  rw [e]
  refine ⟨by simp, q, d, rfl, fun j hj => ?_, ?_⟩
  ·have hj' : j < d.size := by simpa using hj
   rw [getElem!_pos d j hj']
   simp [List.getD, hj']
  ·unfold sortWorldK
   rw [grow_empty]
   exact (putRowK_self edV 3 (Sort.ahead w q) g 0 d (holdsK_ahead edV 3 w q g 0 d hH)).symm
 have HH : Aside (HoldsK edV 3 w g 0 d) := hH
 clear hH
 have hmx := mixed
 have heq := edV_eql
 have hne := edV_neq
 have hgd := edV_guard
 simp only [edV] at heq hne hgd
 have hcell : ∀ (W : World) (dk : Array Ed), HoldsK edV 3 W g 0 dk → ∀ i, i < dk.size → W.cell? ⟨g, i * 3, none⟩ = some (.int .i64 (dk[i]!).src) ∧ W.cell? ⟨g, i * 3 + 1, none⟩ = some (.int .i64 (dk[i]!).ev) ∧ W.cell? ⟨g, i * 3 + 2, none⟩ = some (.int .i64 (dk[i]!).dst) := fun W dk h i hi => by
  have h0 := HoldsK.cells h edV_length hi 0 _ rfl
  have h1 := HoldsK.cells h edV_length hi 1 _ rfl
  have h2 := HoldsK.cells h edV_length hi 2 _ rfl
  simp only [add_lit, Nat.zero_add, Nat.add_zero] at h0 h1 h2
  exact ⟨h0, h1, h2⟩
 have HC : Aside _ := hcell
 clear hcell
 by_cases h2 : d.size < 2
 ·go_enter Tryd.func88, Tryd.ntmps88
  go_wp2
  go_ret
  obtain ⟨e1, e2⟩ := HS.out 0 (fun j hj => keeps_lt_one d j (by omega))
  exact ⟨by rw [e1]; rfl, e2⟩
 ·go_enter Tryd.func88, Tryd.ntmps88
  go_wp2
  go_loopg [3] d.size (fun g0 s3 wr => ∃ k q : Nat, 1 ≤ k ∧ k ≤ d.size ∧ d.size - k ≤ g0 ∧ s3 = .int .i64 k ∧ wr = w.drewN q ∧ ∀ j, j < k → keeps d j = true)
  case atStart => exact ⟨1, 0, Nat.le_refl _, by omega, by omega, rfl, rfl, keeps_lt_one d⟩
  case round =>
   obtain ⟨k, q, hk1, hk, hg, rfl, rfl, hall⟩ := hrel
   by_cases hlt : k < d.size
   ·obtain ⟨a0, a1, a2⟩ := HC.out w d HH.out k hlt
    obtain ⟨b0, b1, b2⟩ := HC.out w d HH.out (k - 1) (by omega)
    have A : Aside (∀ j, j < k → keeps d j = true) := hall
    clear hall
    generalize hx : d[k]! = x at a0 a1 a2
    generalize hy : d[k - 1]! = y at b0 b1 b2
    have B : Aside (d[k]! = x ∧ d[k - 1]! = y) := ⟨hx, hy⟩
    clear hx hy
    by_cases hdup : x = y
    ·subst hdup
     go_wp2_with fail
     go_region_o
     go_wp2
     clear a0 a1 a2 b0 b1 b2
     go_loopg [3, 5] d.size (fun g1 s3 s5 wr => ∃ (kk k2 q2 : Nat) (dk : Array Ed), s3 = .int .i64 kk ∧ s5 = .int .i64 k2 ∧ 1 ≤ k2 ∧ k + k2 ≤ d.size ∧ d.size - (k + k2) ≤ g1 ∧ wr = putRowK edV 3 (Sort.ahead w q2) g 0 dk ∧ CompInv d (k + k2) kk dk)
     case atStart => exact ⟨k, 1, q + 1, d, rfl, rfl, Nat.le_refl _, by omega, by omega, (putRowK_self edV 3 (Sort.ahead w (q + 1)) g 0 d (holdsK_ahead edV 3 w (q + 1) g 0 d HH.out)).symm, CompInv.start A.out (keeps_neg (by omega) (by rw [B.out.1, B.out.2]))⟩
     case round =>
      obtain ⟨kk, k2, q2, dk, rfl, rfl, h1, hle, hg2, hwr, hI⟩ := hrel
      have hkk := hI.lt
      have hds := hI.size
      have hHk : HoldsK edV 3 wr g 0 dk := by rw [hwr]; exact holdsK_putRowK edV 3 _ g 0 d dk (holdsK_ahead edV 3 w q2 g 0 d HH.out) hds
      have W2 : Aside (wr = putRowK edV 3 (Sort.ahead w q2) g 0 dk) := hwr
      have I2 : Aside (CompInv d (k + k2) kk dk) := hI
      clear hwr
      by_cases hlt2 : k + k2 < d.size
      ·obtain ⟨cm0, cm1, cm2⟩ := HC.out wr dk hHk (k + k2) (by omega)
       obtain ⟨cp0, cp1, cp2⟩ := HC.out wr dk hHk (k + k2 - 1) (by omega)
       obtain ⟨ck0, ck1, ck2⟩ := HC.out wr dk hHk kk (by omega)
       rw [hI.high (k + k2) (by omega)] at cm0 cm1 cm2
       rw [hI.high (k + k2 - 1) (by omega)] at cp0 cp1 cp2
       simp only [show (k + k2) * 3 = k * 3 + k2 * 3 by omega] at cm0 cm1 cm2
       simp only [show (k + k2 - 1) * 3 = k * 3 + (k2 - 1) * 3 by omega] at cp0 cp1 cp2
       have fk : ∀ t, t < 3 → wr.frozen? ⟨g, kk * 3 + t, none⟩ = false := fun t ht => by
        have := (hHk (kk * 3 + t) (by rw [size_flatK]; omega)).2
        rwa [Nat.zero_add] at this
       have fk0 : wr.frozen? ⟨g, kk * 3, none⟩ = false := fk 0 (by decide)
       have fk1 := fk 1 (by decide)
       have fk2 := fk 2 (by decide)
       clear hHk hI fk
       generalize hu : d[k + k2]! = u at cm0 cm1 cm2
       generalize hv : d[k + k2 - 1]! = v at cp0 cp1 cp2
       generalize dk[kk]! = old at ck0 ck1 ck2
       have C : Aside (d[k + k2]! = u ∧ d[k + k2 - 1]! = v) := ⟨hu, hv⟩
       clear hu hv
       by_cases huv : u = v
       ·subst huv
        go_wp2_with fail
        go_region_o
        go_wp2
        go_roundg (d.size - (k + (k2 + 1)))
        case measure => omega
        case rel => exact ⟨kk, k2 + 1, q2 + 1, dk, rfl, by go_num, by omega, by omega, Nat.le_refl _, by rw [W2.out]; rfl, I2.out.skip (keeps_neg (by omega) (by rw [C.out.1, C.out.2]))⟩
       ·go_wp2_with fail
        go_region_o
        go_wp2
        go_roundg (d.size - (k + (k2 + 1)))
        case measure => omega
        case rel =>
         have hkk' : kk < dk.size := by omega
         refine ⟨kk + 1, k2 + 1, q2 + 1, dk.setIfInBounds kk u, by go_num, by go_num, by omega, by omega, Nat.le_refl _, ?_, by have := I2.out.keep hlt2 (keeps_pos (by rw [C.out.1, C.out.2]; exact huv)); rwa [C.out.1] at this⟩
         have h1 := setCells_putRow (Sort.ahead w q2) g 0 (edV u) (kk * 3) (flatK edV 3 dk) (by rw [edV_length, size_flatK]; omega)
         rw [Nat.zero_add, setMany_set dk kk u hkk'] at h1
         have h2 : putRow id (Sort.ahead w q2) g 0 (flatK edV 3 dk) = wr := W2.out.symm
         rw [h2] at h1
         show (wr.setCells g (kk * 3) (edV u)).drew = _
         rw [h1]
         exact putRowK_drewN edV 3 w q2 1 g 0 (dk.setIfInBounds kk u)
      ·have hend : k + k2 = d.size := by omega
       have hcl : ∀ ty, (Builtin.clear_ #[27] ty #[.slice (some ⟨g, kk * 3, none⟩) (d.size - kk) (cap - kk)]).run Tryd.prog wr = .ok (.tuple #[]) (wr.setCells g (kk * 3) (List.replicate ((d.size - kk) * 3) (.int .i64 0))) :=
        fun ty => run_clear_eds wr ty g (kk * 3) (d.size - kk) (cap - kk) (by omega) (fun j hj => by
         have := (hHk (kk * 3 + j) (by rw [size_flatK]; omega)).1
         rw [Nat.zero_add] at this
         rw [this]; rfl) (fun j hj => by
         have := (hHk (kk * 3 + j) (by rw [size_flatK]; omega)).2
         rwa [Nat.zero_add] at this)
       clear hHk hI
       go_wp2
       go_ret
       have hI := I2.out
       rw [hend] at hI
       refine ⟨by rw [hI.len]; rfl, q2, zapE dk kk, by rw [zapE_size]; exact hds, fun j hj => ?_, ?_⟩
       ·rw [hI.len] at hj
        rw [zapE_get _ _ _ (by omega), if_neg (by omega)]
        have := hI.low j hj
        simp [List.getD, this]
       ·unfold sortWorldK
        rw [grow_empty, W2.out]
        unfold putRowK
        have := setCells_putRow (Sort.ahead w q2) g 0 (List.replicate ((d.size - kk) * 3) (.int .i64 0)) (kk * 3) (flatK edV 3 dk) (by rw [List.length_replicate, size_flatK]; omega)
        rw [Nat.zero_add] at this
        rw [this, ← hds, setMany_zap dk kk (by omega)]
    ·go_wp2_with fail
     go_region_o
     go_wp2
     go_roundg (d.size - (k + 1))
     case measure => omega
     case rel =>
      refine ⟨k + 1, q + 1, by omega, by omega, Nat.le_refl _, by go_num, rfl, fun j hj => ?_⟩
      by_cases e : j = k
      ·subst e
       exact keeps_pos (by rw [B.out.1, B.out.2]; exact hdup)
      ·exact A.out j (by omega)
   ·have : k = d.size := by omega
    subst this
    go_wp2
    go_ret
    obtain ⟨e1, e2⟩ := HS.out q hall
    exact ⟨by rw [e1]; rfl, e2⟩
def compE (l : List Ed) : List Ed := Lib.compact l
theorem compE_length (l : List Ed) : (compE l).length ≤ l.length := Lib.compact_length_le l
theorem CompactEds_c (l : List Ed) (h0 : l ≠ []) (hl : l.length ≤ 1000000) : MCalls Tryd.prog 88 0 [.row 43 3 (edD l)] [.one (.own 0)] (.one (.own 0)) [.row 43 3 (edD (compE l))] := by
 have hpos : 0 < l.length := List.length_pos_iff.2 h0
 have hcl := compE_length l
 refine ⟨by kernel_rfl, rfl, fun w M0 F vs hM hp hv => ?_⟩
 obtain ⟨v, rfl, hv1⟩ := vargs1 hv
 obtain ⟨A, c, rfl, rfl, h2, h3, h4⟩ := row_inK hp hv1
 have hel : ∀ l : List Ed, (edD l).length = l.length := fun l => by simp [edD]
 rw [hel] at *
 rcases h4 with h4 | ⟨hc0, g, cur, rfl, hg, h5, h6, h7, h8⟩
 ·omega
 have hS := compact_w g c l.toArray w (eds_holds h5 h7) hg.2 (by simpa using hl) (by simpa using h2)
 simp only [List.size_toArray] at hS
 refine hS.mono ?_
 rintro e w' ⟨rfl, q, d', hs, hd, rfl⟩
 have e1 : (compactUpTo l.toArray l.length).length = (edD (compE l)).length := by rw [hel]; rfl
 rw [e1]
 refine resM_sortedK edV_length (d' := d') (q := q) (os := #[]) hg (by rw [hel]; omega) (.inl rfl) hc0 h3 h5 h6 (by rw [hs]; exact h2) (eds_rep fun j hj => ⟨by omega, hd j hj⟩) own_ret (Nat.zero_le _)
theorem ordered_c (l : List Ed) (h0 : l ≠ []) (hl : l.length ≤ 1000000) : MCalls Tryd.prog 69 0 [.row 43 3 (edD l)] [.one (.own 0)] (.one (.own 0)) [.row 43 3 (edD (sortE l))] := by
 have c1 := SortEds_c l h0 hl
 have hp : sortP l ≠ [] := fun e => by
  have := sortP_length l
  rw [e] at this
  exact h0 (List.eq_nil_of_length_eq_zero this.symm)
 have c2 := CompactEds_c (sortP l) hp (by rw [sortP_length]; exact hl)
 rw [show compE (sortP l) = sortE l from ordered_eq l] at c2
 (refine MCalls.of_body Ty_ok mixed Tryd.func69 rfl (by kernel_rfl) Tryd.ntmps69 (by simp) (congrArg Array.toList Tryd.results69) (by simp) (by simp) ?_)
 simp only [slotsOf]
 (repeat' (first | (with_reducible first | exact True.intro | refine And.intro ?_ ?_ | refine awp_block ?_ | ((first | refine awp_seq1 3 [] ?_ | refine awp_seq2 3 [] ?_ | refine awp_seq3 3 [] ?_ | refine awp_seq4 3 [] ?_ | refine awp_seq 3 [] ?_); intro K hK)) | ((with_reducible first | refine awp_reg ?_ | refine awp_exit ?_ | refine awp_skip ?_ | refine likeK_i ?_ | refine otWR_i ?_); simp only [go_sem]) | (with_reducible refine awp_ret ?_; simp only [retF, retM, retL, resV, resW, retO, resAV, AV.bor, D.bor, D.bor1, D.bor0, AV.flatOwn, D.flatOwn, D.flat, AV.tagged, D.tagged, AObj.plain, go_sem]) | ((with_reducible refine awp_cond' ?_ ?_ (fun hb => ?_) (fun hb => ?_)); (simp only [go_sem]); (simp only [go_sem]); all_goals (simp only [go_sem] at hb; try simp only [bls] at hb)) | ((iterate 6 try ((fail_if_success with_reducible refine hK _ ?_ ?_ ?_); clear hK K)); with_reducible refine hK _ ?_ ?_ ?_; rotate_left; (focus (simp only [go_sem]; exact rfl)); clear hK K) | (with_reducible refine gsplit_i (fun hg0 => ?_) (fun hg0 => ?_) <;> first | (with_reducible first | exact absurd hg0 Bool.false_ne_true | exact absurd hg0.symm Bool.false_ne_true) | (simp only [hg0, go_sem])) | (with_reducible refine nilK_i ?_; intro bnil hnil; try simp only []) | (omega; done) | (intro hv; (try simp only [bls] at hv); (try simp only [bls]); omega) | (intro hg; (simp only [hg, Bool.true_and, true_and, implies_true]; try (intro hg2; simp only [hg2, Bool.not_false, Bool.not_true])); done)))
 (refine MCallAt_i [] [0] (c1) ?_ ?_; (focus (simp only [mside, handOk, go_sem]; (first | done | exact (by decide) | exact ⟨by decide, fun t ht => ht.elim⟩ | (refine ⟨by decide, ?_⟩; simp; done)))); simp only [go_sem])
 (repeat' (first | (with_reducible first | exact True.intro | refine And.intro ?_ ?_ | refine awp_block ?_ | ((first | refine awp_seq1 3 [] ?_ | refine awp_seq2 3 [] ?_ | refine awp_seq3 3 [] ?_ | refine awp_seq4 3 [] ?_ | refine awp_seq 3 [] ?_); intro K hK)) | ((with_reducible first | refine awp_reg ?_ | refine awp_exit ?_ | refine awp_skip ?_ | refine likeK_i ?_ | refine otWR_i ?_); simp only [go_sem]) | (with_reducible refine awp_ret ?_; simp only [retF, retM, retL, resV, resW, retO, resAV, AV.bor, D.bor, D.bor1, D.bor0, AV.flatOwn, D.flatOwn, D.flat, AV.tagged, D.tagged, AObj.plain, go_sem]) | ((with_reducible refine awp_cond' ?_ ?_ (fun hb => ?_) (fun hb => ?_)); (simp only [go_sem]); (simp only [go_sem]); all_goals (simp only [go_sem] at hb; try simp only [bls] at hb)) | ((iterate 6 try ((fail_if_success with_reducible refine hK _ ?_ ?_ ?_); clear hK K)); with_reducible refine hK _ ?_ ?_ ?_; rotate_left; (focus (simp only [go_sem]; exact rfl)); clear hK K) | (with_reducible refine gsplit_i (fun hg0 => ?_) (fun hg0 => ?_) <;> first | (with_reducible first | exact absurd hg0 Bool.false_ne_true | exact absurd hg0.symm Bool.false_ne_true) | (simp only [hg0, go_sem])) | (with_reducible refine nilK_i ?_; intro bnil hnil; try simp only []) | (omega; done) | (intro hv; (try simp only [bls] at hv); (try simp only [bls]); omega) | (intro hg; (simp only [hg, Bool.true_and, true_and, implies_true]; try (intro hg2; simp only [hg2, Bool.not_false, Bool.not_true])); done)))
 (refine MCallAt_i [] [0] (c2) ?_ ?_; (focus (simp only [mside, handOk, go_sem]; (first | done | exact (by decide) | exact ⟨by decide, fun t ht => ht.elim⟩ | (refine ⟨by decide, ?_⟩; simp; done)))); simp only [go_sem])
 (repeat' (first | (with_reducible first | exact True.intro | refine And.intro ?_ ?_ | refine awp_block ?_ | ((first | refine awp_seq1 3 [] ?_ | refine awp_seq2 3 [] ?_ | refine awp_seq3 3 [] ?_ | refine awp_seq4 3 [] ?_ | refine awp_seq 3 [] ?_); intro K hK)) | ((with_reducible first | refine awp_reg ?_ | refine awp_exit ?_ | refine awp_skip ?_ | refine likeK_i ?_ | refine otWR_i ?_); simp only [go_sem]) | (with_reducible refine awp_ret ?_; simp only [retF, retM, retL, resV, resW, retO, resAV, AV.bor, D.bor, D.bor1, D.bor0, AV.flatOwn, D.flatOwn, D.flat, AV.tagged, D.tagged, AObj.plain, go_sem]) | ((with_reducible refine awp_cond' ?_ ?_ (fun hb => ?_) (fun hb => ?_)); (simp only [go_sem]); (simp only [go_sem]); all_goals (simp only [go_sem] at hb; try simp only [bls] at hb)) | ((iterate 6 try ((fail_if_success with_reducible refine hK _ ?_ ?_ ?_); clear hK K)); with_reducible refine hK _ ?_ ?_ ?_; rotate_left; (focus (simp only [go_sem]; exact rfl)); clear hK K) | (with_reducible refine gsplit_i (fun hg0 => ?_) (fun hg0 => ?_) <;> first | (with_reducible first | exact absurd hg0 Bool.false_ne_true | exact absurd hg0.symm Bool.false_ne_true) | (simp only [hg0, go_sem])) | (with_reducible refine nilK_i ?_; intro bnil hnil; try simp only []) | (omega; done) | (intro hv; (try simp only [bls] at hv); (try simp only [bls]); omega) | (intro hg; (simp only [hg, Bool.true_and, true_and, implies_true]; try (intro hg2; simp only [hg2, Bool.not_false, Bool.not_true])); done)))
 all_goals first | omega | skip
theorem SortEds0_c : ACalls Tryd.prog 87 [.one (.list []), .one (.clo 73 [])] (.tup []) [] := by
 refine ⟨by kernel_rfl, fun w M vs hM hv => ?_⟩
 obtain ⟨v, u, rfl, hv1, cvs, rfl, hcl, hcr⟩ := vargs2 hv
 obtain ⟨A, c, rfl, _⟩ := hv1
 refine (AnyF.slices_SortFunc_none Tryd.laysSlF06_f87 A c _ w).mono ?_
 rintro e w' ⟨rfl, rfl⟩
 exact ⟨_, [], rfl, ⟨Below.refl _ _, rfl, fun t o h ht => by simp at ht, fun g ⟨t, x, ht, _⟩ => by simp at ht, fun t t' x x' g ht => by simp at ht, ⟨[], rfl, rfl⟩⟩⟩
theorem CompactEds0_c : ACalls Tryd.prog 88 [.one (.list [])] (.one (.list [])) [] := by
 (refine ACalls.of_body Ty_ok mixed Tryd.func88 rfl (by kernel_rfl) Tryd.ntmps88 (by simp) (congrArg Array.toList Tryd.results88) ?_)
 simp only [slotsOf]
 (repeat' (first | (with_reducible first | exact True.intro | refine And.intro ?_ ?_ | refine awp_block ?_ | ((first | refine awp_seq1 6 [] ?_ | refine awp_seq2 6 [] ?_ | refine awp_seq3 6 [] ?_ | refine awp_seq4 6 [] ?_ | refine awp_seq 6 [] ?_); intro K hK)) | ((with_reducible first | refine awp_reg ?_ | refine awp_exit ?_ | refine awp_skip ?_ | refine likeK_i ?_ | refine otWR_i ?_ | refine rD (id := 6) ?_ | refine rD (id := 11) ?_); simp only [go_sem]) | (with_reducible refine awp_ret ?_; simp only [retF, retM, retL, resV, resW, retO, resAV, AV.bor, D.bor, D.bor1, D.bor0, AV.flatOwn, D.flatOwn, D.flat, AV.tagged, D.tagged, AObj.plain, go_sem]) | ((with_reducible refine awp_cond' ?_ ?_ (fun hb => ?_) (fun hb => ?_)); (simp only [go_sem]); (simp only [go_sem]); all_goals (simp only [go_sem] at hb; try simp only [bls] at hb)) | ((iterate 6 try ((fail_if_success with_reducible refine hK _ ?_ ?_ ?_); clear hK K)); with_reducible refine hK _ ?_ ?_ ?_; rotate_left; (focus (simp only [go_sem]; exact rfl)); clear hK K) | (with_reducible refine gsplit_i (fun hg0 => ?_) (fun hg0 => ?_) <;> first | (with_reducible first | exact absurd hg0 Bool.false_ne_true | exact absurd hg0.symm Bool.false_ne_true) | (simp only [hg0, go_sem])) | (with_reducible refine nilK_i ?_; intro bnil hnil; try simp only []) | (omega; done) | (intro hv; (try simp only [bls] at hv); (try simp only [bls]); omega) | (intro hg; (simp only [hg, Bool.true_and, true_and, implies_true]; try (intro hg2; simp only [hg2, Bool.not_false, Bool.not_true])); done)))
 all_goals first | omega | skip
theorem ordered0_c : ACalls Tryd.prog 69 [.one (.list [])] (.one (.list [])) [] := by
 (refine ACalls.of_body Ty_ok mixed Tryd.func69 rfl (by kernel_rfl) Tryd.ntmps69 (by simp) (congrArg Array.toList Tryd.results69) ?_)
 simp only [slotsOf]
 (repeat' (first | (with_reducible first | exact True.intro | refine And.intro ?_ ?_ | refine awp_block ?_ | ((first | refine awp_seq1 3 [] ?_ | refine awp_seq2 3 [] ?_ | refine awp_seq3 3 [] ?_ | refine awp_seq4 3 [] ?_ | refine awp_seq 3 [] ?_); intro K hK)) | ((with_reducible first | refine awp_reg ?_ | refine awp_exit ?_ | refine awp_skip ?_ | refine likeK_i ?_ | refine otWR_i ?_); simp only [go_sem]) | (with_reducible refine awp_ret ?_; simp only [retF, retM, retL, resV, resW, retO, resAV, AV.bor, D.bor, D.bor1, D.bor0, AV.flatOwn, D.flatOwn, D.flat, AV.tagged, D.tagged, AObj.plain, go_sem]) | ((with_reducible refine awp_cond' ?_ ?_ (fun hb => ?_) (fun hb => ?_)); (simp only [go_sem]); (simp only [go_sem]); all_goals (simp only [go_sem] at hb; try simp only [bls] at hb)) | ((iterate 6 try ((fail_if_success with_reducible refine hK _ ?_ ?_ ?_); clear hK K)); with_reducible refine hK _ ?_ ?_ ?_; rotate_left; (focus (simp only [go_sem]; exact rfl)); clear hK K) | ((first | (with_reducible first | refine cA SortEds0_c ?_ | refine cA CompactEds0_c ?_ | refine cD SortEds0_c ?_ | refine cD CompactEds0_c ?_ | refine cO SortEds0_c ?_ | refine cO CompactEds0_c ?_ | refine cR SortEds0_c ?_ | refine cR CompactEds0_c ?_ | refine cG (fun hg => SortEds0_c) ?_ | refine cG (fun hg => CompactEds0_c) ?_ | refine cH (fun hg => SortEds0_c) ?_ | refine cH (fun hg => CompactEds0_c) ?_ | refine cM (fun hg => SortEds0_c) ?_ | refine cM (fun hg => CompactEds0_c) ?_) | (guard_target = CallAt _ _ _ _ _ _ _ _ _ _; first | refine cA SortEds0_c ?_ | refine cA CompactEds0_c ?_) | (guard_target = DCallAt _ _ _ _ _ _ _ _; first | refine cD SortEds0_c ?_ | refine cD CompactEds0_c ?_) | (guard_target = GCallAt _ _ _ _ _ _ _ _ _ _ _; first | refine cG (fun hg => SortEds0_c) ?_ | refine cG (fun hg => CompactEds0_c) ?_)); simp only [go_sem]) | (with_reducible refine gsplit_i (fun hg0 => ?_) (fun hg0 => ?_) <;> first | (with_reducible first | exact absurd hg0 Bool.false_ne_true | exact absurd hg0.symm Bool.false_ne_true) | (simp only [hg0, go_sem])) | (with_reducible refine nilK_i ?_; intro bnil hnil; try simp only []) | (omega; done) | (intro hv; (try simp only [bls] at hv); (try simp only [bls]); omega) | (intro hg; (simp only [hg, Bool.true_and, true_and, implies_true]; try (intro hg2; simp only [hg2, Bool.not_false, Bool.not_true])); done)))
 all_goals first | omega | skip
end Go.Proofs.YtgagpbbnbonnlaaDoor
