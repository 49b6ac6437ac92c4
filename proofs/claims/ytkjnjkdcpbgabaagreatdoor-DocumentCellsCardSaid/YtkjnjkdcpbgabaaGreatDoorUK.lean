/-
 strings.Builder: what writes to it.
-/
import Derived.Test.YtkjnjkdcpbgabaaGreatDoorUJ
import Derived.Test.YtkjnjkdcpbgabaaGreatDoorN1
set_option linter.unusedSimpArgs false
set_option linter.unusedVariables false
namespace Go.Proofs.YtkjnjkdcpbgabaaGreatDoor
open Go.Eng Go.RowKit
theorem strRows_length (s : List UInt8) : (strRows s).length = s.length := by simp [strRows]
theorem strRows_sz (s : List UInt8) : (∀ r : List D, r ∈ strRows s → r.length = 1) ↔ True := ⟨fun _ => trivial, fun _ r hr => by obtain ⟨e, _, rfl⟩ := List.mem_map.1 hr; rfl⟩
theorem strRows_append (s t : List UInt8) : strRows s ++ strRows t = strRows (s ++ t) := by simp [strRows]
attribute [go_sem] strRows_length strRows_sz
theorem WriteString_u (s t : List UInt8) (hs : s.length + t.length ≤ 1000000000) : MCalls Tryz.prog 65 1 [bldU, bldR s] [.one (.vp 0 0), .one (.str t)] (.tup [.one (.int .i64 t.length), .any]) [bldU, bldR (s ++ t)] := by
 have hc := copyCheck_m s
 simp only [bldU, bldR] at hc
 (refine MCalls.of_body Ty_ok mixed Tryz.func65 rfl (by kernel_rfl) Tryz.ntmps65 (by simp) (congrArg Array.toList Tryz.results65) (by simp) (by simp) ?_)
 simp only [slotsOf, bldU, bldR]
 (repeat' (first | (with_reducible first | exact True.intro | refine And.intro ?_ ?_ | refine aBl ?_ | (refine aS 6 [] ?_; intro K hK)) | ((with_reducible first | refine aGo ?_); simp only [go_sem]) | ((with_reducible refine aCd ?_ ?_ (fun hb => ?_) (fun hb => ?_)); (iterate 2 simp only [go_sem]); all_goals (simp only [go_sem] at hb; try simp only [bls] at hb)) | ((iterate 6 try ((fail_if_success with_reducible refine hK _ ?_ ?_ ?_); clear hK K)); with_reducible refine hK _ ?_ ?_ ?_; rotate_left; (focus (simp only [go_sem]; exact rfl)); clear hK K) | (with_reducible refine aGs (fun hg0 => ?_) (fun hg0 => ?_) <;> first | (with_reducible first | exact aF1 hg0 | exact aF2 hg0) | (simp only [hg0, go_sem])) | (with_reducible refine aNk ?_; intro bnil hnil; try simp only []) | exact aZ | fail))
 (refine MCallAt_i [] [0, 1] (hc) ?_ ?_; (focus (simp only [mside, handOk, go_sem]; (first | done | exact (by decide) | exact ⟨by decide, fun t ht => ht.elim⟩ | (refine ⟨by decide, ?_⟩; simp; done)))); simp only [go_sem])
 (repeat' (first | (with_reducible first | exact True.intro | refine And.intro ?_ ?_ | refine aBl ?_ | (refine aS 6 [] ?_; intro K hK)) | ((with_reducible first | refine aGo ?_); simp only [go_sem]) | ((with_reducible refine aCd ?_ ?_ (fun hb => ?_) (fun hb => ?_)); (iterate 2 simp only [go_sem]); all_goals (simp only [go_sem] at hb; try simp only [bls] at hb)) | ((iterate 6 try ((fail_if_success with_reducible refine hK _ ?_ ?_ ?_); clear hK K)); with_reducible refine hK _ ?_ ?_ ?_; rotate_left; (focus (simp only [go_sem]; exact rfl)); clear hK K) | (with_reducible refine aGs (fun hg0 => ?_) (fun hg0 => ?_) <;> first | (with_reducible first | exact aF1 hg0 | exact aF2 hg0) | (simp only [hg0, go_sem])) | (with_reducible refine aNk ?_; intro bnil hnil; try simp only []) | exact aZ | fail))
 exact strRows_append s t
theorem WriteString_n (t : List UInt8) (hs : t.length ≤ 1000000000) : MCalls Tryz.prog 65 1 [bldN, bldR []] [.one (.vp 0 0), .one (.str t)] (.tup [.one (.int .i64 t.length), .any]) [bldU, bldR t] := by
 have hc := copyCheck_n []
 simp only [bldU, bldN, bldR] at hc
 (refine MCalls.of_body Ty_ok mixed Tryz.func65 rfl (by kernel_rfl) Tryz.ntmps65 (by simp) (congrArg Array.toList Tryz.results65) (by simp) (by simp) ?_)
 simp only [slotsOf, bldU, bldN, bldR]
 (repeat' (first | (with_reducible first | exact True.intro | refine And.intro ?_ ?_ | refine aBl ?_ | (refine aS 6 [] ?_; intro K hK)) | ((with_reducible first | refine aGo ?_); simp only [go_sem]) | ((with_reducible refine aCd ?_ ?_ (fun hb => ?_) (fun hb => ?_)); (iterate 2 simp only [go_sem]); all_goals (simp only [go_sem] at hb; try simp only [bls] at hb)) | ((iterate 6 try ((fail_if_success with_reducible refine hK _ ?_ ?_ ?_); clear hK K)); with_reducible refine hK _ ?_ ?_ ?_; rotate_left; (focus (simp only [go_sem]; exact rfl)); clear hK K) | (with_reducible refine aGs (fun hg0 => ?_) (fun hg0 => ?_) <;> first | (with_reducible first | exact aF1 hg0 | exact aF2 hg0) | (simp only [hg0, go_sem])) | (with_reducible refine aNk ?_; intro bnil hnil; try simp only []) | exact aZ | fail))
 (refine MCallAt_i [] [0, 1] (hc) ?_ ?_; (focus (simp only [mside, handOk, go_sem]; (first | done | exact (by decide) | exact ⟨by decide, fun t ht => ht.elim⟩ | (refine ⟨by decide, ?_⟩; simp; done)))); simp only [go_sem])
 (repeat' (first | (with_reducible first | exact True.intro | refine And.intro ?_ ?_ | refine aBl ?_ | (refine aS 6 [] ?_; intro K hK)) | ((with_reducible first | refine aGo ?_); simp only [go_sem]) | ((with_reducible refine aCd ?_ ?_ (fun hb => ?_) (fun hb => ?_)); (iterate 2 simp only [go_sem]); all_goals (simp only [go_sem] at hb; try simp only [bls] at hb)) | ((iterate 6 try ((fail_if_success with_reducible refine hK _ ?_ ?_ ?_); clear hK K)); with_reducible refine hK _ ?_ ?_ ?_; rotate_left; (focus (simp only [go_sem]; exact rfl)); clear hK K) | (with_reducible refine aGs (fun hg0 => ?_) (fun hg0 => ?_) <;> first | (with_reducible first | exact aF1 hg0 | exact aF2 hg0) | (simp only [hg0, go_sem])) | (with_reducible refine aNk ?_; intro bnil hnil; try simp only []) | exact aZ | fail))
 rfl
theorem WriteByte_u (s : List UInt8) (b : UInt8) (hs : s.length ≤ 1000000000) : MCalls Tryz.prog 99 1 [bldU, bldR s] [.one (.vp 0 0), .one (.int .u8 b.toNat)] .any [bldU, bldR (s ++ [b])] := by
 have hc := copyCheck_m s
 simp only [bldU, bldR] at hc
 (refine MCalls.of_body Ty_ok mixed Tryz.func99 rfl (by kernel_rfl) Tryz.ntmps99 (by simp) (congrArg Array.toList Tryz.results99) (by simp) (by simp) ?_)
 simp only [slotsOf, bldU, bldR]
 (repeat' (first | (with_reducible first | exact True.intro | refine And.intro ?_ ?_ | refine aBl ?_ | (refine aS 5 [] ?_; intro K hK)) | ((with_reducible first | refine aGo ?_); simp only [go_sem]) | ((with_reducible refine aCd ?_ ?_ (fun hb => ?_) (fun hb => ?_)); (iterate 2 simp only [go_sem]); all_goals (simp only [go_sem] at hb; try simp only [bls] at hb)) | ((iterate 6 try ((fail_if_success with_reducible refine hK _ ?_ ?_ ?_); clear hK K)); with_reducible refine hK _ ?_ ?_ ?_; rotate_left; (focus (simp only [go_sem]; exact rfl)); clear hK K) | (with_reducible refine aGs (fun hg0 => ?_) (fun hg0 => ?_) <;> first | (with_reducible first | exact aF1 hg0 | exact aF2 hg0) | (simp only [hg0, go_sem])) | (with_reducible refine aNk ?_; intro bnil hnil; try simp only []) | exact aZ | fail))
 (refine MCallAt_i [] [0, 1] (hc) ?_ ?_; (focus (simp only [mside, handOk, go_sem]; (first | done | exact (by decide) | exact ⟨by decide, fun t ht => ht.elim⟩ | (refine ⟨by decide, ?_⟩; simp; done)))); simp only [go_sem])
 (repeat' (first | (with_reducible first | exact True.intro | refine And.intro ?_ ?_ | refine aBl ?_ | (refine aS 5 [] ?_; intro K hK)) | ((with_reducible first | refine aGo ?_); simp only [go_sem]) | ((with_reducible refine aCd ?_ ?_ (fun hb => ?_) (fun hb => ?_)); (iterate 2 simp only [go_sem]); all_goals (simp only [go_sem] at hb; try simp only [bls] at hb)) | ((iterate 6 try ((fail_if_success with_reducible refine hK _ ?_ ?_ ?_); clear hK K)); with_reducible refine hK _ ?_ ?_ ?_; rotate_left; (focus (simp only [go_sem]; exact rfl)); clear hK K) | (with_reducible refine aGs (fun hg0 => ?_) (fun hg0 => ?_) <;> first | (with_reducible first | exact aF1 hg0 | exact aF2 hg0) | (simp only [hg0, go_sem])) | (with_reducible refine aNk ?_; intro bnil hnil; try simp only []) | exact aZ | fail))
 exact strRows_append s [b]
theorem Len_u (s : List UInt8) (hs : s.length ≤ 1000000000) : MCalls Tryz.prog 67 2 [bldU, bldR s] [.one (.vp 0 0)] (.one (.int .i64 s.length)) [bldU, bldR s] := by
 (refine MCalls.of_body Ty_ok mixed Tryz.func67 rfl (by kernel_rfl) Tryz.ntmps67 (by simp) (congrArg Array.toList Tryz.results67) (by simp) (by simp) ?_)
 simp only [slotsOf, bldU, bldR]
 (repeat' (first | (with_reducible first | exact True.intro | refine And.intro ?_ ?_ | refine aBl ?_ | (refine aS 3 [] ?_; intro K hK)) | ((with_reducible first | refine aGo ?_); simp only [go_sem]) | ((with_reducible refine aCd ?_ ?_ (fun hb => ?_) (fun hb => ?_)); (iterate 2 simp only [go_sem]); all_goals (simp only [go_sem] at hb; try simp only [bls] at hb)) | ((iterate 6 try ((fail_if_success with_reducible refine hK _ ?_ ?_ ?_); clear hK K)); with_reducible refine hK _ ?_ ?_ ?_; rotate_left; (focus (simp only [go_sem]; exact rfl)); clear hK K) | (with_reducible refine aGs (fun hg0 => ?_) (fun hg0 => ?_) <;> first | (with_reducible first | exact aF1 hg0 | exact aF2 hg0) | (simp only [hg0, go_sem])) | (with_reducible refine aNk ?_; intro bnil hnil; try simp only []) | exact aZ | fail))
theorem freeze_belowX (g n : Nat) (w : World) : BelowX (fun k => k = g) w (w.freeze ⟨g, 0, none⟩ n) := by
 unfold World.freeze
 split
 ·exact BelowX.refl _ _
 ·exact ⟨rfl, rfl, rfl, by simp, fun k _ hk => by
   simp only [Array.getElem?_modify]
   rw [if_neg (fun e => hk e.symm)], Nat.le_refl _⟩
set_option maxHeartbeats 1000000 in
set_option maxRecDepth 100000 in
theorem String_x (b g cap : Nat) (p : Value) (cur : Array Value) (l : List UInt8) (w : World) (hbk : w.heap[b]? = some (.cells #[p, .slice (some ⟨g, 0, none⟩) l.length cap] 122 (0, 0)))
  (hg : w.heap[g]? = some (.cells cur 5 (0, 0))) (hnc : l.length ≤ cap) (hcm : cap ≤ maxLen) (hcs : cur.size = cap) (hcell : ∀ j x, l[j]? = some x → w.cell? ((⟨g, 0, none⟩ : Addr).add j) = some (.int .u8 x.toNat)) (h0 : l ≠ []) :
  Calls Tryz.prog 68 #[.pointer (some ⟨b, 0, none⟩)] w fun e w' => e = .returned (.string ⟨l.toArray⟩) ∧ BelowX (fun k => k = g) w w' := by
 have hl0 : l.length ≠ 0 := by simpa using h0
 have c1 : w.drew.cell? ⟨b, 1, none⟩ = some (.slice (some ⟨g, 0, none⟩) l.length cap) := by
  have : w.drew.heap[b]? = some (.cells #[p, .slice (some ⟨g, 0, none⟩) l.length cap] 122 (0, 0)) := hbk
  rw [Lib.cell_of_heap this]; rfl
 have hSD : (Builtin.unsafeSliceData_ #[120] 156 #[.slice (some ⟨g, 0, none⟩) l.length cap]).run Tryz.prog w.drew = .ok (.pointer (some ⟨g, 0, none⟩)) w.drew :=
  Lib.run_unsafeSliceData_row _ _ _ _ _ _ (by omega)
 have hUS : (Builtin.unsafeString_ #[156, 3] 9 #[.pointer (some ⟨g, 0, none⟩), .int .i64 l.length]).run Tryz.prog w.drew = .ok (.string ⟨l.toArray⟩) (w.drew.freeze ⟨g, 0, none⟩ l.length) := by
  refine Lib.run_unsafeString_row w.drew 156 3 9 5 Tryz.underlying156 cellsByte g cur.size (by have hg' : w.drew.heap[g]? = some (.cells cur 5 (0, 0)) := hg; simp [World.shape?, hg']) l h0 (by omega) (by unfold maxLen at hcm; omega) ?_
  intro j x hx
  exact hcell j x hx
 have mixed : Tryz.prog.follows .mixedOrders = true := by kernel_rfl
 go_enter Tryz.func68, Tryz.ntmps68
 go_wp2
 go_region_o
 all_goals (go_wp2; go_ret; exact ⟨rfl, (BelowX.of (X := fun k => k = g) (Below.drew (Below.refl w.heap.size w))).trans (freeze_belowX g _ _) fun _ _ h => h⟩)
theorem String_u (s : List UInt8) (h0 : s ≠ []) : MCalls Tryz.prog 68 0 [bldU, bldR s] [.one (.vp 0 0)] (.one (.str s)) [.gone, .gone] := by
 refine ⟨by kernel_rfl, rfl, fun w M0 F vs hM hp hv => ?_⟩
 obtain ⟨v, rfl, hv1⟩ := varg1 hv
 obtain ⟨b, hF, rfl⟩ := vp_live (e := 122) (cs := [.vp 0 0, .own 1]) hv1 fun x hx => hp.objs 0 _ x rfl hx
 obtain ⟨b', cur, h1, h2, h3⟩ := hp.objs 0 _ _ rfl hF
 cases h1
 obtain ⟨p, u, hcur⟩ : ∃ p u, cur.toList = [p, u] := by
  have hl := h3.1
  match hc : cur.toList, hl with
  | [p, u], _ => exact ⟨p, u, rfl⟩
 have hcur' : cur = #[p, u] := Array.ext' hcur
 have hu := own_live (e := 5) (sz := 1) (rows := strRows s) (h3.2 1 (.own 1) u rfl (by rw [hcur]; rfl)) fun x hx => hp.objs 1 _ x rfl hx
 obtain ⟨A, c, k1, k2, k3, k4⟩ := hp.objs 1 _ u rfl hu
 rw [strRows_length] at k1 k2
 have hs0 : 0 < s.length := List.length_pos_iff.2 h0
 rcases k4 with k4 | ⟨hc0, g, cur', rfl, k5, k6, k7⟩
 ·omega
 subst k1
 have hog : owned F g := ⟨1, _, hu, hblk_row hc0⟩
 refine (String_x b g c p cur' s w (by rw [h2, hcur']) k5 k2 k3 (by omega) (fun j x hx => ?_) h0).mono ?_
 ·obtain ⟨us, q1, q2, q3⟩ := RepRows.get (strRows s) 0 k7 j [.int .u8 x.toNat] (by simp [strRows, hx])
  obtain ⟨y, rest, rfl, q4, q5⟩ := q3
  obtain rfl : rest = [] := q5
  obtain rfl : y = .int .u8 x.toNat := q4
  have := q2 0 _ rfl
  simpa using this
 ·rintro e w' ⟨rfl, hB⟩
  exact ⟨_, F, rfl, ⟨hB.os, hB.tape, hB.output, hB.size, fun k hk hx => hB.block k hk fun e => hx (by subst e; exact hog), hB.drawn⟩, hp.len, fun _ _ => rfl, fun t o x ho _ => by
   match t, ho with
   | 0, ho => cases ho; exact trivial
   | 1, ho => cases ho; exact trivial, fun k hk => ⟨.inl hk, Nat.lt_of_lt_of_le (hp.out k hk).2 hB.size⟩, hp.dist, rfl⟩
end Go.Proofs.YtkjnjkdcpbgabaaGreatDoor
