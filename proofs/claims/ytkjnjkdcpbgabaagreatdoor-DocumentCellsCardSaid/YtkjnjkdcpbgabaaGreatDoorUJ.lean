/-
 strings.Builder inside the engine: an object of two cells (its own address, its bytes) beside a row of bytes.
-/
import Derived.Test.YtkjnjkdcpbgabaaGreatDoorB1
set_option linter.unusedSimpArgs false
set_option linter.unusedVariables false
namespace Go.Proofs.YtkjnjkdcpbgabaaGreatDoor
open Go.Eng Go.RowKit
def bldN : AObj := .var 122 [.raw (.pointer none), .own 1]
def bldU : AObj := .var 122 [.vp 0 0, .own 1]
def bldR (s : List UInt8) : AObj := .row 5 1 (strRows s)
section
variable {P : Program} {w w' : World} {M0 : Nat → Prop} {F : List Value} {Hin : List AObj}
theorem resM_same {p : Nat} {r : AV} {v : Value} (hp : MPre w M0 F Hin) (hr : RepV w (Mof M0 F) F r v) : ResM w w M0 F p r Hin v F :=
 ⟨BelowX.refl _ _, hp.len, fun _ _ => rfl, hp.objs, fun g hg => ⟨.inl hg, (hp.out g hg).2⟩, hp.dist, hr⟩
end
theorem setCell_belowXJ (b o : Nat) (v : Value) (w : World) : BelowX (fun k => k = b) w (w.setCell ⟨b, o, none⟩ v) :=
 ⟨rfl, rfl, rfl, by simp [World.setCell], fun k _ hk => by
  simp only [World.setCell, Array.getElem?_modify]
  rw [if_neg (fun e => hk e.symm)], Nat.le_refl _⟩
theorem heapSetJ {w : World} {b i : Nat} {cs : Array Value} {T : TypeId} {fr : Nat × Nat} (hb : w.heap[b]? = some (.cells cs T fr)) (v : Value) : (w.setCell ⟨b, i, none⟩ v).heap[b]? = some (.cells (cs.setIfInBounds i v) T fr) := by
 simp [World.setCell, Array.getElem?_modify, hb]
theorem varg1 {w : World} {M : Nat → Prop} {β vs : List Value} {a : AV} (h : RepVL w M β [a] vs) : ∃ v, vs = [v] ∧ RepV w M β a v := by
 obtain ⟨v, r, rfl, h1, h2⟩ := h
 obtain rfl : r = [] := h2
 exact ⟨v, rfl, h1⟩
theorem copyCheck_m (s : List UInt8) : MCalls Tryz.prog 102 2 [bldU, bldR s] [.one (.vp 0 0)] (.tup []) [bldU, bldR s] := by
 refine ⟨by kernel_rfl, rfl, fun w M0 F vs hM hp hv => ?_⟩
 obtain ⟨v, rfl, hv1⟩ := varg1 hv
 obtain ⟨g, hF, rfl⟩ := vp_live (e := 122) (cs := [.vp 0 0, .own 1]) hv1 fun x hx => hp.objs 0 _ x rfl hx
 obtain ⟨g', cur, h1, h2, h3⟩ := hp.objs 0 _ _ rfl hF
 cases h1
 have hc0 : w.cell? ⟨g, 0, none⟩ = some (.pointer (some ⟨g, 0, none⟩)) := by
  have hlen := h3.1
  have hlt : 0 < cur.toList.length := by rw [← hlen]; decide
  obtain ⟨g2, k1, k2⟩ := vp_live (e := 122) (cs := [.vp 0 0, .own 1]) (h3.2 0 _ _ rfl (List.getElem?_eq_getElem hlt)) fun x hx => hp.objs 0 _ x rfl hx
  rw [hF] at k1
  cases k1
  rw [Lib.cell_of_heap h2, Array.getElem?_eq_getElem (by simpa using hlt)]
  simpa using k2
 refine (copyCheck_used g w hc0).mono ?_
 rintro e w' ⟨rfl, rfl⟩
 exact ⟨_, F, rfl, resM_same hp ⟨[], rfl, rfl⟩⟩
theorem copyCheck_n (s : List UInt8) : MCalls Tryz.prog 102 2 [bldN, bldR s] [.one (.vp 0 0)] (.tup []) [bldU, bldR s] := by
 refine ⟨by kernel_rfl, rfl, fun w M0 F vs hM hp hv => ?_⟩
 obtain ⟨v, rfl, hv1⟩ := varg1 hv
 obtain ⟨g, hF, rfl⟩ := vp_live (e := 122) (cs := [.raw (.pointer none), .own 1]) hv1 fun x hx => hp.objs 0 _ x rfl hx
 obtain ⟨g', cur, h1, h2, h3⟩ := hp.objs 0 _ _ rfl hF
 cases h1
 have hlen := h3.1
 simp only [List.length_cons, List.length_nil, Array.length_toList] at hlen
 have hog : owned F g := ⟨0, _, hF, rfl⟩
 have hglt := (hp.out g hog).2
 have hc0 : w.cell? ⟨g, 0, none⟩ = some (.pointer none) := by
  have hlt : 0 < cur.toList.length := by rw [Array.length_toList]; omega
  have k2 := h3.2 0 _ _ rfl (List.getElem?_eq_getElem hlt)
  have k3 : cur.toList[0] = .pointer none := k2.1
  rw [Lib.cell_of_heap h2, Array.getElem?_eq_getElem (by simpa using hlt)]
  simpa using k3
 refine (copyCheck_new g w hc0 (by simp [World.shape?, h2, ← hlen]) (Lib.frozen_of_heap h2 0)).mono ?_
 rintro e w' ⟨rfl, rfl⟩
 have hB := setCell_belowXJ g 0 (.pointer (some ⟨g, 0, none⟩)) w
 have hk : Keeps w (Mof M0 F) (w.setCell ⟨g, 0, none⟩ (.pointer (some ⟨g, 0, none⟩))) (Mof M0 F) := ⟨hB.size, fun k hk hm => hB.block k hk fun e => hm (by subst e; exact .inr hog), fun _ _ h => h⟩
 refine ⟨_, F, rfl, ⟨⟨hB.os, hB.tape, hB.output, hB.size, fun k hk hx => hB.block k hk fun e => hx (by subst e; exact hog), hB.drawn⟩, hp.len, fun _ _ => rfl, fun t o x ho hx => ?_, fun k hk => ⟨.inl hk, Nat.lt_of_lt_of_le (hp.out k hk).2 hB.size⟩, hp.dist, ⟨[], rfl, rfl⟩⟩⟩
 match t, ho with
 | 0, ho =>
  cases ho
  rw [hF] at hx
  cases hx
  refine ⟨g, cur.setIfInBounds 0 (.pointer (some ⟨g, 0, none⟩)), rfl, heapSetJ h2 _, ?_⟩
  rw [Array.toList_setIfInBounds]
  have h4 : RepCL (w.setCell ⟨g, 0, none⟩ (.pointer (some ⟨g, 0, none⟩))) (Mof M0 F) F [.raw (.pointer none), .own 1] cur.toList := by
   refine ⟨h3.1, fun i d u hd hu => ?_⟩
   have := h3.2 i d u hd hu
   match i, hd with
   | 0, hd => cases hd; exact this
   | 1, hd => cases hd; exact this
  exact h4.set 0 (d := .vp 0 0) (.inl ⟨g, hF, rfl⟩)
 | 1, ho =>
  cases ho
  obtain ⟨A, c, k1, k2, k3, k4⟩ := hp.objs 1 _ x rfl hx
  refine ⟨A, c, k1, k2, k3, ?_⟩
  rcases k4 with k4 | ⟨hc0', gb, cur', rfl, k5, k6, k7⟩
  ·exact .inl k4
  ·have hbl : hblk x = some gb := by rw [k1]; exact hblk_row hc0'
   have hne : gb ≠ g := fun e => by
    have := hp.dist 0 1 _ x g hF hx rfl (by rw [hbl, e])
    omega
   have hgb := (hp.out gb ⟨1, x, hx, hbl⟩).2
   have hsame := hB.block gb hgb hne
   exact .inr ⟨hc0', gb, cur', rfl, hsame.trans k5, k6, k7.keeps hk fun vs o => reads_block (by exact hsame)⟩
end Go.Proofs.YtkjnjkdcpbgabaaGreatDoor
