/-
 strings.Builder: Grow as an engine's contract; strings.Join.
-/
import Derived.Test.YtkjnjkdcpbgabaaGreatDoorUO
set_option linter.unusedSimpArgs false
set_option linter.unusedVariables false
namespace Go.Proofs.YtkjnjkdcpbgabaaGreatDoor
open Go.Eng Go.RowKit
structure Grown (b c : Nat) (A : Option Addr) (w w' : World) : Prop where
 below : BelowX (fun k => k = b) w w'
 out : (w'.heap[b]? = some (.cells #[.pointer (some ⟨b, 0, none⟩), .slice A 0 c] 122 (0, 0)) ∨
  ∃ cs : Array Value, 0 < cs.size ∧ cs.size ≤ maxLen ∧ w'.heap[w.heap.size]? = some (.cells cs 5 (0, 0)) ∧ w.heap.size < w'.heap.size ∧
   w'.heap[b]? = some (.cells #[.pointer (some ⟨b, 0, none⟩), .slice (some ⟨w.heap.size, 0, none⟩) 0 cs.size] 122 (0, 0)))
theorem alloc_belowXJ (X : Nat → Prop) (w : World) (o : Obj) : BelowX X w (w.alloc o) := BelowX.of ((Eng.Below.refl _ w).alloc (Nat.le_refl _) _)
theorem drew_belowXJ (X : Nat → Prop) (w : World) : BelowX X w w.drew := ⟨rfl, rfl, rfl, Nat.le_refl _, fun _ _ _ => rfl, Nat.le_succ _⟩
set_option maxHeartbeats 4000000 in
set_option maxRecDepth 1000000 in
theorem Grow_w (b n c : Nat) (A : Option Addr) (w : World) (hbk : w.heap[b]? = some (.cells #[.pointer none, .slice A 0 c] 122 (0, 0))) (hn : n ≤ 1000000000) (hcm : c ≤ 9223372036854775807) :
  Calls Tryz.prog 115 #[.pointer (some ⟨b, 0, none⟩), .int .i64 n] w fun e w' => e = .returned (.tuple #[]) ∧ Grown b c A w w' := by
 have hlt : b < w.heap.size := block_lt hbk
 have hbk1 : (w.setCell ⟨b, 0, none⟩ (.pointer (some ⟨b, 0, none⟩))).heap[b]? = some (.cells #[.pointer (some ⟨b, 0, none⟩), .slice A 0 c] 122 (0, 0)) := by
  rw [heapSetJ hbk]; rfl
 have hB := setCell_belowXJ b 0 (.pointer (some ⟨b, 0, none⟩)) w
 have hsz : (w.setCell ⟨b, 0, none⟩ (.pointer (some ⟨b, 0, none⟩))).heap.size = w.heap.size := by simp [World.setCell]
 have hc0 : w.cell? ⟨b, 0, none⟩ = some (.pointer none) := by rw [Lib.cell_of_heap hbk]; rfl
 have hsh : w.shape? b = some (122, 2) := by simp [World.shape?, hbk]
 have hfz := Lib.frozen_of_heap hbk 0
 generalize hW : w.setCell ⟨b, 0, none⟩ (.pointer (some ⟨b, 0, none⟩)) = W at *
 have c1 : W.drew.cell? ⟨b, 1, none⟩ = some (.slice A 0 c) := by
  have : W.drew.heap[b]? = _ := hbk1
  rw [Lib.cell_of_heap this]; rfl
 have HG : Aside (∀ cs : Array Value, cs.size ≤ maxLen → 0 < cs.size → Grown b c A w ((W.setCell ⟨b, 1, none⟩ (.slice (some ⟨w.heap.size, 0, none⟩) 0 cs.size)).alloc (.cells cs 5)).drew.drew.drew.drew) := fun cs h1 h2 => by
  have hs1 : (W.setCell ⟨b, 1, none⟩ (.slice (some ⟨w.heap.size, 0, none⟩) 0 cs.size)).heap.size = w.heap.size := by rw [← hsz]; simp [World.setCell]
  have hb1 : (W.setCell ⟨b, 1, none⟩ (.slice (some ⟨w.heap.size, 0, none⟩) 0 cs.size)).heap[b]? = some (.cells #[.pointer (some ⟨b, 0, none⟩), .slice (some ⟨w.heap.size, 0, none⟩) 0 cs.size] 122 (0, 0)) := by
   rw [heapSetJ hbk1]; rfl
  refine ⟨((hB.trans (setCell_belowXJ b 1 _ W) fun _ _ h => h).trans (alloc_belowXJ _ _ _) fun _ _ h => h).trans ((((drew_belowXJ _ _).trans (drew_belowXJ _ _) fun _ _ h => h).trans (drew_belowXJ _ _) fun _ _ h => h).trans (drew_belowXJ _ _) fun _ _ h => h) fun _ _ h => h, .inr ⟨cs, h2, h1, ?_, ?_, ?_⟩⟩
  ·have := heap_alloc_new (W.setCell ⟨b, 1, none⟩ (.slice (some ⟨w.heap.size, 0, none⟩) 0 cs.size)) (.cells cs 5)
   rw [hs1] at this
   exact this
  ·show w.heap.size < (World.alloc _ _).heap.size
   simp [World.alloc, hs1]
  ·exact (Lib.alloc_old _ _ b (by rw [hs1]; exact hlt)).trans hb1
 have mixed : Tryz.prog.follows .mixedOrders = true := by kernel_rfl
 go_enter Tryz.func115, Tryz.ntmps115
 go_wp2_with (go_at_call 102; refine (copyCheck_new b w hc0 hsh hfz).mono ?_; rintro e w' ⟨rfl, rfl⟩)
 rcases Nat.lt_or_ge c n with hcn | hcn
 ·go_region_o
  all_goals go_wp2_with (go_at_call 136; refine (grow_w b n c A _ W.drew hbk1 hcn hn).mono ?_; rintro e w' ⟨rfl, cs, h1, h2, rfl⟩)
  all_goals
   go_end0
   refine ⟨rfl, HG.out cs h1 h2⟩
 ·have hcd : decide ((c : Int) < (n : Int)) = false := decide_eq_false (by omega)
  go_region_o
  all_goals (go_wp2; go_end0; exact ⟨rfl, hB.trans (drew_belowXJ _ W) fun _ _ h => h, .inl hbk1⟩)
theorem vargs2J {w : World} {M : Nat → Prop} {β vs : List Value} {a b : AV} (h : RepVL w M β [a, b] vs) : ∃ v u, vs = [v, u] ∧ RepV w M β a v ∧ RepV w M β b u := by
 obtain ⟨v, r, rfl, h1, u, r2, rfl, h2, h3⟩ := h
 obtain rfl : r2 = [] := h3
 exact ⟨v, u, rfl, h1, h2⟩
theorem Grow_n (n : Nat) (hn : n ≤ 1000000000) : MCalls Tryz.prog 115 1 [bldN, bldR []] [.one (.vp 0 0), .one (.int .i64 n)] (.tup []) [bldU, bldR []] := by
 refine ⟨by kernel_rfl, rfl, fun w M0 F vs hM hp hv => ?_⟩
 obtain ⟨v, u0, rfl, hv1, hv2⟩ := vargs2J hv
 obtain rfl : u0 = .int .i64 n := hv2
 obtain ⟨g, hF, rfl⟩ := vp_live (e := 122) (cs := [.raw (.pointer none), .own 1]) hv1 fun x hx => hp.objs 0 _ x rfl hx
 obtain ⟨g', cur, h1, h2, h3⟩ := hp.objs 0 _ _ rfl hF
 cases h1
 obtain ⟨p, u, hcur⟩ : ∃ p u, cur.toList = [p, u] := by
  have hl := h3.1
  match hc : cur.toList, hl with
  | [p, u], _ => exact ⟨p, u, rfl⟩
 have hcur' : cur = #[p, u] := Array.ext' hcur
 have hp0 : p = .pointer none := (h3.2 0 (.raw (.pointer none)) p rfl (by rw [hcur]; rfl)).1
 have hu := own_live (e := 5) (sz := 1) (rows := strRows []) (h3.2 1 (.own 1) u rfl (by rw [hcur]; rfl)) fun x hx => hp.objs 1 _ x rfl hx
 obtain ⟨A, c, k1, k2, k3, k4⟩ := hp.objs 1 _ u rfl hu
 obtain rfl : u = .slice A 0 c := k1
 subst hp0
 have hog : owned F g := ⟨0, _, hF, rfl⟩
 have hglt := (hp.out g hog).2
 have hF2 : F = [.pointer (some ⟨g, 0, none⟩), .slice A 0 c] := by
  match F, hp.len, hF, hu with
  | [f0, f1], _, hF, hu => simp at hF hu; rw [hF, hu]
 refine (Grow_w g n c A w (by rw [h2, hcur']) hn k3).mono ?_
 rintro e w' ⟨rfl, hG⟩
 have hB := hG.below
 have hk : Keeps w (Mof M0 F) w' (Mof M0 F) := ⟨hB.size, fun k hk hm => hB.block k hk fun e => hm (by subst e; exact .inr hog), fun _ _ h => h⟩
 have hBX : BelowX (owned F) w w' := ⟨hB.os, hB.tape, hB.output, hB.size, fun k hk hx => hB.block k hk fun e => hx (by subst e; exact hog), hB.drawn⟩
 rcases hG.out with hb | ⟨cs, c1, c2, c3, c4, c5⟩
 ·refine ⟨_, F, rfl, ⟨hBX, hp.len, fun _ _ => rfl, fun t o x ho hx => ?_, fun k hk => ⟨.inl hk, Nat.lt_of_lt_of_le (hp.out k hk).2 hB.size⟩, hp.dist, ⟨[], rfl, rfl⟩⟩⟩
  match t, ho with
  | 0, ho =>
   cases ho
   rw [hF] at hx
   cases hx
   refine ⟨g, _, rfl, hb, rfl, fun i d y hd hy => ?_⟩
   match i, hd, hy with
   | 0, hd, hy => cases hd; cases hy; exact .inl ⟨g, hF, rfl⟩
   | 1, hd, hy => cases hd; cases hy; exact ⟨.inl hu, rfl⟩
  | 1, ho =>
   cases ho
   rw [hu] at hx
   cases hx
   refine ⟨A, c, rfl, k2, k3, ?_⟩
   rcases k4 with k4 | ⟨hc0, gb, cur', rfl, k5, k6, _⟩
   ·exact .inl k4
   ·have hbl : hblk (.slice (some ⟨gb, 0, none⟩) 0 c) = some gb := hblk_row hc0
    have hne : gb ≠ g := fun e => by
     have := hp.dist 0 1 _ _ g hF hu rfl (by rw [hbl, e])
     omega
    exact .inr ⟨hc0, gb, cur', rfl, (hB.block gb (hp.out gb ⟨1, _, hu, hbl⟩).2 hne).trans k5, k6, trivial⟩
 ·obtain ⟨β, hβ⟩ : ∃ β : List Value, β = [.pointer (some ⟨g, 0, none⟩), .slice (some ⟨w.heap.size, 0, none⟩) 0 cs.size] := ⟨_, rfl⟩
  have hb1 : hblk (.slice (some ⟨w.heap.size, 0, none⟩) 0 cs.size) = some w.heap.size := hblk_row c1
  have f : ∀ (t : Nat) (y : Value) (k : Nat), β[t]? = some y → hblk y = some k → (t = 0 ∧ k = g) ∨ (t = 1 ∧ k = w.heap.size) := by
   intro t y k hy hk
   subst hβ
   match t, hy with
   | 0, hy => cases hy; exact .inl ⟨rfl, by simpa [hblk] using hk.symm⟩
   | 1, hy => cases hy; rw [hb1] at hk; exact .inr ⟨rfl, by simpa using hk.symm⟩
  refine ⟨_, β, rfl, ⟨hBX, by rw [hβ]; rfl, fun t ht => by
   obtain rfl : t = 0 := by omega
   rw [hβ, hF]; rfl, fun t o x ho hx => ?_, fun k hk => ?_, fun t t' x x' k hx hx' hk hk' => ?_, ⟨[], rfl, rfl⟩⟩⟩
  ·subst hβ
   match t, ho with
   | 0, ho =>
    cases ho
    cases hx
    refine ⟨g, _, rfl, c5, rfl, fun i d y hd hy => ?_⟩
    match i, hd, hy with
    | 0, hd, hy => cases hd; cases hy; exact .inl ⟨g, rfl, rfl⟩
    | 1, hd, hy => cases hd; cases hy; exact ⟨.inl rfl, rfl⟩
   | 1, ho =>
    cases ho
    cases hx
    exact ⟨_, cs.size, rfl, Nat.zero_le _, c2, .inr ⟨c1, w.heap.size, cs, rfl, c3, by omega, trivial⟩⟩
  ·obtain ⟨t, y, hy, hbk⟩ := hk
   rcases f t y k hy hbk with ⟨_, rfl⟩ | ⟨_, rfl⟩
   ·exact ⟨.inl hog, Nat.lt_of_lt_of_le hglt hB.size⟩
   ·exact ⟨.inr (Nat.le_refl _), c4⟩
  ·rcases f t x k hx hk with ⟨rfl, rfl⟩ | ⟨rfl, rfl⟩ <;> rcases f t' x' _ hx' hk' with ⟨rfl, e⟩ | ⟨rfl, e⟩
   ·rfl
   ·omega
   ·omega
   ·rfl
end Go.Proofs.YtkjnjkdcpbgabaaGreatDoor
