/-
 synthesis.supervisor by hand: the edges of each state in a block of its own.
-/
import Derived.Test.YtkjllcmpjghmkaaGreatDoorTX
import Derived.Test.YtkjllcmpjghmkaaGreatDoorT3
import Derived.Test.YtkjllcmpjghmkaaGreatDoorE10
set_option linter.unusedSimpArgs false
set_option linter.unusedVariables false
namespace Go.Proofs.YtkjllcmpjghmkaaGreatDoor
open Go.Eng Go.RowKit
def EdgAt (w : World) (v : Value) (l : List Edg) : Prop := ObjRep w (fun _ => False) [] (.row 96 3 (edgsD l)) v
theorem z2w (l : List Edg) : ∀ r ∈ edgsD l, r.all D.flat = true := fun r hr => by
 obtain ⟨x, _, rfl⟩ := List.mem_map.1 hr; rfl
theorem EdgAt.to {w w' : World} {M : Nat → Prop} {β : List Value} {v : Value} {l : List Edg} (h : EdgAt w v l) (hb : ∀ g, hblk v = some g → w'.heap[g]? = w.heap[g]?) : ObjRep w' M β (.row 96 3 (edgsD l)) v := z2e (z2w l) hb h
theorem EdgAt.of {w : World} {M : Nat → Prop} {β : List Value} {v : Value} {l : List Edg} (h : ObjRep w M β (.row 96 3 (edgsD l)) v) : EdgAt w v l := z2e (z2w l) (fun _ _ => rfl) h
theorem EdgAt.nil (w : World) (A : Option Addr) : EdgAt w (.slice A 0 0) [] := ⟨A, 0, rfl, Nat.le_refl _, Nat.zero_le _, .inl rfl⟩
theorem z9D {w : World} {M M' : Nat → Prop} {ad : Addr} {sz : Nat} : ∀ (rows : List (List D)) (o : Nat), (∀ r ∈ rows, r.all D.flat = true) → RepRows w M ad sz o rows → RepRows w M' ad sz o rows
 | [], _, _, _ => trivial
 | r :: rs, o, hf, ⟨⟨vs, z1, z2, z3⟩, z4⟩ => ⟨⟨vs, z1, z2, RepL.flat z3 (hf r (by simp))⟩, z9D rs _ (fun r hr => hf r (by simp [hr])) z4⟩
theorem EdgAt.list {w : World} {M : Nat → Prop} {v : Value} {l : List Edg} (h : EdgAt w v l) (hb : ∀ g, hblk v = some g → g < w.heap.size ∧ ¬ M g) : RepD w M (.list (edgsD l)) v := by
 obtain ⟨A, c, rfl, h2, h3, h4⟩ := h
 refine ⟨A, c, rfl, h2, h3, ?_⟩
 rcases h4 with rfl | ⟨hc, g, cur, rfl, q1, q2, q3⟩
 ·exact .inl (List.eq_nil_of_length_eq_zero (by omega))
 ·have h5 := hb g (hblk_row hc)
  exact .inr ⟨_, 3, rfl, h5.1, h5.2, z9D _ _ (z2w l) q3⟩
def inBk (l : List Value) (g : Nat) : Prop := ∃ x ∈ l, hblk x = some g
def ApartL (l : List Value) : Prop := ∀ (i j : Nat) (x y : Value) (g : Nat), l[i]? = some x → l[j]? = some y → hblk x = some g → hblk y = some g → i = j
theorem ApartL.set {l : List Value} (h : ApartL l) {i : Nat} {v v' : Value} (hv : l[i]? = some v) (hn : ∀ g, hblk v' = some g → hblk v = some g ∨ ¬ inBk l g) : ApartL (l.set i v') := by
 have cs : ∀ {k : Nat} {z : Value}, (l.set i v')[k]? = some z → (k = i ∧ z = v') ∨ (k ≠ i ∧ l[k]? = some z) := fun {k z} hk => by
  rw [List.getElem?_set] at hk
  by_cases e : i = k
  ·subst e
   rw [if_pos rfl] at hk
   split at hk
   ·cases hk; exact .inl ⟨rfl, rfl⟩
   ·cases hk
  ·rw [if_neg e] at hk
   exact .inr ⟨fun e2 => e e2.symm, hk⟩
 intro p q x y g hp hq hx hy
 rcases cs hp with ⟨h1, rfl⟩ | ⟨h1, h2⟩ <;> rcases cs hq with ⟨h3, rfl⟩ | ⟨h3, h4⟩
 ·omega
 ·rcases hn g hx with h5 | h5
  ·exact h1.trans (h i q v y g hv h4 h5 hy)
  ·exact absurd ⟨y, List.mem_of_getElem? h4, hy⟩ h5
 ·rcases hn g hy with h5 | h5
  ·exact (h p i x v g h2 hv hx h5).trans h3.symm
  ·exact absurd ⟨x, List.mem_of_getElem? h2, hx⟩ h5
 ·exact h p q x y g h2 h4 hx hy
theorem z90 {l : List Value} {i : Nat} {v' : Value} {g : Nat} (h : inBk (l.set i v') g) : inBk l g ∨ hblk v' = some g := by
 obtain ⟨x, hx, hg⟩ := h
 rcases List.mem_or_eq_of_mem_set hx with h1 | rfl
 ·exact .inl ⟨x, h1, hg⟩
 ·exact .inr hg
def grpL (es : List Edg) (left : List Bool) (k : Nat) (s : Int) : List Edg := (outL (es.take k) s).filter fun x => leftB left x.dst
theorem zfr {es : List Edg} {left : List Bool} {k : Nat} (hk : k < es.length) (s : Int) : grpL es left (k + 1) s = grpL es left k s ++ (if (es.getD k Edg.no).src = s ∧ leftB left (es.getD k Edg.no).dst = true then [es.getD k Edg.no] else []) := by
 rw [grpL, z07 es k Edg.no hk, outL, List.filter_append, List.filter_append]
 congr 1
 generalize es.getD k Edg.no = x
 by_cases h1 : x.src = s <;> by_cases h2 : leftB left x.dst = true <;> simp [h1, h2]
theorem zhl (a : Aut) (left : List Bool) (s : Int) : (grpL a.edges left a.edges.length s).map (fun x => (x.ev, x.dst)) = sucL a left s := by
 rw [grpL, List.take_length]; rfl
def rawR (hs : List Value) : List (List D) := hs.map fun h => [.raw h]
theorem z2E (hs : List Value) : (rawR hs).length = hs.length := by simp [rawR]
theorem ziw {hs : List Value} {k : Nat} (h : k < hs.length) (z : List D) : (rawR hs).getD k z = [.raw (hs[k])] := by
 simp [rawR, List.getD, List.getElem?_map, List.getElem?_eq_getElem h]
theorem zgP (hs : List Value) (k : Nat) (v : Value) : (rawR hs).set k [.raw v] = rawR (hs.set k v) := by simp [rawR, List.map_set]
theorem ziv (hs : List Value) : (∀ r : List D, r ∈ rawR hs → r.length = 1) ↔ True := ⟨fun _ => trivial, fun _ r hr => by
 obtain ⟨x, _, rfl⟩ := List.mem_map.1 hr; rfl⟩
attribute [go_sem] z2E ziv
def prbN (a : Aut) (N : Nat) (u : List Int) (left : List Bool) : List D := [.list (ints a.alph), .int .i64 N, .list (ints a.marked), .list (edgsD a.edges), .list (ints u), .unk, .list (blsD left)]
theorem z7Z {w : World} {M M2 : Nat → Prop} {ad : Addr} : ∀ (hs : List Value) (ls : List (List Edg)) (o : Nat), hs.length = ls.length → (∀ (s : Nat) (y : Value) (l : List Edg), hs[s]? = some y → ls[s]? = some l → RepD w M (.list (edgsD l)) y) →
  RepRows w M2 ad 1 o (rawR hs) → RepRows w M ad 1 o (ls.map fun l => [.list (edgsD l)])
 | [], [], _, _, _, _ => trivial
 | y :: hs, l :: ls, o, hl, hy, ⟨⟨vs, z1, z2, z3⟩, z4⟩ => by
  obtain ⟨v, rest, rfl, ⟨rfl, _⟩, h5⟩ := z3
  obtain rfl : rest = [] := h5
  exact ⟨⟨[v], rfl, z2, v, [], rfl, hy 0 v l rfl rfl, rfl⟩, z7Z hs ls (o + 1) (by simpa using hl) (fun s y' l' h1 h2 => hy (s + 1) y' l' (by simpa using h1) (by simpa using h2)) z4⟩
theorem zco {w : World} {M M' : Nat → Prop} {ad : Addr} : ∀ (n o : Nat), RepRows w M ad 1 o (List.replicate n [.nil]) → ∃ hs : List Value, hs.length = n ∧ (∀ v ∈ hs, ∃ A, v = .slice A 0 0) ∧ RepRows w M' ad 1 o (rawR hs)
 | 0, o, _ => ⟨[], rfl, (fun v hv => by cases hv), trivial⟩
 | n + 1, o, h => by
  rw [List.replicate_succ] at h
  obtain ⟨⟨vs, h1, h2, h3⟩, h4⟩ := h
  obtain ⟨hs, k1, k2, k3⟩ := zco (M' := M') n (o + 1) h4
  obtain ⟨v, rest, rfl, ⟨A, rfl⟩, h5⟩ := h3
  obtain rfl : rest = [] := h5
  refine ⟨.slice A 0 0 :: hs, by simp [k1], fun v hv => ?_, ⟨_, h1, h2, _, _, rfl, ⟨rfl, rfl⟩, rfl⟩, k3⟩
  rcases List.mem_cons.1 hv with rfl | hv
  ·exact ⟨A, rfl⟩
  ·exact k2 v hv
theorem zbc {w : World} {M M' : Nat → Prop} {β β' : List Value} {e : TypeId} {N : Nat} {x : Value} (h : ObjRep w M β (.row e 1 (List.replicate N [.nil])) x) :
  ∃ hs : List Value, hs.length = N ∧ (∀ v ∈ hs, ∃ A, v = .slice A 0 0) ∧ ObjRep w M' β' (.row e 1 (rawR hs)) x := by
 obtain ⟨A, c, rfl, h2, h3, h4⟩ := h
 rw [List.length_replicate] at h2 ⊢
 rcases h4 with rfl | ⟨hc, g, cur, rfl, q1, q2, q3⟩
 ·obtain rfl : N = 0 := by omega
  exact ⟨[], rfl, (fun v hv => by cases hv), A, 0, rfl, Nat.le_refl _, h3, .inl rfl⟩
 ·obtain ⟨hs, k1, k2, k3⟩ := zco (M' := M') N 0 q3
  have k4 := z2E hs
  exact ⟨hs, k1, k2, some ⟨g, 0, none⟩, c, by rw [k4, k1], by omega, h3, .inr ⟨hc, g, cur, rfl, q1, q2, k3⟩⟩
def svS (a : Aut) (N : Nat) (u : List Int) (left : List Bool) (k : Nat) : List (Nat × AV) := [(50, .one (.int .i64 k)), (49, .one (.int .i64 a.edges.length)), (48, .one (.list (edgsD a.edges))), (5, .one (.own 3)), (4, .one (.vp 2 0)), (2, .one (.vp 0 0)), (0, .one (.ref (prbN a N u left)))]
def svH (a : Aut) (hs : List Value) : List AObj := [.var 41 [.nil, .int .i64 0, .nil, .nil], .row 3 1 (ints a.alph), .var 41 [.own 1, .int .i64 0, .nil, .nil], .row 39 1 (rawR hs)]
structure EdHead (w0 : World) (M0 : Nat → Prop) (a : Aut) (N : Nat) (u : List Int) (left : List Bool) (k ki : Nat) (hs : List Value) (act : Act) (w : World) (β : List Value) : Prop where
 sim : Sim w (fun g => M0 g ∨ inBk hs g) β ⟨148, svS a N u left k, svH a hs, 0⟩ act w β
 below : Eng.Below w0.heap.size w0 w
 len : hs.length = N
 inn : ∀ (s : Nat) (x : Value), hs[s]? = some x → EdgAt w x (grpL a.edges left ki s)
 apart : ApartL hs
 fresh : ∀ g, inBk hs g → w0.heap.size ≤ g
 freshB : ∀ g, owned β g → w0.heap.size ≤ g
theorem EdHead.step {w0 w w' : World} {M0 : Nat → Prop} {a : Aut} {N : Nat} {u : List Int} {left : List Bool} {k ki k' : Nat} {hs : List Value} {act act' : Act} {β β' : List Value} (hh : EdHead w0 M0 a N u left k ki hs act w β)
  (h : Sim w (fun g => M0 g ∨ inBk hs g) β ⟨148, svS a N u left k', svH a hs, 0⟩ act' w' β') : EdHead w0 M0 a N u left k' ki hs act' w' β' := by
 refine ⟨h.again rfl, z2i hh.below h.below fun g hg => hh.freshB g hg, hh.len, fun s y hy => (hh.inn s y hy).to fun g hg => ?_, hh.apart, hh.fresh, fun g hg => ?_⟩
 ·have hb : inBk hs g := ⟨y, List.mem_of_getElem? hy, hg⟩
  exact h.below.block g (hh.sim.m0.1 g (.inr hb)) fun ho => (h.out g ho).1 (.inr hb)
 ·rcases (h.fresh g hg).1 with h | h
  ·exact hh.freshB g h
  ·exact Nat.le_trans hh.below.size h
theorem EdHead.same {w0 w : World} {M0 : Nat → Prop} {a : Aut} {N : Nat} {u : List Int} {left : List Bool} {k ki ki' : Nat} {hs : List Value} {act : Act} {β : List Value} (hh : EdHead w0 M0 a N u left k ki hs act w β)
  (he : ∀ s : Int, grpL a.edges left ki' s = grpL a.edges left ki s) : EdHead w0 M0 a N u left k ki' hs act w β :=
 ⟨hh.sim, hh.below, hh.len, fun s y hy => by rw [he]; exact hh.inn s y hy, hh.apart, hh.fresh, hh.freshB⟩
theorem EdHead.told {w0 w : World} {M0 : Nat → Prop} {a : Aut} {N : Nat} {u : List Int} {left : List Bool} {k ki : Nat} {hs : List Value} {act : Act} {β : List Value} (hh : EdHead w0 M0 a N u left k ki hs act w β) (hM : ∀ g, M0 g → g < w0.heap.size) :
  SimS w M0 (β.set 3 dead) ⟨148, (5, .one (.list ((List.range N).map fun s : Nat => [.list (edgsD (grpL a.edges left ki s))]))) :: (svS a N u left k).filter (fun s => s.1 != 5), [.var 41 [.nil, .int .i64 0, .nil, .nil], .row 3 1 (ints a.alph), .var 41 [.own 1, .int .i64 0, .nil, .nil], .gone], 0⟩ act w := by
 obtain ⟨x, hx, hob, h1⟩ := hh.sim.retire rfl (t := 3) (e := 39) (sz := 1) (rows := rawR hs) rfl
 have h2 := h1.less rfl (M1 := M0) fun g hg => .inl (.inl hg)
 refine ⟨_, h2.slot _ fun i v hv => ?_⟩
 have hf : (svS a N u left k).filter (fun s => s.1 != 5) = [(50, .one (.int .i64 k)), (49, .one (.int .i64 a.edges.length)), (48, .one (.list (edgsD a.edges))), (4, .one (.vp 2 0)), (2, .one (.vp 0 0)), (0, .one (.ref (prbN a N u left)))] := rfl
 rw [hf] at hv
 simp only [lookS] at hv
 split at hv
 ·rename_i e
  subst e
  cases hv
  obtain ⟨y, q1, q2⟩ := h2.slots 5 (.one (.raw x)) rfl
  obtain ⟨rfl, _⟩ := q2
  refine ⟨y, q1, ?_⟩
  obtain ⟨A, c, rfl, k2, k3, k4⟩ := hob
  have hrl := z2E hs
  have hln := hh.len
  refine ⟨A, c, by rw [hrl, hln]; simp, by simp; omega, k3, ?_⟩
  rcases k4 with rfl | ⟨hc, g, cur, rfl, q3, q4, q5⟩
  ·obtain rfl : N = 0 := by omega
   exact .inl rfl
  ·refine .inr ⟨⟨g, 0, none⟩, 1, rfl, (Array.getElem?_eq_some_iff.1 q3).1, ?_, ?_⟩
   ·rintro (hm | hm)
    ·have h5 := hh.freshB g ⟨3, _, hx, hblk_row hc⟩
     have h6 := hM g hm
     omega
    ·exact h1.disj hm (.inr (hblk_row hc))
   ·have h5 := z7Z (w := w) (M := Mof M0 (β.set 3 dead)) hs ((List.range N).map fun s : Nat => grpL a.edges left ki s) 0 (by simp [hln]) (fun s y l hy hl => by
     rw [List.getElem?_map] at hl
     have hs1 : s < N := by rw [← hln]; exact (List.getElem?_eq_some_iff.1 hy).1
     rw [List.getElem?_range hs1] at hl
     cases hl
     refine EdgAt.list (hh.inn s y hy) fun g' hg' => ?_
     have hb : inBk hs g' := ⟨y, List.mem_of_getElem? hy, hg'⟩
     refine ⟨hh.sim.m0.1 g' (.inr hb), ?_⟩
     rintro (hm | hm)
     ·have h6 := hh.fresh g' hb
      have h7 := hM g' hm
      omega
     ·exact h1.disj hm (.inl (.inr hb))) q5
    rw [List.map_map] at h5
    exact h5
 ·have key : ∀ (j : Nat) (v : AV), lookS (AState.rt ⟨148, svS a N u left k, svH a hs, 0⟩ 3 x).slots j = some v → ∃ y : Value, act.tmps[j]? = some y ∧ RepV w (Mof M0 (β.set 3 dead)) (β.set 3 dead) v y := h2.slots
  repeat
   split at hv
   ·rename_i e
    subst e
    cases hv
    exact key _ _ rfl
  cases hv
theorem zfs {N : Nat} (es : List Edg) (left : List Bool) (k : Nat) {s : Int} (hs : 0 ≤ s ∧ s < N) (z : List D) : ((List.range N).map fun s : Nat => [D.list (edgsD (grpL es left k s))]).getD s.toNat z = [.list (edgsD (grpL es left k s))] := by
 have h : s.toNat < N := by omega
 simp only [List.getD, List.getElem?_map, List.getElem?_range h, Option.map_some, Option.getD_some]
 rw [show ((s.toNat : Nat) : Int) = s by omega]
theorem zhk (es : List Edg) (left : List Bool) (k : Nat) (s : Int) : (grpL es left k s).length ≤ es.length := by
 have h1 := List.length_filter_le (fun y : Edg => leftB left y.dst) (outL (es.take k) s)
 have h2 := List.length_filter_le (fun y : Edg => decide (y.src = s)) (es.take k)
 have h3 : (es.take k).length ≤ es.length := by rw [List.length_take]; omega
 rw [grpL]; rw [outL] at h1 ⊢; omega
set_option maxHeartbeats 16000000 in
theorem z8t (a : Aut) (u : List Int) (left : List Bool) (ha : a.Ok) (hl : a.edges.length ≤ 50000) (hlen : (left.length : Int) = a.states) (hst : 0 < a.states) (h0 : leftB left 0 = true) :
  ACalls Tryz.prog 75 [.one (.ref (prbD a u left))] (.tup [.agg (supA a left).d, .one (.list (ints (supO a left).1))]) [] := by
 have hbl := z1c left
 have b1 := z2b (l := left) (k := 0) (by omega) []
 have b2 := z2b (l := left) (k := 0) (by omega) [.bool false]
 rw [show left.getD 0 false = leftB left 0 from rfl, h0] at b1 b2
 obtain ⟨N, hN⟩ : ∃ N : Nat, a.states = N := ⟨a.states.toNat, by have := ha.states; omega⟩
 have hcl := fun (l : List Int) => z2D l 0
 have hP : prbD a u left = prbN a N u left := by rw [prbD, hN]; rfl
 have hst4 := ha.states
 rw [hP]
 refine ACalls.of_sem Ty_ok Tryz.func75 rfl (by kernel_rfl) Tryz.ntmps75 (by simp) (congrArg Array.toList Tryz.results75) ?_
 intro w0 M a0 Q hM hh hQ
 refine wp_seq (seg Ty_ok mixed (s1 := ⟨148, [(2, .one (.vp 0 0)), (0, .one (.ref (prbN a N u left)))], [.var 41 [.nil, .int .i64 0, .nil, .nil]], 0⟩) hh ?_ fun a1 w1 h1 => ?_)
 ·simp only [z00, prbN]
  (repeat' (first | ((with_reducible refine aGo ?_); simp only [go_sem]) | fail))
  simp only [ends]
  (simp only [SubF, go_sem]; (try simp only [go_sem]); repeat' (first | exact True.intro | with_reducible refine And.intro ?_ ?_ | rfl | omega))
 have hC := z10 a.alph (ha.fits (by omega)).alph
 refine wp_seq (seg Ty_ok mixed (s1 := ⟨148, [(4, .one (.vp 2 0)), (2, .one (.vp 0 0)), (0, .one (.ref (prbN a N u left)))], [.var 41 [.nil, .int .i64 0, .nil, .nil], .row 3 1 (ints a.alph), .var 41 [.own 1, .int .i64 0, .nil, .nil]], 0⟩) h1 ?_ fun a2 w2 h2 => ?_)
 ·simp only [prbN]
  (repeat' (first | ((with_reducible refine aGo ?_); simp only [go_sem]) | ((with_reducible refine xA ?_); simp only [go_sem]) | fail))
  simp only [ends]
  (simp only [SubF, go_sem]; (try simp only [go_sem]); repeat' (first | exact True.intro | with_reducible refine And.intro ?_ ?_ | rfl | omega))
 have h02 : ¬ a.states = 0 := by omega
 refine wp_seq (seg Ty_ok mixed (s1 := ⟨148, [(4, .one (.vp 2 0)), (2, .one (.vp 0 0)), (0, .one (.ref (prbN a N u left)))], [.var 41 [.nil, .int .i64 0, .nil, .nil], .row 3 1 (ints a.alph), .var 41 [.own 1, .int .i64 0, .nil, .nil]], 0⟩) h2 ?_ fun a3 w3 h3 => ?_)
 ·simp only [prbN]
  (repeat' (first | (with_reducible first | refine And.intro ?_ ?_ | (refine aS 15 [49, 48, 50, 91, 90, 92] ?_; intro K hK)) | ((with_reducible refine aGo ?_); simp only [b1, b2, h02, hN, go_sem]) | ((with_reducible refine aCd ?_ ?_ (fun hb => ?_) (fun hb => ?_)); (iterate 2 simp only [b1, b2, h02, hN, go_sem]); all_goals (simp only [b1, b2, h02, hN, go_sem] at hb; try simp only [bls] at hb)) | ((iterate 6 try ((fail_if_success with_reducible refine hK _ ?_ ?_ ?_); clear hK K)); with_reducible refine hK _ ?_ ?_ ?_; rotate_left; (focus (simp only [b1, b2, h02, hN, go_sem]; exact rfl)); clear hK K) | exact aZ | fail))
  all_goals first | omega | skip
  simp only [awp, ends]
  (simp only [SubF, go_sem]; (try simp only [go_sem]); repeat' (first | exact True.intro | with_reducible refine And.intro ?_ ?_ | rfl | omega))
 refine wp_seq (seg Ty_ok mixed (s1 := ⟨148, [(5, .one (.own 3)), (4, .one (.vp 2 0)), (2, .one (.vp 0 0)), (0, .one (.ref (prbN a N u left)))], [.var 41 [.nil, .int .i64 0, .nil, .nil], .row 3 1 (ints a.alph), .var 41 [.own 1, .int .i64 0, .nil, .nil], .row 39 1 (List.replicate N [.nil])], 0⟩) h3 ?_ fun a4 w4 h4 => ?_)
 ·simp only [prbN]
  (repeat' (first | (with_reducible refine And.intro ?_ ?_) | ((with_reducible refine aGo ?_); simp only [hN, go_sem]) | exact aZ | fail))
  all_goals first | omega | skip
  simp only [ends]
  (simp only [SubF, go_sem]; (try simp only [go_sem]); repeat' (first | exact True.intro | with_reducible refine And.intro ?_ ?_ | rfl | omega))
 refine wp_seq (wp_seq (seg Ty_ok mixed (s1 := ⟨148, svS a N u left 0, [.var 41 [.nil, .int .i64 0, .nil, .nil], .row 3 1 (ints a.alph), .var 41 [.own 1, .int .i64 0, .nil, .nil], .row 39 1 (List.replicate N [.nil])], 0⟩) h4 ?_ fun a5 w5 h5 => ?_))
 ·simp only [prbN, svS]
  (repeat' (first | ((with_reducible refine aGo ?_); simp only [go_sem]) | fail))
  all_goals first | omega | skip
  simp only [ends]
  (simp only [SubF, go_sem]; (try simp only [go_sem]); repeat' (first | exact True.intro | with_reducible refine And.intro ?_ ?_ | rfl | omega))
 obtain ⟨β5, h5⟩ := h5
 have htl : 3 < β5.length := by rw [h5.len]; simp
 obtain ⟨x5, hx5⟩ : ∃ x, β5[3]? = some x := ⟨_, List.getElem?_eq_getElem htl⟩
 obtain ⟨hs, n1, n2, n3⟩ := zbc (M' := Mof M β5) (β' := β5) (h5.objs 3 _ x5 rfl hx5)
 have h6 := h5.write (o' := .row 39 1 (rawR hs)) hx5 (z1H w5 _) (Nat.le_refl _) n3
 have h7 := h6.again rfl
 have hnb : ∀ g, ¬ inBk hs g := by
  rintro g ⟨v, hv, hg⟩
  obtain ⟨A, rfl⟩ := n2 v hv
  cases A <;> cases hg
 have hMi : (fun g => M g ∨ inBk hs g) = M := by
  funext g
  exact propext ⟨fun h => h.resolve_right (hnb g), .inl⟩
 have hH : EdHead w0 M a N u left 0 0 hs a5 w5 β5 := by
  refine ⟨by rw [hMi]; exact h7, h5.below.below fun _ => z0j, n1, fun s x hx => ?_, fun i j x y g hi _ hx _ => absurd ⟨x, List.mem_of_getElem? hi, hx⟩ (hnb g), fun g hg => absurd hg (hnb g), fun g hg => (h5.fresh g hg).1.resolve_left z0j⟩
  obtain ⟨A, rfl⟩ := n2 x (List.mem_of_getElem? hx)
  exact EdgAt.nil w5 A
 clear h7 h6 n3 n2 n1 hx5 htl h5 h4 h3 h2 h1 hMi hnb
 refine wp_block (wp_loop_ghost (fun n act w => ∃ k hs β, a.edges.length - k = n ∧ k ≤ a.edges.length ∧ EdHead w0 M a N u left k k hs act w β) a.edges.length ⟨0, hs, β5, rfl, Nat.zero_le _, hH⟩ ?_)
 clear hH
 rintro n act w ⟨k, hs, β, rfl, hk, hh⟩
 have hrl := z2E hs
 have hq : ((k : Nat) : Int).toNat = k := by omega
 by_cases hlt : k < a.edges.length
 ·have e1 := z0p (l := a.edges) hlt [.int .i64 0, .int .i64 0, .int .i64 0]
  have e2 := z0p (l := a.edges) hlt []
  obtain ⟨⟨⟨x1, x2⟩, x3, x4⟩, _⟩ := ha.edges.1 _ (z01 a.edges k Edg.no hlt)
  have hgr := fun s => zfr (left := left) hlt s
  generalize a.edges.getD k Edg.no = x at *
  have d1 := z2b (l := left) (k := x.dst.toNat) (by omega) []
  have d2 := z2b (l := left) (k := x.dst.toNat) (by omega) [.bool false]
  rw [show left.getD x.dst.toNat false = leftB left x.dst from rfl] at d1 d2
  refine wp_seq (seg Ty_ok mixed (s1 := ⟨148, (51, .one (.bool true)) :: svS a N u left k, svH a hs, 0⟩) ⟨β, hh.sim⟩ ?_ fun a1 w1 h1 => ?_)
  ·simp only [svS, svH, prbN]
   have hlt2 : decide ((k : Int) < a.edges.length) = true := decide_eq_true (by omega)
   (repeat' (first | ((with_reducible refine aGo ?_); simp only [hlt2, go_sem]) | fail))
   all_goals first | omega | skip
   simp only [ends]
   (simp only [SubF, go_sem]; (try simp only [go_sem]); repeat' (first | exact True.intro | with_reducible refine And.intro ?_ ?_ | rfl | omega))
  refine wp_seq (seg Ty_ok mixed (s1 := ⟨148, svS a N u left k, svH a hs, 0⟩) h1 ?_ fun a2 w2 h2 => ?_)
  ·simp only [svS, svH, prbN]
   (repeat' (first | ((with_reducible refine aCd ?_ ?_ (fun hb => ?_) (fun hb => ?_)); (iterate 2 simp only [go_sem]); all_goals (simp only [go_sem] at hb; try simp only [bls] at hb)) | fail))
   all_goals first | omega | skip
   simp only [awp, ends]
   (simp only [SubF, go_sem]; (try simp only [go_sem]); repeat' (first | exact True.intro | with_reducible refine And.intro ?_ ?_ | rfl | omega))
  refine wp_seq (wp_block (wp_seq (seg Ty_ok mixed (s1 := ⟨148, (7, .one (.vp 4 0)) :: svS a N u left k, svH a hs ++ [.var 96 [.int .i64 x.src, .int .i64 x.ev, .int .i64 x.dst]], 0⟩) h2 ?_ fun a3 w3 h3 => ?_)))
  ·simp only [svS, svH, prbN]
   (repeat' (first | (with_reducible refine And.intro ?_ ?_) | ((with_reducible refine aGo ?_); simp only [hq, e1, e2, go_sem]) | exact aZ | fail))
   all_goals first | omega | skip
   simp only [ends]
   (simp only [SubF, go_sem]; (try simp only [go_sem]); repeat' (first | exact True.intro | with_reducible refine And.intro ?_ ?_ | rfl | omega))
  refine wp_seq (seg Ty_ok mixed (s1 := ⟨148, (61, .one (.bool (leftB left x.dst))) :: (7, .one (.vp 4 0)) :: svS a N u left k, svH a hs ++ [.var 96 [.int .i64 x.src, .int .i64 x.ev, .int .i64 x.dst]], 0⟩) h3 ?_ fun a4 w4 h4 => ?_)
  ·simp only [svS, svH, prbN, List.cons_append, List.nil_append]
   (repeat' (first | (with_reducible refine And.intro ?_ ?_) | ((with_reducible refine rD (id := 8) ?_); simp only [d1, d2, go_sem]) | exact aZ | fail))
   all_goals first | omega | skip
   simp only [ends]
   (simp only [SubF, go_sem]; (try simp only [go_sem]); repeat' (first | exact True.intro | with_reducible refine And.intro ?_ ?_ | rfl | omega))
  refine wp_mono (Q := fun e a5 w5 => e = .normal ∧ ∃ hs' β', EdHead w0 M a N u left k (k + 1) hs' a5 w5 β') ?_ ?_
  ·obtain ⟨β4, h4⟩ := h4
   have hv4 := h4.slots 61 (.one (.bool (leftB left x.dst))) rfl
   obtain ⟨z4, hz4, hr4⟩ := hv4
   have hev : a4.eval (.tmp 61) = .bool (leftB left x.dst) := by
    simp only [Act.eval, Array.getD_eq_getD_getElem?, hz4, Option.getD_some]
    exact hr4
   refine wp_cond_split hev (fun hb => ?_) (fun hb => ?_)
   ·have hi : x.src.toNat < hs.length := by rw [hh.len]; omega
    obtain ⟨v, hv⟩ : ∃ v, hs[x.src.toNat]? = some v := ⟨_, List.getElem?_eq_getElem hi⟩
    have hr9 := ziw hi []
    have hvv : hs[x.src.toNat] = v := by rw [List.getElem?_eq_getElem hi] at hv; exact Option.some.inj hv
    rw [hvv] at hr9
    obtain ⟨β5, h5⟩ := h4.subF (τ := ⟨148, (7, .one (.vp 4 0)) :: svS a N u left k, svH a hs ++ [.var 96 [.int .i64 x.src, .int .i64 x.ev, .int .i64 x.dst]], 0⟩) (by simp only [svS, svH, prbN, List.cons_append, List.nil_append]; (simp only [SubF, go_sem]; (try simp only [go_sem]); repeat' (first | exact True.intro | with_reducible refine And.intro ?_ ?_ | rfl | omega)))
    have h6 := h5.again rfl
    refine zaT Ty_ok mixed (X := fun g => hblk v = some g) (is := [0, 1, 2, 3, 4, 5, 6, 7, 8]) (tl := [9, 10, 11, 12]) (lt := [11, 12]) (by kernel_rfl) (fun g hg => .inr ⟨v, List.mem_of_getElem? hv, hg⟩) ⟨_, h6⟩
     (L := fun τ => SubF τ ⟨148, (62, .one (.own 3)) :: (64, .one (.int .i64 x.src)) :: (69, .one (.raw v)) :: (70, .agg [.int .i64 x.src, .int .i64 x.ev, .int .i64 x.dst]) :: svS a N u left k, svH a hs ++ [.var 96 [.int .i64 x.src, .int .i64 x.ev, .int .i64 x.dst]], 0⟩) ?_ fun τ a7 hL h7 => ?_
    ·simp only [xWalk, xStep, svS, svH, prbN, List.cons_append, List.nil_append, go_sem, hr9, hrl]
     refine ⟨⟨by omega, by have := hh.len; omega⟩, hi, ?_⟩
     (simp only [SubF, go_sem]; (try simp only [go_sem]); repeat' (first | exact True.intro | with_reducible refine And.intro ?_ ?_ | rfl | omega))
    ·obtain ⟨β7, h7⟩ := h7
     obtain ⟨β8, h8⟩ := h7.subF hL
     refine z7M (K := fun τ => SubF τ ⟨148, (71, .one (.own 5)) :: (62, .one (.own 3)) :: (64, .one (.int .i64 x.src)) :: (69, .one (.raw v)) :: svS a N u left k, svH a hs ++ [.var 96 [.int .i64 x.src, .int .i64 x.ev, .int .i64 x.dst], .row 96 3 [[.int .i64 x.src, .int .i64 x.ev, .int .i64 x.dst]]], 0⟩) Ty_ok rfl rfl rfl rfl h8 ?_ (fun w' hw' => ?_) fun σ9 a9 w9 hb9 hσ9 h9 => ?_
     ·simp only [svS, svH, prbN, List.cons_append, List.nil_append, go_sem]
      (simp only [SubF, go_sem]; (try simp only [go_sem]); repeat' (first | exact True.intro | with_reducible refine And.intro ?_ ?_ | rfl | omega))
     ·exact (BelowX.refl _ _).ext hw'
     ·obtain ⟨β9, h9⟩ := h9
      obtain ⟨β10, h10⟩ := h9.subF hσ9
      obtain ⟨β11, h11⟩ := h4.subF (τ := ⟨148, svS a N u left k, svH a hs, 0⟩) (by simp only [svS, svH, prbN, List.cons_append, List.nil_append]; (simp only [SubF, go_sem]; (try simp only [go_sem]); repeat' (first | exact True.intro | with_reducible refine And.intro ?_ ?_ | rfl | omega)))
      have hm4 := hh.step h11
      have hvb : ∀ g, hblk v = some g → inBk hs g := fun g hg => ⟨v, List.mem_of_getElem? hv, hg⟩
      have hin4 : ∀ (s : Nat) (y : Value), hs[s]? = some y → ∀ g, hblk y = some g → g < w4.heap.size := fun s y hy g hg => hm4.sim.m0.1 g (.inr ⟨y, List.mem_of_getElem? hy, hg⟩)
      have hE9 : ∀ (s : Nat) (y : Value), hs[s]? = some y → EdgAt w9 y (grpL a.edges left k s) := fun s y hy => (hm4.inn s y hy).to fun g hg => hb9.block g (hin4 s y hy g hg)
      have hgl : (grpL a.edges left k (x.src.toNat : Nat)).length ≤ 50000 := by
       have h1 := List.length_filter_le (fun y : Edg => leftB left y.dst) (outL (a.edges.take k) (x.src.toNat : Nat))
       have h2 := List.length_filter_le (fun y : Edg => decide (y.src = (x.src.toNat : Nat))) (a.edges.take k)
       have h3 : (a.edges.take k).length ≤ a.edges.length := by rw [List.length_take]; omega
       rw [grpL]; rw [outL] at h1 ⊢; omega
      have hel := z2O (grpL a.edges left k (x.src.toNat : Nat))
      refine z69 Ty_ok rfl rfl rfl rfl h10 rfl rfl rfl ?_ ?_ rfl (fun g hg => .inr (hvb g hg)) (fun M' β' => (hE9 _ v hv).to fun _ _ => rfl) ?_ ?_ ?_ rfl ?_ ?_ ?_ (fun w' hw' => ?_) fun v' w' hbx hnew hobj' h12 => ?_
      ·exact ⟨trivial, trivial⟩
      ·show 72 < 148; decide
      ·intro r hr
       rcases List.mem_append.1 hr with hr | hr
       ·exact z2w _ r hr
       ·rw [List.mem_singleton.1 hr]; rfl
      ·first | (simp only [go_sem]; done) | (intro hq; cases hq)
      ·first | (simp only [go_sem]; done) | decide
      ·intro r hr
       rw [List.mem_singleton.1 hr]; rfl
      ·rw [hel]
       show (_ + 1) * 24 ≤ _
       omega
      ·rw [hel]
       show _ + 1 ≤ _
       omega
      ·exact ⟨hw'.os.trans hb9.os, hw'.tape.trans hb9.tape, hw'.output.trans hb9.output, Nat.le_trans hb9.size hw'.size, fun g hg hx => (hw'.block g (Nat.lt_of_lt_of_le hg hb9.size) hx).trans (hb9.block g hg), Nat.le_trans hb9.drawn hw'.drawn⟩
      ·refine z8o (K := fun τ => SubF τ ⟨148, (73, .one (.rp 3 x.src.toNat 1 0)) :: (72, .one (.raw v')) :: svS a N u left k, svH a hs, 0⟩) Ty_ok (by decide) ⟨_, h12⟩ ?_ fun σ13 a13 w13 hσ13 h13 => ?_
       ·simp only [svS, svH, prbN, List.cons_append, List.nil_append, go_sem]
        refine ⟨⟨by omega, by have := hh.len; omega⟩, ?_⟩
        (simp only [SubF, go_sem]; (try simp only [go_sem]); repeat' (first | exact True.intro | with_reducible refine And.intro ?_ ?_ | rfl | omega))
       ·obtain ⟨β14, h14⟩ := h13
        obtain ⟨β15, h15⟩ := h14.subF hσ13
        have hset := zgP hs x.src.toNat v'
        refine z8o (K := fun τ => SubF τ ⟨148, svS a N u left k, svH a (hs.set x.src.toNat v'), 0⟩) Ty_ok (by decide) ⟨_, h15⟩ ?_ fun σ16 a16 w16 hσ16 h16 => ?_
        ·simp only [svS, svH, prbN, List.cons_append, List.nil_append, go_sem, hrl, hr9, List.set_cons_zero, hset]
         refine ⟨hi, ?_⟩
         (simp only [SubF, go_sem]; (try simp only [go_sem]); repeat' (first | exact True.intro | with_reducible refine And.intro ?_ ?_ | rfl | omega))
        ·obtain ⟨β16, h16⟩ := h16
         obtain ⟨β17, h17⟩ := h16.subF hσ16
         have hbx0 : BelowX (fun g => hblk v = some g) w4 w' := ⟨hbx.os.trans hb9.os, hbx.tape.trans hb9.tape, hbx.output.trans hb9.output, Nat.le_trans hb9.size hbx.size, fun g hg hx => (hbx.block g (Nat.lt_of_lt_of_le hg hb9.size) hx).trans (hb9.block g hg), Nat.le_trans (Nat.le_succ _) (Nat.le_trans hb9.drawn hbx.drawn)⟩
         have hv4 : w4.heap.size ≤ w9.heap.size := hb9.size
         have hfB : ∀ g, owned β10 g → w0.heap.size ≤ g := fun g hg => by
          have hs0 := hh.below.size
          have hs4 := hm4.below.size
          rcases (h10.fresh g hg).1 with h | h
          ·rcases (h5.fresh g h).1 with h | h
           ·exact hh.freshB g h
           ·omega
          ·exact Nat.le_trans hs4 h
         have hnb : ∀ g, hblk v' = some g → hblk v = some g ∨ ¬ inBk hs g := fun g hg => (hnew g hg).imp id fun h ⟨y, hy, hyg⟩ => by
          obtain ⟨j, hj⟩ := List.getElem?_of_mem hy
          have := hin4 j y hj g hyg
          omega
         have hkeep : ∀ g, (M g ∨ inBk hs g) ∨ (hblk v' = some g ∧ w9.heap.size ≤ g) → w16.heap[g]? = w'.heap[g]? := fun g hg => h17.below.block g (h17.m0.1 g hg) fun ho => (h17.out g ho).1 hg
         have hfr : ∀ g, hblk v' = some g → (M g ∨ inBk hs g) ∨ (hblk v' = some g ∧ w9.heap.size ≤ g) := fun g hg => by
          rcases hnew g hg with h | h
          ·exact .inl (.inr (hvb g h))
          ·exact .inr ⟨hg, h.1⟩
         refine z9s ⟨rfl, rfl, hs.set x.src.toNat v', β17, h17.less rfl fun g hg => ?_, ?_, by rw [List.length_set]; exact hh.len, fun s y hy => ?_, hh.apart.set hv hnb, fun g hg => ?_, fun g hg => ?_⟩
         ·rcases hg with hg | hg
          ·exact .inl (.inl hg)
          ·rcases z90 hg with hg | hg
           ·exact .inl (.inr hg)
           ·exact hfr g hg
         ·exact z2i (z2i hm4.below hbx0 fun g hg => hh.fresh g (hvb g hg)) h17.below hfB
         ·by_cases hsi : s = x.src.toNat
          ·subst hsi
           rw [List.getElem?_set, if_pos rfl, if_pos hi] at hy
           cases hy
           have e9 : edgsD (grpL a.edges left (k + 1) (x.src.toNat : Nat)) = edgsD (grpL a.edges left k (x.src.toNat : Nat)) ++ [[D.int .i64 x.src, D.int .i64 x.ev, D.int .i64 x.dst]] := by
            rw [hgr, if_pos ⟨by omega, hb⟩]
            simp [edgsD, Edg.d]
           rw [EdgAt, e9]
           exact z2e (fun r hr => by
            rw [← e9] at hr
            exact z2w _ r hr) (fun g hg => hkeep g (hfr g hg)) (hobj' (fun _ => False) [])
          ·rw [List.getElem?_set, if_neg (fun e => hsi e.symm)] at hy
           rw [hgr, if_neg (by rintro ⟨h1, _⟩; omega), List.append_nil]
           exact (hm4.inn s y hy).to fun g hg => (hkeep g (.inl (.inr ⟨y, List.mem_of_getElem? hy, hg⟩))).trans (hbx0.block g (hin4 s y hy g hg) fun hx => hsi (hh.apart s _ y v g hy hv hg hx))
         ·rcases z90 hg with hg | hg
          ·exact hh.fresh g hg
          ·rcases hnew g hg with h | h
           ·exact hh.fresh g (hvb g h)
           ·have := hm4.below.size
            omega
         ·rcases (h17.fresh g hg).1 with h | h
          ·exact hfB g h
          ·have := hm4.below.size
           have := hbx0.size
           omega
   ·obtain ⟨β5, h5⟩ := h4.subF (τ := ⟨148, svS a N u left k, svH a hs, 0⟩) (by simp only [svS, svH, prbN, List.cons_append, List.nil_append]; (simp only [SubF, go_sem]; (try simp only [go_sem]); repeat' (first | exact True.intro | with_reducible refine And.intro ?_ ?_ | rfl | omega)))
    exact wp_skip ⟨rfl, hs, β5, (hh.step h5).same fun s => by rw [hgr, if_neg (by rintro ⟨_, h2⟩; rw [hb] at h2; cases h2), List.append_nil]⟩
  ·rintro e a5 w5 ⟨rfl, hs', β5, hm⟩
   refine seg Ty_ok mixed (s1 := ⟨148, svS a N u left (k + 1), svH a hs', 0⟩) ⟨β5, hm.sim⟩ ?_ fun a6 w6 h6 => ?_
   ·simp only [svS, svH, prbN]
    (repeat' (first | (with_reducible refine And.intro ?_ ?_) | ((with_reducible refine aGo ?_); simp only [go_sem]) | exact aZ | fail))
    all_goals first | omega | skip
    simp only [ends]
    (simp only [SubF, go_sem]; (try simp only [go_sem]); repeat' (first | exact True.intro | with_reducible refine And.intro ?_ ?_ | rfl | omega))
   obtain ⟨β6, h6⟩ := h6
   exact ⟨a.edges.length - (k + 1), by omega, k + 1, hs', β6, rfl, by omega, hm.step h6⟩
 ·have hke : k = a.edges.length := by omega
  subst hke
  refine wp_seq (seg Ty_ok mixed (s1 := ⟨148, (51, .one (.bool false)) :: svS a N u left a.edges.length, svH a hs, 0⟩) ⟨β, hh.sim⟩ ?_ fun a1 w1 h1 => ?_)
  ·simp only [svS, svH, prbN]
   have hlt2 : decide ((a.edges.length : Int) < a.edges.length) = false := decide_eq_false (by omega)
   (repeat' (first | ((with_reducible refine aGo ?_); simp only [hlt2, go_sem]) | fail))
   all_goals first | omega | skip
   simp only [ends]
   (simp only [SubF, go_sem]; (try simp only [go_sem]); repeat' (first | exact True.intro | with_reducible refine And.intro ?_ ?_ | rfl | omega))
  refine wp_seq (segX Ty_ok mixed (s2 := ⟨148, svS a N u left a.edges.length, svH a hs, 0⟩) (k := 0) h1 ?_ fun a2 w2 h2 => ?_)
  ·simp only [svS, svH, prbN]
   (repeat' (first | ((with_reducible refine aCd ?_ ?_ (fun hb => ?_) (fun hb => ?_)); (iterate 2 simp only [go_sem]); all_goals (simp only [go_sem] at hb; try simp only [bls] at hb)) | fail))
   all_goals first | omega | skip
   simp only [awp, endsX]
   (simp only [SubF, go_sem]; (try simp only [go_sem]); repeat' (first | exact True.intro | with_reducible refine And.intro ?_ ?_ | rfl | omega))
  obtain ⟨β2, h2⟩ := h2
  have hE := hh.step h2
  have hT9 := hE.told fun g hg => hM.1 g hg
  refine zg3 (σ := _) Ty_ok mixed hT9 (rs := _) (r := .tup [.agg (supA a left).d, .one (.list (ints (supO a left).1))]) ?_ fun σ' a' w' k1 k2 => hQ w2 _ σ' a' w' hE.below (fun g hg => hE.freshB g (z9O hg)) k1 k2
  clear hT9 hE h2 h1 hh hQ
  have hf : (svS a N u left a.edges.length).filter (fun s => s.1 != 5) = [(50, .one (.int .i64 a.edges.length)), (49, .one (.int .i64 a.edges.length)), (48, .one (.list (edgsD a.edges))), (4, .one (.vp 2 0)), (2, .one (.vp 0 0)), (0, .one (.ref (prbN a N u left)))] := rfl
  rw [hf]
  clear hf
  have hsr : ∀ s, (grpL a.edges left a.edges.length s).map (fun x => (x.ev, x.dst)) = sucL a left s := fun s => zhl a left s
  have hg5 := fun (s : Int) (hs : 0 ≤ s ∧ s < N) (z : List D) => zfs (N := N) a.edges left a.edges.length hs z
  have hgl := zhk a.edges left a.edges.length
  have hrng := fun s => zc7 (left := left) ha s
  have hL5 : ((List.range N).map fun s : Nat => [D.list (edgsD (grpL a.edges left a.edges.length s))]).length = N := by simp
  have hcm := fun x => z2D a.marked x (ha.fits (by omega)).marked
  have hO : supO a left = bfs (sucL a left) (N + 1) 0 [0] [] := by rw [supO, if_neg (by rw [h0]; rintro (h | h); omega; cases h), show a.states.toNat = N by omega]
  rw [show a.states.toNat = N by omega] at hrng
  have hA : supA a left = ⟨a.alph, (supO a left).1.length, mkC a.marked (supO a left).1 (supO a left).1.length, (supO a left).2⟩ := rfl
  rw [hA]
  generalize supO a left = O at *
  generalize ((List.range N).map fun s : Nat => [D.list (edgsD (grpL a.edges left a.edges.length s))]) = L5 at *
  generalize grpL a.edges left a.edges.length = gr at *
  generalize sucL a left = su at *
  simp only [prbN, Aut.d]
  (repeat' (first | (with_reducible first | refine aBl ?_ | (refine aS 15 [49, 48, 50, 91, 90, 92] ?_; intro K hK)) | ((with_reducible refine aGo ?_); simp only [go_sem]) | ((iterate 6 try ((fail_if_success with_reducible refine hK _ ?_ ?_ ?_); clear hK K)); with_reducible refine hK _ ?_ ?_ ?_; rotate_left; (focus (simp only [go_sem]; exact rfl)); clear hK K) | fail))
  all_goals first | omega | skip
  refine z14 [.cell 2 2 3 1, .cell 2 3 96 3] _ (by simp only [go_sem]; rfl) (Nat × Nat × List Int × List Edg) (fun s => O = bfs su s.1 s.2.1 s.2.2.1 s.2.2.2 ∧ OrdOk N s.2.2.1 ∧ s.2.1 ≤ s.2.2.1.length ∧ s.2.2.2.length ≤ a.edges.length * s.2.1 ∧ s.1 + s.2.1 = N + 1)
   (fun s => [(9, .one (.own 5)), (10, .one (.int .i64 s.2.1))])
   (fun s => [.var 41 [.nil, .int .i64 0, .nil, .nil], .row 3 1 (ints a.alph), .var 41 [.own 1, .int .i64 0, .own 6, .own 7], .gone, .map (.int .i64) (ordK 0 s.2.2.1), .row 3 1 (ints s.2.2.1), .row 3 1 (ints (mkC a.marked s.2.2.1 s.2.1)), .row 96 3 (edgsD s.2.2.2)])
   (fun s => s.1) (N + 1, 0, [0], []) ⟨hO, ⟨List.pairwise_singleton _ _, fun x hx => by rw [List.mem_singleton] at hx; subst hx; omega⟩, by simp, by simp, by simp⟩ ?_ ?_
  ·have q1 : ordK 0 [0] = [(.one (.int .i64 0), .one (.int .i64 0))] := rfl
   have q2 : ints (mkC a.marked [0] 0) = [] := rfl
   have q3 : edgsD [] = [] := rfl
   have q4 : ints [0] = [[.int .i64 0]] := rfl
   simp only [q1, q2, q3, q4]
   (simp only [SubF, go_sem]; (try simp only [go_sem]); repeat' (first | exact True.intro | with_reducible refine And.intro ?_ ?_ | rfl | omega))
  rintro ⟨f, i, o, es⟩ ⟨hOe, hOo, hio, hes, hfi⟩ L hL
  simp only at hOe hOo hio hes hfi
  have hqi : ((i : Nat) : Int).toNat = i := by omega
  have hol := hOo.le
  obtain ⟨f, rfl⟩ : ∃ g, f = g + 1 := ⟨f - 1, by omega⟩
  have hmkl := zdw a.marked o i
  rw [zcR] at hOe
  by_cases hlo : i < o.length
  ·rw [if_pos hlo] at hOe
   have hs := hOo.rng _ (z01 o i 0 hlo)
   have hat := z0s (l := o) hlo
   have e2 := zh4 a.marked o i
   generalize hss : o.getD i 0 = s at hOe hs hat e2
   have h5s := hg5 s hs
   have hrs := hrng s
   have hll := hgl s
   have hcs := hcm s
   have hmul : a.edges.length * i ≤ 50000 * 4096 := Nat.mul_le_mul (by omega) (by omega)
   have hmul2 : a.edges.length * (i + 1) = a.edges.length * i + a.edges.length := Nat.mul_succ _ _
   rw [← hsr s] at hOe hrs
   generalize gr s = ls at *
   (simp only [go_sem] at hL ⊢)
   (repeat' (first | (with_reducible first | refine And.intro ?_ ?_ | refine aBl ?_ | (refine aS 15 [49, 48, 50, 91, 90, 92] ?_; intro K hK)) | ((with_reducible refine aGo ?_); simp only [hqi, hat, h5s, hL5, go_sem]) | ((with_reducible refine aCd ?_ ?_ (fun hb => ?_) (fun hb => ?_)); (iterate 2 simp only [hqi, hat, h5s, hL5, go_sem]); all_goals (simp only [hqi, hat, h5s, hL5, go_sem] at hb; try simp only [bls] at hb)) | ((iterate 6 try ((fail_if_success with_reducible refine hK _ ?_ ?_ ?_); clear hK K)); with_reducible refine hK _ ?_ ?_ ?_; rotate_left; (focus (simp only [hqi, hat, h5s, hL5, go_sem]; exact rfl)); clear hK K) | exact aZ | fail))
   all_goals first | omega | skip
   refine z02 _ (by simp only [go_sem]; rfl) (Nat × List Int × List Edg) (fun t => t.1 ≤ ls.length ∧ O = bfs su f (i + 1) (bfsI i ((ls.drop t.1).map fun x => (x.ev, x.dst)) t.2.1 t.2.2).1 (bfsI i ((ls.drop t.1).map fun x => (x.ev, x.dst)) t.2.1 t.2.2).2 ∧ OrdOk N t.2.1 ∧ o <+: t.2.1 ∧ t.2.2.length ≤ es.length + t.1)
    (fun t => [(9, .one (.own 5)), (92, .one (.int .i64 t.1))]) (fun t H => ((H.set 4 (.map (.int .i64) (ordK 0 t.2.1))).set 5 (.row 3 1 (ints t.2.1))).set 7 (.row 96 3 (edgsD t.2.2))) (fun t => ls.length - t.1) (0, o, es) ⟨by simp only; omega, by simpa using hOe, hOo, List.prefix_refl _, by simp only; omega⟩ ?_ ?_
   ·(simp only [SubF, List.set_cons_succ, List.set_cons_zero, go_sem]; (try simp only [List.set_cons_succ, List.set_cons_zero, go_sem]); repeat' (first | exact True.intro | with_reducible refine And.intro ?_ ?_ | rfl | omega))
   rintro ⟨j, o2, es2⟩ ⟨hj, hO2, hOo2, hpre, hes2⟩ L2 hL2
   simp only at hj hO2 hOo2 hpre hes2
   have hq2 : ((j : Nat) : Int).toNat = j := by omega
   have hol2 := hOo2.le
   have hi2 : i < o2.length := Nat.lt_of_lt_of_le hlo hpre.length_le
   have hat2 := z0s (l := o2) hi2
   rw [z8I hpre hlo, hss] at hat2
   by_cases hjl : j < ls.length
   ·have c1 := z0p (l := ls) hjl [.int .i64 0, .int .i64 0, .int .i64 0]
    have c2 := z0p (l := ls) hjl []
    rw [z0H ls j Edg.no hjl, List.map_cons, zaI] at hO2
    have hy := hrs _ (List.mem_map_of_mem (f := fun x : Edg => (x.ev, x.dst)) (z01 ls j Edg.no hjl))
    generalize ls.getD j Edg.no = x at *
    simp only at hy
    have hfo := z2u x.dst o2 0
    cases hix : ixF x.dst 0 o2 with
    | some k =>
     rw [hix] at hO2 hfo
     simp only [Option.map_some] at hfo
     simp only at hO2
     have hkl := z5R hix
     (simp only [List.set_cons_succ, List.set_cons_zero, go_sem] at hL2 ⊢)
     (repeat' (first | (with_reducible first | refine And.intro ?_ ?_ | refine aBl ?_ | (refine aS 15 [49, 48, 50, 91, 90, 92] ?_; intro K hK)) | ((with_reducible first | refine aGo ?_ | refine rP Ty_ok mixed 26 [0, 5, 6] [.mid [pe 1, pe 2, pe 3, pe 4, pe 7, pe 8] 0, .one 9] ?_); simp only [hq2, hqi, c1, c2, hfo, Option.getD_some, Option.isSome_some, go_sem]) | ((with_reducible refine aCd ?_ ?_ (fun hb => ?_) (fun hb => ?_)); (iterate 2 simp only [hq2, hqi, c1, c2, hfo, Option.getD_some, Option.isSome_some, go_sem]); all_goals (simp only [hq2, hqi, c1, c2, hfo, Option.getD_some, Option.isSome_some, go_sem] at hb; try simp only [bls] at hb)) | ((iterate 6 try ((fail_if_success with_reducible refine hK _ ?_ ?_ ?_); clear hK K)); with_reducible refine hK _ ?_ ?_ ?_; rotate_left; (focus (simp only [hq2, hqi, c1, c2, hfo, Option.getD_some, Option.isSome_some, go_sem]; exact rfl)); clear hK K) | exact aZ | fail))
     all_goals first | omega | skip
     refine hL2 _ (j + 1, o2, es2 ++ [⟨i, x.ev, k⟩]) ⟨by simp only; omega, hO2, hOo2, hpre, by simp only [List.length_append, List.length_singleton]; omega⟩ ?_ (by simp only; omega)
     simp only [z2v]
     (simp only [SubF, List.set_cons_succ, List.set_cons_zero, go_sem]; (try simp only [List.set_cons_succ, List.set_cons_zero, go_sem]); repeat' (first | exact True.intro | with_reducible refine And.intro ?_ ?_ | rfl | omega))
    | none =>
     rw [hix] at hO2 hfo
     simp only [Option.map_none] at hfo
     simp only at hO2
     have hnm := ixF_none.1 hix
     have hset := z6n hix
     rw [Nat.zero_add] at hset
     have hfo2 := z2u x.dst (o2 ++ [x.dst]) 0
     rw [z8Z hnm, Nat.zero_add] at hfo2
     simp only [Option.map_some] at hfo2
     (simp only [List.set_cons_succ, List.set_cons_zero, go_sem] at hL2 ⊢)
     (repeat' (first | (with_reducible first | refine And.intro ?_ ?_ | refine aBl ?_ | (refine aS 15 [49, 48, 50, 91, 90, 92] ?_; intro K hK)) | ((with_reducible first | refine aGo ?_ | refine rP Ty_ok mixed 26 [0, 5, 6] [.mid [pe 1, pe 2, pe 3, pe 4, pe 7, pe 8] 0, .one 9] ?_); simp only [hq2, hqi, c1, c2, hfo, hset, hfo2, Option.getD_none, Option.isSome_none, go_sem]) | ((with_reducible refine aCd ?_ ?_ (fun hb => ?_) (fun hb => ?_)); (iterate 2 simp only [hq2, hqi, c1, c2, hfo, hset, hfo2, Option.getD_none, Option.isSome_none, go_sem]); all_goals (simp only [hq2, hqi, c1, c2, hfo, hset, hfo2, Option.getD_none, Option.isSome_none, go_sem] at hb; try simp only [bls] at hb)) | ((iterate 6 try ((fail_if_success with_reducible refine hK _ ?_ ?_ ?_); clear hK K)); with_reducible refine hK _ ?_ ?_ ?_; rotate_left; (focus (simp only [hq2, hqi, c1, c2, hfo, hset, hfo2, Option.getD_none, Option.isSome_none, go_sem]; exact rfl)); clear hK K) | exact aZ | fail))
     all_goals first | omega | skip
     refine hL2 _ (j + 1, o2 ++ [x.dst], es2 ++ [⟨i, x.ev, o2.length⟩]) ⟨by simp only; omega, hO2, hOo2.snoc hnm hy, hpre.trans (List.prefix_append _ _), by simp only [List.length_append, List.length_singleton]; omega⟩ ?_ (by simp only; omega)
     simp only [z2v, ← z0f]
     (simp only [SubF, z0e, List.set_cons_succ, List.set_cons_zero, go_sem]; (try simp only [z0e, List.set_cons_succ, List.set_cons_zero, go_sem]); repeat' (first | exact True.intro | with_reducible refine And.intro ?_ ?_ | rfl | omega))
   have hjl2 : j = ls.length := by omega
   subst hjl2
   rw [List.drop_length, List.map_nil] at hO2
   (simp only [List.set_cons_succ, List.set_cons_zero, go_sem] at hL2 ⊢)
   (repeat' (first | (with_reducible first | refine And.intro ?_ ?_ | refine aBl ?_ | (refine aS 15 [49, 48, 50, 91, 90, 92] ?_; intro K hK)) | ((with_reducible first | refine aGo ?_ | refine rP Ty_ok mixed 26 [0, 5, 6] [.mid [pe 1, pe 2, pe 3, pe 4, pe 7, pe 8] 0, .one 9] ?_); simp only [hqi, hat2, go_sem]) | ((with_reducible refine aCd ?_ ?_ (fun hb => ?_) (fun hb => ?_)); (iterate 2 simp only [hqi, hat2, go_sem]); all_goals (simp only [hqi, hat2, go_sem] at hb; try simp only [bls] at hb)) | ((iterate 6 try ((fail_if_success with_reducible refine hK _ ?_ ?_ ?_); clear hK K)); with_reducible refine hK _ ?_ ?_ ?_; rotate_left; (focus (simp only [hqi, hat2, go_sem]; exact rfl)); clear hK K) | ((with_reducible refine xA ?_); simp only [hqi, hat2, go_sem]) | exact aZ | fail))
   all_goals first | omega | skip
   all_goals
    have t2 : mkC a.marked o2 (i + 1) = mkC a.marked o i ++ if s ∈ a.marked then [(i : Int)] else [] := by rw [ziJ hpre (by omega), e2]
    refine hL _ (f, i + 1, o2, es2) ⟨hO2, hOo2, by simp only; omega, by simp only; omega, by simp only; omega⟩ ?_ (by simp only; omega)
    first | rw [if_pos (by assumption)] at t2 | rw [if_neg (by assumption), List.append_nil] at t2
    simp only [t2, ← z0f]
    (simp only [SubF, z0e, List.set_cons_succ, List.set_cons_zero, go_sem]; (try simp only [z0e, List.set_cons_succ, List.set_cons_zero, go_sem]); repeat' (first | exact True.intro | with_reducible refine And.intro ?_ ?_ | rfl | omega))
  ·rw [if_neg hlo] at hOe
   have hil : i = o.length := by omega
   subst hil
   subst hOe
   (simp only [go_sem] at hL ⊢)
   (repeat' (first | (with_reducible first | refine And.intro ?_ ?_ | refine aBl ?_ | (refine aS 15 [49, 48, 50, 91, 90, 92] ?_; intro K hK)) | ((with_reducible refine aGo ?_); simp only [go_sem]) | ((with_reducible refine aCd ?_ ?_ (fun hb => ?_) (fun hb => ?_)); (iterate 2 simp only [go_sem]); all_goals (simp only [go_sem] at hb; try simp only [bls] at hb)) | ((iterate 6 try ((fail_if_success with_reducible refine hK _ ?_ ?_ ?_); clear hK K)); with_reducible refine hK _ ?_ ?_ ?_; rotate_left; (focus (simp only [go_sem]; exact rfl)); clear hK K) | exact aZ | fail))
   all_goals first | omega | rfl | skip
set_option maxHeartbeats 8000000 in
theorem z9w (a : Aut) (u : List Int) (left : List Bool) (ha : a.Ok) (hl : a.edges.length ≤ 50000) (hlen : (left.length : Int) = a.states) :
  ACalls Tryz.prog 75 [.one (.ref (prbD a u left))] (.tup [.agg (supA a left).d, .one (.list (ints (supO a left).1))]) [] := by
 by_cases hc : a.states = 0 ∨ leftB left 0 = false
 ·have hst := ha.states
  have hC := z10 a.alph (ha.fits (by omega)).alph
  have e1 : supO a left = ([], []) := by rw [supO, if_pos hc]
  have e2 : supA a left = ⟨a.alph, 0, [], []⟩ := by rw [supA, e1]; rfl
  rw [e1, e2]
  simp only [Aut.d]
  by_cases hz : a.states = 0
  ·obtain rfl : left = [] := List.eq_nil_of_length_eq_zero (by omega)
   have b2 : (blsD []).getD 0 [D.bool false] = [.bool false] := rfl
   (refine ACalls.of_body Ty_ok mixed Tryz.func75 rfl (by kernel_rfl) Tryz.ntmps75 (by simp) (congrArg Array.toList Tryz.results75) ?_)
   simp only [z00, prbD]
   (repeat' (first | (with_reducible first | refine And.intro ?_ ?_ | (refine aS 15 [49, 48, 50, 91, 90, 92] ?_; intro K hK)) | ((with_reducible refine aGo ?_); simp only [b2, hz, go_sem]) | ((with_reducible refine aCd ?_ ?_ (fun hb => ?_) (fun hb => ?_)); (iterate 2 simp only [b2, hz, go_sem]); all_goals (simp only [b2, hz, go_sem] at hb; try simp only [bls] at hb)) | ((iterate 6 try ((fail_if_success with_reducible refine hK _ ?_ ?_ ?_); clear hK K)); with_reducible refine hK _ ?_ ?_ ?_; rotate_left; (focus (simp only [b2, hz, go_sem]; exact rfl)); clear hK K) | ((with_reducible refine xA ?_); simp only [b2, hz, go_sem]) | fail))
   all_goals first | omega | rfl | skip
  ·have hbl := z1c left
   have b1 := z2b (l := left) (k := 0) (by omega) []
   have b2 := z2b (l := left) (k := 0) (by omega) [.bool false]
   rw [show left.getD 0 false = leftB left 0 from rfl, hc.resolve_left hz] at b1 b2
   (refine ACalls.of_body Ty_ok mixed Tryz.func75 rfl (by kernel_rfl) Tryz.ntmps75 (by simp) (congrArg Array.toList Tryz.results75) ?_)
   simp only [z00, prbD]
   (repeat' (first | (with_reducible first | refine And.intro ?_ ?_ | (refine aS 15 [49, 48, 50, 91, 90, 92] ?_; intro K hK)) | ((with_reducible refine aGo ?_); simp only [b1, b2, hz, go_sem]) | ((with_reducible refine aCd ?_ ?_ (fun hb => ?_) (fun hb => ?_)); (iterate 2 simp only [b1, b2, hz, go_sem]); all_goals (simp only [b1, b2, hz, go_sem] at hb; try simp only [bls] at hb)) | ((iterate 6 try ((fail_if_success with_reducible refine hK _ ?_ ?_ ?_); clear hK K)); with_reducible refine hK _ ?_ ?_ ?_; rotate_left; (focus (simp only [b1, b2, hz, go_sem]; exact rfl)); clear hK K) | ((with_reducible refine xA ?_); simp only [b1, b2, hz, go_sem]) | exact aZ | fail))
   all_goals first | omega | rfl | skip
 ·exact z8t a u left ha hl hlen (by have := ha.states; omega) (by cases h : leftB left 0 with | true => rfl | false => exact absurd (.inr h) hc)
end Go.Proofs.YtkjllcmpjghmkaaGreatDoor
