/-
 synthesis.start by hand: the sources of the edges into each state in a block of its own, of which nothing is said.
-/
import Derived.Test.YtkjllcmpjghmkaaGreatDoorTY
set_option linter.unusedSimpArgs false
set_option linter.unusedVariables false
namespace Go.Proofs.YtkjllcmpjghmkaaGreatDoor
open Go.Eng Go.RowKit
def IntAt (w : World) (v : Value) (l : List Int) : Prop := ObjRep w (fun _ => False) [] (.row 3 1 (ints l)) v
theorem IntAt.to {w w' : World} {M : Nat → Prop} {β : List Value} {v : Value} {l : List Int} (h : IntAt w v l) (hb : ∀ g, hblk v = some g → w'.heap[g]? = w.heap[g]?) : ObjRep w' M β (.row 3 1 (ints l)) v := z2e (z2t l) hb h
theorem IntAt.nil (w : World) (A : Option Addr) : IntAt w (.slice A 0 0) [] := ⟨A, 0, rfl, Nat.le_refl _, Nat.zero_le _, .inl rfl⟩
theorem z5S (A : Option Addr) : hblk (.slice A 0 0) = none := by cases A <;> rfl
theorem ApartL.snoc {l : List Value} (h : ApartL l) {v : Value} (hn : ∀ g, hblk v = some g → ¬ inBk l g) : ApartL (l ++ [v]) := by
 have cs : ∀ {k : Nat} {z : Value}, (l ++ [v])[k]? = some z → l[k]? = some z ∨ (k = l.length ∧ z = v) := fun {k z} hk => by
  rw [List.getElem?_append] at hk
  split at hk
  ·exact .inl hk
  ·rename_i hle
   have := (List.getElem?_eq_some_iff.1 hk).1
   simp only [List.length_singleton] at this
   have e : k - l.length = 0 := by omega
   rw [e] at hk
   cases hk
   exact .inr ⟨by omega, rfl⟩
 intro p q x y g hp hq hx hy
 rcases cs hp with h1 | ⟨h1, rfl⟩ <;> rcases cs hq with h2 | ⟨h2, rfl⟩
 ·exact h p q x y g h1 h2 hx hy
 ·exact absurd ⟨x, List.mem_of_getElem? h1, hx⟩ (hn g hy)
 ·exact absurd ⟨y, List.mem_of_getElem? h2, hy⟩ (hn g hx)
 ·omega
def backK (ks : List (Int × Value)) : List (AV × AV) := ks.map fun p => (.one (.int .i64 p.1), .one (.raw p.2))
theorem zaJ (x : Int) : ∀ ks : List (Int × Value), (z0q (.one (.int .i64 x)) (backK ks) = none ∧ ∀ v, setKV (.one (.int .i64 x)) (.one (.raw v)) (backK ks) = backK (ks ++ [(x, v)])) ∨
  ∃ (j : Nat) (h : Value), ks[j]? = some (x, h) ∧ z0q (.one (.int .i64 x)) (backK ks) = some (.one (.raw h)) ∧ ∀ v, setKV (.one (.int .i64 x)) (.one (.raw v)) (backK ks) = backK (ks.set j (x, v))
 | [] => .inl ⟨rfl, fun _ => rfl⟩
 | p :: ks => by
  have e : backK (p :: ks) = (.one (.int .i64 p.1), .one (.raw p.2)) :: backK ks := rfl
  by_cases hx : x = p.1
  ·subst hx
   refine .inr ⟨0, p.2, rfl, ?_, fun v => ?_⟩
   ·rw [e, z0q, if_pos (by simp [eqKey])]
   ·rw [e, setKV, if_pos (by simp [eqKey])]; rfl
  ·have hn : ¬ eqKey (.one (.int .i64 x)) (.one (.int .i64 p.1)) = true := by simp [eqKey, hx]
   rcases zaJ x ks with ⟨h1, h2⟩ | ⟨j, h, h1, h2, h3⟩
   ·refine .inl ⟨?_, fun v => ?_⟩
    ·rw [e, z0q, if_neg hn, h1]
    ·rw [e, setKV, if_neg hn, h2]; rfl
   ·refine .inr ⟨j + 1, h, h1, ?_, fun v => ?_⟩
    ·rw [e, z0q, if_neg hn, h2]
    ·rw [e, setKV, if_neg hn, h3]; rfl
theorem zcf (f : Nat → Option Nat) (ks : List (Int × Value)) : (backK ks).map (fun kv => (kv.1.ren f, kv.2.ren f)) = backK ks := by
 simp only [backK, List.map_map]; rfl
theorem zfz (t : Nat) (o : AObj) (ks : List (Int × Value)) : (backK ks).map (fun kv => (kv.1.fz t o, kv.2.fz t o)) = backK ks := by
 simp only [backK, List.map_map]; rfl
theorem zf5 (m : Nat) (ks : List (Int × Value)) : ((backK ks).all fun kv => kv.1.tagsLt m && kv.2.tagsLt m) = true := by
 simp only [backK, List.all_map, List.all_eq_true]
 exact fun _ _ => rfl
theorem zeF (f : Nat → Option Nat) (kd : KeyKind) (ks : List (Int × Value)) : AObj.ren f (.map kd (backK ks)) = .map kd (backK ks) := by
 simp only [AObj.ren, zcf]
theorem zhm (t : Nat) (o : AObj) (kd : KeyKind) (ks : List (Int × Value)) : AObj.fz t o (.map kd (backK ks)) = .map kd (backK ks) := by
 simp only [AObj.fz, zfz]
theorem zha (m : Nat) (kd : KeyKind) (ks : List (Int × Value)) : (AObj.map kd (backK ks)).tagsLt m = true := zf5 m ks
attribute [go_sem ↓] zcf zfz zf5 zeF zhm zha
def stS (a : Aut) (k : Nat) : List (Nat × AV) := [(52, .one (.int .i64 k)), (51, .one (.int .i64 a.edges.length)), (50, .one (.list (edgsD a.edges))), (7, .one (.vp 3 0))]
def stV (a : Aut) (N : Nat) (u : List Int) : AObj := .var 147 [.list (ints a.alph), .int .i64 N, .list (ints a.marked), .list (edgsD a.edges), .list (ints u), .mp 1, .own 2]
def stH (a : Aut) (N : Nat) (u : List Int) (left : List Bool) (ks : List (Int × Value)) : List AObj := [.var 41 [.list (ints a.alph), .int .i64 N, .list (ints a.marked), .list (edgsD a.edges)], .map (.int .i64) (backK ks), .row 4 1 (blsD left), stV a N u]
structure StHead (w0 : World) (M0 : Nat → Prop) (a : Aut) (N : Nat) (u : List Int) (left : List Bool) (k ki : Nat) (ks : List (Int × Value)) (act : Act) (w : World) (β : List Value) : Prop where
 sim : Sim w (fun g => M0 g ∨ inBk (ks.map Prod.snd) g) β ⟨75, stS a k, stH a N u left ks, 0⟩ act w β
 below : Eng.Below w0.heap.size w0 w
 inn : ∀ p ∈ ks, ∃ l, IntAt w p.2 l ∧ l.length ≤ ki
 apart : ApartL (ks.map Prod.snd)
 fresh : ∀ g, inBk (ks.map Prod.snd) g → w0.heap.size ≤ g
 freshB : ∀ g, owned β g → w0.heap.size ≤ g
theorem zbm {ks : List (Int × Value)} {p : Int × Value} (hp : p ∈ ks) {g : Nat} (hg : hblk p.2 = some g) : inBk (ks.map Prod.snd) g := ⟨p.2, List.mem_map_of_mem (f := Prod.snd) hp, hg⟩
theorem StHead.step {w0 w w' : World} {M0 : Nat → Prop} {a : Aut} {N : Nat} {u : List Int} {left : List Bool} {k ki k' : Nat} {ks : List (Int × Value)} {act act' : Act} {β β' : List Value} (hh : StHead w0 M0 a N u left k ki ks act w β)
  (h : Sim w (fun g => M0 g ∨ inBk (ks.map Prod.snd) g) β ⟨75, stS a k', stH a N u left ks, 0⟩ act' w' β') : StHead w0 M0 a N u left k' ki ks act' w' β' := by
 refine ⟨h.again rfl, z2i hh.below h.below fun g hg => hh.freshB g hg, fun p hp => ?_, hh.apart, hh.fresh, fun g hg => ?_⟩
 ·obtain ⟨l, h1, h2⟩ := hh.inn p hp
  refine ⟨l, h1.to fun g hg => ?_, h2⟩
  have hb := zbm hp hg
  exact h.below.block g (hh.sim.m0.1 g (.inr hb)) fun ho => (h.out g ho).1 (.inr hb)
 ·rcases (h.fresh g hg).1 with h | h
  ·exact hh.freshB g h
  ·exact Nat.le_trans hh.below.size h
theorem z7L {w0 w4 w : World} {M : Nat → Prop} {a : Aut} {N : Nat} {u : List Int} {left : List Bool} {k : Nat} {ks : List (Int × Value)} {a4 a8 : Act} {β4 β8 : List Value} {x : Edg} {v : Value} {l : List Int} (ks' : Value → List (Int × Value)) {X : Nat → Prop} {F : List Value} {W0 : World}
  {ops : Array Oper} {Q : Exit → Act → World → Prop} {o15 o16 o17 : Oper} (i15 : ops[15]? = some o15) (g15 : o15.guard = none) (p15 : o15.op = .buildSlice 29 1 #[(0, .tmp 70)]) (d15 : o15.dst = some 71)
  (i16 : ops[16]? = some o16) (g16 : o16.guard = none) (p16 : o16.op = .call { callee := .builtin .append, args := #[.tmp 68, .tmp 71], argTypes := #[29, 29] }) (d16 : o16.dst = some 72)
  (i17 : ops[17]? = some o17) (g17 : o17.guard = none) (p17 : o17.op = .mapUpdate 144 (.tmp 59) (.tmp 61) (.tmp 72)) (d17 : o17.dst = none)
  (hm4 : StHead w0 M a N u left k k ks a4 w4 β4) (hw : w = { w4 with drawn := w4.drawn + 1 })
  (h8 : Sim W0 (fun g => M g ∨ inBk (ks.map Prod.snd) g) F ⟨75, (59, .one (.mp 1)) :: (61, .one (.int .i64 x.dst)) :: (68, .one (.raw v)) :: (70, .one (.int .i64 x.src)) :: stS a k, stH a N u left ks ++ [.var 96 [.int .i64 x.src, .int .i64 x.ev, .int .i64 x.dst]], 0⟩ a8 w β8)
  (hf8 : ∀ g, owned F g → w0.heap.size ≤ g) (hW8 : w0.heap.size ≤ W0.heap.size) (hk : k < a.edges.length) (hl : a.edges.length ≤ 50000)
  (hv : IntAt w4 v l) (hvl : l.length ≤ k) (hvb : ∀ g, hblk v = some g → inBk (ks.map Prod.snd) g) (hvX : ∀ g, hblk v = some g → X g)
  (hset : ∀ v', setKV (.one (.int .i64 x.dst)) (.one (.raw v')) (backK ks) = backK (ks' v')) (hbk : ∀ v' g, inBk ((ks' v').map Prod.snd) g → inBk (ks.map Prod.snd) g ∨ hblk v' = some g)
  (hap : ∀ v', (∀ g, hblk v' = some g → hblk v = some g ∨ ¬ inBk (ks.map Prod.snd) g) → ApartL ((ks' v').map Prod.snd)) (hin : ∀ v' p, p ∈ ks' v' → p.2 = v' ∨ (p ∈ ks ∧ ∀ g, hblk p.2 = some g → hblk v ≠ some g))
  (hQ : ∀ a' w' ks2 β2, StHead w0 M a N u left k (k + 1) ks2 a' w' β2 → Q .normal a' w') : tailL Tryz.prog ops Q (BelowX X w) [17] [15, 16, 17] a8 w := by
 have hw4 : w.heap = w4.heap := by rw [hw]
 have hb4 : BelowX (fun g => hblk v = some g) w4 w := by
  rw [hw]
  exact ⟨rfl, rfl, rfl, Nat.le_refl _, fun _ _ _ => rfl, Nat.le_succ _⟩
 refine z7M (K := fun τ => SubF τ ⟨75, (71, .one (.own 5)) :: (59, .one (.mp 1)) :: (61, .one (.int .i64 x.dst)) :: (68, .one (.raw v)) :: stS a k, stH a N u left ks ++ [.var 96 [.int .i64 x.src, .int .i64 x.ev, .int .i64 x.dst], .row 3 1 [[.int .i64 x.src]]], 0⟩) Ty_ok i15 g15 p15 d15 h8 ?_ (fun w' hw' => ?_) fun σ9 a9 w9 hb9 hσ9 h9 => ?_
 ·simp only [stS, stH, stV, List.cons_append, List.nil_append, go_sem]
  (simp only [SubF, go_sem]; (try simp only [go_sem]); repeat' (first | exact True.intro | with_reducible refine And.intro ?_ ?_ | rfl | omega))
 ·exact (BelowX.refl _ _).ext hw'
 obtain ⟨β9, h9⟩ := h9
 obtain ⟨β10, h10⟩ := h9.subF hσ9
 have hin4 : ∀ p ∈ ks, ∀ g, hblk p.2 = some g → g < w4.heap.size := fun p hp g hg => hm4.sim.m0.1 g (.inr (zbm hp hg))
 have hin4b : ∀ g, inBk (ks.map Prod.snd) g → g < w4.heap.size := fun g hg => hm4.sim.m0.1 g (.inr hg)
 have h9w : ∀ g, g < w4.heap.size → w9.heap[g]? = w4.heap[g]? := fun g hg => by
  rw [hb9.block g (by rw [hw4]; exact hg), hw4]
 have hE9 : ∀ M' β', ObjRep w9 M' β' (.row 3 1 (ints l)) v := fun M' β' => hv.to fun g hg => h9w g (hin4b g (hvb g hg))
 have hll := z0r l
 have hs49 : w4.heap.size ≤ w9.heap.size := by have := hb9.size; rw [hw4] at this; exact this
 refine z69 Ty_ok i16 g16 p16 d16 h10 rfl rfl rfl ?_ ?_ rfl (fun g hg => .inr (hvb g hg)) hE9 ?_ ?_ ?_ rfl ?_ ?_ ?_ (fun w' hw' => ?_) fun v' w' hbx hnew hobj' h12 => ?_
 ·exact ⟨trivial, trivial⟩
 ·show 72 < 75; decide
 ·intro r hr
  rcases List.mem_append.1 hr with hr | hr
  ·exact z2t _ r hr
  ·rw [List.mem_singleton.1 hr]; rfl
 ·first | (simp only [go_sem]; done) | (intro hq; cases hq)
 ·first | (simp only [go_sem]; done) | decide
 ·intro r hr
  rw [List.mem_singleton.1 hr]; rfl
 ·rw [hll]
  show (_ + 1) * 8 ≤ _
  omega
 ·rw [hll]
  show _ + 1 ≤ _
  omega
 ·exact ⟨hw'.os.trans hb9.os, hw'.tape.trans hb9.tape, hw'.output.trans hb9.output, Nat.le_trans hb9.size hw'.size, fun g hg hx => (hw'.block g (Nat.lt_of_lt_of_le hg hb9.size) fun hx' => hx (hvX g hx')).trans (hb9.block g hg), Nat.le_trans hb9.drawn hw'.drawn⟩
 refine z8o (K := fun τ => SubF τ ⟨75, stS a k, stH a N u left (ks' v'), 0⟩) Ty_ok (by decide) ⟨_, h12⟩ ?_ fun σ16 a16 w16 hσ16 h16 => ?_
 ·have hs := hset v'
  rw [i17]
  simp only [aop, g17, aop1, p17, d17, stS, stH, stV, List.cons_append, List.nil_append, go_sem, hs]
  (simp only [SubF, go_sem]; (try simp only [go_sem]); repeat' (first | exact True.intro | with_reducible refine And.intro ?_ ?_ | rfl | omega))
 obtain ⟨β16, h16⟩ := h16
 obtain ⟨β17, h17⟩ := h16.subF hσ16
 have hbx0 : BelowX (fun g => hblk v = some g) w4 w' := ⟨hbx.os.trans (hb9.os.trans hb4.os), hbx.tape.trans (hb9.tape.trans hb4.tape), hbx.output.trans (hb9.output.trans hb4.output), Nat.le_trans hs49 hbx.size, fun g hg hx => (hbx.block g (Nat.lt_of_lt_of_le hg hs49) hx).trans (h9w g hg), Nat.le_trans hb4.drawn (Nat.le_trans hb9.drawn hbx.drawn)⟩
 have hfB : ∀ g, owned β10 g → w0.heap.size ≤ g := fun g hg => by
  rcases (h10.fresh g hg).1 with h | h
  ·exact hf8 g h
  ·omega
 have hnb : ∀ g, hblk v' = some g → hblk v = some g ∨ ¬ inBk (ks.map Prod.snd) g := fun g hg => (hnew g hg).imp id fun h hi => by
  have := hin4b g hi
  omega
 have hkeep : ∀ g, (M g ∨ inBk (ks.map Prod.snd) g) ∨ (hblk v' = some g ∧ w9.heap.size ≤ g) → w16.heap[g]? = w'.heap[g]? := fun g hg => h17.below.block g (h17.m0.1 g hg) fun ho => (h17.out g ho).1 hg
 have hfr : ∀ g, hblk v' = some g → (M g ∨ inBk (ks.map Prod.snd) g) ∨ (hblk v' = some g ∧ w9.heap.size ≤ g) := fun g hg => by
  rcases hnew g hg with h | h
  ·exact .inl (.inr (hvb g h))
  ·exact .inr ⟨hg, h.1⟩
 refine z9s (hQ a16 w16 (ks' v') β17 ⟨h17.less rfl fun g hg => ?_, ?_, fun p hp => ?_, hap v' hnb, fun g hg => ?_, fun g hg => ?_⟩)
 ·rcases hg with hg | hg
  ·exact .inl (.inl hg)
  ·rcases hbk v' g hg with hg | hg
   ·exact .inl (.inr hg)
   ·exact hfr g hg
 ·exact z2i (z2i hm4.below hbx0 fun g hg => hm4.fresh g (hvb g hg)) h17.below hfB
 ·rcases hin v' p hp with e | ⟨hp2, hne⟩
  ·refine ⟨l ++ [x.src], ?_, by simp; omega⟩
   have e9 : ints (l ++ [x.src]) = ints l ++ [[D.int .i64 x.src]] := by simp [ints]
   rw [IntAt, e9, e]
   exact z2e (fun r hr => by
    rw [← e9] at hr
    exact z2t _ r hr) (fun g hg => hkeep g (hfr g hg)) (hobj' (fun _ => False) [])
  ·obtain ⟨l2, q1, q2⟩ := hm4.inn p hp2
   exact ⟨l2, q1.to fun g hg => (hkeep g (.inl (.inr (zbm hp2 hg)))).trans (hbx0.block g (hin4 p hp2 g hg) (hne g hg)), by omega⟩
 ·rcases hbk v' g hg with hg | hg
  ·exact hm4.fresh g hg
  ·rcases hnew g hg with h | h
   ·exact hm4.fresh g (hvb g h)
   ·have := hm4.below.size
    omega
 ·rcases (h17.fresh g hg).1 with h | h
  ·exact hfB g h
  ·have := hm4.below.size
   have := hbx0.size
   omega
structure StAt (w w' : World) (M : Nat → Prop) (a : Aut) (N : Nat) (u : List Int) (left : List Bool) (xp xl : Value) : Prop where
 below : Eng.Below w.heap.size w w'
 fresh : ∀ g, owned [xp, xl] g → w.heap.size ≤ g ∧ g < w'.heap.size
 dist : ∀ (t t' : Nat) (x x' : Value) (g : Nat), [xp, xl][t]? = some x → [xp, xl][t']? = some x' → hblk x = some g → hblk x' = some g → t = t'
 var : ∃ gp cur, xp = .pointer (some ⟨gp, 0, none⟩) ∧ w'.heap[gp]? = some (.cells cur 147 (0, 0)) ∧ ∀ M' β' tl, (∀ g, Mof M' β' g → M g ∨ owned [xp, xl] g) → β'[tl]? = some xl → RepCL w' (Mof M' β') β' [.list (ints a.alph), .int .i64 N, .list (ints a.marked), .list (edgsD a.edges), .list (ints u), .unk, .own tl] cur.toList
 row : ObjRep w' (fun _ => False) [] (.row 4 1 (blsD left)) xl
set_option maxHeartbeats 16000000 in
theorem zii (a : Aut) (bad u : List Int) (ha : a.Ok) (hl : a.edges.length ≤ 50000) (hb : ∀ x ∈ bad, 0 ≤ x ∧ x < a.states) (hbl : bad.length ≤ 1000000) (N : Nat) (hN : a.states = N)
  (w0 : World) (M : Nat → Prop) (vs : List Value) (hM : MOk w0 M []) (hv : RepVL w0 M [] [.agg a.d, .one (.list (ints bad)), .one (.list (ints u))] vs) :
  Calls Tryz.prog 70 ⟨vs⟩ w0 fun e w' => ∃ xp xl, e = .returned xp ∧ StAt w0 w' M a N u (left0 N bad) xp xl := by
 have hst := ha.states
 have hd : a.d = [.list (ints a.alph), .int .i64 N, .list (ints a.marked), .list (edgsD a.edges)] := by rw [Aut.d, hN]
 rw [hd] at hv
 refine zaA Tryz.func70 rfl Tryz.ntmps70 (by simp) (congrArg Array.toList Tryz.results70) hM hv ?_
 intro a0 Q hh hQ
 refine wp_seq (seg Ty_ok mixed (s1 := ⟨75, [(3, .one (.vp 0 0)), (1, .one (.list (ints bad))), (2, .one (.list (ints u)))], [.var 41 [.list (ints a.alph), .int .i64 N, .list (ints a.marked), .list (edgsD a.edges)]], 0⟩) hh ?_ fun a1 w1 h1 => ?_)
 ·simp only [z00]
  (repeat' (first | ((with_reducible refine aGo ?_); simp only [go_sem]) | fail))
  simp only [ends]
  (simp only [SubF, go_sem]; (try simp only [go_sem]); repeat' (first | exact True.intro | with_reducible refine And.intro ?_ ?_ | rfl | omega))
 refine wp_seq (seg Ty_ok mixed (s1 := ⟨75, [(7, .one (.vp 3 0)), (3, .one (.vp 0 0)), (1, .one (.list (ints bad)))], [.var 41 [.list (ints a.alph), .int .i64 N, .list (ints a.marked), .list (edgsD a.edges)], .map (.int .i64) [], .row 4 1 (List.replicate N [.bool false]), stV a N u], 0⟩) h1 ?_ fun a2 w2 h2 => ?_)
 ·simp only [stV]
  (repeat' (first | (with_reducible refine And.intro ?_ ?_) | ((with_reducible refine rP Ty_ok mixed 1 [1, 3] [.mid [⟨0, 0, false, false, false, [], []⟩, ⟨2, 0, true, false, false, [], []⟩, ⟨4, 1, false, false, false, [0], []⟩, ⟨5, 1, true, false, false, [0], []⟩] 2, .one 6, .one 7, .one 8] ?_); simp only [go_sem]) | exact aZ | fail))
  all_goals first | omega | skip
  simp only [ends]
  (simp only [SubF, go_sem]; (try simp only [go_sem]); repeat' (first | exact True.intro | with_reducible refine And.intro ?_ ?_ | rfl | omega))
 have hbt : ∀ k, k ≤ N → blsD (List.replicate k true ++ List.replicate (N - k) false) = blsD (List.replicate k true) ++ List.replicate (N - k) [.bool false] := fun k _ => by simp [blsD]
 refine wp_seq (seg Ty_ok mixed (s1 := ⟨75, [(7, .one (.vp 3 0)), (3, .one (.vp 0 0)), (1, .one (.list (ints bad)))], [.var 41 [.list (ints a.alph), .int .i64 N, .list (ints a.marked), .list (edgsD a.edges)], .map (.int .i64) [], .row 4 1 (blsD (List.replicate N true)), stV a N u], 0⟩) h2 ?_ fun a3 w3 h3 => ?_)
 ·simp only [stV]
  (repeat' (first | (with_reducible first | refine aBl ?_ | (refine aS 13 [25, 26, 37, 36, 38, 51, 50, 52] ?_; intro K hK)) | ((with_reducible refine aGo ?_); simp only [List.length_replicate, go_sem]) | ((iterate 6 try ((fail_if_success with_reducible refine hK _ ?_ ?_ ?_); clear hK K)); with_reducible refine hK _ ?_ ?_ ?_; rotate_left; (focus (simp only [List.length_replicate, go_sem]; exact rfl)); clear hK K) | fail))
  all_goals first | omega | skip
  refine z02 _ (by simp only [go_sem]; rfl) Nat (fun k => k ≤ N) (fun k => [(26, .one (.int .i64 k))]) (fun k H => H.set 2 (.row 4 1 (blsD (List.replicate k true ++ List.replicate (N - k) false)))) (fun k => N - k) 0 (by omega) ?_ ?_
  ·have e0 : blsD (List.replicate 0 true ++ List.replicate (N - 0) false) = List.replicate N [.bool false] := by simp [blsD]
   rw [e0]
   (simp only [SubF, List.set_cons_succ, List.set_cons_zero, go_sem]; (try simp only [List.set_cons_succ, List.set_cons_zero, go_sem]); repeat' (first | exact True.intro | with_reducible refine And.intro ?_ ?_ | rfl | omega))
  rintro k hk L hL
  have hq : ((k : Nat) : Int).toNat = k := by omega
  have hnl : (List.replicate k true ++ List.replicate (N - k) false).length = N := by simp; omega
  by_cases hlt : k < N
  ·have hset : (List.replicate k true ++ List.replicate (N - k) false).set k true = List.replicate (k + 1) true ++ List.replicate (N - (k + 1)) false := by
    rw [show N - k = (N - (k + 1)) + 1 by omega, List.replicate_succ (n := N - (k + 1))]
    simp [List.set_append, List.replicate_succ']
   have hput := zbI (List.replicate k true ++ List.replicate (N - k) false) k true
   rw [hset] at hput
   have hb1 := z2b (l := List.replicate k true ++ List.replicate (N - k) false) (k := k) (by omega) []
   have hbln := z1c (List.replicate k true ++ List.replicate (N - k) false)
   rw [hnl] at hbln
   generalize List.replicate k true ++ List.replicate (N - k) false = Z at *
   (simp only [List.set_cons_succ, List.set_cons_zero, go_sem] at hL ⊢)
   (repeat' (first | (with_reducible first | refine And.intro ?_ ?_ | refine aBl ?_ | (refine aS 13 [25, 26, 37, 36, 38, 51, 50, 52] ?_; intro K hK)) | ((with_reducible refine aGo ?_); simp only [hq, hbln, hput, hb1, go_sem]) | ((with_reducible refine aCd ?_ ?_ (fun hb => ?_) (fun hb => ?_)); (iterate 2 simp only [hq, hbln, hput, hb1, go_sem]); all_goals (simp only [hq, hbln, hput, hb1, go_sem] at hb; try simp only [bls] at hb)) | ((iterate 6 try ((fail_if_success with_reducible refine hK _ ?_ ?_ ?_); clear hK K)); with_reducible refine hK _ ?_ ?_ ?_; rotate_left; (focus (simp only [hq, hbln, hput, hb1, go_sem]; exact rfl)); clear hK K) | exact aZ | fail))
   all_goals first | omega | skip
   exact hL _ (k + 1) (by omega) (by (simp only [SubF, List.set_cons_succ, List.set_cons_zero, go_sem]; (try simp only [List.set_cons_succ, List.set_cons_zero, go_sem]); repeat' (first | exact True.intro | with_reducible refine And.intro ?_ ?_ | rfl | omega))) (by omega)
  ·have hkl : k = N := by omega
   subst hkl
   have hX : List.replicate k true ++ List.replicate (k - k) false = List.replicate k true := by simp
   simp only [hX]
   (simp only [List.set_cons_succ, List.set_cons_zero, go_sem] at hL ⊢)
   (repeat' (first | (with_reducible first | refine And.intro ?_ ?_ | refine aBl ?_ | (refine aS 13 [25, 26, 37, 36, 38, 51, 50, 52] ?_; intro K hK)) | ((with_reducible refine aGo ?_); simp only [go_sem]) | ((with_reducible refine aCd ?_ ?_ (fun hb => ?_) (fun hb => ?_)); (iterate 2 simp only [go_sem]); all_goals (simp only [go_sem] at hb; try simp only [bls] at hb)) | ((iterate 6 try ((fail_if_success with_reducible refine hK _ ?_ ?_ ?_); clear hK K)); with_reducible refine hK _ ?_ ?_ ?_; rotate_left; (focus (simp only [go_sem]; exact rfl)); clear hK K) | exact aZ | fail))
   all_goals first | omega | skip
   simp only [ends]
   (simp only [SubF, go_sem]; (try simp only [go_sem]); repeat' (first | exact True.intro | with_reducible refine And.intro ?_ ?_ | rfl | omega))
 refine wp_seq (seg Ty_ok mixed (s1 := ⟨75, [(7, .one (.vp 3 0)), (3, .one (.vp 0 0))], [.var 41 [.list (ints a.alph), .int .i64 N, .list (ints a.marked), .list (edgsD a.edges)], .map (.int .i64) [], .row 4 1 (blsD (left0 N bad)), stV a N u], 0⟩) h3 ?_ fun a4 w4 h4 => ?_)
 ·simp only [stV]
  (repeat' (first | (with_reducible first | refine aBl ?_ | (refine aS 13 [25, 26, 37, 36, 38, 51, 50, 52] ?_; intro K hK)) | ((with_reducible refine aGo ?_); simp only [go_sem]) | ((iterate 6 try ((fail_if_success with_reducible refine hK _ ?_ ?_ ?_); clear hK K)); with_reducible refine hK _ ?_ ?_ ?_; rotate_left; (focus (simp only [go_sem]; exact rfl)); clear hK K) | fail))
  all_goals first | omega | skip
  refine z02 _ (by simp only [go_sem]; rfl) Nat (fun k => k ≤ bad.length) (fun k => [(38, .one (.int .i64 k))]) (fun k H => H.set 2 (.row 4 1 (blsD (left0 N (bad.take k))))) (fun k => bad.length - k) 0 (by omega) ?_ ?_
  ·have e0 : blsD (left0 N (bad.take 0)) = blsD (List.replicate N true) := by rw [List.take_zero]; rfl
   rw [e0]
   (simp only [SubF, List.set_cons_succ, List.set_cons_zero, go_sem]; (try simp only [List.set_cons_succ, List.set_cons_zero, go_sem]); repeat' (first | exact True.intro | with_reducible refine And.intro ?_ ?_ | rfl | omega))
  rintro k hk L hL
  have hq : ((k : Nat) : Int).toNat = k := by omega
  have hll := z33 N (bad.take k)
  by_cases hlt : k < bad.length
  ·have hat := z0s (l := bad) hlt
   have hx := hb _ (z01 bad k 0 hlt)
   have hset : left0 N (bad.take (k + 1)) = (left0 N (bad.take k)).set (bad.getD k 0).toNat false := by rw [z07 bad k 0 hlt, left0, z6i]; rfl
   generalize hxe : bad.getD k 0 = x at *
   have hput := zbI (left0 N (bad.take k)) x.toNat false
   rw [← hset] at hput
   have hb1 := z2b (l := left0 N (bad.take k)) (k := x.toNat) (by omega) []
   have hbln := z1c (left0 N (bad.take k))
   rw [hll] at hbln
   generalize left0 N (bad.take k) = Z at *
   generalize hZ2 : left0 N (bad.take (k + 1)) = Z2 at *
   (simp only [List.set_cons_succ, List.set_cons_zero, go_sem] at hL ⊢)
   (repeat' (first | (with_reducible first | refine And.intro ?_ ?_ | refine aBl ?_ | (refine aS 13 [25, 26, 37, 36, 38, 51, 50, 52] ?_; intro K hK)) | ((with_reducible refine aGo ?_); simp only [hq, hxe, hbln, hput, hb1, go_sem]) | ((with_reducible refine aCd ?_ ?_ (fun hb => ?_) (fun hb => ?_)); (iterate 2 simp only [hq, hxe, hbln, hput, hb1, go_sem]); all_goals (simp only [hq, hxe, hbln, hput, hb1, go_sem] at hb; try simp only [bls] at hb)) | ((iterate 6 try ((fail_if_success with_reducible refine hK _ ?_ ?_ ?_); clear hK K)); with_reducible refine hK _ ?_ ?_ ?_; rotate_left; (focus (simp only [hq, hxe, hbln, hput, hb1, go_sem]; exact rfl)); clear hK K) | exact aZ | fail))
   all_goals first | omega | skip
   exact hL _ (k + 1) (by omega) (by (simp only [SubF, hZ2, List.set_cons_succ, List.set_cons_zero, go_sem]; (try simp only [hZ2, List.set_cons_succ, List.set_cons_zero, go_sem]); repeat' (first | exact True.intro | with_reducible refine And.intro ?_ ?_ | rfl | omega))) (by omega)
  ·have hkl : k = bad.length := by omega
   subst hkl
   simp only [List.take_length]
   (simp only [List.set_cons_succ, List.set_cons_zero, go_sem] at hL ⊢)
   (repeat' (first | (with_reducible first | refine And.intro ?_ ?_ | refine aBl ?_ | (refine aS 13 [25, 26, 37, 36, 38, 51, 50, 52] ?_; intro K hK)) | ((with_reducible refine aGo ?_); simp only [go_sem]) | ((with_reducible refine aCd ?_ ?_ (fun hb => ?_) (fun hb => ?_)); (iterate 2 simp only [go_sem]); all_goals (simp only [go_sem] at hb; try simp only [bls] at hb)) | ((iterate 6 try ((fail_if_success with_reducible refine hK _ ?_ ?_ ?_); clear hK K)); with_reducible refine hK _ ?_ ?_ ?_; rotate_left; (focus (simp only [go_sem]; exact rfl)); clear hK K) | exact aZ | fail))
   all_goals first | omega | skip
   simp only [ends]
   (simp only [SubF, go_sem]; (try simp only [go_sem]); repeat' (first | exact True.intro | with_reducible refine And.intro ?_ ?_ | rfl | omega))
 refine wp_seq (wp_seq (seg Ty_ok mixed (s1 := ⟨75, stS a 0, stH a N u (left0 N bad) [], 0⟩) h4 ?_ fun a5 w5 h5 => ?_))
 ·simp only [stS, stH, stV, show backK [] = [] from rfl]
  (repeat' (first | ((with_reducible refine aGo ?_); simp only [go_sem]) | fail))
  all_goals first | omega | skip
  simp only [ends]
  (simp only [SubF, go_sem]; (try simp only [go_sem]); repeat' (first | exact True.intro | with_reducible refine And.intro ?_ ?_ | rfl | omega))
 obtain ⟨β5, h5⟩ := h5
 have hnb : ∀ g, ¬ inBk (([] : List (Int × Value)).map Prod.snd) g := by
  rintro g ⟨v, hv, _⟩
  cases hv
 have hMi : (fun g => M g ∨ inBk (([] : List (Int × Value)).map Prod.snd) g) = M := by
  funext g
  exact propext ⟨fun h => h.resolve_right (hnb g), .inl⟩
 have hH : StHead w0 M a N u (left0 N bad) 0 0 [] a5 w5 β5 :=
  ⟨by rw [hMi]; exact h5.again rfl, h5.below.below fun _ => z0j, fun p hp => (by cases hp), fun i j x y g hi => (by cases hi), fun g hg => absurd hg (hnb g), fun g hg => (h5.fresh g hg).1.resolve_left z0j⟩
 clear h5 h4 h3 h2 h1 hMi hnb
 generalize hleft : left0 N bad = left at *
 refine wp_block (wp_loop_ghost (fun n act w => ∃ k ks β, a.edges.length - k = n ∧ k ≤ a.edges.length ∧ StHead w0 M a N u left k k ks act w β) a.edges.length ⟨0, [], β5, rfl, Nat.zero_le _, hH⟩ ?_)
 clear hH
 rintro n act w ⟨k, ks, β, rfl, hk, hh⟩
 have hq : ((k : Nat) : Int).toNat = k := by omega
 by_cases hlt : k < a.edges.length
 ·have e1 := z0p (l := a.edges) hlt [.int .i64 0, .int .i64 0, .int .i64 0]
  have e2 := z0p (l := a.edges) hlt []
  generalize a.edges.getD k Edg.no = x at *
  refine wp_seq (seg Ty_ok mixed (s1 := ⟨75, (53, .one (.bool true)) :: stS a k, stH a N u left ks, 0⟩) ⟨β, hh.sim⟩ ?_ fun a1 w1 h1 => ?_)
  ·simp only [stS, stH, stV]
   have hlt2 : decide ((k : Int) < a.edges.length) = true := decide_eq_true (by omega)
   (repeat' (first | ((with_reducible refine aGo ?_); simp only [hlt2, go_sem]) | fail))
   all_goals first | omega | skip
   simp only [ends]
   (simp only [SubF, go_sem]; (try simp only [go_sem]); repeat' (first | exact True.intro | with_reducible refine And.intro ?_ ?_ | rfl | omega))
  refine wp_seq (seg Ty_ok mixed (s1 := ⟨75, stS a k, stH a N u left ks, 0⟩) h1 ?_ fun a2 w2 h2 => ?_)
  ·simp only [stS, stH, stV]
   (repeat' (first | ((with_reducible refine aCd ?_ ?_ (fun hb => ?_) (fun hb => ?_)); (iterate 2 simp only [go_sem]); all_goals (simp only [go_sem] at hb; try simp only [bls] at hb)) | fail))
   all_goals first | omega | skip
   simp only [awp, ends]
   (simp only [SubF, go_sem]; (try simp only [go_sem]); repeat' (first | exact True.intro | with_reducible refine And.intro ?_ ?_ | rfl | omega))
  refine wp_seq (wp_block (wp_seq (seg Ty_ok mixed (s1 := ⟨75, (12, .one (.vp 4 0)) :: stS a k, stH a N u left ks ++ [.var 96 [.int .i64 x.src, .int .i64 x.ev, .int .i64 x.dst]], 0⟩) h2 ?_ fun a3 w3 h3 => ?_)))
  ·simp only [stS, stH, stV]
   (repeat' (first | (with_reducible refine And.intro ?_ ?_) | ((with_reducible refine aGo ?_); simp only [hq, e1, e2, go_sem]) | exact aZ | fail))
   all_goals first | omega | skip
   simp only [ends]
   (simp only [SubF, go_sem]; (try simp only [go_sem]); repeat' (first | exact True.intro | with_reducible refine And.intro ?_ ?_ | rfl | omega))
  refine wp_mono (Q := fun e a5 w5 => e = .normal ∧ ∃ ks' β', StHead w0 M a N u left k (k + 1) ks' a5 w5 β') ?_ ?_
  ·obtain ⟨β3, h3⟩ := h3
   obtain ⟨β4, h4⟩ := h3.subF (τ := ⟨75, stS a k, stH a N u left ks, 0⟩) (by simp only [stS, stH, stV, List.cons_append, List.nil_append]; (simp only [SubF, go_sem]; (try simp only [go_sem]); repeat' (first | exact True.intro | with_reducible refine And.intro ?_ ?_ | rfl | omega)))
   have hm4 := hh.step h4
   have hF3 : ∀ g, owned β3 g → w0.heap.size ≤ g := fun g hg => by
    rcases (h3.fresh g hg).1 with h | h
    ·exact hh.freshB g h
    ·have := hh.below.size; omega
   have h6 := h3.again rfl
   have hs3 := hm4.below.size
   rcases zaJ x.dst ks with ⟨f1, f2⟩ | ⟨j, v, f0, f1, f2⟩
   ·refine zaT Ty_ok mixed (X := fun _ => False) (is := [0, 1, 2, 3, 4, 5, 6, 7, 8, 9, 10, 11, 12, 13, 14]) (tl := [15, 16, 17]) (lt := [17]) (by kernel_rfl) (fun g hg => hg.elim) ⟨_, h6⟩
     (L := fun τ => SubF τ ⟨75, (59, .one (.mp 1)) :: (61, .one (.int .i64 x.dst)) :: (68, .one .nil) :: (70, .one (.int .i64 x.src)) :: stS a k, stH a N u left ks ++ [.var 96 [.int .i64 x.src, .int .i64 x.ev, .int .i64 x.dst]], 0⟩) ?_ fun τ a7 hL h7 => ?_
    ·simp only [xWalk, xStep, stS, stH, stV, List.cons_append, List.nil_append, go_sem, f1]
     (simp only [SubF, go_sem]; (try simp only [go_sem]); repeat' (first | exact True.intro | with_reducible refine And.intro ?_ ?_ | rfl | omega))
    ·obtain ⟨β7, h7⟩ := h7
     obtain ⟨β8, h8⟩ := h7.subF hL
     obtain ⟨y, y1, A, y2⟩ := h8.slots 68 (.one .nil) rfl
     have h9 := h8.slot ((59, .one (.mp 1)) :: (61, .one (.int .i64 x.dst)) :: (68, .one (.raw y)) :: (70, .one (.int .i64 x.src)) :: stS a k) fun i v hv => by
      simp only [lookS] at hv
      split at hv
      ·rename_i e; exact h8.slots i v (by simp only [lookS]; rw [if_pos e]; exact hv)
      ·rename_i n1
       split at hv
       ·rename_i e; exact h8.slots i v (by simp only [lookS]; rw [if_neg n1, if_pos e]; exact hv)
       ·rename_i n2
        split at hv
        ·rename_i e
         subst e
         cases hv
         exact ⟨y, y1, rfl, by rw [y2]; rfl⟩
        ·rename_i n3
         exact h8.slots i v (by simp only [lookS]; rw [if_neg n1, if_neg n2, if_neg n3]; exact hv)
     subst y2
     exact z7L (l := []) (fun v' => ks ++ [(x.dst, v')]) rfl rfl rfl rfl rfl rfl rfl rfl rfl rfl rfl rfl hm4 rfl h9 hF3 hs3 hlt hl (IntAt.nil _ _) (Nat.zero_le _) (fun g hg => by rw [z5S] at hg; cases hg) (fun g hg => by rw [z5S] at hg; cases hg) f2
      (fun v' g hg => by
       rw [List.map_append] at hg
       obtain ⟨z, hz, hzg⟩ := hg
       rcases List.mem_append.1 hz with hz | hz
       ·exact .inl ⟨z, hz, hzg⟩
       ·rw [List.map_cons, List.map_nil, List.mem_singleton] at hz
        subst hz
        exact .inr hzg)
      (fun v' hn => by
       rw [List.map_append]
       exact hm4.apart.snoc fun g hg => (hn g hg).resolve_left fun h => by rw [z5S] at h; cases h)
      (fun v' p hp => by
       rcases List.mem_append.1 hp with hp | hp
       ·exact .inr ⟨hp, fun g _ h => by rw [z5S] at h; cases h⟩
       ·rw [List.mem_singleton.1 hp]; exact .inl rfl)
      fun a' w' ks2 β2 hs => ⟨rfl, rfl, ks2, β2, hs⟩
   ·have hvm : v ∈ ks.map Prod.snd := List.mem_map.2 ⟨(x.dst, v), List.mem_of_getElem? f0, rfl⟩
    have hvs : (ks.map Prod.snd)[j]? = some v := by rw [List.getElem?_map, f0]; rfl
    obtain ⟨l, hl1, hl2⟩ := hm4.inn _ (List.mem_of_getElem? f0)
    refine zaT Ty_ok mixed (X := fun g => hblk v = some g) (is := [0, 1, 2, 3, 4, 5, 6, 7, 8, 9, 10, 11, 12, 13, 14]) (tl := [15, 16, 17]) (lt := [17]) (by kernel_rfl) (fun g hg => .inr ⟨v, hvm, hg⟩) ⟨_, h6⟩
     (L := fun τ => SubF τ ⟨75, (59, .one (.mp 1)) :: (61, .one (.int .i64 x.dst)) :: (68, .one (.raw v)) :: (70, .one (.int .i64 x.src)) :: stS a k, stH a N u left ks ++ [.var 96 [.int .i64 x.src, .int .i64 x.ev, .int .i64 x.dst]], 0⟩) ?_ fun τ a7 hL h7 => ?_
    ·simp only [xWalk, xStep, stS, stH, stV, List.cons_append, List.nil_append, go_sem, f1]
     (simp only [SubF, go_sem]; (try simp only [go_sem]); repeat' (first | exact True.intro | with_reducible refine And.intro ?_ ?_ | rfl | omega))
    ·obtain ⟨β7, h7⟩ := h7
     obtain ⟨β8, h8⟩ := h7.subF hL
     exact z7L (l := l) (fun v' => ks.set j (x.dst, v')) rfl rfl rfl rfl rfl rfl rfl rfl rfl rfl rfl rfl hm4 rfl h8 hF3 hs3 hlt hl hl1 hl2 (fun g hg => ⟨v, hvm, hg⟩) (fun g hg => hg) f2
      (fun v' g hg => by
       rw [List.map_set] at hg
       exact z90 hg)
      (fun v' hn => by
       rw [List.map_set]
       exact hm4.apart.set hvs hn)
      (fun v' p hp => by
       obtain ⟨i, hi⟩ := List.getElem?_of_mem hp
       rw [List.getElem?_set] at hi
       split at hi
       ·split at hi
        ·cases hi; exact .inl rfl
        ·cases hi
       ·rename_i hij
        refine .inr ⟨List.mem_of_getElem? hi, fun g h1 h2 => hij ?_⟩
        exact hm4.apart j i v p.2 g hvs (by rw [List.getElem?_map, hi]; rfl) h2 h1)
      fun a' w' ks2 β2 hs => ⟨rfl, rfl, ks2, β2, hs⟩
  ·rintro e a5 w5 ⟨rfl, ks', β5, hm⟩
   refine seg Ty_ok mixed (s1 := ⟨75, stS a (k + 1), stH a N u left ks', 0⟩) ⟨β5, hm.sim⟩ ?_ fun a6 w6 h6 => ?_
   ·simp only [stS, stH, stV]
    (repeat' (first | (with_reducible refine And.intro ?_ ?_) | ((with_reducible refine aGo ?_); simp only [go_sem]) | exact aZ | fail))
    all_goals first | omega | skip
    simp only [ends]
    (simp only [SubF, go_sem]; (try simp only [go_sem]); repeat' (first | exact True.intro | with_reducible refine And.intro ?_ ?_ | rfl | omega))
   obtain ⟨β6, h6⟩ := h6
   exact ⟨a.edges.length - (k + 1), by omega, k + 1, ks', β6, rfl, by omega, hm.step h6⟩
 ·have hke : k = a.edges.length := by omega
  subst hke
  refine wp_seq (seg Ty_ok mixed (s1 := ⟨75, (53, .one (.bool false)) :: stS a a.edges.length, stH a N u left ks, 0⟩) ⟨β, hh.sim⟩ ?_ fun a1 w1 h1 => ?_)
  ·simp only [stS, stH, stV]
   have hlt2 : decide ((a.edges.length : Int) < a.edges.length) = false := decide_eq_false (by omega)
   (repeat' (first | ((with_reducible refine aGo ?_); simp only [hlt2, go_sem]) | fail))
   all_goals first | omega | skip
   simp only [ends]
   (simp only [SubF, go_sem]; (try simp only [go_sem]); repeat' (first | exact True.intro | with_reducible refine And.intro ?_ ?_ | rfl | omega))
  refine wp_seq (segX Ty_ok mixed (s2 := ⟨75, stS a a.edges.length, stH a N u left ks, 0⟩) (k := 4) h1 ?_ fun a2 w2 h2 => ?_)
  ·simp only [stS, stH, stV]
   (repeat' (first | ((with_reducible refine aCd ?_ ?_ (fun hb => ?_) (fun hb => ?_)); (iterate 2 simp only [go_sem]); all_goals (simp only [go_sem] at hb; try simp only [bls] at hb)) | fail))
   all_goals first | omega | skip
   simp only [awp, endsX]
   (simp only [SubF, go_sem]; (try simp only [go_sem]); repeat' (first | exact True.intro | with_reducible refine And.intro ?_ ?_ | rfl | omega))
  obtain ⟨β2, h2⟩ := h2
  have hE := hh.step h2
  refine segR Ty_ok mixed (s1 := ⟨75, [(6, .one (.vp 3 0))], stH a N u left ks, 0⟩) ⟨β2, hE.sim⟩ ?_ fun a3 w3 h3 => ?_
  ·simp only [stS, stH, stV]
   (repeat' (first | (with_reducible (refine aS 13 [25, 26, 37, 36, 38, 51, 50, 52] ?_; intro K hK)) | ((with_reducible refine aGo ?_); simp only [go_sem]) | ((iterate 6 try ((fail_if_success with_reducible refine hK _ ?_ ?_ ?_); clear hK K)); with_reducible refine hK _ ?_ ?_ ?_; rotate_left; (focus (simp only [go_sem]; exact rfl)); clear hK K) | fail))
   all_goals first | omega | skip
   simp only [awp, endsR]
   (simp only [SubF, go_sem]; (try simp only [go_sem]); repeat' (first | exact True.intro | with_reducible refine And.intro ?_ ?_ | rfl | omega))
  obtain ⟨β3, h3⟩ := h3
  have hF3 : ∀ g, owned β3 g → w0.heap.size ≤ g := fun g hg => by
   rcases (h3.fresh g hg).1 with h | h
   ·exact hE.freshB g h
   ·have := hE.below.size; omega
  have hb3 := z2i hE.below h3.below fun g hg => hE.freshB g hg
  obtain ⟨v, r1, r2⟩ := z5P (P := Tryz.prog) (congrArg Array.toList Tryz.results70) (g := resW Ty _) (M := Mof (fun g => M g ∨ inBk (ks.map Prod.snd) g) β3) (β := β3) (fun x hx => z5Q (P := Tryz.prog) Ty_ok h3 hx) (r := .one (.vp 3 0)) ⟨trivial, rfl⟩
  have hl3 := h3.len
  obtain ⟨xp, hxp⟩ : ∃ x, β3[3]? = some x := ⟨_, List.getElem?_eq_getElem (by rw [hl3]; simp [stH])⟩
  obtain ⟨xl, hxl⟩ : ∃ x, β3[2]? = some x := ⟨_, List.getElem?_eq_getElem (by rw [hl3]; simp [stH])⟩
  have hop := h3.objs 3 _ xp rfl hxp
  have hol := h3.objs 2 _ xl rfl hxl
  obtain ⟨g0, hg0, rfl⟩ := z2A r2 fun y hy => h3.objs 3 _ y rfl hy
  rw [hxp] at hg0
  cases hg0
  obtain ⟨gp, cur, hgp, c1, c2⟩ := hop
  cases hgp
  have hown : ∀ g, owned [.pointer (some ⟨g0, 0, none⟩), xl] g → owned β3 g := fun g hg => by
   obtain ⟨t, y, q1, q2⟩ := hg
   match t, q1 with
   | 0, q1 => cases q1; exact ⟨3, _, hxp, q2⟩
   | 1, q1 => cases q1; exact ⟨2, _, hxl, q2⟩
   | n + 2, q1 => cases q1
  refine hQ a3 w3 h3.defers ⟨_, r1, .pointer (some ⟨g0, 0, none⟩), xl, rfl, ?_⟩
  refine ⟨hb3, fun g hg => ⟨hF3 g (hown g hg), (h3.fresh g (hown g hg)).2⟩, fun t t' y y' g q1 q2 q3 q4 => ?_, ⟨g0, cur, rfl, c1, fun M' β' tl hM' htl => ?_⟩, z2e (zcQ left) (fun _ _ => rfl) hol⟩
  ·match t, t', q1, q2 with
   | 0, 0, _, _ => rfl
   | 1, 1, _, _ => rfl
   | 0, 1, q1, q2 => cases q1; cases q2; have := h3.dist 3 2 _ _ g hxp hxl q3 q4; omega
   | 1, 0, q1, q2 => cases q1; cases q2; have := h3.dist 2 3 _ _ g hxl hxp q3 q4; omega
   | n + 2, _, q1, _ => cases q1
   | 0, n + 2, _, q2 => cases q2
   | 1, n + 2, _, q2 => cases q2
  ·have hsub : ∀ g, Mof M' β' g → Mof (fun g => M g ∨ inBk (ks.map Prod.snd) g) β3 g := fun g hg => (hM' g hg).elim (fun h => .inl (.inl h)) fun h => .inr (hown g h)
   have hkp : Keeps w3 (Mof (fun g => M g ∨ inBk (ks.map Prod.snd) g) β3) w3 (Mof M' β') := ⟨Nat.le_refl _, fun _ _ _ => rfl, fun g _ hm hm' => hm (hsub g hm')⟩
   refine ⟨c2.1, fun i d y q1 q2 => ?_⟩
   match i, q1 with
   | 0, q1 => cases q1; exact RepD.keep hkp _ _ (c2.2 0 _ y rfl q2)
   | 1, q1 => cases q1; exact c2.2 1 _ y rfl q2
   | 2, q1 => cases q1; exact RepD.keep hkp _ _ (c2.2 2 _ y rfl q2)
   | 3, q1 => cases q1; exact RepD.keep hkp _ _ (c2.2 3 _ y rfl q2)
   | 4, q1 => cases q1; exact RepD.keep hkp _ _ (c2.2 4 _ y rfl q2)
   | 5, q1 => cases q1; exact (c2.2 5 _ y rfl q2).oneCell
   | 6, q1 =>
    cases q1
    have h6 := c2.2 6 _ y rfl q2
    have h7 := z0u h6 fun z hz => h3.objs 2 _ z rfl hz
    rw [hxl] at h7
    cases h7
    exact ⟨.inl htl, h6.2⟩
   | n + 7, q1 => cases q1
end Go.Proofs.YtkjllcmpjghmkaaGreatDoor
