/-
 Chapter 51 in plain Lean: the next step, prevention, and what its result is good for.
-/
import Derived.Test.YtljpfdehnjemlaaGreatDoorWI
import Derived.Test.YtljpfdehnjemlaaGreatDoorSG
import Derived.Test.YtljpfdehnjemlaaGreatDoorQ0
set_option linter.unusedSimpArgs false
set_option linter.unusedVariables false
namespace Go.Proofs.YtljpfdehnjemlaaGreatDoor
open Go.Eng Go.RowKit
def facK (p : Nat) (s : List Int) : List Int := (List.range p).map fun (i : Nat) => if (i : Int) ∈ s then -1 else 0
theorem facK_length (p : Nat) (s : List Int) : (facK p s).length = p := by simp [facK]
theorem dot_addf (g h : Nat → Int) : ∀ (l : List Nat) (m : List Int), dot (l.map fun i => g i + h i) m = dot (l.map g) m + dot (l.map h) m
 | [], m => by simp [dot]
 | a :: l, [] => by simp [dot]
 | a :: l, b :: m => by
  simp only [List.map_cons, dot, dot_addf g h l m, Int.add_mul]
  omega
theorem dot_zerof : ∀ (l : List Nat) (m : List Int), dot (l.map fun _ => 0) m = 0
 | [], m => by simp [dot]
 | a :: l, [] => by simp [dot]
 | a :: l, b :: m => by simp [dot, dot_zerof l m]
theorem dot_onef (x : Nat) : ∀ (k a : Nat) (m : List Int), dot ((List.range' a k).map fun i => if i = x then -1 else 0) m = if a ≤ x ∧ x < a + k then -(m.getD (x - a) 0) else 0
 | 0, a, m => by
  rw [if_neg (by omega)]
  simp [dot]
 | k + 1, a, [] => by
  simp [List.range'_succ, dot]
 | k + 1, a, b :: m => by
  rw [List.range'_succ, List.map_cons, dot, dot_onef x k (a + 1) m]
  by_cases h : a = x
  ·subst h
   rw [if_pos rfl, if_neg (by omega), if_pos (by omega)]
   simp
  ·rw [if_neg h]
   by_cases h2 : a + 1 ≤ x ∧ x < a + 1 + k
   ·rw [if_pos h2, if_pos (by omega)]
    have : x - a = (x - (a + 1)) + 1 := by omega
    rw [this, List.getD_cons_succ]
    omega
   ·rw [if_neg h2, if_neg (by omega)]
    omega
theorem sumAt_cons (m : List Int) (x : Int) (s : List Int) : sumAt m (x :: s) = m.getD x.toNat 0 + sumAt m s := by
 have gen : ∀ (s : List Int) (a : Int), s.foldl (fun a p => a + m.getD p.toNat 0) a = a + s.foldl (fun a p => a + m.getD p.toNat 0) 0 := by
  intro s
  induction s with
  | nil => intro a; simp
  | cons y s ih =>
   intro a
   simp only [List.foldl_cons]
   rw [ih (a + _), ih (0 + _)]
   omega
 rw [sumAt, sumAt, List.foldl_cons, gen]
 omega
theorem dot_facK (p : Nat) (m : List Int) : ∀ s : List Int, s.Nodup → (∀ x ∈ s, 0 ≤ x ∧ x < p) → dot (facK p s) m = -(sumAt m s)
 | [], _, _ => by
  have : facK p [] = (List.range p).map fun _ => 0 := by simp [facK]
  rw [this, dot_zerof]; rfl
 | x :: s, hn, hx => by
  obtain ⟨hx1, hx2⟩ := List.nodup_cons.1 hn
  have h0 := hx x (by simp)
  have e : facK p (x :: s) = (List.range p).map fun (i : Nat) => (if i = x.toNat then -1 else 0) + (if (i : Int) ∈ s then -1 else 0) := by
   refine List.map_congr_left fun i hi => ?_
   by_cases h1 : i = x.toNat
   ·have h2 : (i : Int) = x := by omega
    rw [if_pos h1, if_pos (by rw [h2]; simp), if_neg (by rw [h2]; exact hx1)]
    rfl
   ·have h2 : (i : Int) ≠ x := by omega
    rw [if_neg h1]
    simp [h2]
  rw [e, dot_addf, sumAt_cons]
  have h1 := dot_onef x.toNat p 0 m
  rw [← List.range_eq_range', if_pos (by omega)] at h1
  rw [h1]
  have h2 := dot_facK p m s hx2 fun y hy => hx y (by simp [hy])
  rw [facK] at h2
  rw [h2, Nat.sub_zero]
  omega
def kepC (p : Nat) (s : List Int) : Con := ⟨facK p s, -1⟩
theorem facK_el {p : Nat} {s : List Int} {x : Int} (h : x ∈ facK p s) : x = -1 ∨ x = 0 := by
 obtain ⟨i, _, rfl⟩ := List.mem_map.1 h
 split <;> simp
theorem conE_kep {n : Net} {s : List Int} (h : netE n = 0) : conE n (kepC n.init.length s) = 0 := by
 have h1 : (facK n.init.length s).any (largeB 16) = false := by
  rw [List.any_eq_false]
  intro x hx
  rcases facK_el hx with rfl | rfl <;> decide
 rw [conE, if_neg (by omega), if_neg (by simp [kepC, facK_length]), if_neg (by simp only [kepC, h1]; decide)]
structure Stp where
 set : List Int
 con : Con
 deriving DecidableEq
def Stp.no : Stp := ⟨[], ⟨[], 0⟩⟩
def Stp.d (x : Stp) : List D := [.list (ints x.set), .list (ints x.con.fac), .int .i64 x.con.bound]
def stepOf (n : Net) (s : List Int) : Stp := ⟨s, kepC n.init.length s⟩
structure Good (m : Net) (u s : List Int) : Prop where
 mon : MonOk m (kepC m.init.length s)
 nd : s.Nodup
 place : ∀ x ∈ s, 0 ≤ x ∧ x < m.init.length
 adm : ∀ t ∈ u, (effL m (kepC m.init.length s)).getD t.toNat 0 ≤ 0
inductive Fit (n : Net) (u : List Int) : List Stp → Net → List Int → Prop
 | nil (a : List Int) : NetOk n → a.length = n.init.length → (∀ x ∈ a, 0 ≤ x) → Fit n u [] n a
 | snoc (st : List Stp) (m : Net) (a s : List Int) : Fit n u st m a → Good m u s → 0 ≤ (kepC m.init.length s).bound - dot (kepC m.init.length s).fac a →
   Fit n u (st ++ [stepOf m s]) (monNet m (kepC m.init.length s)) (a ++ [(kepC m.init.length s).bound - dot (kepC m.init.length s).fac a])
structure Fit.Facts (n : Net) (st : List Stp) (m : Net) (a : List Int) : Prop where
 ok : NetOk m
 len : a.length = m.init.length
 ilen : m.init.length = n.init.length + st.length
 trs : m.trs.length = n.trs.length
 pos : ∀ x ∈ a, 0 ≤ x
theorem Fit.facts {n : Net} {u : List Int} {st : List Stp} {m : Net} {a : List Int} (h : Fit n u st m a) : Fit.Facts n st m a := by
 induction h with
 | nil a h1 h2 h3 => exact ⟨h1, h2, by simp, rfl, h3⟩
 | snoc st m a s h hg hx ih =>
  refine ⟨mon_ok hg.mon, by rw [mon_init, List.length_append, ih.len]; rfl, by rw [mon_init, ih.ilen, List.length_append]; simp; omega, by rw [mon_len, ih.trs], fun x hx' => ?_⟩
  rcases List.mem_append.1 hx' with h1 | h1
  ·exact ih.pos x h1
  ·simp only [List.mem_singleton] at h1; omega
theorem bound_ex : ∀ a : List Int, (∀ x ∈ a, 0 ≤ x) → ∃ B : Int, 0 ≤ B ∧ ∀ x ∈ a, 0 ≤ x ∧ x ≤ B
 | [], _ => ⟨0, by omega, by simp⟩
 | y :: a, h => by
  obtain ⟨B, h0, hB⟩ := bound_ex a fun x hx => h x (by simp [hx])
  have hy := h y (by simp)
  refine ⟨B + y, by omega, fun x hx => ?_⟩
  rcases List.mem_cons.1 hx with rfl | hx
  ·omega
  ·have := hB x hx; omega
theorem able_iff {n : Net} {a : List Int} {t : Int} : t ∈ ableL n a n.trs.length ↔ 0 ≤ t ∧ t < n.trs.length ∧ enB a (n.trs.getD t.toNat Tr.no) = true := by
 constructor
 ·exact fun h => able_mem h
 ·intro ⟨h0, h1, h2⟩
  rw [ableL, List.mem_map]
  exact ⟨t.toNat, List.mem_filter.2 ⟨List.mem_range.2 (by omega), h2⟩, by omega⟩
theorem Fit.sub {n : Net} {u : List Int} {st : List Stp} {m : Net} {a : List Int} (h : Fit n u st m a) : ∀ t, t ∈ ableL m a m.trs.length → t ∈ ableL n (a.take n.init.length) n.trs.length := by
 induction h with
 | nil a h1 h2 h3 => intro t ht; rwa [List.take_of_length_le (by omega)]
 | snoc st m a s h hg hx ih =>
  intro t ht
  have hf := h.facts
  rw [mon_len, ← able_mon hg.mon hf.len hx] at ht
  rw [List.take_append_of_le_length (by rw [hf.len, hf.ilen]; omega)]
  exact ih t (List.mem_filter.1 ht).1
theorem sumAt_append (a b s : List Int) (h : ∀ x ∈ s, 0 ≤ x ∧ x < a.length) : sumAt (a ++ b) s = sumAt a s := by
 induction s with
 | nil => rfl
 | cons x s ih =>
  rw [sumAt_cons, sumAt_cons, ih fun y hy => h y (by simp [hy])]
  have := h x (by simp)
  rw [show (a ++ b).getD x.toNat 0 = a.getD x.toNat 0 by simp only [List.getD]; rw [List.getElem?_append_left (by omega)]]
theorem Fit.tok {n : Net} {u : List Int} {st : List Stp} {m : Net} {a : List Int} (h : Fit n u st m a) : ∀ x ∈ st, 1 ≤ sumAt a x.set ∧ ∀ y ∈ x.set, 0 ≤ y ∧ y < a.length := by
 induction h with
 | nil a h1 h2 h3 => intro x hx; simp at hx
 | snoc st m a s h hg hx ih =>
  intro x hx'
  have hf := h.facts
  rcases List.mem_append.1 hx' with h1 | h1
  ·obtain ⟨q1, q2⟩ := ih x h1
   rw [sumAt_append _ _ _ q2]
   exact ⟨q1, fun y hy => by have := q2 y hy; rw [List.length_append]; simp; omega⟩
  ·simp only [List.mem_singleton] at h1
   subst h1
   have hp : ∀ y ∈ (stepOf m s).set, 0 ≤ y ∧ y < a.length := fun y hy => by have := hg.place y hy; rw [hf.len]; exact this
   rw [sumAt_append _ _ _ hp]
   have hd := dot_facK m.init.length a s hg.nd hg.place
   simp only [kepC] at hx
   rw [hd] at hx
   exact ⟨by show 1 ≤ sumAt a s; omega, fun y hy => by have := hp y hy; rw [List.length_append]; simp; omega⟩
theorem Fit.step {n : Net} {u : List Int} {st : List Stp} {m : Net} {a : List Int} (h : Fit n u st m a) : ∀ t, t ∈ ableL m a m.trs.length →
  Fit n u st m (firedL (m.trs.getD t.toNat Tr.no) a) ∧ (firedL (m.trs.getD t.toNat Tr.no) a).take n.init.length = firedL (n.trs.getD t.toNat Tr.no) (a.take n.init.length) := by
 induction h with
 | nil a h1 h2 h3 =>
  intro t ht
  obtain ⟨q0, q1, q2⟩ := able_iff.1 ht
  have hk : t.toNat < n.trs.length := by omega
  have hin := h1.inn _ (getD_mem n.trs t.toNat Tr.no hk)
  have hout := h1.out _ (getD_mem n.trs t.toNat Tr.no hk)
  rw [← h2] at hin hout
  obtain ⟨B, _, hB⟩ := bound_ex a h3
  have hb := firedL_bound hin hout q2 hB
  have hl : (firedL (n.trs.getD t.toNat Tr.no) a).length = n.init.length := by rw [firedL_length, h2]
  refine ⟨.nil _ h1 hl fun x hx => (hb x hx).1, ?_⟩
  rw [List.take_of_length_le (by omega), List.take_of_length_le (by omega)]
 | snoc st m a s h hg hx ih =>
  intro t ht
  have hf := h.facts
  rw [mon_len] at ht
  obtain ⟨B, _, hB⟩ := bound_ex a hf.pos
  obtain ⟨r1, r2, r3, r4, r5⟩ := mon_step hg.mon hf.len hx hB ht
  have ht2 : t ∈ ableL m a m.trs.length := by
   rw [← able_mon hg.mon hf.len hx] at ht
   exact (List.mem_filter.1 ht).1
  obtain ⟨i1, i2⟩ := ih t ht2
  rw [r1]
  refine ⟨.snoc st m _ s i1 hg r3, ?_⟩
  rw [List.take_append_of_le_length (by rw [r2, hf.ilen]; omega), List.take_append_of_le_length (by rw [hf.len, hf.ilen]; omega), i2]
end Go.Proofs.YtljpfdehnjemlaaGreatDoor
set_option linter.unusedSimpArgs false
set_option linter.unusedVariables false
namespace Go.Proofs.YtljpfdehnjemlaaGreatDoor
open Go.Eng Go.RowKit
def ctlB (n : Net) (u s : List Int) : Bool := (emX n s).2.1 && decide (0 < sumAt n.init s) && decide (raisingL n (kepC n.init.length s) u < 0)
def nextF (n : Net) (u : List Int) : Option (List Int) := (minL 1 n).find? (ctlB n u)
inductive POut where
 | err (e : Int)
 | ok (st : List Stp) (n : Net)
 | dead (st : List Stp) (n : Net) (run : List Int)
def prevF (u : List Int) : Nat → List Stp → Net → POut
 | 0, _, _ => .err 3
 | f + 1, st, n => match bndF n with
  | .inl e => .err e
  | .inr (nd, _) => if deadFrom n nd 0 < 0 then .ok st n else match nextF n u with
   | none => .dead st n (pathF nd (deadFrom n nd 0))
   | some s => if monE n (kepC n.init.length s) ≠ 0 then .err (monE n (kepC n.init.length s)) else prevF u f (st ++ [stepOf n s]) (monNet n (kepC n.init.length s))
def prevR (n : Net) (u : List Int) : POut := prevF u (11 - n.init.length) [] n
theorem adm_of {m : Net} {c : Con} {u : List Int} (hu : ∀ t ∈ u, 0 ≤ t) (h : raisingL m c u < 0) : ∀ t ∈ u, (effL m c).getD t.toNat 0 ≤ 0 := by
 intro t ht
 have hix : ixFrom (risesB (effL m c)) 0 u < 0 := by
  unfold raisingL at h
  split at h
  ·assumption
  ·rename_i h1
   have h2 := ixFrom_lt (risesB (effL m c)) u 0 (by omega)
   have h3 := hu _ (getD_mem u (ixFrom (risesB (effL m c)) 0 u).toNat 0 (by omega))
   omega
 have h1 := ix_any (risesB (effL m c)) u 0
 rw [decide_eq_false (by omega)] at h1
 have h2 := List.any_eq_false.1 h1.symm t ht
 simp only [risesB, decide_eq_true_eq] at h2
 omega
theorem good_of {m : Net} {u s : List Int} (hu : ∀ t ∈ u, 0 ≤ t) (hs : s ∈ minL 1 m) (hc : ctlB m u s = true) (hm : monE m (kepC m.init.length s) = 0) : Good m u s := by
 obtain ⟨h1, h2, h3⟩ := setsY_el (minL_el hs).1
 simp only [ctlB, Bool.and_eq_true, decide_eq_true_eq] at hc
 exact ⟨(monOk_of hm).1, h2.imp fun h => by omega, h3, adm_of hu hc.2⟩
theorem Fit.next {n m : Net} {u s : List Int} {st : List Stp} (h : Fit n u st m m.init) (hg : Good m u s) : Fit n u (st ++ [stepOf m s]) (monNet m (kepC m.init.length s)) (monNet m (kepC m.init.length s)).init :=
 .snoc st m m.init s h hg hg.mon.rest.1
theorem nextF_mem {n : Net} {u s : List Int} (h : nextF n u = some s) : s ∈ minL 1 n ∧ ctlB n u s = true := ⟨List.mem_of_find?_eq_some h, List.find?_some h⟩
theorem prevF_ok {n : Net} {u : List Int} (hu : ∀ t ∈ u, 0 ≤ t) : ∀ (f : Nat) (st : List Stp) (m : Net) {st' : List Stp} {m' : Net}, Fit n u st m m.init → prevF u f st m = .ok st' m' →
  Fit n u st' m' m'.init ∧ st <+: st' ∧ ∃ nd ed, bndF m' = .inr (nd, ed) ∧ deadFrom m' nd 0 < 0
 | 0, st, m, st', m', _, h => by simp only [prevF] at h; cases h
 | f + 1, st, m, st', m', hF, h => by
  simp only [prevF] at h
  split at h
  ·cases h
  ·rename_i nd ed hb
   split at h
   ·rename_i hd
    cases h
    exact ⟨hF, List.prefix_refl _, nd, ed, hb, hd⟩
   ·split at h
    ·cases h
    ·rename_i s hs
     split at h
     ·cases h
     ·rename_i hm
      obtain ⟨h1, h2⟩ := nextF_mem hs
      have hg := good_of hu h1 h2 (by omega)
      obtain ⟨q1, q2, q3⟩ := prevF_ok hu f _ _ (hF.next hg) h
      exact ⟨q1, (List.prefix_append _ _).trans q2, q3⟩
/-! what a result that is right says of runs -/
theorem dead_none {n : Net} : ∀ (l : List SN) (k : Nat), deadFrom n l k < 0 → ∀ x ∈ l, ableL n x.m n.trs.length ≠ []
 | [], _, _, x, hx => by cases hx
 | y :: l, k, h, x, hx => by
  rw [deadFrom] at h
  split at h
  ·omega
  ·rename_i h2
   rcases List.mem_cons.1 hx with rfl | hx
   ·intro e; rw [e] at h2; exact h2 rfl
   ·exact dead_none l (k + 1) h x hx
structure OnWay (n : Net) (u : List Int) (st : List Stp) (m : Net) (a : List Int) : Prop where
 fit : Fit n u st m a
 tok : ∀ x ∈ a, 0 ≤ x ∧ x ≤ 65536
 live : ableL m a m.trs.length ≠ []
 node : ∃ nd ed k, bndF m = .inr (nd, ed) ∧ deadFrom m nd 0 < 0 ∧ k < nd.length ∧ (nd.getD k SN.no).m = a
theorem bnd_srch {n : Net} {nd : List SN} {ed : List Edg} (h : bndF n = .inr (nd, ed)) : searchF n 4096 = .cont nd ed := by
 unfold bndF at h
 split at h
 ·cases h
 ·cases hs : searchF n 4096 with
  | err e => rw [hs] at h; cases h
  | pump a b p => rw [hs] at h; cases h
  | cont a b => rw [hs] at h; cases h; rfl
theorem onWay_of {n m : Net} {u : List Int} {st : List Stp} {a : List Int} (hF : Fit n u st m a) {nd : List SN} {ed : List Edg} {k : Nat} (hb : bndF m = .inr (nd, ed)) (hd : deadFrom m nd 0 < 0) (hk : k < nd.length) (he : (nd.getD k SN.no).m = a) : OnWay n u st m a := by
 obtain ⟨_, h2, _⟩ := bnd_ok hb
 have hm := getD_mem nd k SN.no hk
 refine ⟨hF, ?_, ?_, nd, ed, k, hb, hd, hk, he⟩
 ·have := h2.tok _ hm; rwa [he] at this
 ·have := dead_none nd 0 hd _ hm; rwa [he] at this
theorem OnWay.step {n m : Net} {u : List Int} {st : List Stp} {a : List Int} (h : OnWay n u st m a) {t : Int} (ht : t ∈ ableL m a m.trs.length) :
  OnWay n u st m (firedL (m.trs.getD t.toNat Tr.no) a) ∧ (firedL (m.trs.getD t.toNat Tr.no) a).take n.init.length = firedL (n.trs.getD t.toNat Tr.no) (a.take n.init.length) := by
 obtain ⟨h1, h2⟩ := h.fit.step t ht
 refine ⟨?_, h2⟩
 obtain ⟨nd, ed, k, hb, hd, hk, he⟩ := h.node
 obtain ⟨q0, q1, q2⟩ := able_iff.1 ht
 obtain ⟨k2, hk2, he2⟩ := search_closed (bnd_srch hb) k hk t ⟨q0, q1, by rw [he]; exact q2⟩
 rw [he] at he2
 exact onWay_of h1 hb hd hk2 he2
theorem OnWay.marks {n m : Net} {u : List Int} {st : List Stp} {a : List Int} (hn : NetOk n) (h : OnWay n u st m a) : markE m a = 0 ∧ markE n (a.take n.init.length) = 0 := by
 have hf := h.fit.facts
 exact ⟨markE_of hf.ok hf.len h.tok, markE_of hn (by rw [List.length_take, hf.len, hf.ilen]; omega) fun x hx => h.tok x (List.mem_of_mem_take hx)⟩
end Go.Proofs.YtljpfdehnjemlaaGreatDoor
