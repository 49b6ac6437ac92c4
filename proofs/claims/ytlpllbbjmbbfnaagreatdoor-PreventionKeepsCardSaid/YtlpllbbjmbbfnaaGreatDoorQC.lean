/-
 Chapter 51 in plain Lean: what is verified; what prevention keeps.
-/
import Derived.Test.YtlpllbbjmbbfnaaGreatDoorQA
set_option linter.unusedSimpArgs false
set_option linter.unusedVariables false
namespace Go.Proofs.YtlpllbbjmbbfnaaGreatDoor
open Go.Eng Go.RowKit
def ctlB (n : Net) (u s : List Int) : Bool := (emX n s).2.1 && decide (0 < sumAt n.init s) && decide (raisingL n (kepC n.init.length s) u < 0)
def nextF (n : Net) (u : List Int) : Option (List Int) := (minL 1 n).find? (ctlB n u)
inductive POut where
 | err (e : Int)
 | ok (st : List Stp) (n : Net)
 | dead (st : List Stp) (n : Net) (run : List Int)
def prevF (u : List Int) : Nat → List Stp → Net → POut
 | 0, _, _ => .err 3
 | f + 1, st, n => match bndF n with
  | .inl e => .err e
  | .inr (nd, _) => if deadFrom n nd 0 < 0 then .ok st n else match nextF n u with
   | none => .dead st n (pathF nd (deadFrom n nd 0))
   | some s => if monE n (kepC n.init.length s) ≠ 0 then .err (monE n (kepC n.init.length s)) else prevF u f (st ++ [stepOf n s]) (monNet n (kepC n.init.length s))
def prevR (n : Net) (u : List Int) : POut := prevF u (11 - n.init.length) [] n
theorem Fit.next {n m : Net} {u s : List Int} {st : List Stp} (h : Fit n u st m m.init) (hg : Good m u s) : Fit n u (st ++ [stepOf m s]) (monNet m (kepC m.init.length s)) (monNet m (kepC m.init.length s)).init :=
 .snoc st m m.init s h hg hg.mon.rest.1
theorem nextF_mem {n : Net} {u s : List Int} (h : nextF n u = some s) : s ∈ minL 1 n ∧ ctlB n u s = true := ⟨List.mem_of_find?_eq_some h, List.find?_some h⟩
/-! what a result that is right says of runs -/
theorem dead_none {n : Net} : ∀ (l : List SN) (k : Nat), deadFrom n l k < 0 → ∀ x ∈ l, ableL n x.m n.trs.length ≠ []
 | [], _, _, x, hx => by cases hx
 | y :: l, k, h, x, hx => by
  rw [deadFrom] at h
  split at h
  ·omega
  ·rename_i h2
   rcases List.mem_cons.1 hx with rfl | hx
   ·intro e; rw [e] at h2; exact h2 rfl
   ·exact dead_none l (k + 1) h x hx
structure OnWay (n : Net) (u : List Int) (st : List Stp) (m : Net) (a : List Int) : Prop where
 fit : Fit n u st m a
 tok : ∀ x ∈ a, 0 ≤ x ∧ x ≤ 65536
 live : ableL m a m.trs.length ≠ []
 node : ∃ nd ed k, bndF m = .inr (nd, ed) ∧ deadFrom m nd 0 < 0 ∧ k < nd.length ∧ (nd.getD k SN.no).m = a
theorem bnd_search {n : Net} {nd : List SN} {ed : List Edg} (h : bndF n = .inr (nd, ed)) : searchF n 4096 = .cont nd ed := by
 unfold bndF at h
 split at h
 ·cases h
 ·cases hs : searchF n 4096 with
  | err e => rw [hs] at h; cases h
  | pump a b p => rw [hs] at h; cases h
  | cont a b => rw [hs] at h; cases h; rfl
theorem onWay_of {n m : Net} {u : List Int} {st : List Stp} {a : List Int} (hF : Fit n u st m a) {nd : List SN} {ed : List Edg} {k : Nat} (hb : bndF m = .inr (nd, ed)) (hd : deadFrom m nd 0 < 0) (hk : k < nd.length) (he : (nd.getD k SN.no).m = a) : OnWay n u st m a := by
 obtain ⟨_, h2, _⟩ := bnd_ok hb
 have hm := getD_mem nd k SN.no hk
 refine ⟨hF, ?_, ?_, nd, ed, k, hb, hd, hk, he⟩
 ·have := h2.tok _ hm; rwa [he] at this
 ·have := dead_none nd 0 hd _ hm; rwa [he] at this
theorem OnWay.step {n m : Net} {u : List Int} {st : List Stp} {a : List Int} (h : OnWay n u st m a) {t : Int} (ht : t ∈ ableL m a m.trs.length) :
  OnWay n u st m (firedL (m.trs.getD t.toNat Tr.no) a) ∧ (firedL (m.trs.getD t.toNat Tr.no) a).take n.init.length = firedL (n.trs.getD t.toNat Tr.no) (a.take n.init.length) := by
 obtain ⟨h1, h2⟩ := h.fit.step t ht
 refine ⟨?_, h2⟩
 obtain ⟨nd, ed, k, hb, hd, hk, he⟩ := h.node
 obtain ⟨q0, q1, q2⟩ := able_iff.1 ht
 obtain ⟨k2, hk2, he2⟩ := search_closed (bnd_search hb) k hk t ⟨q0, q1, by rw [he]; exact q2⟩
 rw [he] at he2
 exact onWay_of h1 hb hd hk2 he2
end Go.Proofs.YtlpllbbjmbbfnaaGreatDoor
set_option linter.unusedSimpArgs false
set_option linter.unusedVariables false
namespace Go.Proofs.YtlpllbbjmbbfnaaGreatDoor
open Go.Eng Go.RowKit
def madeO (u : List Int) (n : Net) (x : Stp) : Option Net :=
 if x.set ∈ minL 1 n ∧ x.con = kepC n.init.length x.set ∧ raisingL n x.con u < 0 ∧ monE n x.con = 0 then some (monNet n x.con) else none
def verF (u : List Int) : Net → List Stp → Option Net
 | n, [] => some n
 | n, x :: l => match madeO u n x with
  | none => none
  | some m => verF u m l
def liveB (n : Net) : Bool := match bndF n with
 | .inl _ => false
 | .inr (nd, _) => decide (deadFrom n nd 0 < 0)
theorem made_of {u s : List Int} {m : Net} (hs : s ∈ minL 1 m) (hc : ctlB m u s = true) (hm : monE m (kepC m.init.length s) = 0) : madeO u m (stepOf m s) = some (monNet m (kepC m.init.length s)) := by
 simp only [ctlB, Bool.and_eq_true, decide_eq_true_eq] at hc
 rw [madeO, if_pos ⟨hs, rfl, hc.2, hm⟩]; rfl
theorem prevF_ver {u : List Int} : ∀ (f : Nat) (st : List Stp) (m : Net) {st' : List Stp} {m' : Net}, prevF u f st m = .ok st' m' → ∃ l, st' = st ++ l ∧ verF u m l = some m' ∧ liveB m' = true
 | 0, st, m, st', m', h => by simp only [prevF] at h; cases h
 | f + 1, st, m, st', m', h => by
  simp only [prevF] at h
  split at h
  ·cases h
  ·rename_i nd ed hb
   split at h
   ·rename_i hd
    cases h
    exact ⟨[], by simp, rfl, by rw [liveB, hb]; simpa using hd⟩
   ·split at h
    ·cases h
    ·rename_i s hs
     split at h
     ·cases h
     ·rename_i hm
      obtain ⟨h1, h2⟩ := nextF_mem hs
      obtain ⟨l, q1, q2, q3⟩ := prevF_ver f _ _ h
      refine ⟨stepOf m s :: l, by rw [q1, List.append_assoc]; rfl, ?_, q3⟩
      rw [verF, made_of h1 h2 (by omega)]
      exact q2
theorem prevR_err {n : Net} {u : List Int} {e : Int} (hn : n.init.length ≤ 10) (h : bndF n = .inl e) : prevR n u = .err e := by
 rw [prevR, show 11 - n.init.length = (10 - n.init.length) + 1 by omega, prevF, h]
theorem prevR_live {n : Net} {u : List Int} {nd : List SN} {ed : List Edg} (hn : n.init.length ≤ 10) (h : bndF n = .inr (nd, ed)) (hd : deadFrom n nd 0 < 0) : prevR n u = .ok [] n := by
 rw [prevR, show 11 - n.init.length = (10 - n.init.length) + 1 by omega, prevF, h]
 simp only
 rw [if_pos hd]
theorem prevR_step {n m : Net} {u : List Int} {st : List Stp} {nd : List SN} {ed : List Edg} (hn : n.init.length ≤ 10) (h : bndF n = .inr (nd, ed)) (hd : 0 ≤ deadFrom n nd 0) (hr : prevR n u = .ok st m) : 0 < st.length := by
 rw [prevR, show 11 - n.init.length = (10 - n.init.length) + 1 by omega, prevF, h] at hr
 simp only at hr
 rw [if_neg (by omega)] at hr
 split at hr
 ·cases hr
 ·split at hr
  ·cases hr
  ·obtain ⟨l, h1, _, _⟩ := prevF_ver _ _ _ hr
   rw [h1, List.length_append]
   simp
   omega
/-! a round's facts for the walks -/
end Go.Proofs.YtlpllbbjmbbfnaaGreatDoor
