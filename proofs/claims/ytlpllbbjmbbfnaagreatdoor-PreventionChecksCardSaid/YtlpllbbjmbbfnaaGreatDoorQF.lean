/-
 Chapter 51 in plain Lean: which errors prevention ends with; the rounds' facts.
-/
import Derived.Test.YtlpllbbjmbbfnaaGreatDoorQA
set_option linter.unusedSimpArgs false
set_option linter.unusedVariables false
namespace Go.Proofs.YtlpllbbjmbbfnaaGreatDoor
open Go.Eng Go.RowKit
def ctlB (n : Net) (u s : List Int) : Bool := (emX n s).2.1 && decide (0 < sumAt n.init s) && decide (raisingL n (kepC n.init.length s) u < 0)
def nextF (n : Net) (u : List Int) : Option (List Int) := (minL 1 n).find? (ctlB n u)
inductive POut where
 | err (e : Int)
 | ok (st : List Stp) (n : Net)
 | dead (st : List Stp) (n : Net) (run : List Int)
def prevF (u : List Int) : Nat → List Stp → Net → POut
 | 0, _, _ => .err 3
 | f + 1, st, n => match bndF n with
  | .inl e => .err e
  | .inr (nd, _) => if deadFrom n nd 0 < 0 then .ok st n else match nextF n u with
   | none => .dead st n (pathF nd (deadFrom n nd 0))
   | some s => if monE n (kepC n.init.length s) ≠ 0 then .err (monE n (kepC n.init.length s)) else prevF u f (st ++ [stepOf n s]) (monNet n (kepC n.init.length s))
def prevR (n : Net) (u : List Int) : POut := prevF u (11 - n.init.length) [] n
theorem Fit.next {n m : Net} {u s : List Int} {st : List Stp} (h : Fit n u st m m.init) (hg : Good m u s) : Fit n u (st ++ [stepOf m s]) (monNet m (kepC m.init.length s)) (monNet m (kepC m.init.length s)).init :=
 .snoc st m m.init s h hg hg.mon.rest.1
theorem nextF_mem {n : Net} {u s : List Int} (h : nextF n u = some s) : s ∈ minL 1 n ∧ ctlB n u s = true := ⟨List.mem_of_find?_eq_some h, List.find?_some h⟩
theorem dead_none {n : Net} : ∀ (l : List SN) (k : Nat), deadFrom n l k < 0 → ∀ x ∈ l, ableL n x.m n.trs.length ≠ []
 | [], _, _, x, hx => by cases hx
 | y :: l, k, h, x, hx => by
  rw [deadFrom] at h
  split at h
  ·omega
  ·rename_i h2
   rcases List.mem_cons.1 hx with rfl | hx
   ·intro e; rw [e] at h2; exact h2 rfl
   ·exact dead_none l (k + 1) h x hx
structure OnWay (n : Net) (u : List Int) (st : List Stp) (m : Net) (a : List Int) : Prop where
 fit : Fit n u st m a
 tok : ∀ x ∈ a, 0 ≤ x ∧ x ≤ 65536
 live : ableL m a m.trs.length ≠ []
 node : ∃ nd ed k, bndF m = .inr (nd, ed) ∧ deadFrom m nd 0 < 0 ∧ k < nd.length ∧ (nd.getD k SN.no).m = a
theorem bnd_search {n : Net} {nd : List SN} {ed : List Edg} (h : bndF n = .inr (nd, ed)) : searchF n 4096 = .cont nd ed := by
 unfold bndF at h
 split at h
 ·cases h
 ·cases hs : searchF n 4096 with
  | err e => rw [hs] at h; cases h
  | pump a b p => rw [hs] at h; cases h
  | cont a b => rw [hs] at h; cases h; rfl
theorem onWay_of {n m : Net} {u : List Int} {st : List Stp} {a : List Int} (hF : Fit n u st m a) {nd : List SN} {ed : List Edg} {k : Nat} (hb : bndF m = .inr (nd, ed)) (hd : deadFrom m nd 0 < 0) (hk : k < nd.length) (he : (nd.getD k SN.no).m = a) : OnWay n u st m a := by
 obtain ⟨_, h2, _⟩ := bnd_ok hb
 have hm := getD_mem nd k SN.no hk
 refine ⟨hF, ?_, ?_, nd, ed, k, hb, hd, hk, he⟩
 ·have := h2.tok _ hm; rwa [he] at this
 ·have := dead_none nd 0 hd _ hm; rwa [he] at this
theorem OnWay.step {n m : Net} {u : List Int} {st : List Stp} {a : List Int} (h : OnWay n u st m a) {t : Int} (ht : t ∈ ableL m a m.trs.length) :
  OnWay n u st m (firedL (m.trs.getD t.toNat Tr.no) a) ∧ (firedL (m.trs.getD t.toNat Tr.no) a).take n.init.length = firedL (n.trs.getD t.toNat Tr.no) (a.take n.init.length) := by
 obtain ⟨h1, h2⟩ := h.fit.step t ht
 refine ⟨?_, h2⟩
 obtain ⟨nd, ed, k, hb, hd, hk, he⟩ := h.node
 obtain ⟨q0, q1, q2⟩ := able_iff.1 ht
 obtain ⟨k2, hk2, he2⟩ := search_closed (bnd_search hb) k hk t ⟨q0, q1, by rw [he]; exact q2⟩
 rw [he] at he2
 exact onWay_of h1 hb hd hk2 he2
end Go.Proofs.YtlpllbbjmbbfnaaGreatDoor
set_option linter.unusedSimpArgs false
set_option linter.unusedVariables false
namespace Go.Proofs.YtlpllbbjmbbfnaaGreatDoor
open Go.Eng Go.RowKit
def madeO (u : List Int) (n : Net) (x : Stp) : Option Net :=
 if x.set ∈ minL 1 n ∧ x.con = kepC n.init.length x.set ∧ raisingL n x.con u < 0 ∧ monE n x.con = 0 then some (monNet n x.con) else none
def verF (u : List Int) : Net → List Stp → Option Net
 | n, [] => some n
 | n, x :: l => match madeO u n x with
  | none => none
  | some m => verF u m l
def liveB (n : Net) : Bool := match bndF n with
 | .inl _ => false
 | .inr (nd, _) => decide (deadFrom n nd 0 < 0)
def verB (u : List Int) (n : Net) (st : List Stp) (m : Net) : Bool := match verF u n st with
 | none => false
 | some k => decide (k = m) && liveB k
theorem prevF_len {u : List Int} : ∀ (f : Nat) (st : List Stp) (m : Net), (∀ st' m', prevF u f st m = .ok st' m' → st'.length ≤ st.length + f) ∧ ∀ st' m' run, prevF u f st m = .dead st' m' run → st'.length ≤ st.length + f
 | 0, st, m => ⟨fun st' m' h => (by rw [prevF] at h; cases h), fun st' m' run h => (by rw [prevF] at h; cases h)⟩
 | f + 1, st, m => by
  constructor
  ·intro st' m' h
   simp only [prevF] at h
   split at h
   ·cases h
   ·split at h
    ·cases h; omega
    ·split at h
     ·cases h
     ·split at h
      ·cases h
      ·have := (prevF_len f _ _).1 _ _ h
       rw [List.length_append] at this
       simp only [List.length_singleton] at this
       omega
  ·intro st' m' run h
   simp only [prevF] at h
   split at h
   ·cases h
   ·split at h
    ·cases h
    ·split at h
     ·cases h; omega
     ·split at h
      ·cases h
      ·have := (prevF_len f _ _).2 _ _ _ h
       rw [List.length_append] at this
       simp only [List.length_singleton] at this
       omega
end Go.Proofs.YtlpllbbjmbbfnaaGreatDoor
set_option linter.unusedSimpArgs false
set_option linter.unusedVariables false
namespace Go.Proofs.YtlpllbbjmbbfnaaGreatDoor
open Go.Eng Go.RowKit
theorem bnd_errs {n : Net} {e : Int} (hn : netE n = 0) (h : bndF n = .inl e) : e = 3 ∨ e = 23 := by
 unfold bndF at h
 rw [if_neg (by omega)] at h
 have hO := outer_err n 4096 4098 0 [⟨n.init, -1, -1⟩] []
 rw [show outerF n 4096 4098 0 [⟨n.init, -1, -1⟩] [] = searchF n 4096 from rfl] at hO
 cases hS : searchF n 4096 with
 | err e' => rw [hS] at h; cases h; exact .inl (hO.1 _ hS)
 | pump nd ed p => rw [hS] at h; cases h; exact .inr rfl
 | cont nd ed => rw [hS] at h; cases h
theorem mon_errs {m : Net} {u s : List Int} (hm : netE m = 0) (hs : s ∈ minL 1 m) (hc : ctlB m u s = true) : monE m (kepC m.init.length s) = 0 ∨ monE m (kepC m.init.length s) = 3 := by
 obtain ⟨h1, h2, h3⟩ := setsY_el (minL_el hs).1
 have hd := dot_facK m.init.length m.init s (h2.imp fun h => by omega) h3
 simp only [ctlB, Bool.and_eq_true, decide_eq_true_eq] at hc
 have hc1 := hc.1.2
 unfold monE
 rw [if_neg (by rw [conE_kep hm]; decide), if_neg (by simp only [kepC]; omega)]
 split
 ·exact .inr rfl
 ·exact .inl rfl
theorem prevF_errs {u : List Int} : ∀ (f : Nat) (st : List Stp) (m : Net) {e : Int}, netE m = 0 → prevF u f st m = .err e → e = 3 ∨ e = 23
 | 0, st, m, e, _, h => by simp only [prevF] at h; cases h; exact .inl rfl
 | f + 1, st, m, e, hm, h => by
  simp only [prevF] at h
  split at h
  ·rename_i e' hb
   cases h
   exact bnd_errs hm hb
  ·split at h
   ·cases h
   ·split at h
    ·cases h
    ·rename_i s hs
     obtain ⟨h1, h2⟩ := nextF_mem hs
     have hE := mon_errs hm h1 h2
     split at h
     ·cases h
      omega
     ·rename_i h3
      have hz : monE m (kepC m.init.length s) = 0 := by omega
      exact prevF_errs f _ _ (netE_of (mon_ok (monOk_of hz).1)) h
theorem prevR_errs {n : Net} {u : List Int} {e : Int} (hn : netE n = 0) (h : prevR n u = .err e) : e = 3 ∨ e = 23 := prevF_errs _ _ _ hn h
theorem prevF_go {u s : List Int} {f : Nat} {st : List Stp} {m : Net} {nd : List SN} {ed : List Edg} (hb : bndF m = .inr (nd, ed)) (hd : 0 ≤ deadFrom m nd 0) (hs : nextF m u = some s) (hm : monE m (kepC m.init.length s) = 0) :
  prevF u (f + 1) st m = prevF u f (st ++ [stepOf m s]) (monNet m (kepC m.init.length s)) := by
 rw [prevF, hb]
 simp only
 rw [if_neg (by omega), hs]
 simp only
 rw [if_neg (by omega)]
theorem prevF_stop {u : List Int} {f : Nat} {st : List Stp} {m : Net} {nd : List SN} {ed : List Edg} (hb : bndF m = .inr (nd, ed)) (hd : deadFrom m nd 0 < 0) : prevF u (f + 1) st m = .ok st m := by
 rw [prevF, hb]
 simp only
 rw [if_pos hd]
theorem prevF_dead {u : List Int} {f : Nat} {st : List Stp} {m : Net} {nd : List SN} {ed : List Edg} (hb : bndF m = .inr (nd, ed)) (hd : 0 ≤ deadFrom m nd 0) (hs : nextF m u = none) : prevF u (f + 1) st m = .dead st m (pathF nd (deadFrom m nd 0)) := by
 rw [prevF, hb]
 simp only
 rw [if_neg (by omega), hs]
theorem prevF_bad {u : List Int} {f : Nat} {st : List Stp} {m : Net} {e : Int} (hb : bndF m = .inl e) : prevF u (f + 1) st m = .err e := by
 rw [prevF, hb]
theorem prevF_mon {u s : List Int} {f : Nat} {st : List Stp} {m : Net} {nd : List SN} {ed : List Edg} (hb : bndF m = .inr (nd, ed)) (hd : 0 ≤ deadFrom m nd 0) (hs : nextF m u = some s) (hm : monE m (kepC m.init.length s) ≠ 0) :
  prevF u (f + 1) st m = .err (monE m (kepC m.init.length s)) := by
 rw [prevF, hb]
 simp only
 rw [if_neg (by omega), hs]
 simp only
 rw [if_pos hm]
theorem made_ok {u : List Int} {n m : Net} {x : Stp} (h : madeO u n x = some m) : NetOk m ∧ m.init.length = n.init.length + 1 ∧ m.trs.length = n.trs.length := by
 unfold madeO at h
 split at h
 ·rename_i hc
  cases h
  have hM := (monOk_of hc.2.2.2).1
  exact ⟨mon_ok hM, mon_init, mon_len⟩
 ·cases h
theorem rev_rev (n : Net) : revN (revN n) = n := by
 obtain ⟨a, l⟩ := n
 simp only [revN, List.map_map]
 congr 1
 conv => rhs; rw [← List.map_id l]
 exact List.map_congr_left fun t _ => rfl
theorem mem_minL_b (l : List (List Int)) (s : List Int) : (l.any fun x => decide (x = s)) = decide (s ∈ l) := by
 rw [Bool.eq_iff_iff]
 simp
theorem facK_nil (p : Nat) : facK p [] = List.replicate p 0 := by
 simp [facK, List.map_const']
theorem facK_set (p : Nat) (s : List Int) (x : Int) (hx : 0 ≤ x ∧ x < p) : (facK p s).set x.toNat (-1) = facK p (s ++ [x]) := by
 apply List.ext_getElem
 ·simp [facK]
 ·intro i h1 h2
  rw [List.getElem_set]
  simp only [facK, List.getElem_map, List.getElem_range, List.mem_append, List.mem_singleton]
  by_cases h : x.toNat = i
  ·have : (i : Int) = x := by omega
   rw [if_pos h, if_pos (.inr this)]
  ·have : (i : Int) ≠ x := by omega
   rw [if_neg h]
   simp [this]
theorem facK_snoc (p : Nat) (s : List Int) : facK (p + 1) s = facK p s ++ [if (p : Int) ∈ s then -1 else 0] := by
 simp [facK, List.range_succ]
theorem find_step {α : Type} {p : α → Bool} {l : List α} {d : α} {b : Option α} {k : Nat} (hk : k < l.length) (h : b = (l.drop k).find? p) : b = if p (l.getD k d) = true then some (l.getD k d) else (l.drop (k + 1)).find? p := by
 rw [drop_getD l k d hk, List.find?_cons] at h
 rw [h]
 cases p (l.getD k d) <;> rfl
def stpD (l : List Stp) : List (List D) := l.map Stp.d
theorem stp_length (l : List Stp) : (stpD l).length = l.length := by simp [stpD]
theorem stp_get {l : List Stp} {k : Nat} (hk : k < l.length) (z : List D) : (stpD l).getD k z = [.list (ints (l.getD k Stp.no).set), .list (ints (l.getD k Stp.no).con.fac), .int .i64 (l.getD k Stp.no).con.bound] := by
 simp only [stpD, List.getD, List.getElem?_map, List.getElem?_eq_getElem hk]
 rfl
theorem stp_sz (l : List Stp) : (∀ r : List D, r ∈ stpD l → r.length = 3) ↔ True := ⟨fun _ => trivial, fun _ r hr => by obtain ⟨e, _, rfl⟩ := List.mem_map.1 hr; rfl⟩
theorem stp_append (xs ys : List Stp) : stpD xs ++ stpD ys = stpD (xs ++ ys) := by simp [stpD]
theorem stp_one (s f : List Int) (b : Int) : [[D.list (ints s), D.list (ints f), D.int .i64 b]] = stpD [⟨s, ⟨f, b⟩⟩] := rfl
attribute [go_sem] stp_length stp_sz
end Go.Proofs.YtlpllbbjmbbfnaaGreatDoor
