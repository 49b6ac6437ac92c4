/-
 Chapter 51 in plain Lean: what is verified; what prevention keeps.
-/
import Derived.Test.YtlpllbbjmbbfnaaGreatDoorQA
set_option linter.unusedSimpArgs false
set_option linter.unusedVariables false
namespace Go.Proofs.YtlpllbbjmbbfnaaGreatDoor
open Go.Eng Go.RowKit
def ctlB (n : Net) (u s : List Int) : Bool := (emX n s).2.1 && decide (0 < sumAt n.init s) && decide (raisingL n (kepC n.init.length s) u < 0)
def nextF (n : Net) (u : List Int) : Option (List Int) := (minL 1 n).find? (ctlB n u)
inductive POut where
 | err (e : Int)
 | ok (st : List Stp) (n : Net)
 | dead (st : List Stp) (n : Net) (run : List Int)
def prevF (u : List Int) : Nat → List Stp → Net → POut
 | 0, _, _ => .err 3
 | f + 1, st, n => match bndF n with
  | .inl e => .err e
  | .inr (nd, _) => if deadFrom n nd 0 < 0 then .ok st n else match nextF n u with
   | none => .dead st n (pathF nd (deadFrom n nd 0))
   | some s => if monE n (kepC n.init.length s) ≠ 0 then .err (monE n (kepC n.init.length s)) else prevF u f (st ++ [stepOf n s]) (monNet n (kepC n.init.length s))
def prevR (n : Net) (u : List Int) : POut := prevF u (11 - n.init.length) [] n
theorem adm_of {m : Net} {c : Con} {u : List Int} (hu : ∀ t ∈ u, 0 ≤ t) (h : raisingL m c u < 0) : ∀ t ∈ u, (effL m c).getD t.toNat 0 ≤ 0 := by
 intro t ht
 have hix : ixFrom (risesB (effL m c)) 0 u < 0 := by
  unfold raisingL at h
  split at h
  ·assumption
  ·rename_i h1
   have h2 := ixFrom_lt (risesB (effL m c)) u 0 (by omega)
   have h3 := hu _ (getD_mem u (ixFrom (risesB (effL m c)) 0 u).toNat 0 (by omega))
   omega
 have h1 := ix_any (risesB (effL m c)) u 0
 rw [decide_eq_false (by omega)] at h1
 have h2 := List.any_eq_false.1 h1.symm t ht
 simp only [risesB, decide_eq_true_eq] at h2
 omega
theorem good_of {m : Net} {u s : List Int} (hu : ∀ t ∈ u, 0 ≤ t) (hs : s ∈ minL 1 m) (hc : ctlB m u s = true) (hm : monE m (kepC m.init.length s) = 0) : Good m u s := by
 obtain ⟨h1, h2, h3⟩ := setsY_el (minL_el hs).1
 simp only [ctlB, Bool.and_eq_true, decide_eq_true_eq] at hc
 exact ⟨(monOk_of hm).1, h2.imp fun h => by omega, h3, adm_of hu hc.2⟩
theorem Fit.next {n m : Net} {u s : List Int} {st : List Stp} (h : Fit n u st m m.init) (hg : Good m u s) : Fit n u (st ++ [stepOf m s]) (monNet m (kepC m.init.length s)) (monNet m (kepC m.init.length s)).init :=
 .snoc st m m.init s h hg hg.mon.rest.1
theorem nextF_mem {n : Net} {u s : List Int} (h : nextF n u = some s) : s ∈ minL 1 n ∧ ctlB n u s = true := ⟨List.mem_of_find?_eq_some h, List.find?_some h⟩
theorem prevF_ok {n : Net} {u : List Int} (hu : ∀ t ∈ u, 0 ≤ t) : ∀ (f : Nat) (st : List Stp) (m : Net) {st' : List Stp} {m' : Net}, Fit n u st m m.init → prevF u f st m = .ok st' m' →
  Fit n u st' m' m'.init ∧ st <+: st' ∧ ∃ nd ed, bndF m' = .inr (nd, ed) ∧ deadFrom m' nd 0 < 0
 | 0, st, m, st', m', _, h => by simp only [prevF] at h; cases h
 | f + 1, st, m, st', m', hF, h => by
  simp only [prevF] at h
  split at h
  ·cases h
  ·rename_i nd ed hb
   split at h
   ·rename_i hd
    cases h
    exact ⟨hF, List.prefix_refl _, nd, ed, hb, hd⟩
   ·split at h
    ·cases h
    ·rename_i s hs
     split at h
     ·cases h
     ·rename_i hm
      obtain ⟨h1, h2⟩ := nextF_mem hs
      have hg := good_of hu h1 h2 (by omega)
      obtain ⟨q1, q2, q3⟩ := prevF_ok hu f _ _ (hF.next hg) h
      exact ⟨q1, (List.prefix_append _ _).trans q2, q3⟩
/-! what a result that is right says of runs -/
theorem dead_none {n : Net} : ∀ (l : List SN) (k : Nat), deadFrom n l k < 0 → ∀ x ∈ l, ableL n x.m n.trs.length ≠ []
 | [], _, _, x, hx => by cases hx
 | y :: l, k, h, x, hx => by
  rw [deadFrom] at h
  split at h
  ·omega
  ·rename_i h2
   rcases List.mem_cons.1 hx with rfl | hx
   ·intro e; rw [e] at h2; exact h2 rfl
   ·exact dead_none l (k + 1) h x hx
structure OnWay (n : Net) (u : List Int) (st : List Stp) (m : Net) (a : List Int) : Prop where
 fit : Fit n u st m a
 tok : ∀ x ∈ a, 0 ≤ x ∧ x ≤ 65536
 live : ableL m a m.trs.length ≠ []
 node : ∃ nd ed k, bndF m = .inr (nd, ed) ∧ deadFrom m nd 0 < 0 ∧ k < nd.length ∧ (nd.getD k SN.no).m = a
theorem bnd_search {n : Net} {nd : List SN} {ed : List Edg} (h : bndF n = .inr (nd, ed)) : searchF n 4096 = .cont nd ed := by
 unfold bndF at h
 split at h
 ·cases h
 ·cases hs : searchF n 4096 with
  | err e => rw [hs] at h; cases h
  | pump a b p => rw [hs] at h; cases h
  | cont a b => rw [hs] at h; cases h; rfl
theorem onWay_of {n m : Net} {u : List Int} {st : List Stp} {a : List Int} (hF : Fit n u st m a) {nd : List SN} {ed : List Edg} {k : Nat} (hb : bndF m = .inr (nd, ed)) (hd : deadFrom m nd 0 < 0) (hk : k < nd.length) (he : (nd.getD k SN.no).m = a) : OnWay n u st m a := by
 obtain ⟨_, h2, _⟩ := bnd_ok hb
 have hm := getD_mem nd k SN.no hk
 refine ⟨hF, ?_, ?_, nd, ed, k, hb, hd, hk, he⟩
 ·have := h2.tok _ hm; rwa [he] at this
 ·have := dead_none nd 0 hd _ hm; rwa [he] at this
theorem onWay_init {n m : Net} {u : List Int} {st : List Stp} (hF : Fit n u st m m.init) {nd : List SN} {ed : List Edg} (hb : bndF m = .inr (nd, ed)) (hd : deadFrom m nd 0 < 0) : OnWay n u st m m.init := by
 have hp := (outer_closed (n := m) (lim := 4096) 4098 0 (bnd_search hb) (by simp) fun j hj => by omega).1
 have hl := hp.length_le
 refine onWay_of hF hb hd (k := 0) (by simp only [List.length_singleton] at hl; omega) ?_
 rw [prefix_getD hp (by simp)]; rfl
theorem OnWay.step {n m : Net} {u : List Int} {st : List Stp} {a : List Int} (h : OnWay n u st m a) {t : Int} (ht : t ∈ ableL m a m.trs.length) :
  OnWay n u st m (firedL (m.trs.getD t.toNat Tr.no) a) ∧ (firedL (m.trs.getD t.toNat Tr.no) a).take n.init.length = firedL (n.trs.getD t.toNat Tr.no) (a.take n.init.length) := by
 obtain ⟨h1, h2⟩ := h.fit.step t ht
 refine ⟨?_, h2⟩
 obtain ⟨nd, ed, k, hb, hd, hk, he⟩ := h.node
 obtain ⟨q0, q1, q2⟩ := able_iff.1 ht
 obtain ⟨k2, hk2, he2⟩ := search_closed (bnd_search hb) k hk t ⟨q0, q1, by rw [he]; exact q2⟩
 rw [he] at he2
 exact onWay_of h1 hb hd hk2 he2
theorem OnWay.marks {n m : Net} {u : List Int} {st : List Stp} {a : List Int} (hn : NetOk n) (h : OnWay n u st m a) : markE m a = 0 ∧ markE n (a.take n.init.length) = 0 := by
 have hf := h.fit.facts
 exact ⟨markE_of hf.ok hf.len h.tok, markE_of hn (by rw [List.length_take, hf.len, hf.ilen]; omega) fun x hx => h.tok x (List.mem_of_mem_take hx)⟩
theorem OnWay.fires {n m : Net} {u : List Int} {st : List Stp} {a : List Int} (hn : NetOk n) (h : OnWay n u st m a) {t : Int} (ht : t ∈ ableL m a m.trs.length) :
  fireX m a t = (firedL (m.trs.getD t.toNat Tr.no) a, true, 0) ∧ fireX n (a.take n.init.length) t = ((firedL (m.trs.getD t.toNat Tr.no) a).take n.init.length, true, 0) := by
 obtain ⟨h1, h2⟩ := h.step ht
 obtain ⟨m1, m2⟩ := h.marks hn
 obtain ⟨q0, q1, q2⟩ := able_iff.1 ht
 obtain ⟨r0, r1, r2⟩ := able_iff.1 (h.fit.sub t ht)
 have e1 : (firedL (m.trs.getD t.toNat Tr.no) a).any tokB = false := any_tok h1.tok
 have e2 : (firedL (n.trs.getD t.toNat Tr.no) (a.take n.init.length)).any tokB = false := by
  rw [← h2]; exact any_tok fun x hx => h1.tok x (List.mem_of_mem_take hx)
 constructor
 ·rw [fireX, if_neg (by omega), if_neg (by omega), if_neg (by rw [q2]; decide), firedR, firedE, e1]; rfl
 ·rw [fireX, if_neg (by omega), if_neg (by omega), if_neg (by rw [r2]; decide), firedR, firedE, e2, h2]; rfl
end Go.Proofs.YtlpllbbjmbbfnaaGreatDoor
set_option linter.unusedSimpArgs false
set_option linter.unusedVariables false
namespace Go.Proofs.YtlpllbbjmbbfnaaGreatDoor
open Go.Eng Go.RowKit
theorem prevF_len {u : List Int} : ∀ (f : Nat) (st : List Stp) (m : Net), (∀ st' m', prevF u f st m = .ok st' m' → st'.length ≤ st.length + f) ∧ ∀ st' m' run, prevF u f st m = .dead st' m' run → st'.length ≤ st.length + f
 | 0, st, m => ⟨fun st' m' h => (by rw [prevF] at h; cases h), fun st' m' run h => (by rw [prevF] at h; cases h)⟩
 | f + 1, st, m => by
  constructor
  ·intro st' m' h
   simp only [prevF] at h
   split at h
   ·cases h
   ·split at h
    ·cases h; omega
    ·split at h
     ·cases h
     ·split at h
      ·cases h
      ·have := (prevF_len f _ _).1 _ _ h
       rw [List.length_append] at this
       simp only [List.length_singleton] at this
       omega
  ·intro st' m' run h
   simp only [prevF] at h
   split at h
   ·cases h
   ·split at h
    ·cases h
    ·split at h
     ·cases h; omega
     ·split at h
      ·cases h
      ·have := (prevF_len f _ _).2 _ _ _ h
       rw [List.length_append] at this
       simp only [List.length_singleton] at this
       omega
/-! a round's facts for the walks -/
end Go.Proofs.YtlpllbbjmbbfnaaGreatDoor
