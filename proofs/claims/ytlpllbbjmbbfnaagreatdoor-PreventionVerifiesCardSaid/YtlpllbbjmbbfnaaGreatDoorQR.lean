/-
 Contracts of chapter 51's law: a result that is changed.
-/
import Derived.Test.YtlpllbbjmbbfnaaGreatDoorQN
set_option linter.unusedSimpArgs false
set_option linter.unusedVariables false
namespace Go.Proofs.YtlpllbbjmbbfnaaGreatDoor
open Go.Eng Go.RowKit
def lastS (st : List Stp) : Stp := st.getD (st.length - 1) Stp.no
def spoilS (h : Nat) (st : List Stp) : List Stp :=
 if st.length = 0 then (if h = 4 then [Stp.no] else []) else match h with
 | 1 => st.take (st.length - 1)
 | 2 => st.set (st.length - 1) ⟨(lastS st).set.take ((lastS st).set.length - 1), (lastS st).con⟩
 | 3 => st.set (st.length - 1) ⟨(lastS st).set, ⟨(lastS st).con.fac, -2⟩⟩
 | 4 => st ++ [Stp.no]
 | 6 => st ++ [lastS st]
 | _ => st
def spoilN (h : Nat) (m : Net) : Net := match h with
 | 5 => if m.init.length = 0 then m else ⟨m.init.set (m.init.length - 1) (m.init.getD (m.init.length - 1) 0 + 1), m.trs⟩
 | 7 => if m.trs.length = 0 then m else ⟨m.init, m.trs.take (m.trs.length - 1)⟩
 | _ => m
theorem stp_set (st : List Stp) (k : Nat) (x : Stp) : (stpD st).set k x.d = stpD (st.set k x) := by simp [stpD, List.map_set]
theorem stp_take (st : List Stp) (k : Nat) : (stpD st).take k = stpD (st.take k) := by simp [stpD, List.map_take]
def spoilR (h : Nat) (st : List Stp) : List (List D) := if h = 4 then stpD st ++ [[.nil, .nil, .int .i64 0]] else stpD (spoilS h st)
theorem leR_snoc {r q : List D} (h : LeL r q) : ∀ l : List (List D), LeR (l ++ [r]) (l ++ [q])
 | [] => ⟨h, trivial⟩
 | x :: l => ⟨LeL.refl _, leR_snoc h l⟩
theorem spoilR_le (h : Nat) (st : List Stp) : LeR (spoilR h st) (stpD (spoilS h st)) := by
 unfold spoilR
 split
 ·rename_i h4
  subst h4
  have e : spoilS 4 st = st ++ [Stp.no] := by
   unfold spoilS
   split
   ·rename_i hz
    rw [List.length_eq_zero_iff.1 hz]; rfl
   ·rfl
  rw [e, ← stp_append]
  exact leR_snoc (LeL.cons leD_nil (LeL.cons leD_nil (LeL.refl _))) _
 ·exact LeR.refl _
theorem ACalls.weak {P : Program} {f : FuncId} {args : List AV} {r r' : AV} {Hn : List AObj} (h : LeV r r') (hc : ACalls P f args r Hn) : ACalls P f args r' Hn := ⟨hc.ok, fun w M vs hM hv => (hc.run w M vs hM hv).mono fun e w' hh => by
 obtain ⟨v, β, h1, h2⟩ := hh
 exact ⟨v, β, h1, { h2 with val := h _ _ _ _ h2.val }⟩⟩
theorem stp0_sz : ∀ r : List D, False → r.length = 3 := fun _ h => h.elim
set_option maxRecDepth 100000 in
set_option maxHeartbeats 32000000 in
theorem spoilZ_c (st : List Stp) (m : Net) (how : Nat) (hh : how < 256) (hsl : st.length ≤ 1000) (hf : m.Fits) (hs : ∀ x ∈ st, 0 < x.set.length ∧ x.set.length ≤ 1000) (hi : ∀ x ∈ m.init, 0 ≤ x ∧ x ≤ 65536) :
  ACalls Tryz.prog 28 [.agg (resD st m), .one (.int .u8 how)] (.agg [.list (spoilR (how % 8) st), .list (ints (spoilN (how % 8) m).init), .list (trsD (spoilN (how % 8) m).trs)]) [] := by
 have hm0 : ((how : Nat) : Int).tmod 8 = ((how % 8 : Nat) : Int) := by rw [Int.tmod_eq_emod_of_nonneg (by omega)]; omega
 have h8 : how % 8 < 8 := Nat.mod_lt _ (by omega)
 have hti := hf.trs
 have hii := hf.init
 have e0 : stpD [] = [] := rfl
 by_cases h5 : how % 8 = 5
 ·have hm : ((how : Nat) : Int).tmod 8 = 5 := by omega
  have hS : spoilS 5 st = st := by
   unfold spoilS
   split
   ·rename_i h
    rw [List.length_eq_zero_iff.1 h]; rfl
   ·rfl
  rw [h5, show spoilR 5 st = stpD (spoilS 5 st) from rfl, hS]
  by_cases hi0 : m.init.length = 0
  ·have hN : spoilN 5 m = m := if_pos hi0
   have hz : decide ((0 : Int) < m.init.length) = false := decide_eq_false (by omega)
   rw [hN]
   simp only [resD]
   (refine ACalls.of_body Ty_ok mixed Tryz.func28 rfl (by kernel_rfl) Tryz.ntmps28 (by simp) (congrArg Array.toList Tryz.results28) ?_)
   simp only [slotsOf]
   (repeat' (first | (with_reducible first | exact True.intro | refine And.intro ?_ ?_ | refine aBl ?_ | (refine aS 6 [] ?_; intro K hK)) | ((with_reducible first | refine aGo ?_ | refine rP Ty_ok mixed 6 [0, 2, 3, 5, 9, 11] [.mid [pe 1, pe 4, pe 6, pe 7, pe 8, pe 10, pe 12, pe 13, pe 14, pe 15, pe 16, pe 17, pe 18, pe 19] 0, .one 20] ?_ | refine rP Ty_ok mixed 15 [0, 2, 4] [.mid [pe 1, pe 3, pe 5, pe 6, pe 7] 0, .one 8, .one 9, .one 10] ?_); simp only [hm, hz, go_sem]) | ((with_reducible refine aCd ?_ ?_ (fun hb => ?_) (fun hb => ?_)); (iterate 2 simp only [hm, hz, go_sem]); all_goals (simp only [hm, hz, go_sem] at hb; try simp only [bls] at hb)) | ((iterate 6 try ((fail_if_success with_reducible refine hK _ ?_ ?_ ?_); clear hK K)); with_reducible refine hK _ ?_ ?_ ?_; rotate_left; (focus (simp only [hm, hz, go_sem]; exact rfl)); clear hK K) | (with_reducible refine aGs (fun hg0 => ?_) (fun hg0 => ?_) <;> first | (with_reducible first | exact aF1 hg0 | exact aF2 hg0) | (simp only [hg0, hm, hz, go_sem])) | (with_reducible refine aNk ?_; intro bnil hnil; try simp only []) | exact aZ | fail))
   all_goals first | omega | rfl | skip
  ·have hN : spoilN 5 m = ⟨m.init.set (m.init.length - 1) (m.init.getD (m.init.length - 1) 0 + 1), m.trs⟩ := if_neg hi0
   have hIt : ((m.init.length : Int) - 1).toNat = m.init.length - 1 := by omega
   have hrow := ints_at (l := m.init) (k := m.init.length - 1) (by omega)
   have hI := hi _ (getD_mem m.init (m.init.length - 1) 0 (by omega))
   rw [hN]
   simp only [resD, ← ints_set]
   generalize m.init.getD (m.init.length - 1) 0 = z at *
   (refine ACalls.of_body Ty_ok mixed Tryz.func28 rfl (by kernel_rfl) Tryz.ntmps28 (by simp) (congrArg Array.toList Tryz.results28) ?_)
   simp only [slotsOf]
   (repeat' (first | (with_reducible first | exact True.intro | refine And.intro ?_ ?_ | refine aBl ?_ | (refine aS 6 [] ?_; intro K hK)) | ((with_reducible first | refine aGo ?_ | refine rP Ty_ok mixed 6 [0, 2, 3, 5, 9, 11] [.mid [pe 1, pe 4, pe 6, pe 7, pe 8, pe 10, pe 12, pe 13, pe 14, pe 15, pe 16, pe 17, pe 18, pe 19] 0, .one 20] ?_ | refine rP Ty_ok mixed 15 [0, 2, 4] [.mid [pe 1, pe 3, pe 5, pe 6, pe 7] 0, .one 8, .one 9, .one 10] ?_); simp only [hm, hIt, hrow, go_sem]) | ((with_reducible refine aCd ?_ ?_ (fun hb => ?_) (fun hb => ?_)); (iterate 2 simp only [hm, hIt, hrow, go_sem]); all_goals (simp only [hm, hIt, hrow, go_sem] at hb; try simp only [bls] at hb)) | ((iterate 6 try ((fail_if_success with_reducible refine hK _ ?_ ?_ ?_); clear hK K)); with_reducible refine hK _ ?_ ?_ ?_; rotate_left; (focus (simp only [hm, hIt, hrow, go_sem]; exact rfl)); clear hK K) | (with_reducible refine aGs (fun hg0 => ?_) (fun hg0 => ?_) <;> first | (with_reducible first | exact aF1 hg0 | exact aF2 hg0) | (simp only [hg0, hm, hIt, hrow, go_sem])) | (with_reducible refine aNk ?_; intro bnil hnil; try simp only []) | exact aZ | fail))
   all_goals first | omega | rfl | skip
 have hR0 : spoilR 0 st = stpD (spoilS 0 st) := rfl
 have hR1 : spoilR 1 st = stpD (spoilS 1 st) := rfl
 have hR2 : spoilR 2 st = stpD (spoilS 2 st) := rfl
 have hR3 : spoilR 3 st = stpD (spoilS 3 st) := rfl
 have hR4 : spoilR 4 st = stpD st ++ [[.nil, .nil, .int .i64 0]] := rfl
 have hR6 : spoilR 6 st = stpD (spoilS 6 st) := rfl
 have hR7 : spoilR 7 st = stpD (spoilS 7 st) := rfl
 have hcs : (how % 8 = 0 ∧ ((how : Nat) : Int).tmod 8 = 0) ∨ (how % 8 = 1 ∧ ((how : Nat) : Int).tmod 8 = 1) ∨ (how % 8 = 2 ∧ ((how : Nat) : Int).tmod 8 = 2) ∨ (how % 8 = 3 ∧ ((how : Nat) : Int).tmod 8 = 3) ∨ (how % 8 = 4 ∧ ((how : Nat) : Int).tmod 8 = 4) ∨ (how % 8 = 6 ∧ ((how : Nat) : Int).tmod 8 = 6) ∨ (how % 8 = 7 ∧ ((how : Nat) : Int).tmod 8 = 7) := by omega
 clear hm0 h8 h5
 have h7a : ∀ l : List (List D), 0 < (m.trs.length : Int) → l = trsD m.trs → l.take ((m.trs.length : Int) - 1).toNat = trsD (spoilN 7 m).trs := fun l h e => by
  have : ¬ m.trs.length = 0 := by omega
  rw [e, spoilN, if_neg this, show ((m.trs.length : Int) - 1).toNat = m.trs.length - 1 by omega]
  simp [trsD, List.map_take]
 have h7b : (m.trs.length : Int) ≤ 0 → trsD m.trs = trsD (spoilN 7 m).trs := fun h => by rw [spoilN, if_pos (by omega)]
 have h7c : ints m.init = ints (spoilN 7 m).init := by
  have e : spoilN 7 m = if m.trs.length = 0 then m else ⟨m.init, m.trs.take (m.trs.length - 1)⟩ := rfl
  rw [e]
  split <;> rfl
 rcases Nat.eq_zero_or_pos st.length with hz | hz
 ·have hst : st = [] := List.length_eq_zero_iff.1 hz
  subst hst
  rcases hcs with ⟨h, hm⟩ | ⟨h, hm⟩ | ⟨h, hm⟩ | ⟨h, hm⟩ | ⟨h, hm⟩ | ⟨h, hm⟩ | ⟨h, hm⟩
  all_goals
   rw [h]
   simp only [hR0, hR1, hR2, hR3, hR4, hR6, hR7, resD, e0, spoilS, List.length_nil, if_true, if_false, Nat.reduceEqDiff]
   (refine ACalls.of_body Ty_ok mixed Tryz.func28 rfl (by kernel_rfl) Tryz.ntmps28 (by simp) (congrArg Array.toList Tryz.results28) ?_)
   simp only [slotsOf]
   (repeat' (first | (with_reducible first | exact True.intro | refine And.intro ?_ ?_ | refine aBl ?_ | (refine aS 6 [] ?_; intro K hK)) | ((with_reducible first | refine aGo ?_ | refine rP Ty_ok mixed 6 [0, 2, 3, 5, 9, 11] [.mid [pe 1, pe 4, pe 6, pe 7, pe 8, pe 10, pe 12, pe 13, pe 14, pe 15, pe 16, pe 17, pe 18, pe 19] 0, .one 20] ?_ | refine rP Ty_ok mixed 15 [0, 2, 4] [.mid [pe 1, pe 3, pe 5, pe 6, pe 7] 0, .one 8, .one 9, .one 10] ?_); simp only [hm, e0, go_sem]) | ((with_reducible refine aCd ?_ ?_ (fun hb => ?_) (fun hb => ?_)); (iterate 2 simp only [hm, e0, go_sem]); all_goals (simp only [hm, e0, go_sem] at hb; try simp only [bls] at hb)) | ((iterate 6 try ((fail_if_success with_reducible refine hK _ ?_ ?_ ?_); clear hK K)); with_reducible refine hK _ ?_ ?_ ?_; rotate_left; (focus (simp only [hm, e0, go_sem]; exact rfl)); clear hK K) | (with_reducible refine aGs (fun hg0 => ?_) (fun hg0 => ?_) <;> first | (with_reducible first | exact aF1 hg0 | exact aF2 hg0) | (simp only [hg0, hm, e0, go_sem])) | (with_reducible refine aNk ?_; intro bnil hnil; try simp only []) | exact aZ | fail))
   all_goals first | omega | rfl | exact stp0_sz | exact h7a _ (by assumption) rfl | exact h7b (by assumption) | exact h7c | skip
 ·have hlast := stp_get (l := st) (k := st.length - 1) (by omega) []
  have hmem := getD_mem st (st.length - 1) Stp.no (by omega)
  obtain ⟨hx1, hx2⟩ := hs _ hmem
  have hLt : ((st.length : Int) - 1).toNat = st.length - 1 := by omega
  have hxt : (((st.getD (st.length - 1) Stp.no).set.length : Int) - 1).toNat = (st.getD (st.length - 1) Stp.no).set.length - 1 := by omega
  have hz' : ¬ st.length = 0 := by omega
  have hls : lastS st = st.getD (st.length - 1) Stp.no := rfl
  generalize st.getD (st.length - 1) Stp.no = x at *
  rcases hcs with ⟨h, hm⟩ | ⟨h, hm⟩ | ⟨h, hm⟩ | ⟨h, hm⟩ | ⟨h, hm⟩ | ⟨h, hm⟩ | ⟨h, hm⟩
  all_goals
   rw [h]
   simp only [hR0, hR1, hR2, hR3, hR4, hR6, hR7, resD, spoilS, hls, if_neg hz']
   (refine ACalls.of_body Ty_ok mixed Tryz.func28 rfl (by kernel_rfl) Tryz.ntmps28 (by simp) (congrArg Array.toList Tryz.results28) ?_)
   simp only [slotsOf]
   (repeat' (first | (with_reducible first | exact True.intro | refine And.intro ?_ ?_ | refine aBl ?_ | (refine aS 6 [] ?_; intro K hK)) | ((with_reducible first | refine aGo ?_ | refine rP Ty_ok mixed 6 [0, 2, 3, 5, 9, 11] [.mid [pe 1, pe 4, pe 6, pe 7, pe 8, pe 10, pe 12, pe 13, pe 14, pe 15, pe 16, pe 17, pe 18, pe 19] 0, .one 20] ?_ | refine rP Ty_ok mixed 15 [0, 2, 4] [.mid [pe 1, pe 3, pe 5, pe 6, pe 7] 0, .one 8, .one 9, .one 10] ?_); simp only [hm, hLt, hlast, hxt, go_sem]) | ((with_reducible refine aCd ?_ ?_ (fun hb => ?_) (fun hb => ?_)); (iterate 2 simp only [hm, hLt, hlast, hxt, go_sem]); all_goals (simp only [hm, hLt, hlast, hxt, go_sem] at hb; try simp only [bls] at hb)) | ((iterate 6 try ((fail_if_success with_reducible refine hK _ ?_ ?_ ?_); clear hK K)); with_reducible refine hK _ ?_ ?_ ?_; rotate_left; (focus (simp only [hm, hLt, hlast, hxt, go_sem]; exact rfl)); clear hK K) | (with_reducible refine aGs (fun hg0 => ?_) (fun hg0 => ?_) <;> first | (with_reducible first | exact aF1 hg0 | exact aF2 hg0) | (simp only [hg0, hm, hLt, hlast, hxt, go_sem])) | (with_reducible refine aNk ?_; intro bnil hnil; try simp only []) | exact aZ | fail))
   all_goals first | omega | rfl | exact stp_take _ _ | exact stp_append st [x] | exact stp_set st _ ⟨_, ⟨_, _⟩⟩ | exact stp_set st _ ⟨x.set, ⟨x.con.fac, -2⟩⟩ |  exact h7a _ (by assumption) rfl | exact h7b (by assumption) | exact h7c | skip
theorem spoil_c (st : List Stp) (m : Net) (how : Nat) (hh : how < 256) (hsl : st.length ≤ 1000) (hf : m.Fits) (hs : ∀ x ∈ st, 0 < x.set.length ∧ x.set.length ≤ 1000) (hi : ∀ x ∈ m.init, 0 ≤ x ∧ x ≤ 65536) :
  ACalls Tryz.prog 28 [.agg (resD st m), .one (.int .u8 how)] (.agg (resD (spoilS (how % 8) st) (spoilN (how % 8) m))) [] := by
 refine ACalls.weak (leV_agg ?_) (spoilZ_c st m how hh hsl hf hs hi)
 have h : LeC [.list (spoilR (how % 8) st), .list (ints (spoilN (how % 8) m).init), .list (trsD (spoilN (how % 8) m).trs)] [.list (stpD (spoilS (how % 8) st)), .list (ints (spoilN (how % 8) m).init), .list (trsD (spoilN (how % 8) m).trs)] :=
  ⟨⟨rfl, rfl, leD_list (spoilR_le _ _)⟩, ⟨rfl, rfl, LeD.refl _⟩, ⟨rfl, rfl, LeD.refl _⟩, trivial⟩
 exact h
end Go.Proofs.YtlpllbbjmbbfnaaGreatDoor
