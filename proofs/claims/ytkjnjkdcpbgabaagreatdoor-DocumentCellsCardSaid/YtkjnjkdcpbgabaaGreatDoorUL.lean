/-
 Chapter 23: the text of a machine.
-/
import Derived.Test.YtkjnjkdcpbgabaaGreatDoorUK
import Derived.Test.YtkjnjkdcpbgabaaGreatDoorSh
import Derived.Lib.ItoaLen
import Derived.Test.YtkjnjkdcpbgabaaGreatDoorUD
set_option linter.unusedSimpArgs false
set_option linter.unusedVariables false
namespace Go.Proofs.YtkjnjkdcpbgabaaGreatDoor
open Go.Eng Go.RowKit
theorem grow_belowJ (w : World) (n : Nat) (os : Array Obj) : Eng.Below w.heap.size w (Sort.grow (w.drewN n) os) :=
 ⟨⟨rfl, rfl, rfl, by simp [Sort.grow, World.drewN], fun k hk => by
  show (w.heap ++ os)[k]? = w.heap[k]?
  rw [Array.getElem?_append_left hk]⟩, Nat.le_add_right _ _⟩
theorem globTabJ : Tryz.prog.globalNamed "internal/strconv.uint64pow10" = some 0 := by kernel_rfl
theorem tab_ofJ {w : World} {M : Nat → Prop} (hM : MOk w M []) : 0 < w.heap.size ∧ Lib.TabIs Tryz.prog w "internal/strconv.uint64pow10" .u64 Lib.pow10Tab := by
 obtain ⟨h1, _, e, fz, h3⟩ := hM.2 _ (List.mem_singleton.2 rfl)
 refine ⟨h1, ?_⟩
 unfold Lib.TabIs World.var?
 rw [globTabJ]
 simp only [Option.bind_some]
 have h3' : w.heap[0]? = some (.cells (Lib.pow10Tab.map fun z => Value.int .u64 z).toArray e fz) := h3
 rw [h3']
theorem itoa_c (z : Int) (h1 : -9223372036854775808 ≤ z) (h2 : z ≤ 9223372036854775807) : ACalls Tryz.prog 100 [.one (.int .i64 z)] (.one (.str (Lib.itoa z))) [] := by
 refine ⟨by kernel_rfl, fun w M vs hM hv => ?_⟩
 obtain ⟨v, rfl, hv1⟩ := varg1 hv
 obtain rfl : v = .int .i64 z := hv1
 obtain ⟨hg, ht⟩ := tab_ofJ hM
 refine (Tryz.strconv_Itoa z h1 h2 w ht).mono ?_
 rintro e W1 ⟨rfl, kk, os, rfl⟩
 exact ⟨_, [], rfl, grow_belowJ w kk os, rfl, fun t o x ho => by simp at ho, fun g hg => (owned_none hg).elim, fun t t' x x' g h1 => by simp at h1, rfl⟩
def headW (k : Int) : List UInt8 := if k = 1 then [99, 111, 109, 112, 111, 110, 101, 110, 116, 32] else [114, 101, 113, 117, 105, 114, 101, 109, 101, 110, 116, 32]
def evN (E : List Ev) (i : Int) : List UInt8 := (E.getD i.toNat Ev.no).name
def alphaS (E : List Ev) (l : List Int) : List UInt8 := l.flatMap fun i => 32 :: evN E i
def edgeS (E : List Ev) (s : Int) (l : List Ed) : List UInt8 := l.flatMap fun y => if y.src = s then 32 :: evN E y.ev ++ 62 :: Lib.itoa y.dst else []
def stateS (E : List Ev) (a : AU) (s : Nat) : List UInt8 := [32, 32] ++ Lib.itoa s ++ (if (s : Int) ∈ a.marked then [32, 109, 97, 114, 107, 101, 100] else []) ++ edgeS E s a.edges ++ [10]
def statesS (E : List Ev) (a : AU) : Nat → Nat → List UInt8
 | _, 0 => []
 | s, n + 1 => stateS E a s ++ statesS E a (s + 1) n
def machS (E : List Ev) (x : It) : List UInt8 := headW x.kind ++ x.name ++ alphaS E x.aut.alpha ++ [10] ++ statesS E x.aut 0 x.aut.states.toNat
structure MFits (E : List Ev) (x : It) : Prop where
 kind : x.kind = 1 ∨ x.kind = 2
 name : x.name.length ≤ 100
 ev : E.length ≤ 1000
 evn : ∀ e ∈ E, e.name.length ≤ 100
 alpha : x.aut.alpha.length ≤ 100
 al : ∀ i ∈ x.aut.alpha, 0 ≤ i ∧ i < E.length
 st : 0 ≤ x.aut.states ∧ x.aut.states ≤ 100
 marked : x.aut.marked.length ≤ 1000
 edges : x.aut.edges.length ≤ 100
 ed : ∀ y ∈ x.aut.edges, (0 ≤ y.ev ∧ y.ev < E.length) ∧ 0 ≤ y.dst ∧ y.dst ≤ 100
set_option maxHeartbeats 16000000 in
theorem machine_c (E : List Ev) (x : It) (hf : MFits E x) : MCalls Tryz.prog 64 1 [bldN, bldR []] [.one (.vp 0 0), .one (.list (evs E)), .agg x.d] (.tup []) [bldU, bldR (machS E x)] := by
 obtain ⟨f1, f2, f3, f4, f5, f6, f7, f8, f9, f10⟩ := hf
 have hM : machS E x = headW x.kind ++ x.name ++ alphaS E x.aut.alpha ++ [10] ++ statesS E x.aut 0 x.aut.states.toNat := rfl
 generalize machS E x = M at *
 have hh : headW x.kind = if x.kind = 1 then [99, 111, 109, 112, 111, 110, 101, 110, 116, 32] else [114, 101, 113, 117, 105, 114, 101, 109, 101, 110, 116, 32] := rfl
 generalize headW x.kind = H at *
 have hHl : H.length ≤ 12 := by rw [hh]; rcases f1 with h | h <;> simp [h]
 have hrow : ([[D.str [99, 111, 109, 112, 111, 110, 101, 110, 116, 32]], [D.str [114, 101, 113, 117, 105, 114, 101, 109, 101, 110, 116, 32]]] : List (List D)).getD (x.kind - 1).toNat [D.str []] = [D.str H] := by
  rw [hh]; rcases f1 with h | h <;> rw [h] <;> rfl
 have hw := WriteString_n (H ++ x.name) (by rw [List.length_append]; omega)
 simp only [bldU, bldN, bldR] at hw
 clear hh
 (refine MCalls.of_body Ty_ok mixed Tryz.func64 rfl (by kernel_rfl) Tryz.ntmps64 (by simp) (congrArg Array.toList Tryz.results64) (by simp) (by simp) ?_)
 simp only [slotsOf, bldU, bldN, bldR, It.d]
 (repeat' (first | (with_reducible first | exact True.intro | refine And.intro ?_ ?_ | refine aBl ?_ | (refine aS 12 [27, 26, 28, 44, 61, 60, 62, 45] ?_; intro K hK)) | ((with_reducible first | refine aGo ?_ | refine rP Ty_ok mixed 1 [0, 2, 7] [.mid [pe 1, pe 3, pe 4, pe 5, pe 6, pe 8, pe 9] 0, .one 10] ?_ | refine rP Ty_ok mixed 19 [0, 1, 2, 9] [.mid [pe 3, pe 4, pe 5, pe 6, pe 7, pe 8, pe 10, ⟨11, 0, true, false, false, [], []⟩, ⟨12, 1, false, false, false, [], []⟩] 1, .one 13] ?_); simp only [hrow, go_sem]) | ((with_reducible refine aCd ?_ ?_ (fun hb => ?_) (fun hb => ?_)); (iterate 2 simp only [hrow, go_sem]); all_goals (simp only [hrow, go_sem] at hb; try simp only [bls] at hb)) | ((iterate 6 try ((fail_if_success with_reducible refine hK _ ?_ ?_ ?_); clear hK K)); with_reducible refine hK _ ?_ ?_ ?_; rotate_left; (focus (simp only [hrow, go_sem]; exact rfl)); clear hK K) | (with_reducible refine aGs (fun hg0 => ?_) (fun hg0 => ?_) <;> first | (with_reducible first | exact aF1 hg0 | exact aF2 hg0) | (simp only [hg0, hrow, go_sem])) | (with_reducible refine aNk ?_; intro bnil hnil; try simp only []) | exact aZ | fail))
 all_goals first | omega | skip
 (refine MCallAt_i [] [0, 1] (hw) ?_ ?_; (focus (simp only [mside, handOk, go_sem]; (first | done | exact (by decide) | exact ⟨by decide, fun t ht => ht.elim⟩ | (refine ⟨by decide, ?_⟩; simp; done)))); simp only [go_sem])
 (repeat' (first | (with_reducible first | exact True.intro | refine And.intro ?_ ?_ | refine aBl ?_ | (refine aS 12 [27, 26, 28, 44, 61, 60, 62, 45] ?_; intro K hK)) | ((with_reducible first | refine aGo ?_ | refine rP Ty_ok mixed 1 [0, 2, 7] [.mid [pe 1, pe 3, pe 4, pe 5, pe 6, pe 8, pe 9] 0, .one 10] ?_ | refine rP Ty_ok mixed 19 [0, 1, 2, 9] [.mid [pe 3, pe 4, pe 5, pe 6, pe 7, pe 8, pe 10, ⟨11, 0, true, false, false, [], []⟩, ⟨12, 1, false, false, false, [], []⟩] 1, .one 13] ?_); simp only [go_sem]) | ((with_reducible refine aCd ?_ ?_ (fun hb => ?_) (fun hb => ?_)); (iterate 2 simp only [go_sem]); all_goals (simp only [go_sem] at hb; try simp only [bls] at hb)) | ((iterate 6 try ((fail_if_success with_reducible refine hK _ ?_ ?_ ?_); clear hK K)); with_reducible refine hK _ ?_ ?_ ?_; rotate_left; (focus (simp only [go_sem]; exact rfl)); clear hK K) | (with_reducible refine aGs (fun hg0 => ?_) (fun hg0 => ?_) <;> first | (with_reducible first | exact aF1 hg0 | exact aF2 hg0) | (simp only [hg0, go_sem])) | (with_reducible refine aNk ?_; intro bnil hnil; try simp only []) | exact aZ | fail))
 all_goals first | omega | skip
 generalize hS : statesS E x.aut 0 x.aut.states.toNat = S at *
 refine awp_loop _ (by simp only [go_sem]; rfl) (Nat × List UInt8) (fun z => z.1 ≤ x.aut.alpha.length ∧ M = z.2 ++ alphaS E (x.aut.alpha.drop z.1) ++ [10] ++ S ∧ z.2.length ≤ 112 + 101 * z.1) (fun z => [(28, .one (.int .i64 z.1))]) (fun z H => H.set 1 (.row 5 1 (strRows z.2))) (fun z => x.aut.alpha.length - z.1) (0, H ++ x.name) ⟨by omega, by simpa using hM, by rw [List.length_append]; omega⟩ ?_ ?_
 ·(simp only [SubF, go_sem]; (try simp only [go_sem]); repeat' (first | exact True.intro | with_reducible refine And.intro ?_ ?_ | rfl | omega))
 rintro ⟨k, p⟩ ⟨hk, hres, hpl⟩ L hL
 dsimp only at hk hres hpl
 have hq : ((k : Nat) : Int).toNat = k := by omega
 by_cases hlt : k < x.aut.alpha.length
 ·have hi := f6 _ (getD_mem x.aut.alpha k 0 hlt)
  rw [drop_getD x.aut.alpha k 0 hlt, alphaS, List.flatMap_cons] at hres
  have he : evN E (x.aut.alpha.getD k 0) = (E.getD (x.aut.alpha.getD k 0).toNat Ev.no).name := rfl
  have hel := f4 _ (getD_mem E (x.aut.alpha.getD k 0).toNat Ev.no (by omega))
  rw [← he] at hel
  generalize hid : x.aut.alpha.getD k 0 = i at *
  generalize evN E i = nm at *
  have hw := WriteString_u p (32 :: nm) (by rw [List.length_cons]; omega)
  simp only [bldU, bldR] at hw
  (simp only [go_sem] at hL ⊢)
  (repeat' (first | (with_reducible first | exact True.intro | refine And.intro ?_ ?_ | refine aBl ?_ | (refine aS 12 [27, 26, 28, 44, 61, 60, 62, 45] ?_; intro K hK)) | ((with_reducible first | refine aGo ?_ | refine rP Ty_ok mixed 1 [0, 2, 7] [.mid [pe 1, pe 3, pe 4, pe 5, pe 6, pe 8, pe 9] 0, .one 10] ?_ | refine rP Ty_ok mixed 19 [0, 1, 2, 9] [.mid [pe 3, pe 4, pe 5, pe 6, pe 7, pe 8, pe 10, ⟨11, 0, true, false, false, [], []⟩, ⟨12, 1, false, false, false, [], []⟩] 1, .one 13] ?_); simp only [hq, hid, ← he, go_sem]) | ((with_reducible refine aCd ?_ ?_ (fun hb => ?_) (fun hb => ?_)); (iterate 2 simp only [hq, hid, ← he, go_sem]); all_goals (simp only [hq, hid, ← he, go_sem] at hb; try simp only [bls] at hb)) | ((iterate 6 try ((fail_if_success with_reducible refine hK _ ?_ ?_ ?_); clear hK K)); with_reducible refine hK _ ?_ ?_ ?_; rotate_left; (focus (simp only [hq, hid, ← he, go_sem]; exact rfl)); clear hK K) | (with_reducible refine aGs (fun hg0 => ?_) (fun hg0 => ?_) <;> first | (with_reducible first | exact aF1 hg0 | exact aF2 hg0) | (simp only [hg0, hq, hid, ← he, go_sem])) | (with_reducible refine aNk ?_; intro bnil hnil; try simp only []) | exact aZ | fail))
  all_goals first | omega | skip
  (refine MCallAt_i [] [0, 1] (hw) ?_ ?_; (focus (simp only [mside, handOk, go_sem]; (first | done | exact (by decide) | exact ⟨by decide, fun t ht => ht.elim⟩ | (refine ⟨by decide, ?_⟩; simp; done)))); simp only [go_sem])
  (repeat' (first | (with_reducible first | exact True.intro | refine And.intro ?_ ?_ | refine aBl ?_ | (refine aS 12 [27, 26, 28, 44, 61, 60, 62, 45] ?_; intro K hK)) | ((with_reducible first | refine aGo ?_ | refine rP Ty_ok mixed 1 [0, 2, 7] [.mid [pe 1, pe 3, pe 4, pe 5, pe 6, pe 8, pe 9] 0, .one 10] ?_ | refine rP Ty_ok mixed 19 [0, 1, 2, 9] [.mid [pe 3, pe 4, pe 5, pe 6, pe 7, pe 8, pe 10, ⟨11, 0, true, false, false, [], []⟩, ⟨12, 1, false, false, false, [], []⟩] 1, .one 13] ?_); simp only [go_sem]) | ((with_reducible refine aCd ?_ ?_ (fun hb => ?_) (fun hb => ?_)); (iterate 2 simp only [go_sem]); all_goals (simp only [go_sem] at hb; try simp only [bls] at hb)) | ((iterate 6 try ((fail_if_success with_reducible refine hK _ ?_ ?_ ?_); clear hK K)); with_reducible refine hK _ ?_ ?_ ?_; rotate_left; (focus (simp only [go_sem]; exact rfl)); clear hK K) | (with_reducible refine aGs (fun hg0 => ?_) (fun hg0 => ?_) <;> first | (with_reducible first | exact aF1 hg0 | exact aF2 hg0) | (simp only [hg0, go_sem])) | (with_reducible refine aNk ?_; intro bnil hnil; try simp only []) | exact aZ | fail))
  all_goals first | omega | skip
  refine hL _ (k + 1, p ++ 32 :: nm) ⟨by omega, by rw [hres, alphaS]; simp, by rw [List.length_append, List.length_cons]; omega⟩ ?_ (by dsimp only; omega)
  (simp only [SubF, go_sem]; (try simp only [go_sem]); repeat' (first | exact True.intro | with_reducible refine And.intro ?_ ?_ | rfl | omega))
 have hkl : k = x.aut.alpha.length := by omega
 subst hkl
 rw [List.drop_length, alphaS, List.flatMap_nil, List.append_nil] at hres
 have hw1 := WriteByte_u p 10 (by omega)
 simp only [bldU, bldR] at hw1
 (simp only [go_sem] at hL ⊢)
 (repeat' (first | (with_reducible first | exact True.intro | refine And.intro ?_ ?_ | refine aBl ?_ | (refine aS 12 [27, 26, 28, 44, 61, 60, 62, 45] ?_; intro K hK)) | ((with_reducible first | refine aGo ?_ | refine rP Ty_ok mixed 1 [0, 2, 7] [.mid [pe 1, pe 3, pe 4, pe 5, pe 6, pe 8, pe 9] 0, .one 10] ?_ | refine rP Ty_ok mixed 19 [0, 1, 2, 9] [.mid [pe 3, pe 4, pe 5, pe 6, pe 7, pe 8, pe 10, ⟨11, 0, true, false, false, [], []⟩, ⟨12, 1, false, false, false, [], []⟩] 1, .one 13] ?_); simp only [go_sem]) | ((with_reducible refine aCd ?_ ?_ (fun hb => ?_) (fun hb => ?_)); (iterate 2 simp only [go_sem]); all_goals (simp only [go_sem] at hb; try simp only [bls] at hb)) | ((iterate 6 try ((fail_if_success with_reducible refine hK _ ?_ ?_ ?_); clear hK K)); with_reducible refine hK _ ?_ ?_ ?_; rotate_left; (focus (simp only [go_sem]; exact rfl)); clear hK K) | (with_reducible refine aGs (fun hg0 => ?_) (fun hg0 => ?_) <;> first | (with_reducible first | exact aF1 hg0 | exact aF2 hg0) | (simp only [hg0, go_sem])) | (with_reducible refine aNk ?_; intro bnil hnil; try simp only []) | exact aZ | fail))
 all_goals first | omega | skip
 (refine MCallAt_i [] [0, 1] (hw1) ?_ ?_; (focus (simp only [mside, handOk, go_sem]; (first | done | exact (by decide) | exact ⟨by decide, fun t ht => ht.elim⟩ | (refine ⟨by decide, ?_⟩; simp; done)))); simp only [go_sem])
 (repeat' (first | (with_reducible first | exact True.intro | refine And.intro ?_ ?_ | refine aBl ?_ | (refine aS 12 [27, 26, 28, 44, 61, 60, 62, 45] ?_; intro K hK)) | ((with_reducible first | refine aGo ?_ | refine rP Ty_ok mixed 1 [0, 2, 7] [.mid [pe 1, pe 3, pe 4, pe 5, pe 6, pe 8, pe 9] 0, .one 10] ?_ | refine rP Ty_ok mixed 19 [0, 1, 2, 9] [.mid [pe 3, pe 4, pe 5, pe 6, pe 7, pe 8, pe 10, ⟨11, 0, true, false, false, [], []⟩, ⟨12, 1, false, false, false, [], []⟩] 1, .one 13] ?_); simp only [go_sem]) | ((with_reducible refine aCd ?_ ?_ (fun hb => ?_) (fun hb => ?_)); (iterate 2 simp only [go_sem]); all_goals (simp only [go_sem] at hb; try simp only [bls] at hb)) | ((iterate 6 try ((fail_if_success with_reducible refine hK _ ?_ ?_ ?_); clear hK K)); with_reducible refine hK _ ?_ ?_ ?_; rotate_left; (focus (simp only [go_sem]; exact rfl)); clear hK K) | (with_reducible refine aGs (fun hg0 => ?_) (fun hg0 => ?_) <;> first | (with_reducible first | exact aF1 hg0 | exact aF2 hg0) | (simp only [hg0, go_sem])) | (with_reducible refine aNk ?_; intro bnil hnil; try simp only []) | exact aZ | fail))
 all_goals first | omega | skip
 clear hL
 obtain ⟨n, hn⟩ : ∃ n : Nat, x.aut.states = n := ⟨x.aut.states.toNat, by omega⟩
 have hpl2 : (p ++ [10]).length ≤ 11000 := by rw [List.length_append, List.length_cons, List.length_nil]; omega
 generalize hpe : p ++ [10] = q0 at *
 rw [← hS, hn, Int.toNat_natCast] at hres
 refine awp_loop _ (by simp only [go_sem]; rfl) (Nat × List UInt8) (fun z => z.1 ≤ n ∧ M = z.2 ++ statesS E x.aut z.1 (n - z.1) ∧ z.2.length ≤ 11000 + 13000 * z.1) (fun z => [(45, .one (.int .i64 z.1))]) (fun z H => H.set 1 (.row 5 1 (strRows z.2))) (fun z => n - z.1) (0, q0) ⟨by omega, by simpa using hres, by dsimp only; omega⟩ ?_ ?_
 ·(simp only [SubF, go_sem]; (try simp only [go_sem]); repeat' (first | exact True.intro | with_reducible refine And.intro ?_ ?_ | rfl | omega))
 rintro ⟨k, q⟩ ⟨hk, hres2, hql⟩ Lo hLo
 dsimp only at hk hres2 hql
 have hq : ((k : Nat) : Int).toNat = k := by omega
 by_cases hlt : k < n
 ·rw [show n - k = (n - (k + 1)) + 1 by omega, statesS] at hres2
  have hi := itoa_c k (by omega) (by omega)
  have hil := Lib.itoa_length_le k (by omega) (by omega)
  have hst : stateS E x.aut k = [32, 32] ++ Lib.itoa k ++ (if (k : Int) ∈ x.aut.marked then [32, 109, 97, 114, 107, 101, 100] else []) ++ edgeS E k x.aut.edges ++ [10] := rfl
  generalize Lib.itoa k = ik at *
  have hw2 := WriteString_u q (32 :: 32 :: ik) (by rw [List.length_cons, List.length_cons]; omega)
  simp only [bldU, bldR] at hw2
  have hmk := sContains_c x.aut.marked k (by omega)
  simp only [go_sem] at hLo ⊢
  (repeat' (first | (with_reducible first | exact True.intro | refine And.intro ?_ ?_ | refine aBl ?_ | (refine aS 12 [27, 26, 28, 44, 61, 60, 62, 45] ?_; intro K hK)) | ((with_reducible first | refine aGo ?_ | refine rP Ty_ok mixed 1 [0, 2, 7] [.mid [pe 1, pe 3, pe 4, pe 5, pe 6, pe 8, pe 9] 0, .one 10] ?_ | refine rP Ty_ok mixed 19 [0, 1, 2, 9] [.mid [pe 3, pe 4, pe 5, pe 6, pe 7, pe 8, pe 10, ⟨11, 0, true, false, false, [], []⟩, ⟨12, 1, false, false, false, [], []⟩] 1, .one 13] ?_); simp only [hn, go_sem]) | ((with_reducible refine aCd ?_ ?_ (fun hb => ?_) (fun hb => ?_)); (iterate 2 simp only [hn, go_sem]); all_goals (simp only [hn, go_sem] at hb; try simp only [bls] at hb)) | ((iterate 6 try ((fail_if_success with_reducible refine hK _ ?_ ?_ ?_); clear hK K)); with_reducible refine hK _ ?_ ?_ ?_; rotate_left; (focus (simp only [hn, go_sem]; exact rfl)); clear hK K) | ((first | (with_reducible first | refine xA ?_ | refine xD ?_ | refine xO ?_ | refine xR ?_ | refine xG ?_ | refine xH ?_ | refine xM ?_) | ((with_reducible refine gA ?_); refine xA ?_) | ((with_reducible refine gD ?_); refine xD ?_) | ((with_reducible refine gG ?_); refine xG ?_)); simp only [hn, go_sem]) | (with_reducible refine aGs (fun hg0 => ?_) (fun hg0 => ?_) <;> first | (with_reducible first | exact aF1 hg0 | exact aF2 hg0) | (simp only [hg0, hn, go_sem])) | (with_reducible refine aNk ?_; intro bnil hnil; try simp only []) | exact aZ | fail))
  all_goals first | omega | skip
  (refine MCallAt_i [] [0, 1] (hw2) ?_ ?_; (focus (simp only [mside, handOk, go_sem]; (first | done | exact (by decide) | exact ⟨by decide, fun t ht => ht.elim⟩ | (refine ⟨by decide, ?_⟩; simp; done)))); simp only [go_sem])
  rcases (Decidable.em ((k : Int) ∈ x.aut.marked)) with hm | hm
  ·rw [decide_eq_true hm] at hmk
   rw [hst, if_pos hm] at hres2
   (repeat' (first | (with_reducible first | exact True.intro | refine And.intro ?_ ?_ | refine aBl ?_ | (refine aS 12 [27, 26, 28, 44, 61, 60, 62, 45] ?_; intro K hK)) | ((with_reducible first | refine aGo ?_ | refine rP Ty_ok mixed 1 [0, 2, 7] [.mid [pe 1, pe 3, pe 4, pe 5, pe 6, pe 8, pe 9] 0, .one 10] ?_ | refine rP Ty_ok mixed 19 [0, 1, 2, 9] [.mid [pe 3, pe 4, pe 5, pe 6, pe 7, pe 8, pe 10, ⟨11, 0, true, false, false, [], []⟩, ⟨12, 1, false, false, false, [], []⟩] 1, .one 13] ?_); simp only [go_sem]) | ((with_reducible refine aCd ?_ ?_ (fun hb => ?_) (fun hb => ?_)); (iterate 2 simp only [go_sem]); all_goals (simp only [go_sem] at hb; try simp only [bls] at hb)) | ((iterate 6 try ((fail_if_success with_reducible refine hK _ ?_ ?_ ?_); clear hK K)); with_reducible refine hK _ ?_ ?_ ?_; rotate_left; (focus (simp only [go_sem]; exact rfl)); clear hK K) | ((first | (with_reducible first | refine xA ?_ | refine xD ?_ | refine xO ?_ | refine xR ?_ | refine xG ?_ | refine xH ?_ | refine xM ?_) | ((with_reducible refine gA ?_); refine xA ?_) | ((with_reducible refine gD ?_); refine xD ?_) | ((with_reducible refine gG ?_); refine xG ?_)); simp only [go_sem]) | (with_reducible refine aGs (fun hg0 => ?_) (fun hg0 => ?_) <;> first | (with_reducible first | exact aF1 hg0 | exact aF2 hg0) | (simp only [hg0, go_sem])) | (with_reducible refine aNk ?_; intro bnil hnil; try simp only []) | exact aZ | fail))
   all_goals first | omega | skip
   have hw5 := WriteString_u (q ++ 32 :: 32 :: ik) [32, 109, 97, 114, 107, 101, 100] (by simp only [List.length_append, List.length_cons, List.length_nil]; omega)
   simp only [bldU, bldR] at hw5
   (refine MCallAt_i [] [0, 1] (hw5) ?_ ?_; (focus (simp only [mside, handOk, go_sem]; (first | done | exact (by decide) | exact ⟨by decide, fun t ht => ht.elim⟩ | (refine ⟨by decide, ?_⟩; simp; done)))); simp only [go_sem])
   (repeat' (first | (with_reducible first | exact True.intro | refine And.intro ?_ ?_ | refine aBl ?_ | (refine aS 12 [27, 26, 28, 44, 61, 60, 62, 45] ?_; intro K hK)) | ((with_reducible first | refine aGo ?_ | refine rP Ty_ok mixed 1 [0, 2, 7] [.mid [pe 1, pe 3, pe 4, pe 5, pe 6, pe 8, pe 9] 0, .one 10] ?_ | refine rP Ty_ok mixed 19 [0, 1, 2, 9] [.mid [pe 3, pe 4, pe 5, pe 6, pe 7, pe 8, pe 10, ⟨11, 0, true, false, false, [], []⟩, ⟨12, 1, false, false, false, [], []⟩] 1, .one 13] ?_); simp only [go_sem]) | ((with_reducible refine aCd ?_ ?_ (fun hb => ?_) (fun hb => ?_)); (iterate 2 simp only [go_sem]); all_goals (simp only [go_sem] at hb; try simp only [bls] at hb)) | ((iterate 6 try ((fail_if_success with_reducible refine hK _ ?_ ?_ ?_); clear hK K)); with_reducible refine hK _ ?_ ?_ ?_; rotate_left; (focus (simp only [go_sem]; exact rfl)); clear hK K) | (with_reducible refine aGs (fun hg0 => ?_) (fun hg0 => ?_) <;> first | (with_reducible first | exact aF1 hg0 | exact aF2 hg0) | (simp only [hg0, go_sem])) | (with_reducible refine aNk ?_; intro bnil hnil; try simp only []) | exact aZ | fail))
   all_goals first | omega | skip
   have hM0 : M = q ++ 32 :: 32 :: ik ++ [32, 109, 97, 114, 107, 101, 100] ++ edgeS E k x.aut.edges ++ [10] ++ statesS E x.aut (k + 1) (n - (k + 1)) := by rw [hres2]; simp
   have hl0 : (q ++ 32 :: 32 :: ik ++ [32, 109, 97, 114, 107, 101, 100]).length ≤ 11000 + 13000 * k + 50 := by simp only [List.length_append, List.length_cons, List.length_nil]; omega
   generalize q ++ 32 :: 32 :: ik ++ [32, 109, 97, 114, 107, 101, 100] = r0 at *
   clear hw2
   refine awp_loop _ (by simp only [go_sem]; rfl) (Nat × List UInt8) (fun z => z.1 ≤ x.aut.edges.length ∧ M = z.2 ++ edgeS E k (x.aut.edges.drop z.1) ++ [10] ++ statesS E x.aut (k + 1) (n - (k + 1)) ∧ z.2.length ≤ r0.length + 125 * z.1) (fun z => [(62, .one (.int .i64 z.1))]) (fun z H => H.set 1 (.row 5 1 (strRows z.2))) (fun z => x.aut.edges.length - z.1) (0, r0) ⟨by omega, by simpa using hM0, by dsimp only; omega⟩ ?_ ?_
   ·(simp only [SubF, go_sem]; (try simp only [go_sem]); repeat' (first | exact True.intro | with_reducible refine And.intro ?_ ?_ | rfl | omega))
   rintro ⟨j, r⟩ ⟨hj, hres3, hrl⟩ L hL
   dsimp only at hj hres3 hrl
   have hqj : ((j : Nat) : Int).toNat = j := by omega
   by_cases hjl : j < x.aut.edges.length
   ·have hi2 := f10 _ (getD_mem x.aut.edges j Ed.no hjl)
    rw [drop_getD x.aut.edges j Ed.no hjl, edgeS, List.flatMap_cons] at hres3
    generalize hyd : x.aut.edges.getD j Ed.no = y at *
    have he : evN E y.ev = (E.getD y.ev.toNat Ev.no).name := rfl
    have hel := f4 _ (getD_mem E y.ev.toNat Ev.no (by omega))
    rw [← he] at hel
    have hic := itoa_c y.dst (by omega) (by omega)
    have hicl := Lib.itoa_length_le y.dst (by omega) (by omega)
    generalize evN E y.ev = nm at *
    generalize Lib.itoa y.dst = iy at *
    rcases (Decidable.em (y.src = k)) with hsk | hsk
    ·rw [if_pos hsk] at hres3
     have hw3 := WriteString_u r (32 :: (nm ++ [62] ++ iy)) (by simp only [List.length_append, List.length_cons, List.length_nil]; omega)
     simp only [bldU, bldR] at hw3
     simp only [go_sem] at hL ⊢
     (repeat' (first | (with_reducible first | exact True.intro | refine And.intro ?_ ?_ | refine aBl ?_ | (refine aS 12 [27, 26, 28, 44, 61, 60, 62, 45] ?_; intro K hK)) | ((with_reducible first | refine aGo ?_ | refine rP Ty_ok mixed 1 [0, 2, 7] [.mid [pe 1, pe 3, pe 4, pe 5, pe 6, pe 8, pe 9] 0, .one 10] ?_ | refine rP Ty_ok mixed 19 [0, 1, 2, 9] [.mid [pe 3, pe 4, pe 5, pe 6, pe 7, pe 8, pe 10, ⟨11, 0, true, false, false, [], []⟩, ⟨12, 1, false, false, false, [], []⟩] 1, .one 13] ?_); simp only [hqj, hyd, hsk, ← he, go_sem]) | ((with_reducible refine aCd ?_ ?_ (fun hb => ?_) (fun hb => ?_)); (iterate 2 simp only [hqj, hyd, hsk, ← he, go_sem]); all_goals (simp only [hqj, hyd, hsk, ← he, go_sem] at hb; try simp only [bls] at hb)) | ((iterate 6 try ((fail_if_success with_reducible refine hK _ ?_ ?_ ?_); clear hK K)); with_reducible refine hK _ ?_ ?_ ?_; rotate_left; (focus (simp only [hqj, hyd, hsk, ← he, go_sem]; exact rfl)); clear hK K) | ((first | (with_reducible first | refine xA ?_ | refine xD ?_ | refine xO ?_ | refine xR ?_ | refine xG ?_ | refine xH ?_ | refine xM ?_) | ((with_reducible refine gA ?_); refine xA ?_) | ((with_reducible refine gD ?_); refine xD ?_) | ((with_reducible refine gG ?_); refine xG ?_)); simp only [hqj, hyd, hsk, ← he, go_sem]) | (with_reducible refine aGs (fun hg0 => ?_) (fun hg0 => ?_) <;> first | (with_reducible first | exact aF1 hg0 | exact aF2 hg0) | (simp only [hg0, hqj, hyd, hsk, ← he, go_sem])) | (with_reducible refine aNk ?_; intro bnil hnil; try simp only []) | exact aZ | fail))
     all_goals first | omega | (simp only [List.length_append, List.length_cons, List.length_nil]; omega) | skip
     (refine MCallAt_i [] [0, 1] (hw3) ?_ ?_; (focus (simp only [mside, handOk, go_sem]; (first | done | exact (by decide) | exact ⟨by decide, fun t ht => ht.elim⟩ | (refine ⟨by decide, ?_⟩; simp; done)))); simp only [go_sem])
     (repeat' (first | (with_reducible first | exact True.intro | refine And.intro ?_ ?_ | refine aBl ?_ | (refine aS 12 [27, 26, 28, 44, 61, 60, 62, 45] ?_; intro K hK)) | ((with_reducible first | refine aGo ?_ | refine rP Ty_ok mixed 1 [0, 2, 7] [.mid [pe 1, pe 3, pe 4, pe 5, pe 6, pe 8, pe 9] 0, .one 10] ?_ | refine rP Ty_ok mixed 19 [0, 1, 2, 9] [.mid [pe 3, pe 4, pe 5, pe 6, pe 7, pe 8, pe 10, ⟨11, 0, true, false, false, [], []⟩, ⟨12, 1, false, false, false, [], []⟩] 1, .one 13] ?_); simp only [go_sem]) | ((with_reducible refine aCd ?_ ?_ (fun hb => ?_) (fun hb => ?_)); (iterate 2 simp only [go_sem]); all_goals (simp only [go_sem] at hb; try simp only [bls] at hb)) | ((iterate 6 try ((fail_if_success with_reducible refine hK _ ?_ ?_ ?_); clear hK K)); with_reducible refine hK _ ?_ ?_ ?_; rotate_left; (focus (simp only [go_sem]; exact rfl)); clear hK K) | (with_reducible refine aGs (fun hg0 => ?_) (fun hg0 => ?_) <;> first | (with_reducible first | exact aF1 hg0 | exact aF2 hg0) | (simp only [hg0, go_sem])) | (with_reducible refine aNk ?_; intro bnil hnil; try simp only []) | exact aZ | fail))
     all_goals first | omega | skip
     refine hL _ (j + 1, r ++ 32 :: (nm ++ [62] ++ iy)) ⟨by omega, by rw [hres3, edgeS]; simp, by simp only [List.length_append, List.length_cons, List.length_nil]; omega⟩ ?_ (by dsimp only; omega)
     (simp only [SubF, go_sem]; (try simp only [go_sem]); repeat' (first | exact True.intro | with_reducible refine And.intro ?_ ?_ | rfl | omega))
    rw [if_neg hsk, List.nil_append] at hres3
    have hsf : (y.src == (k : Int)) = false := by simpa using hsk
    simp only [go_sem] at hL ⊢
    (repeat' (first | (with_reducible first | exact True.intro | refine And.intro ?_ ?_ | refine aBl ?_ | (refine aS 12 [27, 26, 28, 44, 61, 60, 62, 45] ?_; intro K hK)) | ((with_reducible first | refine aGo ?_ | refine rP Ty_ok mixed 1 [0, 2, 7] [.mid [pe 1, pe 3, pe 4, pe 5, pe 6, pe 8, pe 9] 0, .one 10] ?_ | refine rP Ty_ok mixed 19 [0, 1, 2, 9] [.mid [pe 3, pe 4, pe 5, pe 6, pe 7, pe 8, pe 10, ⟨11, 0, true, false, false, [], []⟩, ⟨12, 1, false, false, false, [], []⟩] 1, .one 13] ?_); simp only [hqj, hyd, hsf, go_sem]) | ((with_reducible refine aCd ?_ ?_ (fun hb => ?_) (fun hb => ?_)); (iterate 2 simp only [hqj, hyd, hsf, go_sem]); all_goals (simp only [hqj, hyd, hsf, go_sem] at hb; try simp only [bls] at hb)) | ((iterate 6 try ((fail_if_success with_reducible refine hK _ ?_ ?_ ?_); clear hK K)); with_reducible refine hK _ ?_ ?_ ?_; rotate_left; (focus (simp only [hqj, hyd, hsf, go_sem]; exact rfl)); clear hK K) | (with_reducible refine aGs (fun hg0 => ?_) (fun hg0 => ?_) <;> first | (with_reducible first | exact aF1 hg0 | exact aF2 hg0) | (simp only [hg0, hqj, hyd, hsf, go_sem])) | (with_reducible refine aNk ?_; intro bnil hnil; try simp only []) | exact aZ | fail))
    all_goals first | omega | skip
    refine hL _ (j + 1, r) ⟨by omega, by rw [hres3, edgeS], by dsimp only; omega⟩ ?_ (by dsimp only; omega)
    (simp only [SubF, go_sem]; (try simp only [go_sem]); repeat' (first | exact True.intro | with_reducible refine And.intro ?_ ?_ | rfl | omega))
   have hjk : j = x.aut.edges.length := by omega
   subst hjk
   rw [List.drop_length, edgeS, List.flatMap_nil, List.append_nil] at hres3
   have hw4 := WriteByte_u r 10 (by omega)
   simp only [bldU, bldR] at hw4
   simp only [go_sem] at hL ⊢
   (repeat' (first | (with_reducible first | exact True.intro | refine And.intro ?_ ?_ | refine aBl ?_ | (refine aS 12 [27, 26, 28, 44, 61, 60, 62, 45] ?_; intro K hK)) | ((with_reducible first | refine aGo ?_ | refine rP Ty_ok mixed 1 [0, 2, 7] [.mid [pe 1, pe 3, pe 4, pe 5, pe 6, pe 8, pe 9] 0, .one 10] ?_ | refine rP Ty_ok mixed 19 [0, 1, 2, 9] [.mid [pe 3, pe 4, pe 5, pe 6, pe 7, pe 8, pe 10, ⟨11, 0, true, false, false, [], []⟩, ⟨12, 1, false, false, false, [], []⟩] 1, .one 13] ?_); simp only [go_sem]) | ((with_reducible refine aCd ?_ ?_ (fun hb => ?_) (fun hb => ?_)); (iterate 2 simp only [go_sem]); all_goals (simp only [go_sem] at hb; try simp only [bls] at hb)) | ((iterate 6 try ((fail_if_success with_reducible refine hK _ ?_ ?_ ?_); clear hK K)); with_reducible refine hK _ ?_ ?_ ?_; rotate_left; (focus (simp only [go_sem]; exact rfl)); clear hK K) | (with_reducible refine aGs (fun hg0 => ?_) (fun hg0 => ?_) <;> first | (with_reducible first | exact aF1 hg0 | exact aF2 hg0) | (simp only [hg0, go_sem])) | (with_reducible refine aNk ?_; intro bnil hnil; try simp only []) | exact aZ | fail))
   all_goals first | omega | skip
   (refine MCallAt_i [] [0, 1] (hw4) ?_ ?_; (focus (simp only [mside, handOk, go_sem]; (first | done | exact (by decide) | exact ⟨by decide, fun t ht => ht.elim⟩ | (refine ⟨by decide, ?_⟩; simp; done)))); simp only [go_sem])
   (repeat' (first | (with_reducible first | exact True.intro | refine And.intro ?_ ?_ | refine aBl ?_ | (refine aS 12 [27, 26, 28, 44, 61, 60, 62, 45] ?_; intro K hK)) | ((with_reducible first | refine aGo ?_ | refine rP Ty_ok mixed 1 [0, 2, 7] [.mid [pe 1, pe 3, pe 4, pe 5, pe 6, pe 8, pe 9] 0, .one 10] ?_ | refine rP Ty_ok mixed 19 [0, 1, 2, 9] [.mid [pe 3, pe 4, pe 5, pe 6, pe 7, pe 8, pe 10, ⟨11, 0, true, false, false, [], []⟩, ⟨12, 1, false, false, false, [], []⟩] 1, .one 13] ?_); simp only [go_sem]) | ((with_reducible refine aCd ?_ ?_ (fun hb => ?_) (fun hb => ?_)); (iterate 2 simp only [go_sem]); all_goals (simp only [go_sem] at hb; try simp only [bls] at hb)) | ((iterate 6 try ((fail_if_success with_reducible refine hK _ ?_ ?_ ?_); clear hK K)); with_reducible refine hK _ ?_ ?_ ?_; rotate_left; (focus (simp only [go_sem]; exact rfl)); clear hK K) | (with_reducible refine aGs (fun hg0 => ?_) (fun hg0 => ?_) <;> first | (with_reducible first | exact aF1 hg0 | exact aF2 hg0) | (simp only [hg0, go_sem])) | (with_reducible refine aNk ?_; intro bnil hnil; try simp only []) | exact aZ | fail))
   all_goals first | omega | skip
   refine hLo _ (k + 1, r ++ [10]) ⟨by omega, hres3, by simp only [List.length_append, List.length_cons, List.length_nil]; omega⟩ ?_ (by dsimp only; omega)
   (simp only [SubF, hn, go_sem]; (try simp only [hn, go_sem]); repeat' (first | exact True.intro | with_reducible refine And.intro ?_ ?_ | rfl | omega))
  ·rw [decide_eq_false hm] at hmk
   rw [hst, if_neg hm] at hres2
   (repeat' (first | (with_reducible first | exact True.intro | refine And.intro ?_ ?_ | refine aBl ?_ | (refine aS 12 [27, 26, 28, 44, 61, 60, 62, 45] ?_; intro K hK)) | ((with_reducible first | refine aGo ?_ | refine rP Ty_ok mixed 1 [0, 2, 7] [.mid [pe 1, pe 3, pe 4, pe 5, pe 6, pe 8, pe 9] 0, .one 10] ?_ | refine rP Ty_ok mixed 19 [0, 1, 2, 9] [.mid [pe 3, pe 4, pe 5, pe 6, pe 7, pe 8, pe 10, ⟨11, 0, true, false, false, [], []⟩, ⟨12, 1, false, false, false, [], []⟩] 1, .one 13] ?_); simp only [go_sem]) | ((with_reducible refine aCd ?_ ?_ (fun hb => ?_) (fun hb => ?_)); (iterate 2 simp only [go_sem]); all_goals (simp only [go_sem] at hb; try simp only [bls] at hb)) | ((iterate 6 try ((fail_if_success with_reducible refine hK _ ?_ ?_ ?_); clear hK K)); with_reducible refine hK _ ?_ ?_ ?_; rotate_left; (focus (simp only [go_sem]; exact rfl)); clear hK K) | ((first | (with_reducible first | refine xA ?_ | refine xD ?_ | refine xO ?_ | refine xR ?_ | refine xG ?_ | refine xH ?_ | refine xM ?_) | ((with_reducible refine gA ?_); refine xA ?_) | ((with_reducible refine gD ?_); refine xD ?_) | ((with_reducible refine gG ?_); refine xG ?_)); simp only [go_sem]) | (with_reducible refine aGs (fun hg0 => ?_) (fun hg0 => ?_) <;> first | (with_reducible first | exact aF1 hg0 | exact aF2 hg0) | (simp only [hg0, go_sem])) | (with_reducible refine aNk ?_; intro bnil hnil; try simp only []) | exact aZ | fail))
   all_goals first | omega | skip
   have hM0 : M = q ++ 32 :: 32 :: ik ++ edgeS E k x.aut.edges ++ [10] ++ statesS E x.aut (k + 1) (n - (k + 1)) := by rw [hres2]; simp
   have hl0 : (q ++ 32 :: 32 :: ik).length ≤ 11000 + 13000 * k + 50 := by simp only [List.length_append, List.length_cons, List.length_nil]; omega
   generalize q ++ 32 :: 32 :: ik = r0 at *
   clear hw2
   refine awp_loop _ (by simp only [go_sem]; rfl) (Nat × List UInt8) (fun z => z.1 ≤ x.aut.edges.length ∧ M = z.2 ++ edgeS E k (x.aut.edges.drop z.1) ++ [10] ++ statesS E x.aut (k + 1) (n - (k + 1)) ∧ z.2.length ≤ r0.length + 125 * z.1) (fun z => [(62, .one (.int .i64 z.1))]) (fun z H => H.set 1 (.row 5 1 (strRows z.2))) (fun z => x.aut.edges.length - z.1) (0, r0) ⟨by omega, by simpa using hM0, by dsimp only; omega⟩ ?_ ?_
   ·(simp only [SubF, go_sem]; (try simp only [go_sem]); repeat' (first | exact True.intro | with_reducible refine And.intro ?_ ?_ | rfl | omega))
   rintro ⟨j, r⟩ ⟨hj, hres3, hrl⟩ L hL
   dsimp only at hj hres3 hrl
   have hqj : ((j : Nat) : Int).toNat = j := by omega
   by_cases hjl : j < x.aut.edges.length
   ·have hi2 := f10 _ (getD_mem x.aut.edges j Ed.no hjl)
    rw [drop_getD x.aut.edges j Ed.no hjl, edgeS, List.flatMap_cons] at hres3
    generalize hyd : x.aut.edges.getD j Ed.no = y at *
    have he : evN E y.ev = (E.getD y.ev.toNat Ev.no).name := rfl
    have hel := f4 _ (getD_mem E y.ev.toNat Ev.no (by omega))
    rw [← he] at hel
    have hic := itoa_c y.dst (by omega) (by omega)
    have hicl := Lib.itoa_length_le y.dst (by omega) (by omega)
    generalize evN E y.ev = nm at *
    generalize Lib.itoa y.dst = iy at *
    rcases (Decidable.em (y.src = k)) with hsk | hsk
    ·rw [if_pos hsk] at hres3
     have hw3 := WriteString_u r (32 :: (nm ++ [62] ++ iy)) (by simp only [List.length_append, List.length_cons, List.length_nil]; omega)
     simp only [bldU, bldR] at hw3
     simp only [go_sem] at hL ⊢
     (repeat' (first | (with_reducible first | exact True.intro | refine And.intro ?_ ?_ | refine aBl ?_ | (refine aS 12 [27, 26, 28, 44, 61, 60, 62, 45] ?_; intro K hK)) | ((with_reducible first | refine aGo ?_ | refine rP Ty_ok mixed 1 [0, 2, 7] [.mid [pe 1, pe 3, pe 4, pe 5, pe 6, pe 8, pe 9] 0, .one 10] ?_ | refine rP Ty_ok mixed 19 [0, 1, 2, 9] [.mid [pe 3, pe 4, pe 5, pe 6, pe 7, pe 8, pe 10, ⟨11, 0, true, false, false, [], []⟩, ⟨12, 1, false, false, false, [], []⟩] 1, .one 13] ?_); simp only [hqj, hyd, hsk, ← he, go_sem]) | ((with_reducible refine aCd ?_ ?_ (fun hb => ?_) (fun hb => ?_)); (iterate 2 simp only [hqj, hyd, hsk, ← he, go_sem]); all_goals (simp only [hqj, hyd, hsk, ← he, go_sem] at hb; try simp only [bls] at hb)) | ((iterate 6 try ((fail_if_success with_reducible refine hK _ ?_ ?_ ?_); clear hK K)); with_reducible refine hK _ ?_ ?_ ?_; rotate_left; (focus (simp only [hqj, hyd, hsk, ← he, go_sem]; exact rfl)); clear hK K) | ((first | (with_reducible first | refine xA ?_ | refine xD ?_ | refine xO ?_ | refine xR ?_ | refine xG ?_ | refine xH ?_ | refine xM ?_) | ((with_reducible refine gA ?_); refine xA ?_) | ((with_reducible refine gD ?_); refine xD ?_) | ((with_reducible refine gG ?_); refine xG ?_)); simp only [hqj, hyd, hsk, ← he, go_sem]) | (with_reducible refine aGs (fun hg0 => ?_) (fun hg0 => ?_) <;> first | (with_reducible first | exact aF1 hg0 | exact aF2 hg0) | (simp only [hg0, hqj, hyd, hsk, ← he, go_sem])) | (with_reducible refine aNk ?_; intro bnil hnil; try simp only []) | exact aZ | fail))
     all_goals first | omega | (simp only [List.length_append, List.length_cons, List.length_nil]; omega) | skip
     (refine MCallAt_i [] [0, 1] (hw3) ?_ ?_; (focus (simp only [mside, handOk, go_sem]; (first | done | exact (by decide) | exact ⟨by decide, fun t ht => ht.elim⟩ | (refine ⟨by decide, ?_⟩; simp; done)))); simp only [go_sem])
     (repeat' (first | (with_reducible first | exact True.intro | refine And.intro ?_ ?_ | refine aBl ?_ | (refine aS 12 [27, 26, 28, 44, 61, 60, 62, 45] ?_; intro K hK)) | ((with_reducible first | refine aGo ?_ | refine rP Ty_ok mixed 1 [0, 2, 7] [.mid [pe 1, pe 3, pe 4, pe 5, pe 6, pe 8, pe 9] 0, .one 10] ?_ | refine rP Ty_ok mixed 19 [0, 1, 2, 9] [.mid [pe 3, pe 4, pe 5, pe 6, pe 7, pe 8, pe 10, ⟨11, 0, true, false, false, [], []⟩, ⟨12, 1, false, false, false, [], []⟩] 1, .one 13] ?_); simp only [go_sem]) | ((with_reducible refine aCd ?_ ?_ (fun hb => ?_) (fun hb => ?_)); (iterate 2 simp only [go_sem]); all_goals (simp only [go_sem] at hb; try simp only [bls] at hb)) | ((iterate 6 try ((fail_if_success with_reducible refine hK _ ?_ ?_ ?_); clear hK K)); with_reducible refine hK _ ?_ ?_ ?_; rotate_left; (focus (simp only [go_sem]; exact rfl)); clear hK K) | (with_reducible refine aGs (fun hg0 => ?_) (fun hg0 => ?_) <;> first | (with_reducible first | exact aF1 hg0 | exact aF2 hg0) | (simp only [hg0, go_sem])) | (with_reducible refine aNk ?_; intro bnil hnil; try simp only []) | exact aZ | fail))
     all_goals first | omega | skip
     refine hL _ (j + 1, r ++ 32 :: (nm ++ [62] ++ iy)) ⟨by omega, by rw [hres3, edgeS]; simp, by simp only [List.length_append, List.length_cons, List.length_nil]; omega⟩ ?_ (by dsimp only; omega)
     (simp only [SubF, go_sem]; (try simp only [go_sem]); repeat' (first | exact True.intro | with_reducible refine And.intro ?_ ?_ | rfl | omega))
    rw [if_neg hsk, List.nil_append] at hres3
    have hsf : (y.src == (k : Int)) = false := by simpa using hsk
    simp only [go_sem] at hL ⊢
    (repeat' (first | (with_reducible first | exact True.intro | refine And.intro ?_ ?_ | refine aBl ?_ | (refine aS 12 [27, 26, 28, 44, 61, 60, 62, 45] ?_; intro K hK)) | ((with_reducible first | refine aGo ?_ | refine rP Ty_ok mixed 1 [0, 2, 7] [.mid [pe 1, pe 3, pe 4, pe 5, pe 6, pe 8, pe 9] 0, .one 10] ?_ | refine rP Ty_ok mixed 19 [0, 1, 2, 9] [.mid [pe 3, pe 4, pe 5, pe 6, pe 7, pe 8, pe 10, ⟨11, 0, true, false, false, [], []⟩, ⟨12, 1, false, false, false, [], []⟩] 1, .one 13] ?_); simp only [hqj, hyd, hsf, go_sem]) | ((with_reducible refine aCd ?_ ?_ (fun hb => ?_) (fun hb => ?_)); (iterate 2 simp only [hqj, hyd, hsf, go_sem]); all_goals (simp only [hqj, hyd, hsf, go_sem] at hb; try simp only [bls] at hb)) | ((iterate 6 try ((fail_if_success with_reducible refine hK _ ?_ ?_ ?_); clear hK K)); with_reducible refine hK _ ?_ ?_ ?_; rotate_left; (focus (simp only [hqj, hyd, hsf, go_sem]; exact rfl)); clear hK K) | (with_reducible refine aGs (fun hg0 => ?_) (fun hg0 => ?_) <;> first | (with_reducible first | exact aF1 hg0 | exact aF2 hg0) | (simp only [hg0, hqj, hyd, hsf, go_sem])) | (with_reducible refine aNk ?_; intro bnil hnil; try simp only []) | exact aZ | fail))
    all_goals first | omega | skip
    refine hL _ (j + 1, r) ⟨by omega, by rw [hres3, edgeS], by dsimp only; omega⟩ ?_ (by dsimp only; omega)
    (simp only [SubF, go_sem]; (try simp only [go_sem]); repeat' (first | exact True.intro | with_reducible refine And.intro ?_ ?_ | rfl | omega))
   have hjk : j = x.aut.edges.length := by omega
   subst hjk
   rw [List.drop_length, edgeS, List.flatMap_nil, List.append_nil] at hres3
   have hw4 := WriteByte_u r 10 (by omega)
   simp only [bldU, bldR] at hw4
   simp only [go_sem] at hL ⊢
   (repeat' (first | (with_reducible first | exact True.intro | refine And.intro ?_ ?_ | refine aBl ?_ | (refine aS 12 [27, 26, 28, 44, 61, 60, 62, 45] ?_; intro K hK)) | ((with_reducible first | refine aGo ?_ | refine rP Ty_ok mixed 1 [0, 2, 7] [.mid [pe 1, pe 3, pe 4, pe 5, pe 6, pe 8, pe 9] 0, .one 10] ?_ | refine rP Ty_ok mixed 19 [0, 1, 2, 9] [.mid [pe 3, pe 4, pe 5, pe 6, pe 7, pe 8, pe 10, ⟨11, 0, true, false, false, [], []⟩, ⟨12, 1, false, false, false, [], []⟩] 1, .one 13] ?_); simp only [go_sem]) | ((with_reducible refine aCd ?_ ?_ (fun hb => ?_) (fun hb => ?_)); (iterate 2 simp only [go_sem]); all_goals (simp only [go_sem] at hb; try simp only [bls] at hb)) | ((iterate 6 try ((fail_if_success with_reducible refine hK _ ?_ ?_ ?_); clear hK K)); with_reducible refine hK _ ?_ ?_ ?_; rotate_left; (focus (simp only [go_sem]; exact rfl)); clear hK K) | (with_reducible refine aGs (fun hg0 => ?_) (fun hg0 => ?_) <;> first | (with_reducible first | exact aF1 hg0 | exact aF2 hg0) | (simp only [hg0, go_sem])) | (with_reducible refine aNk ?_; intro bnil hnil; try simp only []) | exact aZ | fail))
   all_goals first | omega | skip
   (refine MCallAt_i [] [0, 1] (hw4) ?_ ?_; (focus (simp only [mside, handOk, go_sem]; (first | done | exact (by decide) | exact ⟨by decide, fun t ht => ht.elim⟩ | (refine ⟨by decide, ?_⟩; simp; done)))); simp only [go_sem])
   (repeat' (first | (with_reducible first | exact True.intro | refine And.intro ?_ ?_ | refine aBl ?_ | (refine aS 12 [27, 26, 28, 44, 61, 60, 62, 45] ?_; intro K hK)) | ((with_reducible first | refine aGo ?_ | refine rP Ty_ok mixed 1 [0, 2, 7] [.mid [pe 1, pe 3, pe 4, pe 5, pe 6, pe 8, pe 9] 0, .one 10] ?_ | refine rP Ty_ok mixed 19 [0, 1, 2, 9] [.mid [pe 3, pe 4, pe 5, pe 6, pe 7, pe 8, pe 10, ⟨11, 0, true, false, false, [], []⟩, ⟨12, 1, false, false, false, [], []⟩] 1, .one 13] ?_); simp only [go_sem]) | ((with_reducible refine aCd ?_ ?_ (fun hb => ?_) (fun hb => ?_)); (iterate 2 simp only [go_sem]); all_goals (simp only [go_sem] at hb; try simp only [bls] at hb)) | ((iterate 6 try ((fail_if_success with_reducible refine hK _ ?_ ?_ ?_); clear hK K)); with_reducible refine hK _ ?_ ?_ ?_; rotate_left; (focus (simp only [go_sem]; exact rfl)); clear hK K) | (with_reducible refine aGs (fun hg0 => ?_) (fun hg0 => ?_) <;> first | (with_reducible first | exact aF1 hg0 | exact aF2 hg0) | (simp only [hg0, go_sem])) | (with_reducible refine aNk ?_; intro bnil hnil; try simp only []) | exact aZ | fail))
   all_goals first | omega | skip
   refine hLo _ (k + 1, r ++ [10]) ⟨by omega, hres3, by simp only [List.length_append, List.length_cons, List.length_nil]; omega⟩ ?_ (by dsimp only; omega)
   (simp only [SubF, hn, go_sem]; (try simp only [hn, go_sem]); repeat' (first | exact True.intro | with_reducible refine And.intro ?_ ?_ | rfl | omega))
 have hkl : k = n := by omega
 subst hkl
 rw [Nat.sub_self, statesS, List.append_nil] at hres2
 subst hres2
 simp only [go_sem] at hLo ⊢
 (repeat' (first | (with_reducible first | exact True.intro | refine And.intro ?_ ?_ | refine aBl ?_ | (refine aS 12 [27, 26, 28, 44, 61, 60, 62, 45] ?_; intro K hK)) | ((with_reducible first | refine aGo ?_ | refine rP Ty_ok mixed 1 [0, 2, 7] [.mid [pe 1, pe 3, pe 4, pe 5, pe 6, pe 8, pe 9] 0, .one 10] ?_ | refine rP Ty_ok mixed 19 [0, 1, 2, 9] [.mid [pe 3, pe 4, pe 5, pe 6, pe 7, pe 8, pe 10, ⟨11, 0, true, false, false, [], []⟩, ⟨12, 1, false, false, false, [], []⟩] 1, .one 13] ?_); simp only [hn, go_sem]) | ((with_reducible refine aCd ?_ ?_ (fun hb => ?_) (fun hb => ?_)); (iterate 2 simp only [hn, go_sem]); all_goals (simp only [hn, go_sem] at hb; try simp only [bls] at hb)) | ((iterate 6 try ((fail_if_success with_reducible refine hK _ ?_ ?_ ?_); clear hK K)); with_reducible refine hK _ ?_ ?_ ?_; rotate_left; (focus (simp only [hn, go_sem]; exact rfl)); clear hK K) | (with_reducible refine aGs (fun hg0 => ?_) (fun hg0 => ?_) <;> first | (with_reducible first | exact aF1 hg0 | exact aF2 hg0) | (simp only [hg0, hn, go_sem])) | (with_reducible refine aNk ?_; intro bnil hnil; try simp only []) | exact aZ | fail))
 all_goals first | omega | rfl | skip
end Go.Proofs.YtkjnjkdcpbgabaaGreatDoor
