/-
 Chapter 23: the law DocumentTexts.
-/
import Derived.Test.YtkjnjkdcpbgabaaGreatDoorVP
import Derived.Test.YtkjnjkdcpbgabaaGreatDoorUT
import Derived.Test.YtkjnjkdcpbgabaaGreatDoorVA
import Derived.Test.YtkjnjkdcpbgabaaGreatDoorVQ
set_option linter.unusedSimpArgs false
set_option linter.unusedVariables false
namespace Go.Proofs.YtkjnjkdcpbgabaaGreatDoor
open Go.Eng Go.RowKit
theorem csFrom_lt (m : Int) : ∀ (xs : List Int) (p : Option Int), csFrom m xs p = 0 → (∀ q, p = some q → ∀ x ∈ xs, q < x) ∧ xs.Pairwise (· < ·)
 | [], _, _ => ⟨fun _ _ x hx => by simp at hx, .nil⟩
 | y :: xs, p, h => by
  simp only [csFrom] at h
  split at h
  ·cases h
  ·split at h
   ·cases h
   ·rename_i h1 h2
    obtain ⟨q1, q2⟩ := csFrom_lt m xs _ h
    have hy := q1 y rfl
    refine ⟨fun q hq x hx => ?_, List.pairwise_cons.2 ⟨fun z hz => hy z hz, q2⟩⟩
    subst hq
    have hqy : q < y := by
     simp only [Option.any_some, decide_eq_true_eq] at h2
     omega
    rcases List.mem_cons.1 hx with rfl | hx
    ·exact hqy
    ·have := hy x hx
     omega
theorem set_nodup {xs : List Int} {m : Int} (h : checkSet xs m = 0) : xs.Nodup := ((csFrom_lt m xs none h).2).imp fun hab => by omega
theorem evN_len {E : List Ev} (h : ∀ e ∈ E, e.name.length ≤ 40) (i : Int) : (evN E i).length ≤ 40 := by
 rw [evN]
 by_cases hi : i.toNat < E.length
 ·exact h _ (getD_mem E _ Ev.no hi)
 ·simp [List.getD, List.getElem?_eq_none (Nat.le_of_not_lt hi), Ev.no]
theorem alphaS_len {E : List Ev} (h : ∀ e ∈ E, e.name.length ≤ 40) : ∀ l : List Int, (alphaS E l).length ≤ 41 * l.length
 | [] => by simp [alphaS]
 | i :: l => by
  have h1 := alphaS_len h l
  have h2 := evN_len h i
  rw [alphaS] at h1 ⊢
  simp only [List.flatMap_cons, List.length_append, List.length_cons]
  omega
theorem edgeS_len {E : List Ev} (h : ∀ e ∈ E, e.name.length ≤ 40) (s : Int) : ∀ l : List Ed, (∀ y ∈ l, I64 y.dst) → (edgeS E s l).length ≤ 63 * l.length
 | [], _ => by simp [edgeS]
 | y :: l, hy => by
  have h1 := edgeS_len h s l fun z hz => hy z (List.mem_cons_of_mem _ hz)
  have h2 := evN_len h y.ev
  have hd := hy y (List.mem_cons_self ..)
  have h3 := Lib.itoa_length_le y.dst hd.1 hd.2
  rw [edgeS] at h1 ⊢
  simp only [List.flatMap_cons, List.length_append, List.length_cons]
  split <;> simp only [List.length_append, List.length_cons, List.length_nil] <;> omega
theorem statesS_len {E : List Ev} (h : ∀ e ∈ E, e.name.length ≤ 40) (a : AU) (he : a.edges.length ≤ 6) (hd : ∀ y ∈ a.edges, I64 y.dst) : ∀ (n s : Nat), s + n ≤ 100 → (statesS E a s n).length ≤ 420 * n
 | 0, s, _ => by simp [statesS]
 | n + 1, s, hs => by
  have h1 := statesS_len h a he hd n (s + 1) (by omega)
  have h2 := edgeS_len h s a.edges hd
  have h3 := Lib.itoa_length_le s (by omega) (by omega)
  have h4 : (if (s : Int) ∈ a.marked then ([32, 109, 97, 114, 107, 101, 100] : List UInt8) else []).length ≤ 7 := by split <;> simp
  rw [statesS, stateS]
  simp only [List.length_append, List.length_cons, List.length_nil] at h1 h4 ⊢
  omega
theorem body_len {E : List Ev} {x : It} (h : ∀ e ∈ E, e.name.length ≤ 40) (hf : TFits E x) (ha : x.aut.alpha.length ≤ 6) (he : x.aut.edges.length ≤ 6) (hs : x.aut.states ≤ 40) (ho : AuOk x.aut) : (bodyS E x).length ≤ 65536 := by
 have hnm := hf.cf.name
 rw [bodyS]
 by_cases hk : x.kind ≤ 2
 ·rw [if_pos hk]
  have h1 := alphaS_len h x.aut.alpha
  have h2 := statesS_len h x.aut he (fun y hy => by have := (ho.ed y hy).1; exact ⟨by omega, by omega⟩) x.aut.states.toNat 0 (by omega)
  have h3 : (headW x.kind).length ≤ 12 := by rw [headW]; split <;> simp
  have h4 := ho.st
  rw [machS]
  simp only [List.length_append, List.length_cons, List.length_nil]
  omega
 ·rw [if_neg hk, condS]
  by_cases h3 : x.kind = 3
  ·rw [if_pos h3]
   have := joinS_len [44] (by decide) (x.locs.map exS) (by rw [List.length_map]; exact hf.cf.locs) (fun y hy => by
    obtain ⟨z, hz, rfl⟩ := List.mem_map.1 hy
    exact exS_len (hf.cf.ln z hz))
   simp only [List.length_append, List.length_cons, List.length_nil]
   omega
  ·rw [if_neg h3]
   have := joinS_len [32, 43] (by decide) (x.terms.map tmS) (by rw [List.length_map]; exact hf.cf.terms) (fun y hy => by
    obtain ⟨z, hz, rfl⟩ := List.mem_map.1 hy
    exact tmS_len (hf.cf.tn z hz))
   have hbl := Lib.itoa_length_le x.bound hf.cf.bound.1 hf.cf.bound.2
   simp only [List.length_append, List.length_cons, List.length_nil]
   omega
theorem tfits_of {E : List Ev} {x : It} (hE : E.length ≤ 6) (h : ∀ e ∈ E, e.name.length ≤ 40) (hx : fewI x = true) (hi : ItOk x) (hs : x.aut.states ≤ 40) : TFits E x ∧ x.aut.alpha.length ≤ 6 ∧ x.aut.edges.length ≤ 6 := by
 simp only [fewI, fewL, Bool.and_eq_true, decide_eq_true_eq, List.all_eq_true, nameB] at hx
 obtain ⟨⟨h1, h2, h3, h4, h5, h6⟩, h7, h8⟩ := hx
 exact ⟨⟨by omega, fun e he => by have := h e he; omega, ⟨by omega, by omega, by omega, fun y hy => ⟨by have := h7 y hy; omega, hi.locs y hy⟩, fun y hy => ⟨by have := h8 y hy; omega, hi.terms y hy⟩, hi.bound⟩, by omega, by omega, by omega, by omega⟩, h4, h6⟩
theorem text_c (E : List Ev) (x : It) (hf : TFits E x) (h : textE E x = 0) : ACalls Tryz.prog 32 [.one (.list (evs E)), .agg x.d] (.one (.str (bodyS E x))) [] := by
 rw [textE] at h
 by_cases h1 : checkEv E = 0
 ·rw [if_neg (by simp [h1])] at h
  by_cases h2 : chkL [x] = 0
  ·rw [if_neg (by simp [h2])] at h
   by_cases h3 : chkAU x.aut = 0
   ·rw [if_neg (by simp [h3])] at h
    have hn : ¬ x.aut.alpha.any (fun i => decide ((E.length : Int) ≤ i)) = true := fun hh => by rw [if_pos hh] at h; exact absurd h (by decide)
    have ho := (chk_one x).1 h2
    have he : textE E x = 0 := by rw [textE, if_neg (by simp [h1]), if_neg (by simp [h2]), if_neg (by simp [h3]), if_neg hn]
    have hkr := ho.1
    rw [bodyS]
    by_cases hk : x.kind ≤ 2
    ·rw [if_pos hk]
     exact textM_c E x (text_mfits hf he hk ho h3 hn) (set_nodup (chkAU_ok h3).marked)
    ·rw [if_neg hk]
     by_cases hk3 : x.kind = 3
     ·exact text3_c E x hf.cf hk3
     ·exact text4_c E x hf.cf (by omega)
   ·rw [if_pos h3] at h; exact absurd h h3
  ·rw [if_pos h2] at h; exact absurd h h2
 ·rw [if_pos h1] at h; exact absurd h h1
end Go.Proofs.YtkjnjkdcpbgabaaGreatDoor
