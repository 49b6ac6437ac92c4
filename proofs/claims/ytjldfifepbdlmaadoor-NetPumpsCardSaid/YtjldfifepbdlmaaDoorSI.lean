/-
  What NetPumps says, in plain Lean.
-/
import Derived.Test.YtjldfifepbdlmaaDoorSH
import Derived.Test.YtjldfifepbdlmaaDoorS9
set_option linter.unusedSimpArgs false
set_option linter.unusedVariables false
namespace Go.Proofs.YtjldfifepbdlmaaDoor
open Go.Eng Go.RowKit
theorem runX_of {n : Net} (hE : netE n = 0) {l : List Int} (hr : ∀ t ∈ l, 0 ≤ t ∧ t < n.trs.length) : runX n l = runF n l n.init 0 := by
  have : l.any (outB n) = false := by
    rw [List.any_eq_false]
    intro t ht
    have := hr t ht
    simp only [outB, Bool.or_eq_true, decide_eq_true_eq]; omega
  rw [runX, if_neg (by omega), if_neg (by rw [this]; decide)]
theorem make_light (s : Nat → Int) : Light (makeNet s) := by
  intro t ht a ha
  simp only [makeNet, trsL, List.mem_map] at ht
  obtain ⟨i, _, rfl⟩ := ht
  simp only [trL, arcsL, List.mem_map] at ha
  obtain ⟨p, _, rfl⟩ := ha
  simp only [outW]
  rcases Nat.lt_or_ge (s (12 + i * 5 + p) / 6 % 6).toNat 6 with h | h
  · generalize (s (12 + i * 5 + p) / 6 % 6).toNat = j at *
    match j, h with
    | 0, _ => decide
    | 1, _ => decide
    | 2, _ => decide
    | 3, _ => decide
    | 4, _ => decide
    | 5, _ => decide
  · rw [List.getD, List.getElem?_eq_none (by simpa using h)]; decide
theorem init_small (s : Nat → Int) : ∀ x ∈ (makeNet s).init, 0 ≤ x ∧ x ≤ 3 := by
  intro x hx
  simp only [makeNet, initL, List.mem_map] at hx
  obtain ⟨p, _, rfl⟩ := hx
  simp only [tok]; omega
theorem make_ne (s : Nat → Int) : (makeNet s).init ≠ [] := by
  intro h
  have : (makeNet s).init.length = 0 := by rw [h]; rfl
  rw [show (makeNet s).init.length = np s from initL_length s (np s), np] at this
  omega
theorem ne_getD {a b : List Int} (hl : a.length = b.length) (h : a ≠ b) : ∃ p, a.getD p 0 ≠ b.getD p 0 := by
  by_cases he : ∃ p, a.getD p 0 ≠ b.getD p 0
  · exact he
  · exact absurd (ext_getD hl fun p _ => by
      by_cases e : a.getD p 0 = b.getD p 0
      · exact e
      · exact absurd ⟨p, e⟩ he) h
/-- a net that pumps -/
theorem pump_facts {n : Net} (hn : NetOk n) (hw : Light n) (hi : ∀ x ∈ n.init, 0 ≤ x ∧ x ≤ 3) {nd : List SN} {ed : List Edg} {p : Int} (h : searchF n 4096 = .pump nd ed p) :
    ∃ pre pump m d : List Int, pathF nd p = pre ∧ (pathF nd ((nd.length : Int) - 1)).drop pre.length = pump ∧ pump ≠ [] ∧ pre.length ≤ 4097 ∧ pump.length ≤ 4097 ∧ d.length = m.length ∧ m.length = n.init.length ∧ (∀ q, m.getD q 0 ≤ d.getD q 0) ∧ m ≠ d ∧
      ∀ k, k ≤ 3 → runX n (wordL pre pump k) = (againL m d k, ((wordL pre pump k).length : Int), (0 : Int)) := by
  have hL := (search_linked n 4096).1 nd ed p h
  obtain ⟨hN, hlen, rfl, hne⟩ := (search_ok n hn).1 nd ed p h
  have hp := (outer_err n 4096 4098 0 [⟨n.init, -1, -1⟩] []).2 nd ed _ h
  obtain ⟨hpl, rest, hr, hpath⟩ := path_pump hN hne hp
  have h0 := hL.ne
  have hlast := pathF_fires hL (k := (nd.length : Int) - 1) (by omega) (by omega)
  have hfirst := pathF_fires hL hp hpl
  have el : ((nd.length : Int) - 1).toNat = nd.length - 1 := by omega
  have hpl1 := pathF_length nd ((nd.length : Int) - 1)
  rw [el] at hlast hpl1
  rw [hpath] at hlast hpl1 ⊢
  obtain ⟨x, hx1, hx2⟩ := hlast.split
  have hx := hx1.det hfirst
  subst hx
  have hlt : pumpsF nd < (nd.length : Int) - 1 := by
    by_cases e : pumpsF nd < (nd.length : Int) - 1
    · exact e
    · have e2 : pumpsF nd = (nd.length : Int) - 1 := by omega
      rw [e2] at hpath
      have := congrArg List.length hpath
      rw [List.length_append] at this
      exact absurd (List.eq_nil_of_length_eq_zero (by omega)) hr
  have hle : leqB (nd.getD (pumpsF nd).toNat SN.no).m (nd.getD (nd.length - 1) SN.no).m = true := by
    rcases pump_leq nd (nd.getD (nd.length - 1) SN.no).m (nd.length + 1) (nd.getD (nd.length - 1) SN.no).before (-1) (.inl rfl) with h | h
    · rw [show pumpF nd (nd.getD (nd.length - 1) SN.no).m (nd.length + 1) (nd.getD (nd.length - 1) SN.no).before (-1) = pumpsF nd from rfl] at h; omega
    · exact h
  have hml := hN.len _ (getD_mem nd (pumpsF nd).toNat SN.no (by omega))
  have hdl := hN.len _ (getD_mem nd (nd.length - 1) SN.no (by omega))
  rw [leq_iff (by omega)] at hle
  have hap := hL.apart (pumpsF nd).toNat (nd.length - 1) (by omega) (by omega)
  rw [List.length_append] at hpl1
  refine ⟨_, rest, _, _, rfl, by simp, hr, by omega, by omega, by omega, hml, hle, hap, fun k hk => ?_⟩
  have hf := again_fires hn hx1 hx2 hle k
  have hwl := wordL_length (pathF nd (pumpsF nd)) rest k
  rw [runX_of (netE_of hn) hf.range, run_of_fires hn hw _ 0 hf rfl hi (by
    rw [hwl]
    have : k * rest.length ≤ 3 * rest.length := Nat.mul_le_mul_right _ hk
    simp only [Int.natCast_add]
    omega), Int.zero_add]
/-- a net that does not -/
theorem stay_facts {n : Net} (hn : NetOk n) {nd : List SN} {ed : List Edg} (h : searchF n 4096 = .cont nd ed) {l : List Int} (hl : ∀ t ∈ l, 0 ≤ t ∧ t < n.trs.length) :
    ∃ m i, runX n l = (m, i, 0) ∧ m.length = (bdsL n nd).length ∧ (bdsL n nd).length = n.init.length ∧ mostB m (bdsL n nd) = true ∧ mostB n.init (bdsL n nd) = true := by
  have hL := (search_linked n 4096).2 nd ed h
  obtain ⟨hN, hlen⟩ := (search_ok n hn).2 nd ed h
  obtain ⟨b1, b2, b3⟩ := bds_from nd n.init rfl hN.len
  rw [show nd.foldl (fun a x => maxL a x.m) n.init = bdsL n nd from rfl] at b1 b2 b3
  obtain ⟨k, i, hk, hr⟩ := run_closed (search_closed h) hN l 0 0 hL.ne hl
  rw [hL.first] at hr
  have hmem := getD_mem nd k SN.no hk
  have hml := hN.len _ hmem
  refine ⟨_, i, (runX_of (netE_of hn) hl).trans hr, by omega, b1, ?_, ?_⟩
  · rw [mostB, decide_eq_true_eq]; exact fun p _ => b3 _ hmem p
  · rw [mostB, decide_eq_true_eq]; exact fun p _ => b2 p
end Go.Proofs.YtjldfifepbdlmaaDoor
