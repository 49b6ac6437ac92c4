/-
 Chapter 05: the law's Make.
-/
import Derived.Test.YtgagpbbnbonnlaaDoorZD
import Derived.Test.YtgagpbbnbonnlaaDoorZN
set_option linter.unusedSimpArgs false
set_option linter.unusedVariables false
namespace Go.Proofs.YtgagpbbnbonnlaaDoor
open Go.Eng Go.RowKit
structure Dft where
 s : Int
 al : Int
 ini : Int
 mr : Int
 es : List Ed
def edB (l : List Ed) : List (List D) := l.map fun e => [.int .u8 e.src, .int .u8 e.ev, .int .u8 e.dst]
theorem edB_length (l : List Ed) : (edB l).length = l.length := by simp [edB]
theorem edB_sz (l : List Ed) : (∀ r : List D, r ∈ edB l → r.length = 3) ↔ True := ⟨fun _ => trivial, fun _ r hr => by obtain ⟨e, _, rfl⟩ := List.mem_map.1 hr; rfl⟩
attribute [go_sem] edB_length edB_sz
def Dft.d (d : Dft) : List D := [.int .u8 d.s, .int .u8 d.al, .int .u8 d.ini, .int .u8 d.mr, .list (edB d.es)]
def U8 (z : Int) : Prop := 0 ≤ z ∧ z ≤ 255
structure Dft.Ok (d : Dft) : Prop where
 s : U8 d.s
 al : U8 d.al
 ini : U8 d.ini
 mr : U8 d.mr
 es : ∀ e ∈ d.es, U8 e.src ∧ U8 e.ev ∧ U8 e.dst
 len : d.es.length ≤ maxLen
def Dft.n (d : Dft) : Nat := d.s.toNat % 6
def Dft.alL (d : Dft) : List Int := setOf (d.al.toNat % 16)
def Dft.iniL (d : Dft) : List Int := setOf (d.ini.toNat % 2 ^ d.n)
def Dft.mkL (d : Dft) : List Int := setOf (d.mr.toNat % 2 ^ d.n)
def Dft.off (d : Dft) (e : Ed) : Nat := e.src.toNat % d.n * 30 + e.ev.toNat % (d.alL.length + 1) * 6 + e.dst.toNat % d.n
def Dft.kb (d : Dft) (k : Nat) : List Bool := (d.es.take k).foldl (fun kb e => kb.set (d.off e) true) (List.replicate 180 false)
def Dft.cnt (d : Dft) : Nat := if d.n = 0 then 0 else min d.es.length 20
def Dft.kp (d : Dft) (i k j : Nat) : Bool := (d.kb d.cnt).getD (i * 30 + k * 6 + j) false
def Dft.na (d : Dft) : NA := ⟨d.alL, d.n, d.iniL, d.mkL, rowI d.kp d.alL d.n d.n⟩
theorem inc_len' {s : List Int} {n : Nat} (h : IncI s) (hr : ∀ x ∈ s, 0 ≤ x ∧ x < n) : s.length ≤ n := by
 have e : s = selI n fun x => decide (x ∈ s) := selI_of h fun z => by
  simp only [decide_eq_true_eq]
  exact ⟨fun hz => ⟨hr z hz, hz⟩, fun hz => hz.2⟩
 rw [e]; exact selI_length _ _
theorem setOf_lt {m k : Nat} (h : m < 2 ^ k) : ∀ x ∈ setOf m, 0 ≤ x ∧ x < (k : Int) := fun x hx => by
 obtain ⟨h1, h2, h3⟩ := (mem_bitsL m 32 x).1 hx
 refine ⟨h1, Decidable.byContradiction fun h4 => ?_⟩
 have : m < 2 ^ x.toNat := Nat.lt_of_lt_of_le h (Nat.pow_le_pow_right (by omega) (by omega))
 rw [Nat.testBit_lt_two_pow this] at h3
 cases h3
theorem Dft.al_len (d : Dft) : d.alL.length ≤ 4 := inc_len' (incr_set _) (setOf_lt (k := 4) (Nat.mod_lt _ (by decide)))
theorem Dft.n_lt (d : Dft) : d.n < 6 := Nat.mod_lt _ (by decide)
theorem Dft.ini_len (d : Dft) : d.iniL.length ≤ d.n := inc_len' (incr_set _) (setOf_lt (Nat.mod_lt _ (Nat.pow_pos (by decide))))
theorem Dft.mk_len (d : Dft) : d.mkL.length ≤ d.n := inc_len' (incr_set _) (setOf_lt (Nat.mod_lt _ (Nat.pow_pos (by decide))))
theorem Dft.ok (d : Dft) : NaOk d.na :=
 draft_ok (incr_set _) (fun x hx => (setOf_lt (k := 4) (Nat.mod_lt _ (by decide)) x hx).1) (incr_set _) (setOf_lt (Nat.mod_lt _ (Nat.pow_pos (by decide)))) (incr_set _) (setOf_lt (Nat.mod_lt _ (Nat.pow_pos (by decide))))
theorem Dft.ed_len (d : Dft) (i : Nat) (hi : i ≤ d.n) : (rowI d.kp d.alL d.n i).length ≤ 125 := by
 have h1 := rowI_len d.kp d.alL d.n i
 have h2 := d.al_len
 have h3 := d.n_lt
 have h4 : (d.alL.length + 1) * d.n ≤ 5 * 5 := Nat.mul_le_mul (by omega) (by omega)
 have h5 : i * ((d.alL.length + 1) * d.n) ≤ 5 * (5 * 5) := Nat.mul_le_mul (by omega) h4
 omega
theorem Dft.fits (d : Dft) : d.na.Fits := by
 have h1 := d.al_len
 have h2 := d.n_lt
 have h3 := d.ini_len
 have h4 := d.mk_len
 have h5 := d.ed_len d.n (Nat.le_refl _)
 exact ⟨by show d.alL.length ≤ 1000; omega, by show d.iniL.length ≤ 1000; omega, by show d.mkL.length ≤ 1000; omega, by show (rowI d.kp d.alL d.n d.n).length ≤ 1000; omega⟩
theorem Dft.chk (d : Dft) : chkNA d.na = 0 := by
 have h2 := d.n_lt
 refine chkNA_zero.2 ⟨d.ok, by show ((d.n : Nat) : Int) ≤ 4096; omega, fun x hx => ?_, fun e he => rowI_ev he⟩
 have := setOf_lt (k := 4) (Nat.mod_lt _ (by decide)) x hx
 omega
/-! the array of what is kept -/
def kD (kb : List Bool) : List D := kb.map D.bool
theorem kD_length (kb : List Bool) : (kD kb).length = kb.length := by simp [kD]
theorem kD_fz (kb : List Bool) (t : Nat) (o : AObj) : (kD kb).map (D.fz t o) = kD kb := by
 simp only [kD, List.map_map]; rfl
theorem kD_lt (kb : List Bool) (m : Nat) : (kD kb).all (D.tagsLt m) = true := by
 simp only [kD, List.all_map, List.all_eq_true]
 intro x _; rfl
theorem kD_tags (kb : List Bool) : (kD kb).flatMap D.tags = [] := by
 simp only [kD, List.flatMap_map]
 exact List.flatMap_eq_nil_iff.2 fun _ _ => rfl
attribute [go_sem] kD_length kD_fz kD_lt kD_tags
end Go.Proofs.YtgagpbbnbonnlaaDoor
