/-
 Contracts: nets of a shape.
-/
import Derived.Test.YtljpfdehnjemlaaDoorN2
set_option linter.unusedSimpArgs false
set_option linter.unusedVariables false
namespace Go.Proofs.YtljpfdehnjemlaaDoor
open Go.Eng Go.RowKit
def bytesD (n : Nat) (s : Nat → Int) : List D := (List.range n).map fun i => D.int .u8 (s i)
theorem bytesD_length (n : Nat) (s : Nat → Int) : (bytesD n s).length = n := by simp [bytesD]
theorem bytesD_at (n : Nat) (s : Nat → Int) (k : Nat) (hk : k < n) : ((bytesD n s).drop k).headD .unk = .int .u8 (s k) := by
 have hl : k < (bytesD n s).length := by rw [bytesD_length]; exact hk
 rw [List.drop_eq_getElem_cons hl]
 simp [bytesD]
theorem bytesD_head (n : Nat) (s : Nat → Int) (hk : 0 < n) : (bytesD n s).headD .unk = .int .u8 (s 0) := bytesD_at n s 0 hk
theorem bytesD_tags (n m : Nat) (s : Nat → Int) : (bytesD n s).all (D.tagsLt m) = true := by
 simp only [bytesD, List.all_map, List.all_eq_true]
 intro i _
 rfl
theorem bytesD_none (n : Nat) (s : Nat → Int) : (bytesD n s).flatMap D.tags = [] := by
 simp only [bytesD, List.flatMap_map, List.flatMap_eq_nil_iff]
 intro i _
 rfl
theorem bytesD_fz (n : Nat) (s : Nat → Int) (t : Nat) (o : AObj) : (bytesD n s).map (D.fz t o) = bytesD n s := by
 simp only [bytesD, List.map_map]
 rfl
attribute [go_sem] bytesD_length bytesD_fz List.length_drop bytesD_none
attribute [go_sem high] bytesD_tags
theorem wrap_mod (x m : Int) (h0 : 0 ≤ x) (hm : 0 < m) (hm2 : m < 256) : IntKind.i64.wrap (x.tmod m) = x % m := by
 rw [Int.tmod_eq_emod_of_nonneg h0]
 have := Int.emod_nonneg x (show m ≠ 0 by omega)
 have := Int.emod_lt_of_pos x hm
 exact wrap_fits ((fits_i64 _).2 ⟨by omega, by omega⟩)
def np (s : Nat → Int) : Nat := 1 + (s 0 % 5).toNat
def nt (s : Nat → Int) : Nat := min (s 1 % 6).toNat 5
def tok (s : Nat → Int) (p : Nat) : Int := s (2 + p) % 4
def initL (s : Nat → Int) (k : Nat) : List Int := (List.range k).map (tok s)
theorem initL_succ (s : Nat → Int) (k : Nat) : initL s (k + 1) = initL s k ++ [tok s k] := by simp [initL, List.range_succ]
theorem initL_length (s : Nat → Int) (k : Nat) : (initL s k).length = k := by simp [initL]
def inW (s : Nat → Int) (t p : Nat) : Int := [0, 0, 1, 0, 1, 2].getD (s (12 + t * 5 + p) % 6).toNat 0
def outW (s : Nat → Int) (t p : Nat) : Int := [0, 1, 0, 0, 1, 2].getD (s (12 + t * 5 + p) / 6 % 6).toNat 0
def arcsL (f : Nat → Int) (k : Nat) : List Arc := ((List.range k).filter fun p => decide (0 < f p)).map fun (p : Nat) => (⟨(p : Int), f p⟩ : Arc)
theorem arcsL_succ (f : Nat → Int) (k : Nat) : arcsL f (k + 1) = arcsL f k ++ if 0 < f k then [⟨k, f k⟩] else [] := by
 simp only [arcsL, List.range_succ, List.filter_append, List.map_append]
 congr 1
 by_cases h : 0 < f k <;> simp [List.filter_cons, h]
theorem tab6 (a b c d e f i : Int) (h0 : 0 ≤ i) (h6 : i < 6) (z : List D) : ([[D.int .i64 a], [D.int .i64 b], [D.int .i64 c], [D.int .i64 d], [D.int .i64 e], [D.int .i64 f]].getD i.toNat z) = [D.int .i64 ([a, b, c, d, e, f].getD i.toNat 0)] := by
 obtain ⟨n, rfl⟩ := Int.eq_ofNat_of_zero_le h0
 match n, h6 with
 | 0, _ => rfl
 | 1, _ => rfl
 | 2, _ => rfl
 | 3, _ => rfl
 | 4, _ => rfl
 | 5, _ => rfl
 | n + 6, h => exact absurd h (by omega)
theorem arcsL_length (f : Nat → Int) (k : Nat) : (arcsL f k).length ≤ k := by
 simp only [arcsL, List.length_map]
 exact Nat.le_trans (List.length_filter_le _ _) (by simp)
def trL (s : Nat → Int) (t : Nat) : Tr := ⟨s (7 + t) % 5, arcsL (inW s t) (np s), arcsL (outW s t) (np s)⟩
def trsL (s : Nat → Int) (k : Nat) : List Tr := (List.range k).map (trL s)
theorem trsL_length (s : Nat → Int) (k : Nat) : (trsL s k).length = k := by simp [trsL]
def makeNet (s : Nat → Int) : Net := ⟨initL s (np s), trsL s (nt s)⟩
def Bytes (s : Nat → Int) : Prop := ∀ i, 0 ≤ s i ∧ s i ≤ 255
end Go.Proofs.YtljpfdehnjemlaaDoor
