/-
 The row and the card: PreventionRuns.
-/
import Derived.Test.YtlpllbbjmbbfnaaGreatDoorCards
import Derived.Test.YtlpllbbjmbbfnaaGreatDoorTie
import Derived.Test.YtlpllbbjmbbfnaaGreatDoorLift3
import Derived.Test.YtlpllbbjmbbfnaaGreatDoorN3
import Derived.Test.YtlpllbbjmbbfnaaGreatDoorQV
set_option linter.unusedSimpArgs false
set_option linter.unusedVariables false
namespace Go.Proofs.YtlpllbbjmbbfnaaGreatDoor
open Go.Eng Go.RowKit Go.ChangeShapes
def laidL : List (String × DataW Unit) := [("math/bits.deBruijn32tab", Rows.laid_math_bits_deBruijn32tab), ("math/bits.deBruijn64tab", Rows.laid_math_bits_deBruijn64tab), ("internal/strconv.uint64pow10", Rows.laid_internal_strconv_uint64pow10)]
theorem laid_met (os : Os) (args : Array Value) : laidMetH Tryz.prog laidL ((World.laidAll Tryz.prog os laidL).forCall (fun _ _ => 0) ⟨#[], args, []⟩).memory := by
 rw [MakeChecks.laidMetH_plain _ _ _ (by kernel_rfl)]
 exact laidMet_laidAll _ (by kernel_rfl) (by kernel_rfl)
theorem powNamed : Tryz.prog.globalNamed "internal/strconv.uint64pow10" = some 0 := by kernel_rfl
theorem globs_laid (W : World) (h : laidMetH Tryz.prog laidL W) : ∀ x ∈ globs, x.1 < W.heap.size ∧ ∃ e fz, W.heap[x.1]? = some (.cells x.2 e fz) := by
 intro x hx
 rw [MakeChecks.laidMetH_plain _ _ _ (by kernel_rfl)] at h
 have ht : Lib.TabIs Tryz.prog W "internal/strconv.uint64pow10" .u64 Lib.pow10Tab :=
  Lib.tabIs_of_head (rest := []) (t := 218) (e := 185) (n := 20) powNamed (by kernel_rfl) Tryz.underlying218 Tryz.underlying185 (by kernel_rfl) (by kernel_rfl) (laidMet.tail (laidMet.tail h))
 obtain rfl := List.mem_singleton.1 hx
 exact glob_of_tab powNamed ht
theorem ownKnob_none : ownKnob Tryz.prog.godebug = none := by kernel_rfl
theorem laidOut : laidOutB Tryz.prog = true := by kernel_rfl
end Go.Proofs.YtlpllbbjmbbfnaaGreatDoor
set_option linter.unusedSimpArgs false
set_option linter.unusedVariables false
namespace Go.Proofs.YtlpllbbjmbbfnaaGreatDoor
open Go.Eng Go.RowKit Go.ChangeShapes
theorem u8_range {z : Int} (h : (Lit.int .u8 z).wf = true) : 0 ≤ z ∧ z ≤ 255 := by
 simp only [Lit.wf, Bool.and_eq_true, decide_eq_true_eq] at h
 exact ⟨h.1, Int.le_trans h.2 (by decide)⟩
def shapeG (x : Int × Int × List Int × List Int × List (List Int) × Unit) : List Int := x.1 :: x.2.1 :: (x.2.2.1 ++ x.2.2.2.1 ++ x.2.2.2.2.1.flatten)
theorem flat_u8 (l : List Int) : l.flatMap (fun z => [D.int .u8 z]) = l.map fun z => D.int .u8 z := by
 induction l with
 | nil => rfl
 | cons a l ih => simp [ih]
theorem flat_flat (l : List (List Int)) : l.flatMap (fun l => l.flatMap fun z => [D.int .u8 z]) = l.flatten.map fun z => D.int .u8 z := by
 induction l with
 | nil => rfl
 | cons a l ih => rw [List.flatMap_cons, ih, flat_u8]; simp
theorem flatten_length {l : List (List Int)} {n : Nat} (h : ∀ x ∈ l, x.length = n) : l.flatten.length = l.length * n := by
 induction l with
 | nil => simp
 | cons a l ih => simp [ih fun x hx => h x (by simp [hx]), h a (by simp), Nat.add_mul, Nat.add_comm]
set_option maxRecDepth 100000 in
theorem opens_shape : Opens Tryz.prog 25 (fun l : List Int => l.length = 37 ∧ ∀ x ∈ l, 0 ≤ x ∧ x ≤ 255) (fun l => l.map fun z => D.int .u8 z) :=
 (opens_struct Tryz.underlying25 (opensF_cons rfl (opens_int Tryz.underlying5) (opensF_cons (by kernel_rfl) (opens_int Tryz.underlying5) (opensF_cons (by kernel_rfl) (opens_array Tryz.underlying22 (by kernel_rfl) (opens_int Tryz.underlying5)) (opensF_cons (by kernel_rfl) (opens_array Tryz.underlying22 (by kernel_rfl) (opens_int Tryz.underlying5))
  (opensF_cons (by kernel_rfl) (opens_array Tryz.underlying23 (by kernel_rfl) (opens_array Tryz.underlying22 (by kernel_rfl) (opens_int Tryz.underlying5))) opensF_nil)))))).map shapeG
  (fun x h => by
   obtain ⟨a, b, l, m, n, u⟩ := x
   simp only at h
   obtain ⟨h1, h2, ⟨h3, h4⟩, ⟨h5, h6⟩, ⟨h7, h8⟩, _⟩ := h
   have h9 := flatten_length fun x hx => (h8 x hx).1
   refine ⟨?_, fun y hy => ?_⟩
   ·simp only [shapeG, List.length_cons, List.length_append]; omega
   ·simp only [shapeG, List.mem_cons, List.mem_append, List.mem_flatten] at hy
    rcases hy with rfl | rfl | (hy | hy) | ⟨z, hz, hy⟩
    ·exact u8_range h1
    ·exact u8_range h2
    ·exact u8_range (h4 _ hy)
    ·exact u8_range (h6 _ hy)
    ·exact u8_range ((h8 z hz).2 _ hy))
  (fun x => by
   obtain ⟨a, b, l, m, n, u⟩ := x
   simp only [shapeG, flat_flat]
   simp only [flat_u8, List.map_cons, List.map_append, List.append_nil, List.cons_append, List.nil_append, List.append_assoc])
theorem bytesD_of {l : List Int} {n : Nat} (h : l.length = n) : bytesD n (fun i => l.getD i 0) = l.map fun z => D.int .u8 z := by
 subst h
 apply List.ext_getElem
 ·simp [bytesD]
 ·intro i h1 h2
  simp [bytesD] at h1 ⊢
  simp [List.getElem?_eq_getElem h1]
end Go.Proofs.YtlpllbbjmbbfnaaGreatDoor
set_option linter.unusedSimpArgs false
set_option linter.unusedVariables false
namespace Go.Proofs.YtlpllbbjmbbfnaaGreatDoor
open Go.Eng Go.RowKit Go.ChangeShapes
def taskD (x : (Nat → Int) × Bool × Nat) : List D := bytesD 37 x.1 ++ [.bool x.2.1, .int .u16 x.2.2]
theorem u16_range {z : Int} (h : (Lit.int .u16 z).wf = true) : 0 ≤ z ∧ z < 65536 := by
 simp only [Lit.wf, Bool.and_eq_true, decide_eq_true_eq] at h
 exact ⟨h.1, Int.lt_of_le_of_lt h.2 (by decide)⟩
set_option maxRecDepth 100000 in
theorem opens_task : Opens Tryz.prog 28 (fun x : List Int × Bool × Int => (x.1.length = 37 ∧ ∀ y ∈ x.1, 0 ≤ y ∧ y ≤ 255) ∧ 0 ≤ x.2.2 ∧ x.2.2 < 65536) (fun x => (x.1.map fun z => D.int .u8 z) ++ [.bool x.2.1, .int .u16 x.2.2]) :=
 (opens_struct Tryz.underlying28 (opensF_cons rfl opens_shape (opensF_cons (by kernel_rfl) (opens_bool Tryz.underlying4) (opensF_cons (by kernel_rfl) (opens_int Tryz.underlying26) opensF_nil)))).map (fun x => (x.1, x.2.1, x.2.2.1)) (fun _ h => ⟨h.1, u16_range h.2.2.1⟩) (fun x => by simp)
set_option maxRecDepth 100000 in
theorem op_task : OpArg Tryz.prog 28 (fun x : (Nat → Int) × Bool × Nat => Bytes x.1 ∧ x.2.2 < 65536) (fun x => .agg (taskD x)) := by
 intro H enc W base v d ps hok hd
 obtain ⟨x, ⟨⟨h1, h2⟩, h3, h4⟩, hr⟩ := arg_struct Tryz.underlying28 opens_task H enc W base v d ps hok hd
 obtain ⟨l, b, z⟩ := x
 simp only at h1 h2 h3 h4 hr
 have e : taskD (fun i => l.getD i 0, b, z.toNat) = (l.map fun z => D.int .u8 z) ++ [.bool b, .int .u16 z] := by
  rw [taskD]
  simp only
  rw [bytesD_of h1, show ((z.toNat : Nat) : Int) = z by omega]
 refine ⟨(fun i => l.getD i 0, b, z.toNat), ⟨fun i => ?_, by simp only; omega⟩, by show RepV W NoM [] (.agg (taskD (fun i => l.getD i 0, b, z.toNat))) v; rw [e]; exact hr⟩
 by_cases hi : i < l.length
 ·exact h2 _ (getD_mem l i 0 hi)
 ·have : l.getD i 0 = 0 := by rw [List.getD, List.getElem?_eq_none (Nat.le_of_not_lt hi)]; rfl
  simp only [this]; omega
def taskZ : Value := .agg (.replicate 37 (.int .u8 0) ++ #[.bool false, .int .u16 0])
end Go.Proofs.YtlpllbbjmbbfnaaGreatDoor
set_option linter.unusedSimpArgs false
set_option linter.unusedVariables false
namespace Go.Proofs.YtlpllbbjmbbfnaaGreatDoor
open Go.Eng Go.RowKit Go.ChangeShapes
theorem op_u8s : OpArg Tryz.prog 53 (fun xs : List Int => xs.length ≤ maxLen ∧ ∀ a ∈ xs, (Lit.int .u8 a).wf = true) (fun xs => .one (.list (u8s xs))) := arg_slice Tryz.underlying53 (of_decide_eq_true (by kernel_rfl)) (opens_int Tryz.underlying5)
set_option maxRecDepth 100000 in
theorem PreventionRuns_lifted (os : Os) (started : os.Started) (H : Type) (enc : TypeId × Value → H) :
  ReturnsInHanded {} Tryz.checked os 4 .any (fun w args => (Rows.preventionRunsSpec.pre enc Tryz.prog Tryz.f4 [] false w args ∧ laidMetH Tryz.prog laidL w) ∧ sizedMet enc Tryz.prog Tryz.f4 (OpenSpec.ofChange Rows.preventionRunsSpec) false w args) (Rows.preventionRunsSpec.post enc Tryz.prog Tryz.f4 false true false false) :=
 law_lifted_laid (C := Tryz.checked) (tb := 4) (laid := laidL) ownKnob_none started (by kernel_rfl) Tryz.func4 laidOut rfl (by kernel_rfl) (by kernel_rfl) Tryz.underlying4
  (fun ds h => by
   match ds, h with
   | [_, _], _ => rfl)
  (ChangeSpec.witness_shaped (enc := enc) (C := Tryz.checked) (os := os) (X := fun w _ => laidMetH Tryz.prog laidL w) false (World.laidAll Tryz.prog os laidL) #[taskZ, .slice none 0 0] 8 (World.laidAll_os _ _ _) (World.shaped_of_ZipB (by kernel_rfl) (by kernel_rfl)) (by kernel_rfl) (by kernel_rfl) (by kernel_rfl) (laid_met os _))
  globs_laid (HO_cons op_task fun x hx => HO_cons op_u8s fun l hl => HO_nil (PreventionRuns_c x.1 hx.1 x.2.1 x.2.2 hx.2 l (fun y hy => u8_range (hl.2 y hy)) hl.1))
theorem PreventionRuns_row : Rows.PreventionRunsSaid :=
 OpenClaim.holds_of_wide 4 Tryz.f4 rfl rfl rfl rfl rfl rfl rfl ⟨rfl, rfl, rfl, rfl, rfl⟩ rfl rfl rfl rfl rfl (by kernel_rfl) Tryz.func4 (by kernel_rfl)
  (of_decide_eq_true (by kernel_rfl)) (by unfold Func.isWrapper; rw [if_neg (by decide +kernel)]; exact ⟨rfl, rfl⟩)
  (fun os started H enc _ => PreventionRuns_lifted os started H enc)
theorem PreventionRuns_holds : Rows.PreventionRunsCardSaid :=
 Claim7.holds_tied_plain_at .later [] [.data, .data, .data] true (true, "c0cafe115ded92e8486ca3434d15a5a34424e462dc9fbc58da252d5362afe241") false
  PreventionRuns_row (fun _ h => by cases h) (by kernel_rfl) (fun _ h => by cases h) preventionRuns_row_tie rfl ⟨rfl, rfl⟩ (by kernel_rfl) rfl
  (fun f fn hf hfn => by
   obtain rfl : f = 4 := (Option.some.inj ((show Tryz.prog.funcNamed "overseer/overseerlaw51.PreventionRuns" = some 4 by kernel_rfl).symm.trans hf)).symm
   obtain rfl : fn = Tryz.f4 := (Option.some.inj (Tryz.func4.symm.trans hfn)).symm
   exact ⟨by kernel_rfl, fun j t ht => by
    have hm : t ∈ Tryz.f4.params.toList := by simpa using Array.mem_of_getElem? ht
    have hall : (Tryz.f4.params.toList.all fun u => !Tryz.prog.wantsStandIn u) = true := by kernel_rfl
    exact (show Tryz.prog.wantsStandIn t = false by simpa using List.all_eq_true.1 hall t hm)⟩)
  (by kernel_rfl)
end Go.Proofs.YtlpllbbjmbbfnaaGreatDoor
