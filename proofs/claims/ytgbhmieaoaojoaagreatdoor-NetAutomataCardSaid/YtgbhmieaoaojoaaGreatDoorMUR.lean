/-
 The row and the card: NetAutomata.
-/
import Derived.Test.YtgbhmieaoaojoaaGreatDoorN3
import Derived.Test.YtgbhmieaoaojoaaGreatDoorLift4
import Derived.Test.YtgbhmieaoaojoaaGreatDoorMU
set_option linter.unusedSimpArgs false
set_option linter.unusedVariables false
namespace Go.Proofs.YtgbhmieaoaojoaaGreatDoor
open Go.Eng Go.RowKit Go.ChangeShapes
theorem u8_range {z : Int} (h : (Lit.int .u8 z).wf = true) : 0 ≤ z ∧ z ≤ 255 := by
 simp only [Lit.wf, Bool.and_eq_true, decide_eq_true_eq] at h
 exact ⟨h.1, Int.le_trans h.2 (by decide)⟩
def shapeG (x : Int × Int × List Int × List Int × List (List Int) × Unit) : List Int := x.1 :: x.2.1 :: (x.2.2.1 ++ x.2.2.2.1 ++ x.2.2.2.2.1.flatten)
theorem flat_u8 (l : List Int) : l.flatMap (fun z => [D.int .u8 z]) = l.map fun z => D.int .u8 z := by
 induction l with
 | nil => rfl
 | cons a l ih => simp [ih]
theorem flat_flat (l : List (List Int)) : l.flatMap (fun l => l.flatMap fun z => [D.int .u8 z]) = l.flatten.map fun z => D.int .u8 z := by
 induction l with
 | nil => rfl
 | cons a l ih => rw [List.flatMap_cons, ih, flat_u8]; simp
theorem flatten_length {l : List (List Int)} {n : Nat} (h : ∀ x ∈ l, x.length = n) : l.flatten.length = l.length * n := by
 induction l with
 | nil => simp
 | cons a l ih => simp [ih fun x hx => h x (by simp [hx]), h a (by simp), Nat.add_mul, Nat.add_comm]
set_option maxRecDepth 100000 in
theorem opens_shape : Opens Tryz.prog 25 (fun l : List Int => l.length = 37 ∧ ∀ x ∈ l, 0 ≤ x ∧ x ≤ 255) (fun l => l.map fun z => D.int .u8 z) :=
 (opens_struct Tryz.underlying25 (opensF_cons rfl (opens_int Tryz.underlying5) (opensF_cons (by kernel_rfl) (opens_int Tryz.underlying5) (opensF_cons (by kernel_rfl) (opens_array Tryz.underlying22 (by kernel_rfl) (opens_int Tryz.underlying5)) (opensF_cons (by kernel_rfl) (opens_array Tryz.underlying22 (by kernel_rfl) (opens_int Tryz.underlying5))
  (opensF_cons (by kernel_rfl) (opens_array Tryz.underlying23 (by kernel_rfl) (opens_array Tryz.underlying22 (by kernel_rfl) (opens_int Tryz.underlying5))) opensF_nil)))))).map shapeG
  (fun x h => by
   obtain ⟨a, b, l, m, n, u⟩ := x
   simp only at h
   obtain ⟨h1, h2, ⟨h3, h4⟩, ⟨h5, h6⟩, ⟨h7, h8⟩, _⟩ := h
   have h9 := flatten_length fun x hx => (h8 x hx).1
   refine ⟨?_, fun y hy => ?_⟩
   ·simp only [shapeG, List.length_cons, List.length_append]; omega
   ·simp only [shapeG, List.mem_cons, List.mem_append, List.mem_flatten] at hy
    rcases hy with rfl | rfl | (hy | hy) | ⟨z, hz, hy⟩
    ·exact u8_range h1
    ·exact u8_range h2
    ·exact u8_range (h4 _ hy)
    ·exact u8_range (h6 _ hy)
    ·exact u8_range ((h8 z hz).2 _ hy))
  (fun x => by
   obtain ⟨a, b, l, m, n, u⟩ := x
   simp only [shapeG, flat_flat]
   simp only [flat_u8, List.map_cons, List.map_append, List.append_nil, List.cons_append, List.nil_append, List.append_assoc])
theorem bytesD_of {l : List Int} {n : Nat} (h : l.length = n) : bytesD n (fun i => l.getD i 0) = l.map fun z => D.int .u8 z := by
 subst h
 apply List.ext_getElem
 ·simp [bytesD]
 ·intro i h1 h2
  simp [bytesD] at h1 ⊢
  simp [List.getElem?_eq_getElem h1]
set_option maxRecDepth 100000 in
theorem op_shape : OpArg Tryz.prog 25 Bytes (fun s => .agg (bytesD 37 s)) := by
 intro H enc W base v d ps hok hd
 obtain ⟨l, ⟨h1, h2⟩, hr⟩ := arg_struct Tryz.underlying25 opens_shape H enc W base v d ps hok hd
 refine ⟨fun i => l.getD i 0, fun i => ?_, by show RepV W NoM [] (.agg (bytesD 37 fun i => l.getD i 0)) v; rw [bytesD_of h1]; exact hr⟩
 by_cases hi : i < l.length
 ·exact h2 _ (getD_mem l i 0 hi)
 ·have : l.getD i 0 = 0 := by rw [List.getD, List.getElem?_eq_none (Nat.le_of_not_lt hi)]; rfl
  simp only [this]; omega
end Go.Proofs.YtgbhmieaoaojoaaGreatDoor
set_option linter.unusedSimpArgs false
set_option linter.unusedVariables false
namespace Go.Proofs.YtgbhmieaoaojoaaGreatDoor
open Go.Eng Go.RowKit Go.ChangeShapes
theorem opens_ints : Opens Tryz.prog 29 (fun l : List Int => l.length ≤ 9223372036854775807) (fun l => [.list (ints l)]) :=
 (opens_slice Tryz.underlying29 (of_decide_eq_true (by kernel_rfl)) (opens_int Tryz.underlying3)).map id (fun _ h => h.1) (fun _ => rfl)
theorem op_words : OpArg Tryz.prog 42 (fun xs : List (List Int) => xs.length ≤ maxLen ∧ ∀ a ∈ xs, a.length ≤ 9223372036854775807) (fun xs => .one (.list (wordsD xs))) := arg_slice Tryz.underlying42 (of_decide_eq_true (by kernel_rfl)) opens_ints
set_option maxRecDepth 100000 in
theorem NetAutomata_lifted (os : Os) (started : os.Started) (H : Type) (enc : TypeId × Value → H) :
  ReturnsInHanded {} Tryz.checked os 5 .any (fun w args => (Rows.netAutomataSpec.pre enc Tryz.prog Tryz.f5 [] false w args ∧ laidMetH Tryz.prog laidL w) ∧ sizedMet enc Tryz.prog Tryz.f5 (OpenSpec.ofChange Rows.netAutomataSpec) false w args) (Rows.netAutomataSpec.post enc Tryz.prog Tryz.f5 false true false false) :=
 law_lifted_laid (C := Tryz.checked) (tb := 4) (laid := laidL) ownKnob_none started (by kernel_rfl) Tryz.func5 laidOut rfl (by kernel_rfl) (by kernel_rfl) Tryz.underlying4
  (fun ds h => by
   match ds, h with
   | [_, _], _ => rfl)
  (ChangeSpec.witness_shaped (enc := enc) (C := Tryz.checked) (os := os) (X := fun w _ => laidMetH Tryz.prog laidL w) false (World.laidAll Tryz.prog os laidL) #[.agg (.replicate 37 (.int .u8 0)), .slice none 0 0] 8 (World.laidAll_os _ _ _) (World.shaped_of_ZipB (by kernel_rfl) (by kernel_rfl)) (by kernel_rfl) (by kernel_rfl) (by kernel_rfl) (laid_met os _))
  globs_laid (HO_cons op_shape fun s hs => HO_cons op_words fun l hl => HO_nil (Automata_c s hs l hl.1 hl.2))
theorem NetAutomata_row : Rows.NetAutomataSaid :=
 OpenClaim.holds_of_wide 5 Tryz.f5 rfl rfl rfl rfl rfl rfl rfl ⟨rfl, rfl, rfl, rfl, rfl⟩ rfl rfl rfl rfl rfl (by kernel_rfl) Tryz.func5 (by kernel_rfl)
  (of_decide_eq_true (by kernel_rfl)) (by unfold Func.isWrapper; rw [if_neg (by decide +kernel)]; exact ⟨rfl, rfl⟩)
  (fun os started H enc _ => NetAutomata_lifted os started H enc)
theorem NetAutomata_holds : Rows.NetAutomataCardSaid :=
 Claim7.holds_tied_plain_at .later [] [.data, .data, .data] true (true, "0603282ba6f7242b3f215da9ed18fd0a5d0c7b142f72631580e2c3cca97376a5") false
  NetAutomata_row (fun _ h => by cases h) (by kernel_rfl) (fun _ h => by cases h) netAutomata_row_tie rfl ⟨rfl, rfl⟩ (by kernel_rfl) rfl
  (fun f fn hf hfn => by
   obtain rfl : f = 5 := (Option.some.inj ((show Tryz.prog.funcNamed "overseer/overseerlaw47.NetAutomata" = some 5 by kernel_rfl).symm.trans hf)).symm
   obtain rfl : fn = Tryz.f5 := (Option.some.inj (Tryz.func5.symm.trans hfn)).symm
   exact ⟨by kernel_rfl, fun j t ht => by
    have hm : t ∈ Tryz.f5.params.toList := by simpa using Array.mem_of_getElem? ht
    have hall : (Tryz.f5.params.toList.all fun u => !Tryz.prog.wantsStandIn u) = true := by kernel_rfl
    exact (show Tryz.prog.wantsStandIn t = false by simpa using List.all_eq_true.1 hall t hm)⟩)
  (by kernel_rfl)
end Go.Proofs.YtgbhmieaoaojoaaGreatDoor
