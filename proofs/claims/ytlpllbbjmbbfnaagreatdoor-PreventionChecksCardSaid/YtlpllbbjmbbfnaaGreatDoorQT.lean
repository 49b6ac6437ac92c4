/-
 The arguments of chapter 51's laws, opened: tasks, nets.
-/
import Derived.OpenShut
import Derived.Test.YtlpllbbjmbbfnaaGreatDoorLift
import Derived.LaidLaws
import Derived.Lay
import Derived.MakeChecks
import Derived.Stop.LaidErr
import Derived.Lib.LaidTab
import Derived.Lib.ItoaNum
import Derived.SevenTiedAt
import Derived.Test.YtlpllbbjmbbfnaaGreatDoorCards
import Derived.Test.YtlpllbbjmbbfnaaGreatDoorTie
import Derived.Test.YtlpllbbjmbbfnaaGreatDoorN3
set_option linter.unusedSimpArgs false
set_option linter.unusedVariables false
namespace Go.Eng
open Go.RowKit Go.ChangeShapes Go.WideShapes
section
variable {P : Program}
theorem repL_flat {W : World} {α : Type} {en : α → List D} {cs : List Value} {c : Nat} : ∀ (l : List α) (k : Nat), cs.length = (k + l.length) * c → (∀ i a, l[i]? = some a → RepL W NoM (en a) ((cs.drop ((k + i) * c)).take c)) → RepL W NoM (l.flatMap en) (cs.drop (k * c))
 | [], k, hl, _ => by
  rw [List.drop_of_length_le (by simpa using Nat.le_of_eq hl)]
  simp [RepL]
 | a :: l, k, hl, h => by
  have h1 := h 0 a rfl
  have h2 := repL_flat (W := W) (en := en) (cs := cs) (c := c) l (k + 1) (by rw [hl]; simp [Nat.add_comm, Nat.add_left_comm]) fun i b hb => by
   have := h (i + 1) b (by simpa using hb)
   rwa [show k + (i + 1) = k + 1 + i by omega] at this
  have h3 := RepL.append _ _ _ _ h1 h2
  rw [List.flatMap_cons]
  have e : (cs.drop ((k + 0) * c)).take c ++ cs.drop ((k + 1) * c) = cs.drop (k * c) := by
   rw [Nat.add_zero, Nat.add_mul, Nat.one_mul, ← List.drop_drop, List.take_append_drop]
  rwa [e] at h3
theorem opens_array {t e : TypeId} {n : Nat} {α : Type} {ok : α → Prop} {en : α → List D} (ht : P.underlying t = some (.array n e)) (hs : P.cellsOf t = n * P.cellsOf e) (h : Opens P e ok en) : Opens P t (fun l : List α => l.length = n ∧ ∀ a ∈ l, ok a) (fun l => l.flatMap en) := by
 intro H enc W fuel cs x hx
 obtain ⟨xs, m, _, _, hl, hn, hi⟩ := DataW.trod_array ht hx
 obtain ⟨l, hll, hR⟩ := list_of (fun i a => ok a ∧ RepL W NoM (en a) ((cs.drop (i * P.cellsOf e)).take (P.cellsOf e))) n fun i hin => by
  have := hi i hin
  rw [List.getElem?_eq_getElem (by omega)] at this
  obtain ⟨a, ha, hr⟩ := h H enc W m _ _ this
  exact ⟨a, ha, hr⟩
 refine ⟨l, ⟨hll, fun a ha => ?_⟩, ?_⟩
 ·obtain ⟨i, hi', rfl⟩ := List.mem_iff_getElem.1 ha
  exact (hR i _ (List.getElem?_eq_getElem hi')).1
 ·have := repL_flat (W := W) (en := en) (cs := cs) (c := P.cellsOf e) l 0 (by rw [hl, hs, hll]; simp) fun i a ha => by
   rw [Nat.zero_add]
   exact (hR i a ha).2
  simpa using this
end
end Go.Eng
set_option linter.unusedSimpArgs false
set_option linter.unusedVariables false
namespace Go.Eng
open Go.RowKit Go.ChangeShapes Go.WideShapes
section
variable {H : Type} {enc : TypeId × Value → H}
theorem law_lifted_laid {C : Checked} {os : Os} {f : FuncId} {fn : Func} {s : ChangeSpec} {tb : TypeId} {laid : List (String × DataW Unit)} (own : ownKnob C.prog.godebug = none) (started : os.Started) (noInit : C.prog.inits.idxOf? f = none) (hfn : C.prog.funcs[f]? = some fn)
  (hl : laidOutB C.prog = true) (hvars : s.vars = []) (hts : (fn.params.toList.all fun t => C.prog.readableRec t && decide (t < C.prog.types.size)) = true)
  (hrt : fn.resultTypes = #[tb]) (htb : C.prog.underlying tb = some .bool) (hs : ∀ ds : List (DataW H), ds.length = fn.params.toList.length → s.fn H ds = { results := [.lit (.bool true)], args := ds })
  (witness : ∃ (w : World) (tape : Tape) (i : Input), w.os = os ∧ (w.forCall tape i).Shaped C.prog ∧ i.vars = [] ∧ Input.okWide C.prog (w.forCall tape i) .any w.heap.size f i ∧
   ((s.pre enc C.prog fn [] false (w.forCall tape i).memory i.args ∧ laidMetH C.prog laid (w.forCall tape i).memory) ∧ sizedMet enc C.prog fn (OpenSpec.ofChange s) false (w.forCall tape i).memory i.args) ∧ ({} : Assume).holds C.prog (lone (Frame.enter C.prog f i.args .normal) [] (w.forCall tape i)))
  (hg : ∀ W : World, laidMetH C.prog laid W → ∀ x ∈ globs, x.1 < W.heap.size ∧ ∃ e fz, W.heap[x.1]? = some (.cells x.2 e fz))
  (hc : HO C.prog fn.params.toList fun axs => ACalls C.prog f axs (.one (.bool true)) []) :
  ReturnsInHanded {} C os f .any (fun w args => (s.pre enc C.prog fn [] false w args ∧ laidMetH C.prog laid w) ∧ sizedMet enc C.prog fn (OpenSpec.ofChange s) false w args) (s.post enc C.prog fn false true false false) := by
 refine returnsInHanded_of_change_and (X := fun w _ => laidMetH C.prog laid w) (fun _ _ _ hh h => h.of_heap hh) own started noInit hfn witness ?_
 intro W base args ds gs before hval hW _ _ hL _
 have hA := hW
 obtain ⟨p, q, hA, hV, rfl, _, _⟩ := hA
 have hlen := (trodAll_len hA).2
 obtain ⟨axs, hr, hcall⟩ := hc H enc W base args.toList ds p (fun j t v h1 h2 => hval j t v (by simpa using h1) (by simpa using h2)) hA
 refine (hcall.2 W NoM args.toList ⟨fun g h => h.elim, fun x hx => ?_⟩ hr).mono fun e W' ⟨v, β, he, hres⟩ => ⟨v, he, ?_⟩
 ·obtain ⟨h1, h2⟩ := hg W hL x hx
  exact ⟨h1, ⟨fun h => h.elim, fun h => owned_none h⟩, h2⟩
 ·exact law_post hl hW hvars hts hrt htb hres.val (hs ds hlen) hres.below
theorem glob_of_tab {P : Program} {W : World} {name : String} {g : Nat} {zs : List Int} (hg : P.globalNamed name = some g) (h : Lib.TabIs P W name .u64 zs) : g < W.heap.size ∧ ∃ e fz, W.heap[g]? = some (.cells (zs.map fun z => Value.int .u64 z).toArray e fz) := by
 unfold Lib.TabIs World.var? at h
 rw [hg] at h
 simp only [Option.bind_some] at h
 split at h
 ·rename_i cs e fz hh
  cases h
  exact ⟨(Array.getElem?_eq_some_iff.1 hh).1, e, fz, hh⟩
 ·cases h
end
end Go.Eng
set_option linter.unusedSimpArgs false
set_option linter.unusedVariables false
namespace Go.Proofs.YtlpllbbjmbbfnaaGreatDoor
open Go.Eng Go.RowKit Go.ChangeShapes
def laidL : List (String × DataW Unit) := [("math/bits.deBruijn32tab", Rows.laid_math_bits_deBruijn32tab), ("math/bits.deBruijn64tab", Rows.laid_math_bits_deBruijn64tab), ("internal/strconv.uint64pow10", Rows.laid_internal_strconv_uint64pow10)]
theorem laid_met (os : Os) (args : Array Value) : laidMetH Tryz.prog laidL ((World.laidAll Tryz.prog os laidL).forCall (fun _ _ => 0) ⟨#[], args, []⟩).memory := by
 rw [MakeChecks.laidMetH_plain _ _ _ (by kernel_rfl)]
 exact laidMet_laidAll _ (by kernel_rfl) (by kernel_rfl)
theorem powNamed : Tryz.prog.globalNamed "internal/strconv.uint64pow10" = some 0 := by kernel_rfl
theorem globs_laid (W : World) (h : laidMetH Tryz.prog laidL W) : ∀ x ∈ globs, x.1 < W.heap.size ∧ ∃ e fz, W.heap[x.1]? = some (.cells x.2 e fz) := by
 intro x hx
 rw [MakeChecks.laidMetH_plain _ _ _ (by kernel_rfl)] at h
 have ht : Lib.TabIs Tryz.prog W "internal/strconv.uint64pow10" .u64 Lib.pow10Tab :=
  Lib.tabIs_of_head (rest := []) (t := 218) (e := 185) (n := 20) powNamed (by kernel_rfl) Tryz.underlying218 Tryz.underlying185 (by kernel_rfl) (by kernel_rfl) (laidMet.tail (laidMet.tail h))
 obtain rfl := List.mem_singleton.1 hx
 exact glob_of_tab powNamed ht
theorem ownKnob_none : ownKnob Tryz.prog.godebug = none := by kernel_rfl
theorem laidOut : laidOutB Tryz.prog = true := by kernel_rfl
end Go.Proofs.YtlpllbbjmbbfnaaGreatDoor
set_option linter.unusedSimpArgs false
set_option linter.unusedVariables false
namespace Go.Proofs.YtlpllbbjmbbfnaaGreatDoor
open Go.Eng Go.RowKit Go.ChangeShapes
theorem u8_range {z : Int} (h : (Lit.int .u8 z).wf = true) : 0 ≤ z ∧ z ≤ 255 := by
 simp only [Lit.wf, Bool.and_eq_true, decide_eq_true_eq] at h
 exact ⟨h.1, Int.le_trans h.2 (by decide)⟩
def shapeG (x : Int × Int × List Int × List Int × List (List Int) × Unit) : List Int := x.1 :: x.2.1 :: (x.2.2.1 ++ x.2.2.2.1 ++ x.2.2.2.2.1.flatten)
theorem flat_u8 (l : List Int) : l.flatMap (fun z => [D.int .u8 z]) = l.map fun z => D.int .u8 z := by
 induction l with
 | nil => rfl
 | cons a l ih => simp [ih]
theorem flat_flat (l : List (List Int)) : l.flatMap (fun l => l.flatMap fun z => [D.int .u8 z]) = l.flatten.map fun z => D.int .u8 z := by
 induction l with
 | nil => rfl
 | cons a l ih => rw [List.flatMap_cons, ih, flat_u8]; simp
theorem flatten_length {l : List (List Int)} {n : Nat} (h : ∀ x ∈ l, x.length = n) : l.flatten.length = l.length * n := by
 induction l with
 | nil => simp
 | cons a l ih => simp [ih fun x hx => h x (by simp [hx]), h a (by simp), Nat.add_mul, Nat.add_comm]
set_option maxRecDepth 100000 in
theorem opens_shape : Opens Tryz.prog 25 (fun l : List Int => l.length = 37 ∧ ∀ x ∈ l, 0 ≤ x ∧ x ≤ 255) (fun l => l.map fun z => D.int .u8 z) :=
 (opens_struct Tryz.underlying25 (opensF_cons rfl (opens_int Tryz.underlying5) (opensF_cons (by kernel_rfl) (opens_int Tryz.underlying5) (opensF_cons (by kernel_rfl) (opens_array Tryz.underlying22 (by kernel_rfl) (opens_int Tryz.underlying5)) (opensF_cons (by kernel_rfl) (opens_array Tryz.underlying22 (by kernel_rfl) (opens_int Tryz.underlying5))
  (opensF_cons (by kernel_rfl) (opens_array Tryz.underlying23 (by kernel_rfl) (opens_array Tryz.underlying22 (by kernel_rfl) (opens_int Tryz.underlying5))) opensF_nil)))))).map shapeG
  (fun x h => by
   obtain ⟨a, b, l, m, n, u⟩ := x
   simp only at h
   obtain ⟨h1, h2, ⟨h3, h4⟩, ⟨h5, h6⟩, ⟨h7, h8⟩, _⟩ := h
   have h9 := flatten_length fun x hx => (h8 x hx).1
   refine ⟨?_, fun y hy => ?_⟩
   ·simp only [shapeG, List.length_cons, List.length_append]; omega
   ·simp only [shapeG, List.mem_cons, List.mem_append, List.mem_flatten] at hy
    rcases hy with rfl | rfl | (hy | hy) | ⟨z, hz, hy⟩
    ·exact u8_range h1
    ·exact u8_range h2
    ·exact u8_range (h4 _ hy)
    ·exact u8_range (h6 _ hy)
    ·exact u8_range ((h8 z hz).2 _ hy))
  (fun x => by
   obtain ⟨a, b, l, m, n, u⟩ := x
   simp only [shapeG, flat_flat]
   simp only [flat_u8, List.map_cons, List.map_append, List.append_nil, List.cons_append, List.nil_append, List.append_assoc])
theorem bytesD_of {l : List Int} {n : Nat} (h : l.length = n) : bytesD n (fun i => l.getD i 0) = l.map fun z => D.int .u8 z := by
 subst h
 apply List.ext_getElem
 ·simp [bytesD]
 ·intro i h1 h2
  simp [bytesD] at h1 ⊢
  simp [List.getElem?_eq_getElem h1]
theorem op_ints : OpArg Tryz.prog 30 (fun xs : List Int => xs.length ≤ maxLen ∧ ∀ a ∈ xs, (Lit.int .i64 a).wf = true) (fun xs => .one (.list (ints xs))) := arg_slice Tryz.underlying30 (of_decide_eq_true (by kernel_rfl)) (opens_int Tryz.underlying3)
end Go.Proofs.YtlpllbbjmbbfnaaGreatDoor
set_option linter.unusedSimpArgs false
set_option linter.unusedVariables false
namespace Go.Proofs.YtlpllbbjmbbfnaaGreatDoor
open Go.Eng Go.RowKit Go.ChangeShapes
def taskD (x : (Nat → Int) × Bool × Nat) : List D := bytesD 37 x.1 ++ [.bool x.2.1, .int .u16 x.2.2]
theorem u16_range {z : Int} (h : (Lit.int .u16 z).wf = true) : 0 ≤ z ∧ z < 65536 := by
 simp only [Lit.wf, Bool.and_eq_true, decide_eq_true_eq] at h
 exact ⟨h.1, Int.lt_of_le_of_lt h.2 (by decide)⟩
set_option maxRecDepth 100000 in
theorem opens_task : Opens Tryz.prog 28 (fun x : List Int × Bool × Int => (x.1.length = 37 ∧ ∀ y ∈ x.1, 0 ≤ y ∧ y ≤ 255) ∧ 0 ≤ x.2.2 ∧ x.2.2 < 65536) (fun x => (x.1.map fun z => D.int .u8 z) ++ [.bool x.2.1, .int .u16 x.2.2]) :=
 (opens_struct Tryz.underlying28 (opensF_cons rfl opens_shape (opensF_cons (by kernel_rfl) (opens_bool Tryz.underlying4) (opensF_cons (by kernel_rfl) (opens_int Tryz.underlying26) opensF_nil)))).map (fun x => (x.1, x.2.1, x.2.2.1)) (fun _ h => ⟨h.1, u16_range h.2.2.1⟩) (fun x => by simp)
set_option maxRecDepth 100000 in
theorem op_task : OpArg Tryz.prog 28 (fun x : (Nat → Int) × Bool × Nat => Bytes x.1 ∧ x.2.2 < 65536) (fun x => .agg (taskD x)) := by
 intro H enc W base v d ps hok hd
 obtain ⟨x, ⟨⟨h1, h2⟩, h3, h4⟩, hr⟩ := arg_struct Tryz.underlying28 opens_task H enc W base v d ps hok hd
 obtain ⟨l, b, z⟩ := x
 simp only at h1 h2 h3 h4 hr
 have e : taskD (fun i => l.getD i 0, b, z.toNat) = (l.map fun z => D.int .u8 z) ++ [.bool b, .int .u16 z] := by
  rw [taskD]
  simp only
  rw [bytesD_of h1, show ((z.toNat : Nat) : Int) = z by omega]
 refine ⟨(fun i => l.getD i 0, b, z.toNat), ⟨fun i => ?_, by simp only; omega⟩, by show RepV W NoM [] (.agg (taskD (fun i => l.getD i 0, b, z.toNat))) v; rw [e]; exact hr⟩
 by_cases hi : i < l.length
 ·exact h2 _ (getD_mem l i 0 hi)
 ·have : l.getD i 0 = 0 := by rw [List.getD, List.getElem?_eq_none (Nat.le_of_not_lt hi)]; rfl
  simp only [this]; omega
set_option maxRecDepth 100000 in
theorem opens_arc : Opens Tryz.prog 115 (fun _ : Arc => True) Arc.d :=
 (opens_struct Tryz.underlying115 (opensF_cons rfl (opens_int Tryz.underlying3) (opensF_cons (by kernel_rfl) (opens_int Tryz.underlying3) opensF_nil))).map (fun x => ⟨x.1, x.2.1⟩) (fun _ _ => trivial) (fun _ => rfl)
set_option maxRecDepth 100000 in
theorem opens_tr : Opens Tryz.prog 79 (fun _ : Tr => True) Tr.d :=
 (opens_struct Tryz.underlying79 (opensF_cons rfl (opens_int Tryz.underlying3) (opensF_cons (by kernel_rfl) (opens_slice Tryz.underlying77 (of_decide_eq_true (by kernel_rfl)) opens_arc) (opensF_cons (by kernel_rfl) (opens_slice Tryz.underlying77 (of_decide_eq_true (by kernel_rfl)) opens_arc) opensF_nil)))).map
  (fun x => ⟨x.1, x.2.1, x.2.2.1⟩) (fun _ _ => trivial) (fun _ => rfl)
set_option maxRecDepth 100000 in
theorem opens_net : Opens Tryz.prog 33 (fun _ : Net => True) Net.d :=
 (opens_struct Tryz.underlying33 (opensF_cons rfl (opens_slice Tryz.underlying30 (of_decide_eq_true (by kernel_rfl)) (opens_int Tryz.underlying3)) (opensF_cons (by kernel_rfl) (opens_slice Tryz.underlying31 (of_decide_eq_true (by kernel_rfl)) opens_tr) opensF_nil))).map
  (fun x => ⟨x.1, x.2.1⟩) (fun _ _ => trivial) (fun _ => rfl)
theorem op_net : OpArg Tryz.prog 33 (fun _ : Net => True) (fun n => .agg n.d) := arg_struct Tryz.underlying33 opens_net
def netZ : Value := .agg #[.slice none 0 0, .slice none 0 0]
def taskZ : Value := .agg (.replicate 37 (.int .u8 0) ++ #[.bool false, .int .u16 0])
end Go.Proofs.YtlpllbbjmbbfnaaGreatDoor
