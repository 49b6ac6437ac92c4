/-
 The contract of net.key: a list of numbers as a text.
-/
import Derived.Test.YtgagpbbnbonnlaaDoorB1
import Derived.Test.YtgagpbbnbonnlaaDoorSh
import Derived.Test.YtgagpbbnbonnlaaDoorN1
import Derived.Lib.ItoaLen
set_option linter.unusedSimpArgs false
set_option linter.unusedVariables false
namespace Go.Proofs.YtgagpbbnbonnlaaDoor
open Go.RowKit Go.Eng
def keyB (l : List Int) : List UInt8 := l.flatMap fun x => Lib.itoa x ++ [32]
theorem keyB_succ (l : List Int) (k : Nat) (h : k < l.length) : keyB (l.take (k + 1)) = keyB (l.take k) ++ (Lib.itoa (l.getD k 0) ++ [32]) := by
 rw [take_succ_getD l k 0 h, keyB, keyB, List.flatMap_append]
 simp
theorem tab_keep {w w' : World} {B : Nat} {g : Nat} {zs : List Int} (hg : Tryd.prog.globalNamed "internal/strconv.uint64pow10" = some g) (hb : Eng.Below B w w') (hlt : g < B) (h : Lib.TabIs Tryd.prog w "internal/strconv.uint64pow10" .u64 zs) : Lib.TabIs Tryd.prog w' "internal/strconv.uint64pow10" .u64 zs := by
 unfold Lib.TabIs World.var? at *
 rw [hg] at h ⊢
 simp only [Option.bind_some] at h ⊢
 rw [hb.block g hlt]
 exact h
theorem keyB_length (l : List Int) (hr : ∀ x ∈ l, -9223372036854775808 ≤ x ∧ x ≤ 9223372036854775807) : (keyB l).length ≤ 22 * l.length := by
 induction l with
 | nil => simp [keyB]
 | cons a l ih =>
  have h1 := Lib.itoa_length_le a (hr a (by simp)).1 (hr a (by simp)).2
  have h2 := ih fun x hx => hr x (by simp [hx])
  simp only [keyB, List.flatMap_cons, List.length_append, List.length_cons, List.length_nil] at h2 ⊢
  omega
theorem grow_below (w : World) (n : Nat) (os : Array Obj) : Eng.Below w.heap.size w (Sort.grow (w.drewN n) os) :=
 ⟨⟨rfl, rfl, rfl, by simp [Sort.grow, World.drewN], fun k hk => by
  show (w.heap ++ os)[k]? = w.heap[k]?
  rw [Array.getElem?_append_left hk]⟩, Nat.le_add_right _ _⟩
theorem builderAt_keep {T e : TypeId} {B b : Nat} {p : Value} {bs : List Value} {w w' : World} (hb : Eng.Below w.heap.size w w') (h : Lib.BuilderAt T e B b p bs w) : Lib.BuilderAt T e B b p bs w' := by
 obtain ⟨hB, v, hbk, hown, hne⟩ := h
 refine ⟨hB, v, (hb.block b (block_lt hbk)).trans hbk, hown.kept (row := none) ⟨hb.os, hb.tape, hb.output, hb.size, fun k hk _ => hb.block k hk⟩ ?_, hne⟩
 cases v.ownBlock with
 | none => exact .inl rfl
 | some g => exact .inr (by simp)
theorem isBuilder_keep {T e : TypeId} {B b : Nat} {bs : List Value} {w w' : World} (hb : Eng.Below w.heap.size w w') (h : Lib.IsBuilder T e B b bs w) : Lib.IsBuilder T e B b bs w' := h.imp (builderAt_keep hb) (builderAt_keep hb)
theorem below_up {B : Nat} {w w' w'' : World} (h : Eng.Below B w w') (k : Eng.Below w'.heap.size w' w'') (hB : B ≤ w'.heap.size) : Eng.Below B w w'' := h.trans (k.mono hB)
theorem globTab : Tryd.prog.globalNamed "internal/strconv.uint64pow10" = some 0 := by kernel_rfl
theorem tab_of {w : World} {M : Nat → Prop} (hM : MOk w M []) : 0 < w.heap.size ∧ Lib.TabIs Tryd.prog w "internal/strconv.uint64pow10" .u64 Lib.pow10Tab := by
 obtain ⟨h1, _, e, fz, h3⟩ := hM.2 _ (List.mem_singleton.2 rfl)
 refine ⟨h1, ?_⟩
 unfold Lib.TabIs World.var?
 rw [globTab]
 simp only [Option.bind_some]
 have h3' : w.heap[0]? = some (.cells (Lib.pow10Tab.map fun z => Value.int .u64 z).toArray e fz) := h3
 rw [h3']
end Go.Proofs.YtgagpbbnbonnlaaDoor
