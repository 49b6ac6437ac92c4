/-
 From contracts to rows that list package-level variables.
-/
import Derived.OpenShut
import Derived.Test.YtlpllbbjmbbfnaaGreatDoorLift
import Derived.LaidLaws
import Derived.Lay
import Derived.MakeChecks
import Derived.Stop.LaidErr
import Derived.Lib.LaidTab
import Derived.Lib.ItoaNum
import Derived.SevenTiedAt
set_option linter.unusedSimpArgs false
set_option linter.unusedVariables false
namespace Go.Eng
open Go.RowKit Go.ChangeShapes Go.WideShapes
section
variable {P : Program}
theorem repL_flat {W : World} {α : Type} {en : α → List D} {cs : List Value} {c : Nat} : ∀ (l : List α) (k : Nat), cs.length = (k + l.length) * c → (∀ i a, l[i]? = some a → RepL W NoM (en a) ((cs.drop ((k + i) * c)).take c)) → RepL W NoM (l.flatMap en) (cs.drop (k * c))
 | [], k, hl, _ => by
  rw [List.drop_of_length_le (by simpa using Nat.le_of_eq hl)]
  simp [RepL]
 | a :: l, k, hl, h => by
  have h1 := h 0 a rfl
  have h2 := repL_flat (W := W) (en := en) (cs := cs) (c := c) l (k + 1) (by rw [hl]; simp [Nat.add_comm, Nat.add_left_comm]) fun i b hb => by
   have := h (i + 1) b (by simpa using hb)
   rwa [show k + (i + 1) = k + 1 + i by omega] at this
  have h3 := RepL.append _ _ _ _ h1 h2
  rw [List.flatMap_cons]
  have e : (cs.drop ((k + 0) * c)).take c ++ cs.drop ((k + 1) * c) = cs.drop (k * c) := by
   rw [Nat.add_zero, Nat.add_mul, Nat.one_mul, ← List.drop_drop, List.take_append_drop]
  rwa [e] at h3
theorem opens_array {t e : TypeId} {n : Nat} {α : Type} {ok : α → Prop} {en : α → List D} (ht : P.underlying t = some (.array n e)) (hs : P.cellsOf t = n * P.cellsOf e) (h : Opens P e ok en) : Opens P t (fun l : List α => l.length = n ∧ ∀ a ∈ l, ok a) (fun l => l.flatMap en) := by
 intro H enc W fuel cs x hx
 obtain ⟨xs, m, _, _, hl, hn, hi⟩ := DataW.trod_array ht hx
 obtain ⟨l, hll, hR⟩ := list_of (fun i a => ok a ∧ RepL W NoM (en a) ((cs.drop (i * P.cellsOf e)).take (P.cellsOf e))) n fun i hin => by
  have := hi i hin
  rw [List.getElem?_eq_getElem (by omega)] at this
  obtain ⟨a, ha, hr⟩ := h H enc W m _ _ this
  exact ⟨a, ha, hr⟩
 refine ⟨l, ⟨hll, fun a ha => ?_⟩, ?_⟩
 ·obtain ⟨i, hi', rfl⟩ := List.mem_iff_getElem.1 ha
  exact (hR i _ (List.getElem?_eq_getElem hi')).1
 ·have := repL_flat (W := W) (en := en) (cs := cs) (c := P.cellsOf e) l 0 (by rw [hl, hs, hll]; simp) fun i a ha => by
   rw [Nat.zero_add]
   exact (hR i a ha).2
  simpa using this
end
end Go.Eng
set_option linter.unusedSimpArgs false
set_option linter.unusedVariables false
namespace Go.Eng
open Go.RowKit Go.ChangeShapes Go.WideShapes
section
variable {H : Type} {enc : TypeId × Value → H}
theorem law_lifted_laid {C : Checked} {os : Os} {f : FuncId} {fn : Func} {s : ChangeSpec} {tb : TypeId} {laid : List (String × DataW Unit)} (own : ownKnob C.prog.godebug = none) (started : os.Started) (noInit : C.prog.inits.idxOf? f = none) (hfn : C.prog.funcs[f]? = some fn)
  (hl : laidOutB C.prog = true) (hvars : s.vars = []) (hts : (fn.params.toList.all fun t => C.prog.readableRec t && decide (t < C.prog.types.size)) = true)
  (hrt : fn.resultTypes = #[tb]) (htb : C.prog.underlying tb = some .bool) (hs : ∀ ds : List (DataW H), ds.length = fn.params.toList.length → s.fn H ds = { results := [.lit (.bool true)], args := ds })
  (witness : ∃ (w : World) (tape : Tape) (i : Input), w.os = os ∧ (w.forCall tape i).Shaped C.prog ∧ i.vars = [] ∧ Input.okWide C.prog (w.forCall tape i) .any w.heap.size f i ∧
   ((s.pre enc C.prog fn [] false (w.forCall tape i).memory i.args ∧ laidMetH C.prog laid (w.forCall tape i).memory) ∧ sizedMet enc C.prog fn (OpenSpec.ofChange s) false (w.forCall tape i).memory i.args) ∧ ({} : Assume).holds C.prog (lone (Frame.enter C.prog f i.args .normal) [] (w.forCall tape i)))
  (hg : ∀ W : World, laidMetH C.prog laid W → ∀ x ∈ globs, x.1 < W.heap.size ∧ ∃ e fz, W.heap[x.1]? = some (.cells x.2 e fz))
  (hc : HO C.prog fn.params.toList fun as => ACalls C.prog f as (.one (.bool true)) []) :
  ReturnsInHanded {} C os f .any (fun w args => (s.pre enc C.prog fn [] false w args ∧ laidMetH C.prog laid w) ∧ sizedMet enc C.prog fn (OpenSpec.ofChange s) false w args) (s.post enc C.prog fn false true false false) := by
 refine returnsInHanded_of_change_and (X := fun w _ => laidMetH C.prog laid w) (fun _ _ _ hh h => h.of_heap hh) own started noInit hfn witness ?_
 intro W base args ds gs before hval hW _ _ hL _
 have hA := hW
 obtain ⟨p, q, hA, hV, rfl, _, _⟩ := hA
 have hlen := (trodAll_len hA).2
 obtain ⟨as, hr, hcall⟩ := hc H enc W base args.toList ds p (fun j t v h1 h2 => hval j t v (by simpa using h1) (by simpa using h2)) hA
 refine (hcall.2 W NoM args.toList ⟨fun g h => h.elim, fun x hx => ?_⟩ hr).mono fun e W' ⟨v, β, he, hres⟩ => ⟨v, he, ?_⟩
 ·obtain ⟨h1, h2⟩ := hg W hL x hx
  exact ⟨h1, ⟨fun h => h.elim, fun h => owned_none h⟩, h2⟩
 ·exact law_post hl hW hvars hts hrt htb hres.val (hs ds hlen) hres.below
theorem glob_of_tab {P : Program} {W : World} {name : String} {g : Nat} {zs : List Int} (hg : P.globalNamed name = some g) (h : Lib.TabIs P W name .u64 zs) : g < W.heap.size ∧ ∃ e fz, W.heap[g]? = some (.cells (zs.map fun z => Value.int .u64 z).toArray e fz) := by
 unfold Lib.TabIs World.var? at h
 rw [hg] at h
 simp only [Option.bind_some] at h
 split at h
 ·rename_i cs e fz hh
  cases h
  exact ⟨(Array.getElem?_eq_some_iff.1 hh).1, e, fz, hh⟩
 ·cases h
end
end Go.Eng
