/-
 From contracts to rows that list package-level variables.
-/
import Derived.LaidLaws
import Derived.Lay
import Derived.MakeChecks
import Derived.Stop.LaidErr
import Derived.Lib.LaidTab
import Derived.Lib.ItoaNum
import Derived.SevenTiedAt
import Derived.Test.YtljpfdehnjemlaaDoorLift2
set_option linter.unusedSimpArgs false
set_option linter.unusedVariables false
namespace Go.Eng
open Go.RowKit Go.ChangeShapes Go.WideShapes
section
variable {H : Type} {enc : TypeId × Value → H}
theorem law_lifted_laid {C : Checked} {os : Os} {f : FuncId} {fn : Func} {s : ChangeSpec} {tb : TypeId} {laid : List (String × DataW Unit)} (own : ownKnob C.prog.godebug = none) (started : os.Started) (noInit : C.prog.inits.idxOf? f = none) (hfn : C.prog.funcs[f]? = some fn)
  (hl : laidOutB C.prog = true) (hvars : s.vars = []) (hts : (fn.params.toList.all fun t => C.prog.readableRec t && decide (t < C.prog.types.size)) = true)
  (hrt : fn.resultTypes = #[tb]) (htb : C.prog.underlying tb = some .bool) (hs : ∀ ds : List (DataW H), ds.length = fn.params.toList.length → s.fn H ds = { results := [.lit (.bool true)], args := ds })
  (witness : ∃ (w : World) (tape : Tape) (i : Input), w.os = os ∧ (w.forCall tape i).Shaped C.prog ∧ i.vars = [] ∧ Input.okWide C.prog (w.forCall tape i) .any w.heap.size f i ∧
   ((s.pre enc C.prog fn [] false (w.forCall tape i).memory i.args ∧ laidMetH C.prog laid (w.forCall tape i).memory) ∧ sizedMet enc C.prog fn (OpenSpec.ofChange s) false (w.forCall tape i).memory i.args) ∧ ({} : Assume).holds C.prog (lone (Frame.enter C.prog f i.args .normal) [] (w.forCall tape i)))
  (hg : ∀ W : World, laidMetH C.prog laid W → ∀ x ∈ globs, x.1 < W.heap.size ∧ ∃ e fz, W.heap[x.1]? = some (.cells x.2 e fz))
  (hc : HO C.prog fn.params.toList fun axs => ACalls C.prog f axs (.one (.bool true)) []) :
  ReturnsInHanded {} C os f .any (fun w args => (s.pre enc C.prog fn [] false w args ∧ laidMetH C.prog laid w) ∧ sizedMet enc C.prog fn (OpenSpec.ofChange s) false w args) (s.post enc C.prog fn false true false false) := by
 refine returnsInHanded_of_change_and (X := fun w _ => laidMetH C.prog laid w) (fun _ _ _ hh h => h.of_heap hh) own started noInit hfn witness ?_
 intro W base args ds gs before hval hW _ _ hL _
 have hA := hW
 obtain ⟨p, q, hA, hV, rfl, _, _⟩ := hA
 have hlen := (trodAll_len hA).2
 obtain ⟨axs, hr, hcall⟩ := hc H enc W base args.toList ds p (fun j t v h1 h2 => hval j t v (by simpa using h1) (by simpa using h2)) hA
 refine (hcall.2 W NoM args.toList ⟨fun g h => h.elim, fun x hx => ?_⟩ hr).mono fun e W' ⟨v, β, he, hres⟩ => ⟨v, he, ?_⟩
 ·obtain ⟨h1, h2⟩ := hg W hL x hx
  exact ⟨h1, ⟨fun h => h.elim, fun h => owned_none h⟩, h2⟩
 ·exact law_post hl hW hvars hts hrt htb hres.val (hs ds hlen) hres.below
theorem glob_of_tab {P : Program} {W : World} {name : String} {g : Nat} {zs : List Int} (hg : P.globalNamed name = some g) (h : Lib.TabIs P W name .u64 zs) : g < W.heap.size ∧ ∃ e fz, W.heap[g]? = some (.cells (zs.map fun z => Value.int .u64 z).toArray e fz) := by
 unfold Lib.TabIs World.var? at h
 rw [hg] at h
 simp only [Option.bind_some] at h
 split at h
 ·rename_i cs e fz hh
  cases h
  exact ⟨(Array.getElem?_eq_some_iff.1 hh).1, e, fz, hh⟩
 ·cases h
end
end Go.Eng
