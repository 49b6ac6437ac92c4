/-
 Chapter 50 in plain Lean: a constraint that all markings keep: the net with the control place is searched alike.
-/
import Derived.Test.YtgbhmieaoaojoaaDoorSB
import Derived.Test.YtgbhmieaoaojoaaDoorN7
import Derived.Test.YtgbhmieaoaojoaaDoorSG
set_option linter.unusedSimpArgs false
set_option linter.unusedVariables false
namespace Go.Proofs.YtgbhmieaoaojoaaDoor
open Go.Eng Go.RowKit
structure MonOk (n : Net) (c : Con) : Prop where
 ok : NetOk n
 len : c.fac.length = n.init.length
 sm : Sm 16 c.fac
 few : n.init.length < 10
 rest : 0 ≤ c.bound - dot c.fac n.init ∧ c.bound - dot c.fac n.init ≤ 65536
 eff : ∀ t ∈ n.trs, -8 ≤ effT c.fac t ∧ effT c.fac t ≤ 8
section
variable {n : Net} {c : Con}
end
end Go.Proofs.YtgbhmieaoaojoaaDoor
set_option linter.unusedSimpArgs false
set_option linter.unusedVariables false
namespace Go.Proofs.YtgbhmieaoaojoaaDoor
open Go.Eng Go.RowKit
section
variable {n : Net} {c : Con} {nd : List SN}
structure KeptOk (n : Net) (c : Con) (nd : List SN) : Prop where
 mon : MonOk n c
 len : ∀ x ∈ nd, x.m.length = n.init.length
 tok : ∀ x ∈ nd, ∀ y ∈ x.m, 0 ≤ y ∧ y ≤ 65536
 keep : ∀ x ∈ nd, 0 ≤ c.bound - dot c.fac x.m ∧ c.bound - dot c.fac x.m ≤ 65536
 back : ∀ k, k < nd.length → (nd.getD k SN.no).before < (k : Int)
theorem outer_pre {n : Net} {lim : Nat} {nd : List SN} {ed : List Edg} : ∀ (f i : Nat) {nodes : List SN} {edges : List Edg}, outerF n lim f i nodes edges = .cont nd ed → nodes <+: nd
 | 0, _, _, _, h => by cases h
 | f + 1, i, nodes, edges, h => by
  simp only [outerF] at h
  split at h
  ·rename_i hi
   cases hst : innerF n lim i (ableL n (nodes.getD i SN.no).m n.trs.length) nodes edges with
   | err e => rw [hst] at h; cases h
   | pump a b p => rw [hst] at h; cases h
   | cont nd1 ed1 =>
    rw [hst] at h
    exact (inner_closed _ hst hi).1.trans (outer_pre f (i + 1) h)
  ·cases h; exact List.prefix_refl _
end
def holdF (c : Con) (l : List (List Int)) : Option (List Int) := l.find? fun m => decide (c.bound < dot c.fac m)
theorem search_first {n : Net} {nd : List SN} {ed : List Edg} (hb : bndF n = .inr (nd, ed)) : n.init ∈ nd.map SN.m := by
 have hs : searchF n 4096 = .cont nd ed := by
  unfold bndF at hb
  split at hb
  ·cases hb
  ·cases hs : searchF n 4096 with
   | err e => rw [hs] at hb; cases hb
   | pump a b p => rw [hs] at hb; cases hb
   | cont a b => rw [hs] at hb; cases hb; rfl
 have hp := outer_pre (n := n) (lim := 4096) 4098 0 hs
 obtain ⟨r, rfl⟩ := hp
 simp
end Go.Proofs.YtgbhmieaoaojoaaDoor
