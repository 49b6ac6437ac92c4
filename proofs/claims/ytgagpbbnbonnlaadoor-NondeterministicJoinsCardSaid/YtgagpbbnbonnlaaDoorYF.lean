/-
 Chapter 05, plain: words: the deterministic automaton reaches what the automaton reaches.
-/
import Derived.Test.YtgagpbbnbonnlaaDoorYE
set_option linter.unusedSimpArgs false
set_option linter.unusedVariables false
namespace Go.Proofs.YtgagpbbnbonnlaaDoor
section
variable {n : Nat} {lead : Int → List Int} {s : List Int}
end
def aftN (n : Nat) (es : List Ed) (sil : Int) (w s : List Int) : List Int := w.foldl (fun s x => stepN n es sil s x) s
section
variable {st : List Int → Int → List Int} {mt : List Int → Bool} {al : List Int} {sets : List (List Int)} {mk : List Int} {es : List Ed}
end
end Go.Proofs.YtgagpbbnbonnlaaDoor
