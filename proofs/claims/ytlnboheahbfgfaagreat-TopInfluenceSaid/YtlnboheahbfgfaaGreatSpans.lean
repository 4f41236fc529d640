/- (*sectimecase.Tape).Spans: spans of small numbers. -/
import Derived.Deep.AppendLies
import Derived.Deep.LoopGhost
import Derived.OwnWalk
import Derived.Test.YtlnboheahbfgfaaGreatKitG
import Derived.Test.YtlnboheahbfgfaaGreatRUnW
namespace Go.Proofs.YtlnboheahbfgfaaGreat
open Go.RowKit Go.Shelf Go.Sort
set_option linter.unusedSimpArgs false
set_option linter.unusedVariables false

def SmallS (most : Int) (zs : List (Int × Int)) : Prop := ∀ z ∈ zs, -most ≤ z.1 ∧ z.1 ≤ most ∧ z.1 ≤ z.2 ∧ z.2 ≤ z.1 + most
end Go.Proofs.YtlnboheahbfgfaaGreat
