/- Lemmas. -/
import Derived.Deep.AppendLies
import Derived.Deep.LoopGhost
import Derived.OwnWalk
import Derived.Test.YtiinmhfolfgobaaGreatDoorJ10
import Derived.Test.YtiinmhfolfgobaaGreatDoorJ15
import Derived.Test.YtiinmhfolfgobaaGreatDoorJ16
set_option linter.unusedVariables false
set_option linter.unusedSimpArgs false
namespace Go.Proofs.YtiinmhfolfgobaaGreatDoor
open Go.RowKit Go.Shelf Go.Sort
theorem RowS.below {w w' : World} {base : Nat} {v : Value} {zs : List (Int × Int)} (h : RowS w base v zs) (hb : Below w.heap.size w w') : RowS w' base v zs := RowS.kept h (row := none) (grown_below hb) (fun k _ e => by cases e)
end Go.Proofs.YtiinmhfolfgobaaGreatDoor
