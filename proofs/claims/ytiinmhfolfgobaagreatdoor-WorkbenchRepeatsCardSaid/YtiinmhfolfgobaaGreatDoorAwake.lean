/- The sanity check of the laws through the layers. -/
import Derived.Deep.AppendLies
import Derived.OwnWalk
import Derived.Test.YtiinmhfolfgobaaGreatDoorJ8
import Derived.Test.YtiinmhfolfgobaaGreatDoorJ26
import Derived.Test.YtiinmhfolfgobaaGreatDoorJ10
import Derived.Test.YtiinmhfolfgobaaGreatDoorJ6
import Derived.Test.YtiinmhfolfgobaaGreatDoorSeqS
namespace Go.Proofs.YtiinmhfolfgobaaGreatDoor
open Go.RowKit Go.Shelf
set_option linter.unusedSimpArgs false
set_option linter.unusedVariables false

end Go.Proofs.YtiinmhfolfgobaaGreatDoor
