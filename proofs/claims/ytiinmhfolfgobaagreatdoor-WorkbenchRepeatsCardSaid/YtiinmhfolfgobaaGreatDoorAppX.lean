/- append onto a row of one's own, exactly: it grows into a new block, or into the room that is there. -/
import Derived.Deep.AppendLies
import Derived.Deep.Upon
import Derived.Test.YtiinmhfolfgobaaGreatDoorJ3
namespace Go.Proofs.YtiinmhfolfgobaaGreatDoor
open Go Go.RowKit
set_option linter.unusedSimpArgs false
set_option linter.unusedVariables false

end Go.Proofs.YtiinmhfolfgobaaGreatDoor
