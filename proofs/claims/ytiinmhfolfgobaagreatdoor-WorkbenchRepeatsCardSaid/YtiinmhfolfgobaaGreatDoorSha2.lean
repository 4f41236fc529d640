/- The reference's block. -/
import Derived.BigQuiet
import Derived.Deep.QuietTactic
import Derived.Test.YtiinmhfolfgobaaGreatDoorJ8
import Derived.Test.YtiinmhfolfgobaaGreatDoorJ3
import Derived.Test.YtiinmhfolfgobaaGreatDoorJ41
namespace Go.Proofs.YtiinmhfolfgobaaGreatDoor
open Go.RowKit
set_option linter.unusedSimpArgs false
set_option linter.unusedVariables false

end Go.Proofs.YtiinmhfolfgobaaGreatDoor
