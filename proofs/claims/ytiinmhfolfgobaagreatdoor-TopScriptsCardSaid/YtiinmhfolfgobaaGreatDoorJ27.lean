/- Texts joined: R15P, R37 -/
import Derived.Test.YtiinmhfolfgobaaGreatDoorJ9
import Derived.Test.YtiinmhfolfgobaaGreatDoorJ24
import Derived.Test.YtiinmhfolfgobaaGreatDoorJ12
namespace Go.Proofs.YtiinmhfolfgobaaGreatDoor
open Go.RowKit

end Go.Proofs.YtiinmhfolfgobaaGreatDoor
namespace Go.Proofs.YtiinmhfolfgobaaGreatDoor
open Go.RowKit

end Go.Proofs.YtiinmhfolfgobaaGreatDoor
