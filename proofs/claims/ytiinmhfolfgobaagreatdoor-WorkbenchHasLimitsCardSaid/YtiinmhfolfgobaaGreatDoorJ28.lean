/- Texts joined: R15P, R37 -/
import Derived.Test.YtiinmhfolfgobaaGreatDoorJ8
import Derived.Test.YtiinmhfolfgobaaGreatDoorJ25
import Derived.Test.YtiinmhfolfgobaaGreatDoorJ11
namespace Go.Proofs.YtiinmhfolfgobaaGreatDoor
open Go.RowKit

end Go.Proofs.YtiinmhfolfgobaaGreatDoor
namespace Go.Proofs.YtiinmhfolfgobaaGreatDoor
open Go.RowKit

end Go.Proofs.YtiinmhfolfgobaaGreatDoor
