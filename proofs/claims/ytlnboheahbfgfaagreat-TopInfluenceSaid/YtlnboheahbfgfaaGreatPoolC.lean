/- Walks: the reference's choose, Choose, Risk; the sanity check. -/
import Derived.Deep.AppendLies
import Derived.Deep.RegionHeld3
import Derived.Test.YtlnboheahbfgfaaGreatJ36
namespace Go.Proofs.YtlnboheahbfgfaaGreat
open Go.RowKit

end Go.Proofs.YtlnboheahbfgfaaGreat
