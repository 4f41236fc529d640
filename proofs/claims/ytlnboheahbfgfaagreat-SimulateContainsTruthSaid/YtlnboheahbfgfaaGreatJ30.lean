/- Texts joined: R15P, R37 -/
import Derived.Test.YtlnboheahbfgfaaGreatDriftR
import Derived.Test.YtlnboheahbfgfaaGreatJ26
import Derived.Test.YtlnboheahbfgfaaGreatJ5
namespace Go.Proofs.YtlnboheahbfgfaaGreat
open Go.RowKit

end Go.Proofs.YtlnboheahbfgfaaGreat
namespace Go.Proofs.YtlnboheahbfgfaaGreat
open Go.RowKit

end Go.Proofs.YtlnboheahbfgfaaGreat
