/- Texts joined: R15P, R37 -/
import Derived.Test.YtlnboheahbfgfaaGreatDriftR
import Derived.Test.YtlnboheahbfgfaaGreatJ28
import Derived.Test.YtlnboheahbfgfaaGreatJ6
import Derived.Test.YtlnboheahbfgfaaGreatKnownP
namespace Go.Proofs.YtlnboheahbfgfaaGreat
open Go.RowKit

end Go.Proofs.YtlnboheahbfgfaaGreat
namespace Go.Proofs.YtlnboheahbfgfaaGreat
open Go.RowKit

end Go.Proofs.YtlnboheahbfgfaaGreat
