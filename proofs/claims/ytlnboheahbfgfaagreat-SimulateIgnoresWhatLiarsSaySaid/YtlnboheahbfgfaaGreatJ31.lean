/- Texts joined: R15P, R37 -/
import Derived.Test.YtlnboheahbfgfaaGreatDriftR
import Derived.Test.YtlnboheahbfgfaaGreatJ27
import Derived.Test.YtlnboheahbfgfaaGreatJ6
namespace Go.Proofs.YtlnboheahbfgfaaGreat
open Go.RowKit

end Go.Proofs.YtlnboheahbfgfaaGreat
namespace Go.Proofs.YtlnboheahbfgfaaGreat
open Go.RowKit

end Go.Proofs.YtlnboheahbfgfaaGreat
