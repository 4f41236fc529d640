/- A drawn region whose operations write one slot after the other: what its slots hold behind it. -/
import Derived.Test.YtlnboheahbfgfaaGreatJ7
namespace Go.Proofs.YtlnboheahbfgfaaGreat
open Go Go.RowKit
end Go.Proofs.YtlnboheahbfgfaaGreat
