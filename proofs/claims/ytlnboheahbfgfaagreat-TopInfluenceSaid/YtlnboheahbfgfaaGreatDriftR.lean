/- Walks: the reference's drift: in, ratio, Elapsed, Advance. -/
import Derived.Test.YtlnboheahbfgfaaGreatJ9
namespace Go.Proofs.YtlnboheahbfgfaaGreat
open Go.RowKit

end Go.Proofs.YtlnboheahbfgfaaGreat
