/- Walks: the reference's drift: in, ratio, Elapsed, Advance. -/
import Derived.Test.YtlnboheahbfgfaaDrift
namespace Go.Proofs.Ytlnboheahbfgfaa
open Go.RowKit

end Go.Proofs.Ytlnboheahbfgfaa
