/- Walks: drift: in, bound, Elapsed, Advance; exact.Compare, Fits. -/
import Derived.Test.YtlnboheahbfgfaaRound
namespace Go.Proofs.Ytlnboheahbfgfaa
open Go.RowKit

end Go.Proofs.Ytlnboheahbfgfaa
