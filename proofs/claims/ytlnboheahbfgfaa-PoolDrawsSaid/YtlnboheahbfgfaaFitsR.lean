/- Walks: the reference's product, atMost, Fits. -/
import Derived.Test.YtlnboheahbfgfaaFits
namespace Go.Proofs.Ytlnboheahbfgfaa
open Go.RowKit

end Go.Proofs.Ytlnboheahbfgfaa
