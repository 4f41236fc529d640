/- Walks: exact.Quotient, exact.Compare. -/
import Derived.Test.YtlnboheahbfgfaaDiv
namespace Go.Proofs.Ytlnboheahbfgfaa
open Go.RowKit

end Go.Proofs.Ytlnboheahbfgfaa
