/- Walks: math/bits.Len64, LeadingZeros64, Mul64, Div64. -/
import Derived.Test.YtlnboheahbfgfaaBase
import Derived.Test.YtlnboheahbfgfaaPlainDiv
import Derived.Test.YtlnboheahbfgfaaLen
import Derived.Deep.QuietTactic
import Derived.BigQuiet
import Derived.Deep.DeepCutAuto
import Derived.Deep.CutBlock
import Derived.Lib.BitFns
import Derived.Lib.ItoaNum
import Derived.Lib.Mul64
import Derived.Laws.Bits64b
namespace Go.Proofs.Ytlnboheahbfgfaa
open Go.RowKit

end Go.Proofs.Ytlnboheahbfgfaa
