/- Walk: math/bits.Len64 (without the kit of walks: its table of 256 bytes is met by the library's laws). -/
import Derived.Test.YtlnboheahbfgfaaRows
import Derived.Lib.Strings
import Derived.Lib.Slices
import Derived.Lib.Small
import Derived.Lib.Walk
import Derived.Lib.BitFns
namespace Go.Proofs.Ytlnboheahbfgfaa

end Go.Proofs.Ytlnboheahbfgfaa
