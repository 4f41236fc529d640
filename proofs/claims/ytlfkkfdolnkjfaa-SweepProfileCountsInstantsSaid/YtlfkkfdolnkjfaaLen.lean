/- Walk: math/bits.Len64 (without the kit of walks: its table of 256 bytes is met by the library's laws). -/
import Derived.Lib.BitFns
import Derived.Lib.Slices
import Derived.Lib.Small
import Derived.Lib.Strings
import Derived.Lib.Walk
import Derived.Test.YtlfkkfdolnkjfaaRows
namespace Go.Proofs.Ytlfkkfdolnkjfaa

end Go.Proofs.Ytlfkkfdolnkjfaa
