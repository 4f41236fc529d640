/- Walks: the reference's drift: in, ratio, Elapsed, Advance. -/
import Derived.Test.YtlfkkfdolnkjfaaJ10
namespace Go.Proofs.Ytlfkkfdolnkjfaa
open Go.RowKit

end Go.Proofs.Ytlfkkfdolnkjfaa
