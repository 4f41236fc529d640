/- Walks: the reference's drift: in, ratio, Elapsed, Advance. -/
import Derived.Test.YtlfkkfdolnkjfaaJ26
namespace Go.Proofs.Ytlfkkfdolnkjfaa
open Go.RowKit

end Go.Proofs.Ytlfkkfdolnkjfaa
