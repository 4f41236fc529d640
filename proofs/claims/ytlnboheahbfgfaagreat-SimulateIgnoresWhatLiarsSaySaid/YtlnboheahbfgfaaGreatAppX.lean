/- append onto a row of one's own, exactly: it grows into a new block, or into the room that is there. -/
import Derived.Deep.AppendLies
import Derived.Deep.Upon
import Derived.Test.YtlnboheahbfgfaaGreatJ12
namespace Go.Proofs.YtlnboheahbfgfaaGreat
open Go Go.RowKit
set_option linter.unusedSimpArgs false
set_option linter.unusedVariables false

end Go.Proofs.YtlnboheahbfgfaaGreat
