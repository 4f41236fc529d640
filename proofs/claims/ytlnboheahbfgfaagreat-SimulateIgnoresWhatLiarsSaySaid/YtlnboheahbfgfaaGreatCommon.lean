/- interval.Common, for every list. -/
import Derived.Deep.DeepCutAuto
import Derived.Deep.LoopGhost
import Derived.Test.YtlnboheahbfgfaaGreatJ14
import Derived.Test.YtlnboheahbfgfaaGreatJ7
import Derived.Test.YtlnboheahbfgfaaGreatJ6
namespace Go.Proofs.YtlnboheahbfgfaaGreat
open Go.RowKit
set_option linter.unusedSimpArgs false
set_option linter.unusedVariables false

end Go.Proofs.YtlnboheahbfgfaaGreat
