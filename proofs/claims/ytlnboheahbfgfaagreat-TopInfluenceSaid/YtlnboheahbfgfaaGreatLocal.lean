/- sectimecase.local: an advance that fits. -/
import Derived.BigQuiet
import Derived.Deep.DeepCutAuto
import Derived.Deep.LoopGhost
import Derived.Deep.QuietTactic
import Derived.Test.YtlnboheahbfgfaaGreatDriftR
import Derived.Test.YtlnboheahbfgfaaGreatJ9
import Derived.Test.YtlnboheahbfgfaaGreatJ4
import Derived.Test.YtlnboheahbfgfaaGreatTape
namespace Go.Proofs.YtlnboheahbfgfaaGreat
open Go.RowKit
set_option linter.unusedSimpArgs false
set_option linter.unusedVariables false

end Go.Proofs.YtlnboheahbfgfaaGreat
