/- sectimecase.local: an advance that fits. -/
import Derived.Test.YtlnboheahbfgfaaFitsR
import Derived.Test.YtlnboheahbfgfaaDriftR
import Derived.Test.YtlnboheahbfgfaaKit
import Derived.Test.YtlnboheahbfgfaaTape
import Derived.Deep.LoopGhost
import Derived.Deep.DeepCutAuto
import Derived.Deep.QuietTactic
import Derived.BigQuiet
namespace Go.Proofs.Ytlnboheahbfgfaa
open Go.RowKit
set_option linter.unusedSimpArgs false
set_option linter.unusedVariables false

end Go.Proofs.Ytlnboheahbfgfaa
