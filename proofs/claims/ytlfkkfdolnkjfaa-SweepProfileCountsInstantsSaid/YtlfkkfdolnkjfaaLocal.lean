/- sectimecase.local: an advance that fits. -/
import Derived.BigQuiet
import Derived.Deep.DeepCutAuto
import Derived.Deep.LoopGhost
import Derived.Deep.QuietTactic
import Derived.Test.YtlfkkfdolnkjfaaDriftR
import Derived.Test.YtlfkkfdolnkjfaaJ26
import Derived.Test.YtlfkkfdolnkjfaaJ4
import Derived.Test.YtlfkkfdolnkjfaaTape
namespace Go.Proofs.Ytlfkkfdolnkjfaa
open Go.RowKit
set_option linter.unusedSimpArgs false
set_option linter.unusedVariables false

end Go.Proofs.Ytlfkkfdolnkjfaa
