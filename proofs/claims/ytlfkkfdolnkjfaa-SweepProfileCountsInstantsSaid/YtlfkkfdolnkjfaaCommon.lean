/- interval.Common, for every list. -/
import Derived.Deep.DeepCutAuto
import Derived.Deep.LoopGhost
import Derived.Test.YtlfkkfdolnkjfaaCalmP
import Derived.Test.YtlfkkfdolnkjfaaJ7
import Derived.Test.YtlfkkfdolnkjfaaJ6
namespace Go.Proofs.Ytlfkkfdolnkjfaa
open Go.RowKit
set_option linter.unusedSimpArgs false
set_option linter.unusedVariables false

end Go.Proofs.Ytlfkkfdolnkjfaa
