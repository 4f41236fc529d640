/- The reference's Common and SameSpans, for every list. -/
import Derived.BigQuiet
import Derived.Deep.LoopGhost
import Derived.Deep.QuietTactic
import Derived.Deep.RegionWith
import Derived.Test.YtlfkkfdolnkjfaaCalmP
import Derived.Test.YtlfkkfdolnkjfaaCommon
import Derived.Test.YtlfkkfdolnkjfaaJ26
import Derived.Test.YtlfkkfdolnkjfaaRUnW
namespace Go.Proofs.Ytlfkkfdolnkjfaa
open Go.RowKit Go.Shelf Go.Sort
set_option linter.unusedSimpArgs false
set_option linter.unusedVariables false

end Go.Proofs.Ytlfkkfdolnkjfaa
