/- Texts joined: RLists, RSwA, RSwB, RSwC -/
import Derived.BigQuiet
import Derived.Deep.LoopGhost
import Derived.Deep.QuietTactic
import Derived.Deep.RegionWith
import Derived.Test.YtlnboheahbfgfaaGreatJ14
import Derived.Test.YtlnboheahbfgfaaGreatCommon
import Derived.Test.YtlnboheahbfgfaaGreatJ6
import Derived.Test.YtlnboheahbfgfaaGreatRUnW
import Derived.Test.YtlnboheahbfgfaaGreatJ18
namespace Go.Proofs.YtlnboheahbfgfaaGreat
open Go.RowKit Go.Shelf Go.Sort
set_option linter.unusedSimpArgs false
set_option linter.unusedVariables false

end Go.Proofs.YtlnboheahbfgfaaGreat
namespace Go.Proofs.YtlnboheahbfgfaaGreat
open Go.RowKit Go.Shelf Go.Sort
set_option linter.unusedSimpArgs false
set_option linter.unusedVariables false

end Go.Proofs.YtlnboheahbfgfaaGreat
namespace Go.Proofs.YtlnboheahbfgfaaGreat
open Go.RowKit Go.Shelf Go.Sort
set_option linter.unusedSimpArgs false
set_option linter.unusedVariables false

end Go.Proofs.YtlnboheahbfgfaaGreat
namespace Go.Proofs.YtlnboheahbfgfaaGreat
open Go.RowKit Go.Shelf Go.Sort
set_option linter.unusedSimpArgs false
set_option linter.unusedVariables false

end Go.Proofs.YtlnboheahbfgfaaGreat
