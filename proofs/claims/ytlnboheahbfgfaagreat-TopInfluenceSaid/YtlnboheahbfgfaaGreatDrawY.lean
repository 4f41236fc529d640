/- The reference's Same of equal lists; the seed. -/
import Derived.Test.YtlnboheahbfgfaaGreatJ6
import Derived.Test.YtlnboheahbfgfaaGreatJ19
import Derived.Test.YtlnboheahbfgfaaGreatPoolC
namespace Go.Proofs.YtlnboheahbfgfaaGreat
open Go.RowKit
set_option linter.unusedSimpArgs false
set_option linter.unusedVariables false

theorem rand_bys {w : World} {g : Nat} {v : Int} (h : ByAt w g (randS v)) : BysAt w (some ⟨g, 0, none⟩) 32 (randS v) := ⟨shaS_len _, shaS_in _, fun _ => ⟨g, 0, rfl, h.sl⟩⟩
end Go.Proofs.YtlnboheahbfgfaaGreat
