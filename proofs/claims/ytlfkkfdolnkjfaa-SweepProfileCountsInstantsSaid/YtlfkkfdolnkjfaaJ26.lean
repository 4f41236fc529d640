/- Texts joined: Drift, Fits, FitsR -/
import Derived.Test.YtlfkkfdolnkjfaaJ4
namespace Go.Proofs.Ytlfkkfdolnkjfaa
open Go.RowKit

end Go.Proofs.Ytlfkkfdolnkjfaa
namespace Go.Proofs.Ytlfkkfdolnkjfaa
open Go.RowKit

/-- Fits. -/
def fitIn (e d ppb : Int) : Prop := 0 ≤ e ∧ e ≤ 1152921504606846976 ∧ 0 ≤ d ∧ d ≤ 1152921504606846976 ∧ 0 ≤ ppb ∧ ppb ≤ 1000000
def fitsP (e d ppb : Int) : Prop := fitIn e d ppb ∧ e * (1000000000 - ppb) ≤ d * 1000000000 ∧ d * 1000000000 ≤ e * (1000000000 + ppb)
instance (e d ppb : Int) : Decidable (fitsP e d ppb) := by unfold fitsP fitIn; infer_instance
end Go.Proofs.Ytlfkkfdolnkjfaa
namespace Go.Proofs.Ytlfkkfdolnkjfaa
open Go.RowKit

end Go.Proofs.Ytlfkkfdolnkjfaa
