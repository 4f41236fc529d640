/- SimulateContainsTruth as the row wants it. -/
import Derived.Test.YtlnboheahbfgfaaGreatJ0
import Derived.Test.YtlnboheahbfgfaaGreatSim10
namespace Go.Proofs.YtlnboheahbfgfaaGreat
open Go.RowKit
theorem truth41_row (A : Option Addr) (len cap : Nat) (zs : List Int) {w : World} (k : IntsAt w A len zs) (W : World) (hw : W = w) :
    Walked 8 #[.slice A len cap] W := by
  subst hw; exact truth41_walk A len cap zs W k
end Go.Proofs.YtlnboheahbfgfaaGreat
