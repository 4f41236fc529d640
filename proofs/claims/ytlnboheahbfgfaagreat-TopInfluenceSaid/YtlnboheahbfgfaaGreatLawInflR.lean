/- TopInfluence as the row wants it. -/
import Derived.Test.YtlnboheahbfgfaaGreatJ0
import Derived.Test.YtlnboheahbfgfaaGreatLawInfl
namespace Go.Proofs.YtlnboheahbfgfaaGreat
open Go.RowKit
theorem infl_row (A : Option Addr) (len cap : Nat) (zs : List Int) {w : World} (k : IntsAt w A len zs) (v2 : Int) (_ : IntIn v2) (v3 : Int) (_ : IntIn v3) (W : World) (hw : W = w) :
    Walked 3 #[.slice A len cap, .int .i64 v2, .int .i64 v3] W := by
  subst hw; exact infl_walk A len cap zs v2 v3 W k
end Go.Proofs.YtlnboheahbfgfaaGreat
