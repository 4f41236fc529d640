/- SimulateRuns as the row wants it. -/
import Derived.Test.YtlnboheahbfgfaaGreatJ33
import Derived.Test.YtlnboheahbfgfaaGreatSim12
namespace Go.Proofs.YtlnboheahbfgfaaGreat
open Go.RowKit
theorem runs41_row (S : Sch) (A SA : Option Addr) (c sc : Nat) {w : World} (h : SchAt w S A SA) (B : Option Addr) (len cap : Nat) (zs : List Int) (k : IntsAt w B len zs) (W : World) (hw : W = w) :
  Walked 6 #[.agg #[.int .i64 S.sta, .int .i64 S.loc, .int .i64 S.p, .int .i64 S.li, .int .i64 S.ai, .slice A S.es.length c, .slice SA S.xs.length sc], .slice B len cap] W := by
 subst hw; exact runs41_walk S A SA c sc B len cap zs W h k
end Go.Proofs.YtlnboheahbfgfaaGreat
