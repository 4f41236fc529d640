/- What UTC gives, as a value. -/
import Derived.Test.YtmebkbnildjfhaaLeapU
namespace Go.Proofs.Ytmebkbnildjfhaa
open Go.RowKit

def utV (first : Int) (zs : List (Int × Int)) (t : Int) : Value := if inS (utN first zs (t / 1048576)) then .tuple #[.agg #[.int .i64 (utN first zs (t / 1048576)), .bool (utB first zs (t / 1048576)), .int .i64 (t % 1048576)], .int .i64 0] else .tuple #[.agg #[.int .i64 0, .bool false, .int .i64 0], .int .i64 9]
theorem utV_in {first : Int} {zs : List (Int × Int)} {t : Int} (h : inS (utN first zs (t / 1048576)) = true) : utV first zs t = .tuple #[.agg #[.int .i64 (utN first zs (t / 1048576)), .bool (utB first zs (t / 1048576)), .int .i64 (t % 1048576)], .int .i64 0] := if_pos h
theorem utV_out {first : Int} {zs : List (Int × Int)} {t : Int} (h : ¬ inS (utN first zs (t / 1048576)) = true) : utV first zs t = .tuple #[.agg #[.int .i64 0, .bool false, .int .i64 0], .int .i64 9] := if_neg h
end Go.Proofs.Ytmebkbnildjfhaa
