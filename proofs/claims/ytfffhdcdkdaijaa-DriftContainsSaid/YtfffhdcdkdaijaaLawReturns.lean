/- sectimeworld.Span; plain law of DriftReturns (the walk is still to come). -/
import Derived.Test.YtfffhdcdkdaijaaProjB
import Derived.Test.YtfffhdcdkdaijaaLawParts
namespace Go.Proofs.Ytfffhdcdkdaijaa
open Go.RowKit

set_option maxHeartbeats 1000000 in
theorem wspan_any (a b : Int) (w : World) : Calls Try.prog 41 #[.int .i64 a, .int .i64 b] w (RB w (.agg #[.int .i64 (a % 2000 - 1000), .int .i64 (a % 2000 - 1000 + b % 500)])) := by
  have m1 : 0 ≤ a % 2000 ∧ a % 2000 < 2000 := by omega
  have m2 : 0 ≤ b % 500 ∧ b % 500 < 500 := by omega
  go_enter Try.func41, Try.ntmps41
  go_wp2_with (go_at_call 18; refine (wwithin_any _ _ _ (by omega) (by omega)).mono ?_; rintro e w1 ⟨rfl, rfl⟩)
  have hB := Below.refl w.heap.size w
  exact bodyPost_ret (v := .agg #[.int .i64 (a % 2000 - 1000), .int .i64 (a % 2000 - 1000 + b % 500)]) (by simp [results, Try.results41, go_sem]) rfl ⟨rfl, by (repeat' (first | (with_reducible exact hB) | (with_reducible refine Below.setCell ?_ ?_ _) | (with_reducible refine Below.alloc ?_ ?_ _))) <;> (first | omega | (simp <;> omega))⟩
end Go.Proofs.Ytfffhdcdkdaijaa
