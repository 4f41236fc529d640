/- sectimeworld.Within, Span. -/
import Derived.Test.YtmebkbnildjfhaaBase
import Derived.Test.YtmebkbnildjfhaaKit
namespace Go.Proofs.Ytmebkbnildjfhaa
open Go.RowKit

set_option maxHeartbeats 400000 in
theorem wwithinW (v n : Int) (w : World) (hn : 1 ≤ n) (hn2 : n ≤ 9223372036854775807) :
    Calls Try.prog 14 #[.int .i64 v, .int .i64 n] w fun e w' => e = .returned (.int .i64 (v % n)) ∧ w = w' := by
  have h := tmod_lo v n hn
  obtain ⟨h1, h2⟩ := h
  by_cases hv : v.tmod n < 0
  · have e1 := tmod_neg v n hn hv
    go_enter Try.func14, Try.ntmps14
    go_wp2
    go_ret
    exact ⟨rfl, rfl⟩
  · have e1 := tmod_pos v n hn (by omega)
    go_enter Try.func14, Try.ntmps14
    go_wp2
    go_ret
    exact ⟨rfl, rfl⟩
end Go.Proofs.Ytmebkbnildjfhaa
