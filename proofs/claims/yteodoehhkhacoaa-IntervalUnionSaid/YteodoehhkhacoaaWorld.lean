/- sectimeworld.Within, Span. -/
import Derived.Test.YteodoehhkhacoaaBase
import Derived.Test.YteodoehhkhacoaaKit
namespace Go.Proofs.Yteodoehhkhacoaa
open Go.RowKit

set_option maxHeartbeats 400000 in
theorem wwithinW (v n : Int) (w : World) (hn : 1 ≤ n) (hn2 : n ≤ 9223372036854775807) :
    Calls Try.prog 38 #[.int .i64 v, .int .i64 n] w fun e w' => e = .returned (.int .i64 (v % n)) ∧ w = w' := by
  have h := tmod_lo v n hn
  obtain ⟨h1, h2⟩ := h
  by_cases hv : v.tmod n < 0
  · have e1 := tmod_neg v n hn hv
    go_enter Try.func38, Try.ntmps38
    go_wp2
    go_ret
    exact ⟨rfl, rfl⟩
  · have e1 := tmod_pos v n hn (by omega)
    go_enter Try.func38, Try.ntmps38
    go_wp2
    go_ret
    exact ⟨rfl, rfl⟩
set_option maxHeartbeats 1000000 in
theorem wspanW (a b : Int) (w : World) : Calls Try.prog 37 #[.int .i64 a, .int .i64 b] w (RB w (.agg #[.int .i64 (a % 2000 - 1000), .int .i64 (a % 2000 - 1000 + b % 500)])) := by
  have m1 : 0 ≤ a % 2000 ∧ a % 2000 < 2000 := by omega
  have m2 : 0 ≤ b % 500 ∧ b % 500 < 500 := by omega
  go_enter Try.func37, Try.ntmps37
  go_wp2_with (go_at_call 38; refine (wwithinW _ _ _ (by omega) (by omega)).mono ?_; rintro e w1 ⟨rfl, rfl⟩)
  have hB := Below.refl w.heap.size w
  exact bodyPost_ret (v := .agg #[.int .i64 (a % 2000 - 1000), .int .i64 (a % 2000 - 1000 + b % 500)]) (by simp [results, Try.results37, go_sem]) rfl ⟨rfl, by (repeat' (first | (with_reducible exact hB) | (with_reducible refine Below.setCell ?_ ?_ _) | (with_reducible refine Below.alloc ?_ ?_ _))) <;> (first | omega | (simp <;> omega))⟩
end Go.Proofs.Yteodoehhkhacoaa
