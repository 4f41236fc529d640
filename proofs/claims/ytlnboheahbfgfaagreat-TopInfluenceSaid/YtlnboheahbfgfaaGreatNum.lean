/- Walks of numbers: Valid of both texts, wide.Down, the references' quotients. -/
import Derived.Test.YtlnboheahbfgfaaGreatJ4
namespace Go.Proofs.YtlnboheahbfgfaaGreat
open Go.RowKit

/-- An instant or a duration. -/
def vT (t : Int) : Bool := decide (-1152921504606846976 ≤ t ∧ t ≤ 1152921504606846976)
theorem vT_true {t : Int} : vT t = true ↔ -1152921504606846976 ≤ t ∧ t ≤ 1152921504606846976 := by simp [vT]
theorem vT_false {t : Int} : vT t = false ↔ t < -1152921504606846976 ∨ 1152921504606846976 < t := by simp [vT]; omega
/-- A span. -/
def vS (lo hi : Int) : Bool := vT lo && vT hi && decide (lo ≤ hi)
theorem vS_true {lo hi : Int} : vS lo hi = true ↔ (-1152921504606846976 ≤ lo ∧ lo ≤ hi ∧ hi ≤ 1152921504606846976) := by simp [vS, vT]; omega

theorem tvalid_any (t : Int) (w : World) : Calls Tryz.prog 82 #[.int .i64 t] w fun e w' => e = .returned (.bool (vT t)) ∧ w = w' := by
  by_cases h1 : -1152921504606846976 ≤ t
  · by_cases h2 : t ≤ 1152921504606846976
    · rw [vT_true.2 ⟨h1, h2⟩]
      go_enter Tryz.func82, Tryz.ntmps82
      go_wp2; go_ret; exact ⟨rfl, rfl⟩
    · rw [vT_false.2 (.inr (by omega))]
      go_enter Tryz.func82, Tryz.ntmps82
      go_wp2; go_ret; exact ⟨rfl, rfl⟩
  · rw [vT_false.2 (.inl (by omega))]
    go_enter Tryz.func82, Tryz.ntmps82
    go_wp2; go_ret; exact ⟨rfl, rfl⟩
/-- A span's check lays one block. -/
theorem svalid_any (lo hi : Int) (w : World) : Calls Tryz.prog 53 #[.agg #[.int .i64 lo, .int .i64 hi]] w fun e w' => e = .returned (.bool (vS lo hi)) ∧ w' = w.alloc (.cells #[.int .i64 lo, .int .i64 hi] 29) := by
  have hs : vS lo hi = (vT lo && vT hi && decide (lo ≤ hi)) := rfl
  rcases h1 : vT lo
  · rw [hs, h1]
    go_enter Tryz.func53, Tryz.ntmps53
    go_wp2_with (go_at_call 82; refine (tvalid_any _ _).mono ?_; rintro e w1 ⟨rfl, rfl⟩)
    go_ret; exact ⟨rfl, rfl⟩
  · rcases h2 : vT hi
    · rw [hs, h1, h2]
      go_enter Tryz.func53, Tryz.ntmps53
      go_wp2_with (go_at_call 82; refine (tvalid_any _ _).mono ?_; rintro e w1 ⟨rfl, rfl⟩)
      go_ret; exact ⟨rfl, rfl⟩
    · rw [hs, h1, h2]
      go_enter Tryz.func53, Tryz.ntmps53
      go_wp2_with (go_at_call 82; refine (tvalid_any _ _).mono ?_; rintro e w1 ⟨rfl, rfl⟩)
      go_ret; exact ⟨by simp, rfl⟩
end Go.Proofs.YtlnboheahbfgfaaGreat
