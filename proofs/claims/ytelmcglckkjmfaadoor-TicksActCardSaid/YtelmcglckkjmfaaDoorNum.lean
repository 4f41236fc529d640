/- Walks of numbers: Valid of both texts, wide.Down, the references' quotients. -/
import Derived.Test.YtelmcglckkjmfaaDoorDiv
namespace Go.Proofs.YtelmcglckkjmfaaDoor
open Go.RowKit

/-- An instant or a duration. -/
def vT (t : Int) : Bool := decide (-1152921504606846976 ≤ t ∧ t ≤ 1152921504606846976)
theorem vT_true {t : Int} : vT t = true ↔ -1152921504606846976 ≤ t ∧ t ≤ 1152921504606846976 := by simp [vT]
theorem vT_false {t : Int} : vT t = false ↔ t < -1152921504606846976 ∨ 1152921504606846976 < t := by simp [vT]; omega
/-- A span. -/
def vS (lo hi : Int) : Bool := vT lo && vT hi && decide (lo ≤ hi)
theorem vS_true {lo hi : Int} : vS lo hi = true ↔ (-1152921504606846976 ≤ lo ∧ lo ≤ hi ∧ hi ≤ 1152921504606846976) := by simp [vS, vT]; omega

theorem tvalid_any (t : Int) (w : World) : Calls Tryd.prog 29 #[.int .i64 t] w fun e w' => e = .returned (.bool (vT t)) ∧ w = w' := by
  by_cases h1 : -1152921504606846976 ≤ t
  · by_cases h2 : t ≤ 1152921504606846976
    · rw [vT_true.2 ⟨h1, h2⟩]
      go_enter Tryd.func29, Tryd.ntmps29
      go_wp2; go_ret; exact ⟨rfl, rfl⟩
    · rw [vT_false.2 (.inr (by omega))]
      go_enter Tryd.func29, Tryd.ntmps29
      go_wp2; go_ret; exact ⟨rfl, rfl⟩
  · rw [vT_false.2 (.inl (by omega))]
    go_enter Tryd.func29, Tryd.ntmps29
    go_wp2; go_ret; exact ⟨rfl, rfl⟩
theorem rvalid_any (t : Int) (w : World) : Calls Tryd.prog 16 #[.int .i64 t] w fun e w' => e = .returned (.bool (vT t)) ∧ w = w' := by
  by_cases h1 : -1152921504606846976 ≤ t
  · by_cases h2 : t ≤ 1152921504606846976
    · rw [vT_true.2 ⟨h1, h2⟩]
      go_enter Tryd.func16, Tryd.ntmps16
      go_wp2; go_ret; exact ⟨rfl, rfl⟩
    · rw [vT_false.2 (.inr (by omega))]
      go_enter Tryd.func16, Tryd.ntmps16
      go_wp2; go_ret; exact ⟨rfl, rfl⟩
  · rw [vT_false.2 (.inl (by omega))]
    go_enter Tryd.func16, Tryd.ntmps16
    go_wp2; go_ret; exact ⟨rfl, rfl⟩


/-- The width. -/
def wid (lo hi : Int) : Int := if vS lo hi then hi - lo else 0

end Go.Proofs.YtelmcglckkjmfaaDoor
