/- Walks of numbers: Valid of both texts, wide.Down, the references' quotients. -/
import Derived.Test.YtlnboheahbfgfaaGreatJ4
namespace Go.Proofs.YtlnboheahbfgfaaGreat
open Go.RowKit

/-- An instant or a duration. -/
def vT (t : Int) : Bool := decide (-1152921504606846976 ≤ t ∧ t ≤ 1152921504606846976)
theorem vT_true {t : Int} : vT t = true ↔ -1152921504606846976 ≤ t ∧ t ≤ 1152921504606846976 := by simp [vT]
theorem vT_false {t : Int} : vT t = false ↔ t < -1152921504606846976 ∨ 1152921504606846976 < t := by simp [vT]; omega
/-- A span. -/
def vS (lo hi : Int) : Bool := vT lo && vT hi && decide (lo ≤ hi)
theorem vS_true {lo hi : Int} : vS lo hi = true ↔ (-1152921504606846976 ≤ lo ∧ lo ≤ hi ∧ hi ≤ 1152921504606846976) := by simp [vS, vT]; omega

theorem tvalid_any (t : Int) (w : World) : Calls Tryz.prog 82 #[.int .i64 t] w fun e w' => e = .returned (.bool (vT t)) ∧ w = w' := by
  by_cases h1 : -1152921504606846976 ≤ t
  · by_cases h2 : t ≤ 1152921504606846976
    · rw [vT_true.2 ⟨h1, h2⟩]
      go_enter Tryz.func82, Tryz.ntmps82
      go_wp2; go_ret; exact ⟨rfl, rfl⟩
    · rw [vT_false.2 (.inr (by omega))]
      go_enter Tryz.func82, Tryz.ntmps82
      go_wp2; go_ret; exact ⟨rfl, rfl⟩
  · rw [vT_false.2 (.inl (by omega))]
    go_enter Tryz.func82, Tryz.ntmps82
    go_wp2; go_ret; exact ⟨rfl, rfl⟩
theorem rvalid_any (t : Int) (w : World) : Calls Tryz.prog 96 #[.int .i64 t] w fun e w' => e = .returned (.bool (vT t)) ∧ w = w' := by
  by_cases h1 : -1152921504606846976 ≤ t
  · by_cases h2 : t ≤ 1152921504606846976
    · rw [vT_true.2 ⟨h1, h2⟩]
      go_enter Tryz.func96, Tryz.ntmps96
      go_wp2; go_ret; exact ⟨rfl, rfl⟩
    · rw [vT_false.2 (.inr (by omega))]
      go_enter Tryz.func96, Tryz.ntmps96
      go_wp2; go_ret; exact ⟨rfl, rfl⟩
  · rw [vT_false.2 (.inl (by omega))]
    go_enter Tryz.func96, Tryz.ntmps96
    go_wp2; go_ret; exact ⟨rfl, rfl⟩

/-- A span's check lays one block. -/
theorem svalid_any (lo hi : Int) (w : World) : Calls Tryz.prog 53 #[.agg #[.int .i64 lo, .int .i64 hi]] w fun e w' => e = .returned (.bool (vS lo hi)) ∧ w' = w.alloc (.cells #[.int .i64 lo, .int .i64 hi] 29) := by
  have hs : vS lo hi = (vT lo && vT hi && decide (lo ≤ hi)) := rfl
  rcases h1 : vT lo
  · rw [hs, h1]
    go_enter Tryz.func53, Tryz.ntmps53
    go_wp2_with (go_at_call 82; refine (tvalid_any _ _).mono ?_; rintro e w1 ⟨rfl, rfl⟩)
    go_ret; exact ⟨rfl, rfl⟩
  · rcases h2 : vT hi
    · rw [hs, h1, h2]
      go_enter Tryz.func53, Tryz.ntmps53
      go_wp2_with (go_at_call 82; refine (tvalid_any _ _).mono ?_; rintro e w1 ⟨rfl, rfl⟩)
      go_ret; exact ⟨rfl, rfl⟩
    · rw [hs, h1, h2]
      go_enter Tryz.func53, Tryz.ntmps53
      go_wp2_with (go_at_call 82; refine (tvalid_any _ _).mono ?_; rintro e w1 ⟨rfl, rfl⟩)
      go_ret; exact ⟨by simp, rfl⟩
theorem rsvalid_any (lo hi : Int) (w : World) : Calls Tryz.prog 61 #[.agg #[.int .i64 lo, .int .i64 hi]] w fun e w' => e = .returned (.bool (vS lo hi)) ∧ w' = w.alloc (.cells #[.int .i64 lo, .int .i64 hi] 29) := by
  have hs : vS lo hi = (vT lo && vT hi && decide (lo ≤ hi)) := rfl
  rcases h1 : vT lo
  · rw [hs, h1]
    go_enter Tryz.func61, Tryz.ntmps61
    go_wp2_with (go_at_call 96; refine (rvalid_any _ _).mono ?_; rintro e w1 ⟨rfl, rfl⟩)
    go_ret; exact ⟨rfl, rfl⟩
  · rcases h2 : vT hi
    · rw [hs, h1, h2]
      go_enter Tryz.func61, Tryz.ntmps61
      go_wp2_with (go_at_call 96; refine (rvalid_any _ _).mono ?_; rintro e w1 ⟨rfl, rfl⟩)
      go_ret; exact ⟨rfl, rfl⟩
    · rw [hs, h1, h2]
      go_enter Tryz.func61, Tryz.ntmps61
      go_wp2_with (go_at_call 96; refine (rvalid_any _ _).mono ?_; rintro e w1 ⟨rfl, rfl⟩)
      go_ret; exact ⟨by simp, rfl⟩

/-- The width. -/
def wid (lo hi : Int) : Int := if vS lo hi then hi - lo else 0
theorem width_any (lo hi : Int) (w : World) : Calls Tryz.prog 150 #[.agg #[.int .i64 lo, .int .i64 hi]] w fun e w' => e = .returned (.int .i64 (wid lo hi)) ∧ Below w.heap.size w w' := by
  rcases h : vS lo hi
  · have e1 : wid lo hi = 0 := by unfold wid; rw [h]; rfl
    rw [e1]
    go_enter Tryz.func150, Tryz.ntmps150
    go_wp2_with (go_at_call 53; refine (svalid_any _ _ _).mono ?_; rintro e w1 ⟨rfl, rfl⟩)
    go_ret; exact ⟨rfl, ((Below.refl _ _).alloc (Nat.le_refl _) _).alloc (by simp) _⟩
  · have e1 : wid lo hi = hi - lo := by unfold wid; rw [h]; rfl
    have b := vS_true.1 h
    rw [e1]
    go_enter Tryz.func150, Tryz.ntmps150
    go_wp2_with (go_at_call 53; refine (svalid_any _ _ _).mono ?_; rintro e w1 ⟨rfl, rfl⟩)
    go_ret; exact ⟨rfl, ((Below.refl _ _).alloc (Nat.le_refl _) _).alloc (by simp) _⟩
/-- wide.Down. -/
theorem wdown_any (a b c : Int) (w : World) (ha : 0 ≤ a) (ha1 : a ≤ 9223372036854775807) (hb : 0 ≤ b) (hb1 : b ≤ 9223372036854775807) (hc : 0 < c) (hc1 : c ≤ 9223372036854775807) (hq : a * b / c ≤ 9223372036854775807) :
    Calls Tryz.prog 128 #[.int .i64 a, .int .i64 b, .int .i64 c] w fun e w' => e = .returned (.int .i64 (a * b / c)) ∧ ∃ n, w' = w.drewN n := by
  have p0 : 0 ≤ a * b := Int.mul_nonneg ha hb
  have q0 : 0 ≤ a * b / c := Int.ediv_nonneg p0 (by omega)
  have p1 : a * b < (a * b / c + 1) * c := by
    have := Int.lt_ediv_add_one_mul_self (a * b) hc
    exact this
  have p2 : (a * b / c + 1) * c ≤ 9223372036854775808 * c := Int.mul_le_mul_of_nonneg_right (by omega) (by omega)
  have p3 : a * b / 18446744073709551616 < c := by omega
  have p4 : 0 ≤ a * b / 18446744073709551616 := by omega
  have p5 : 0 ≤ a * b % 18446744073709551616 ∧ a * b % 18446744073709551616 < 18446744073709551616 := by omega
  have p6 : a * b / 18446744073709551616 * 18446744073709551616 + a * b % 18446744073709551616 = a * b := by omega
  have H6 := Lib.hid p6; clear p6
  clear p1 p2
  go_enter Tryz.func128, Tryz.ntmps128
  go_wp2_with fail
  refine (mul64_any a b ha hb (by omega) (by omega) _).mono ?_
  rintro e w1 ⟨rfl, rfl⟩
  go_wp2_with fail
  refine (div64_any _ _ c p4 p3 p5.1 p5.2 (by omega) _).mono ?_
  rintro e w1 ⟨rfl, n, rfl⟩
  rw [H6.out]
  go_wp2
  go_ret
  exact ⟨rfl, n, rfl⟩
end Go.Proofs.YtlnboheahbfgfaaGreat
