/- The walk of the law TicksDivide. -/
import Derived.Test.YtelmcglckkjmfaaDoorKnown10
import Derived.Test.YtelmcglckkjmfaaDoorWorld
namespace Go.Proofs.YtelmcglckkjmfaaDoor
open Go.RowKit
set_option linter.unusedSimpArgs false
set_option linter.unusedVariables false

theorem wrapI {x : Int} (h1 : -9223372036854775808 ≤ x) (h2 : x ≤ 9223372036854775807) : IntKind.i64.wrap x = x := IntWalk.i64_in _ (by omega)
theorem quo_one (a b : Int) : quo a 1 b false = a / b := by simp [quo]
theorem quo_one_up (a b : Int) (hb : 0 < b) : quo a 1 b true = if a % b = 0 then a / b else a / b + 1 := by rw [quo_up a 1 b hb, Int.mul_one]

set_option maxHeartbeats 2000000 in
theorem ticksDivide_core (a b : Int) (w : World) (hw : Pow10 w) :
    Calls Tryd.prog 5 #[.int .i64 a, .int .i64 b] w (RB w (.bool true)) := by
  have HW := Lib.hid hw; clear hw
  have r0 := rvalid_any a
  rcases h : vT a
  · rw [h] at r0
    have R0 := Lib.hid r0; clear r0 h
    go_enter Tryd.func5, Tryd.ntmps5
    go_wp2_with fail
    refine (R0.out _).mono ?_
    rintro e wq1 ⟨rfl, rfl⟩
    go_wp2_with fail
    refine (known10_any _ (HW.out.below (by (repeat' (first | (with_reducible exact Below.refl _ _) | (with_reducible refine below_drewN ?_ _)))))).mono ?_
    rintro e wk ⟨rfl, hbk⟩
    go_wp2
    go_ret
    exact ⟨by first | (simp; done) | (simp; omega), kept_call hbk (by (repeat' (first | (with_reducible exact Below.refl _ _) | (with_reducible refine below_drewN ?_ _))))⟩
  · have hv := vT_true.1 h
    rw [h] at r0
    have r1 := fun w => wwithinW b 1073741824 w (by omega) (by omega)
    have n0 : 0 ≤ b % 1073741824 := by omega
    have n1 : b % 1073741824 < 1073741824 := by omega
    generalize b % 1073741824 = n at *
    have d0 := divide_any a (1 + n) false (by omega)
    have d1 := divide_any a (1 + n) true (by omega)
    rw [divV_ok (by omega) h, quo_one] at d0
    rw [divV_ok (by omega) h, quo_one_up a (1 + n) (by omega)] at d1
    have r2 := part_any a
    have r3 := second_any a (by omega) (by omega)
    have e1 : a / 1048576 * 1048576 + a % 1048576 = a := by omega
    have p0 : 0 ≤ a % 1048576 := by omega
    have p1 : a % 1048576 < 1048576 := by omega
    have s0 : -1099511627776 ≤ a / 1048576 := by omega
    have s1 : a / 1048576 ≤ 1099511627776 := by omega
    have g0 := Int.emod_nonneg a (show 1 + n ≠ 0 by omega)
    have g1 := Int.emod_lt_of_pos a (show 0 < 1 + n by omega)
    have g2 := Int.ediv_mul_add_emod a (1 + n)
    have g2b := g2
    rw [Int.mul_add, Int.mul_one] at g2b
    have g3 : -2305843009213693952 ≤ a / (1 + n) := by
      rcases (show a / (1 + n) < 0 ∨ 0 ≤ a / (1 + n) by omega) with q | q
      · have hm := Int.mul_nonneg (show 0 ≤ -(a / (1 + n)) by omega) n0; rw [Int.neg_mul] at hm; omega
      · omega
    have g4 : a / (1 + n) ≤ 1152921504606846976 := by
      rcases (show a / (1 + n) < 0 ∨ 0 ≤ a / (1 + n) by omega) with q | q
      · omega
      · have hm := Int.mul_nonneg q n0; omega
    generalize a / 1048576 = s at *
    generalize a % 1048576 = p at *
    generalize a / (1 + n) = X at *
    generalize a % (1 + n) = r at *
    have g5 : X * (1 + n) = a - r := by omega
    have g6 : IntKind.i64.wrap (X * (1 + n)) = a - r := by rw [g5]; exact wrapI (by omega) (by omega)
    have g7 : a - (a - r) = r := by omega
    have R0 := Lib.hid r0; have R1 := Lib.hid r1; have R2 := Lib.hid r2; have R3 := Lib.hid r3; have D0 := Lib.hid d0; clear r0 r1 r2 r3 d0 h g2 g2b
    by_cases hr : r = 0
    · rw [if_pos hr] at d1
      subst hr
      have D1 := Lib.hid d1; clear d1
      go_enter Tryd.func5, Tryd.ntmps5
      go_wp2_with fail
      refine (R0.out _).mono ?_
      rintro e wq1 ⟨rfl, rfl⟩
      go_wp2_with fail
      refine (R1.out _).mono ?_
      rintro e wq2 ⟨rfl, rfl⟩
      go_wp2_with fail
      refine (D0.out _).mono ?_
      rintro e wq3 ⟨rfl, nq3, rfl⟩
      go_wp2_with fail
      refine (D1.out _).mono ?_
      rintro e wq4 ⟨rfl, nq4, rfl⟩
      go_wp2_with fail
      refine (R2.out _).mono ?_
      rintro e wq5 ⟨rfl, rfl⟩
      go_wp2_with fail
      refine (R3.out _).mono ?_
      rintro e wq6 ⟨rfl, rfl⟩
      go_wp2_with fail
      refine (known10_any _ (HW.out.below (by (repeat' (first | (with_reducible exact Below.refl _ _) | (with_reducible refine below_drewN ?_ _)))))).mono ?_
      rintro e wk ⟨rfl, hbk⟩
      go_wp2
      go_ret
      exact ⟨by first | (simp; done) | (simp; omega), kept_call hbk (by (repeat' (first | (with_reducible exact Below.refl _ _) | (with_reducible refine below_drewN ?_ _))))⟩
    · rw [if_neg hr] at d1
      have D1 := Lib.hid d1; clear d1
      have hr' : decide (r = 0) = false := by simp [hr]
      have hr2 : (r == 0) = false := by simp [hr]
      go_enter Tryd.func5, Tryd.ntmps5
      go_wp2_with fail
      refine (R0.out _).mono ?_
      rintro e wq1 ⟨rfl, rfl⟩
      go_wp2_with fail
      refine (R1.out _).mono ?_
      rintro e wq2 ⟨rfl, rfl⟩
      go_wp2_with fail
      refine (D0.out _).mono ?_
      rintro e wq3 ⟨rfl, nq3, rfl⟩
      go_wp2_with fail
      refine (D1.out _).mono ?_
      rintro e wq4 ⟨rfl, nq4, rfl⟩
      go_wp2_with fail
      refine (R2.out _).mono ?_
      rintro e wq5 ⟨rfl, rfl⟩
      go_wp2_with fail
      refine (R3.out _).mono ?_
      rintro e wq6 ⟨rfl, rfl⟩
      go_wp2_with fail
      refine (known10_any _ (HW.out.below (by (repeat' (first | (with_reducible exact Below.refl _ _) | (with_reducible refine below_drewN ?_ _)))))).mono ?_
      rintro e wk ⟨rfl, hbk⟩
      go_wp2
      go_ret
      exact ⟨by first | (simp; done) | (simp; omega), kept_call hbk (by (repeat' (first | (with_reducible exact Below.refl _ _) | (with_reducible refine below_drewN ?_ _))))⟩
theorem ticksDivide_walk (a : Int) (_ : IntIn a) (b : Int) (_ : IntIn b) (w : World) (hw : Pow10 w) :
    Walked 5 #[.int .i64 a, .int .i64 b] w := ticksDivide_core a b w hw
end Go.Proofs.YtelmcglckkjmfaaDoor
