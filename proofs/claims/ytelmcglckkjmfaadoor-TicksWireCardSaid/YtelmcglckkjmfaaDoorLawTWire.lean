/- The walk of the law TicksWire. -/
import Derived.Test.YtelmcglckkjmfaaDoorKnown10
import Derived.Test.YtelmcglckkjmfaaDoorWorld
namespace Go.Proofs.YtelmcglckkjmfaaDoor
open Go.RowKit
set_option linter.unusedSimpArgs false
set_option linter.unusedVariables false

theorem wrapI' {x : Int} (h1 : -9223372036854775808 ≤ x) (h2 : x ≤ 9223372036854775807) : IntKind.i64.wrap x = x := IntWalk.i64_in _ (by omega)
theorem i64_mask52 (n : Int) : bits .and .i64 n 4503599627370495 = n % 4503599627370496 := i64_mask n 52 (by omega)

set_option maxHeartbeats 2000000 in
theorem ticksWire_core (a x : Int) (x0 : 0 ≤ x) (x1 : x < 18446744073709551616) (w : World) (hw : Pow10 w) :
    Calls Tryd.prog 6 #[.int .i64 a, .int .u64 x] w (RB w (.bool true)) := by
  have HW := Lib.hid hw; clear hw
  have r1 := fun w => wwithinW a 288230376151711744 w (by omega) (by omega)
  have n0 : 0 ≤ a % 288230376151711744 := by omega
  have n1 : a % 288230376151711744 < 288230376151711744 := by omega
  generalize a % 288230376151711744 = n at *
  have q1 := wire_any n (vT_true.2 (by omega))
  have q2 := wire_any (n + 4503599627370496) (vT_true.2 (by omega))
  rw [show (n + 4503599627370496) * 4096 % 18446744073709551616 = n * 4096 % 18446744073709551616 by omega] at q2
  have y0 : 0 ≤ n * 4096 % 18446744073709551616 := by omega
  have y1 : n * 4096 % 18446744073709551616 < 18446744073709551616 := by omega
  have y2 : n * 4096 % 18446744073709551616 / 4096 = n % 4503599627370496 := by omega
  have y3 : n * 4096 % 18446744073709551616 % 4096 = 0 := by omega
  have q3 := down_any x x0 x1
  have q4 := up_any x x0 x1
  have q5 := down_any (n * 4096 % 18446744073709551616) y0 y1
  have q6 := up_any (n * 4096 % 18446744073709551616) y0 y1
  rw [y2] at q5
  rw [show upN (n * 4096 % 18446744073709551616) = n % 4503599627370496 by unfold upN; rw [if_pos y3, y2]] at q6
  have m1 := i64_mask52 n
  have m2 := u64_mask12 x
  clear y2 y3
  generalize n * 4096 % 18446744073709551616 = y at *
  generalize n % 4503599627370496 = m at *
  have z0 : 0 ≤ x / 4096 := by omega
  have z1 : x / 4096 ≤ 4503599627370496 := by omega
  have R1 := Lib.hid r1; have Q1 := Lib.hid q1; have Q2 := Lib.hid q2; have Q3 := Lib.hid q3; have Q5 := Lib.hid q5; have Q6 := Lib.hid q6; clear r1 q1 q2 q3 q5 q6
  by_cases hz : x % 4096 = 0
  · rw [show upN x = x / 4096 from if_pos hz] at q4
    rw [hz] at m2
    have Q4 := Lib.hid q4; clear q4 hz
    generalize x / 4096 = z at *
    go_enter Tryd.func6, Tryd.ntmps6
    go_wp2_with fail
    refine (R1.out _).mono ?_
    rintro e wq1 ⟨rfl, rfl⟩
    go_wp2_with fail
    refine (Q1.out _).mono ?_
    rintro e wq2 ⟨rfl, rfl⟩
    go_wp2_with fail
    refine (Q2.out _).mono ?_
    rintro e wq3 ⟨rfl, rfl⟩
    go_wp2_with fail
    refine (Q3.out _).mono ?_
    rintro e wq4 ⟨rfl, rfl⟩
    go_wp2_with fail
    refine (Q4.out _).mono ?_
    rintro e wq5 ⟨rfl, rfl⟩
    go_wp2_with fail
    refine (known10_any _ HW.out).mono ?_
    rintro e wk ⟨rfl, hbk⟩
    go_wp2_with fail
    refine (Q5.out _).mono ?_
    rintro e wq5 ⟨rfl, rfl⟩
    go_wp2_with fail
    refine (Q6.out _).mono ?_
    rintro e wq6 ⟨rfl, rfl⟩
    go_wp2_with fail
    refine (Q5.out _).mono ?_
    rintro e wq5 ⟨rfl, rfl⟩
    go_wp2
    go_ret
    exact ⟨by first | (simp; done) | (simp; omega) | (simp; rw [Bool.eq_iff_iff]; simp; omega), hbk⟩
  · rw [show upN x = x / 4096 + 1 from if_neg hz] at q4
    have hm : 0 < x % 4096 := by omega
    have Q4 := Lib.hid q4; clear q4 hz
    generalize x / 4096 = z at *
    generalize x % 4096 = mm at *
    go_enter Tryd.func6, Tryd.ntmps6
    go_wp2_with fail
    refine (R1.out _).mono ?_
    rintro e wq1 ⟨rfl, rfl⟩
    go_wp2_with fail
    refine (Q1.out _).mono ?_
    rintro e wq2 ⟨rfl, rfl⟩
    go_wp2_with fail
    refine (Q2.out _).mono ?_
    rintro e wq3 ⟨rfl, rfl⟩
    go_wp2_with fail
    refine (Q3.out _).mono ?_
    rintro e wq4 ⟨rfl, rfl⟩
    go_wp2_with fail
    refine (Q4.out _).mono ?_
    rintro e wq5 ⟨rfl, rfl⟩
    go_wp2_with fail
    refine (known10_any _ HW.out).mono ?_
    rintro e wk ⟨rfl, hbk⟩
    go_wp2_with fail
    refine (Q5.out _).mono ?_
    rintro e wq5 ⟨rfl, rfl⟩
    go_wp2_with fail
    refine (Q6.out _).mono ?_
    rintro e wq6 ⟨rfl, rfl⟩
    go_wp2_with fail
    refine (Q5.out _).mono ?_
    rintro e wq5 ⟨rfl, rfl⟩
    go_wp2
    go_ret
    exact ⟨by first | (simp; done) | (simp; omega) | (simp; rw [Bool.eq_iff_iff]; simp; omega), hbk⟩
theorem ticksWire_walk (a : Int) (_ : IntIn a) (x : Int) (x0 : 0 ≤ x) (x1 : x < 18446744073709551616) (w : World) (hw : Pow10 w) :
    Walked 6 #[.int .i64 a, .int .u64 x] w := ticksWire_core a x x0 x1 w hw
end Go.Proofs.YtelmcglckkjmfaaDoor
