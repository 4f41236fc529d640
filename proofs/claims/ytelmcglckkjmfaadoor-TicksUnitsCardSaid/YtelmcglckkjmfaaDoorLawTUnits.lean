/- The walk of the law TicksUnits. -/
import Derived.Test.YtelmcglckkjmfaaDoorKnown10
import Derived.Test.YtelmcglckkjmfaaDoorWorld
namespace Go.Proofs.YtelmcglckkjmfaaDoor
open Go.RowKit
set_option linter.unusedSimpArgs false
set_option linter.unusedVariables false

theorem uniV_ok {d x : Int} {up : Bool} (h0 : 0 ≤ d) (h : quo d 1 16 up = x) (hx : x ≤ 4294967295) : uniV d up = .tuple #[.int .u32 x, .int .i64 0] := by unfold uniV; rw [h, if_pos ⟨h0, hx⟩]
theorem quo16 (d : Int) : quo d 1 16 false = d / 16 ∧ quo d 1 16 true = if d % 16 = 0 then d / 16 else d / 16 + 1 := by
  refine ⟨by simp [quo], ?_⟩
  rw [quo_up d 1 16 (by omega), Int.mul_one]

set_option maxHeartbeats 2000000 in
theorem ticksUnits_core (x d : Int) (x0 : 0 ≤ x) (x1 : x < 4294967296) (w : World) (hw : Pow10 w) :
    Calls Tryd.prog 7 #[.int .u32 x, .int .i64 d] w (RB w (.bool true)) := by
  have HW := Lib.hid hw; clear hw
  have r1 := fun w => wwithinW d 34359738368 w (by omega) (by omega)
  have n0 : 0 ≤ d % 34359738368 := by omega
  have n1 : d % 34359738368 < 34359738368 := by omega
  generalize d % 34359738368 = n at *
  have r0 := delay_any x x0 x1
  have q1 := units_any (x * 16) false (by omega)
  have q2 := units_any (x * 16) true (by omega)
  have q3 := units_any n false (by omega)
  have q4 := units_any n true (by omega)
  rw [uniV_ok (x := x) (by omega) (by rw [(quo16 _).1]; omega) (by omega)] at q1
  rw [uniV_ok (x := x) (by omega) (by rw [(quo16 _).2, if_pos (by omega)]; omega) (by omega)] at q2
  rw [uniV_ok (x := n / 16) (by omega) (by rw [(quo16 _).1]) (by omega)] at q3
  have p0 : 0 ≤ n / 16 := by omega
  have p1 : n / 16 ≤ 2147483647 := by omega
  have p2 : n / 16 * 16 ≤ n := by omega
  have r5 := delay_any (n / 16) (by omega) (by omega)
  have R0 := Lib.hid r0; have R1 := Lib.hid r1; have Q1 := Lib.hid q1; have Q2 := Lib.hid q2; clear r0 r1 q1 q2
  by_cases hz : n % 16 = 0
  · rw [uniV_ok (x := n / 16) (by omega) (by rw [(quo16 _).2, if_pos hz]) (by omega)] at q4
    have r6 := r5
    have p3 : n ≤ n / 16 * 16 := by omega
    clear hz
    have Q3 := Lib.hid q3; have Q4 := Lib.hid q4; have R5 := Lib.hid r5; have R6 := Lib.hid r6; clear q3 q4 r5 r6
    generalize n / 16 = P at *
    go_enter Tryd.func7, Tryd.ntmps7
    go_wp2_with fail
    refine (R0.out _).mono ?_
    rintro e wq1 ⟨rfl, rfl⟩
    go_wp2_with fail
    refine (Q1.out _).mono ?_
    rintro e wq2 ⟨rfl, nq2, rfl⟩
    go_wp2_with fail
    refine (R0.out _).mono ?_
    rintro e wq3 ⟨rfl, rfl⟩
    go_wp2_with fail
    refine (Q2.out _).mono ?_
    rintro e wq4 ⟨rfl, nq4, rfl⟩
    go_wp2_with fail
    refine (R1.out _).mono ?_
    rintro e wq5 ⟨rfl, rfl⟩
    go_wp2_with fail
    refine (Q3.out _).mono ?_
    rintro e wq6 ⟨rfl, nq6, rfl⟩
    go_wp2_with fail
    refine (Q4.out _).mono ?_
    rintro e wq7 ⟨rfl, nq7, rfl⟩
    go_wp2_with fail
    refine (known10_any _ (HW.out.below (by (repeat' (first | (with_reducible exact Below.refl _ _) | (with_reducible refine below_drewN ?_ _)))))).mono ?_
    rintro e wk ⟨rfl, hbk⟩
    go_wp2_with fail
    refine (R5.out _).mono ?_
    rintro e wq8 ⟨rfl, rfl⟩
    go_wp2_with fail
    refine (R6.out _).mono ?_
    rintro e wq9 ⟨rfl, rfl⟩
    go_wp2
    go_ret
    exact ⟨by first | (simp; done) | (simp; omega) | (simp; rw [Bool.eq_iff_iff]; simp; omega), kept_call hbk (by (repeat' (first | (with_reducible exact Below.refl _ _) | (with_reducible refine below_drewN ?_ _))))⟩
  · rw [uniV_ok (x := n / 16 + 1) (by omega) (by rw [(quo16 _).2, if_neg hz]) (by omega)] at q4
    have r6 := delay_any (n / 16 + 1) (by omega) (by omega)
    have p3 : n ≤ (n / 16 + 1) * 16 := by omega
    clear hz
    have Q3 := Lib.hid q3; have Q4 := Lib.hid q4; have R5 := Lib.hid r5; have R6 := Lib.hid r6; clear q3 q4 r5 r6
    generalize n / 16 = P at *
    go_enter Tryd.func7, Tryd.ntmps7
    go_wp2_with fail
    refine (R0.out _).mono ?_
    rintro e wq1 ⟨rfl, rfl⟩
    go_wp2_with fail
    refine (Q1.out _).mono ?_
    rintro e wq2 ⟨rfl, nq2, rfl⟩
    go_wp2_with fail
    refine (R0.out _).mono ?_
    rintro e wq3 ⟨rfl, rfl⟩
    go_wp2_with fail
    refine (Q2.out _).mono ?_
    rintro e wq4 ⟨rfl, nq4, rfl⟩
    go_wp2_with fail
    refine (R1.out _).mono ?_
    rintro e wq5 ⟨rfl, rfl⟩
    go_wp2_with fail
    refine (Q3.out _).mono ?_
    rintro e wq6 ⟨rfl, nq6, rfl⟩
    go_wp2_with fail
    refine (Q4.out _).mono ?_
    rintro e wq7 ⟨rfl, nq7, rfl⟩
    go_wp2_with fail
    refine (known10_any _ (HW.out.below (by (repeat' (first | (with_reducible exact Below.refl _ _) | (with_reducible refine below_drewN ?_ _)))))).mono ?_
    rintro e wk ⟨rfl, hbk⟩
    go_wp2_with fail
    refine (R5.out _).mono ?_
    rintro e wq8 ⟨rfl, rfl⟩
    go_wp2_with fail
    refine (R6.out _).mono ?_
    rintro e wq9 ⟨rfl, rfl⟩
    go_wp2
    go_ret
    exact ⟨by first | (simp; done) | (simp; omega) | (simp; rw [Bool.eq_iff_iff]; simp; omega), kept_call hbk (by (repeat' (first | (with_reducible exact Below.refl _ _) | (with_reducible refine below_drewN ?_ _))))⟩
theorem ticksUnits_walk (x : Int) (x0 : 0 ≤ x) (x1 : x < 4294967296) (a : Int) (_ : IntIn a) (w : World) (hw : Pow10 w) :
    Walked 7 #[.int .u32 x, .int .i64 a] w := ticksUnits_core x a x0 x1 w hw
end Go.Proofs.YtelmcglckkjmfaaDoor
