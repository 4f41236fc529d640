/- The walk of the law TicksScale. -/
import Derived.Test.YtelmcglckkjmfaaDoorKnown10
import Derived.Test.YtelmcglckkjmfaaDoorWorld
namespace Go.Proofs.YtelmcglckkjmfaaDoor
open Go.RowKit
set_option linter.unusedSimpArgs false
set_option linter.unusedVariables false

theorem wrapI2 {x : Int} (h1 : -9223372036854775808 ≤ x) (h2 : x ≤ 9223372036854775807) : IntKind.i64.wrap x = x := IntWalk.i64_in _ (by omega)
theorem scale_plain (d o p : Int) (d0 : 0 ≤ d) (d1 : d < 576460752303423488) (p0 : 0 ≤ p) (p1 : p ≤ 1000000) (o0 : 0 ≤ o) :
    0 ≤ quo d p 1000000000 false ∧ quo d p 1000000000 false ≤ 576460752303423 ∧ (quo d p 1000000000 true = quo d p 1000000000 false ∨ quo d p 1000000000 true = quo d p 1000000000 false + 1) ∧ quo (-d) p 1000000000 false = -quo d p 1000000000 true ∧
    (d ≤ o → quo d p 1000000000 false ≤ quo o p 1000000000 false) ∧ (o ≤ d → quo o p 1000000000 false ≤ quo d p 1000000000 false) ∧ quo (d / 1000000000 * 1000000000) p 1000000000 false = d / 1000000000 * p ∧ 0 ≤ d / 1000000000 * p ∧ d / 1000000000 * p ≤ 576460752303423 := by
  have m0 := Int.mul_nonneg d0 p0
  have m1 := Int.mul_le_mul (show d ≤ 576460752303423487 by omega) p1 p0 (by omega)
  have k0 := Int.mul_nonneg (show 0 ≤ d / 1000000000 by omega) p0
  have k1 := Int.mul_le_mul (show d / 1000000000 ≤ 576460752 by omega) p1 p0 (by omega)
  refine ⟨by rw [quo_down]; omega, by rw [quo_down]; omega, ?_, ?_, ?_, ?_, ?_, k0, by omega⟩
  · rw [quo_up _ _ _ (by omega), quo_down]; split <;> omega
  · simp only [quo, if_true, Bool.false_eq_true, if_false, Int.neg_mul]; omega
  · intro h; have := Int.mul_le_mul_of_nonneg_right h p0; rw [quo_down, quo_down]; omega
  · intro h; have := Int.mul_le_mul_of_nonneg_right h p0; rw [quo_down, quo_down]; omega
  · rw [quo_down, Int.mul_assoc, Int.mul_comm 1000000000 p, ← Int.mul_assoc, Int.mul_ediv_cancel _ (by omega)]

set_option maxHeartbeats 4000000 in
theorem ticksScale_core (d o p : Int) (w : World) (hw : Pow10 w) :
    Calls Tryd.prog 3 #[.int .i64 d, .int .i64 o, .int .i64 p] w (RB w (.bool true)) := by
  have HW := Lib.hid hw; clear hw
  have rd := fun w => wwithinW d 576460752303423488 w (by omega) (by omega)
  have d0 : 0 ≤ d % 576460752303423488 := by omega
  have d1 : d % 576460752303423488 < 576460752303423488 := by omega
  generalize d % 576460752303423488 = d' at *
  have Rd := Lib.hid rd; clear rd
  have ro := fun w => wwithinW o 576460752303423488 w (by omega) (by omega)
  have o0 : 0 ≤ o % 576460752303423488 := by omega
  have o1 : o % 576460752303423488 < 576460752303423488 := by omega
  generalize o % 576460752303423488 = o' at *
  have Ro := Lib.hid ro; clear ro
  have rp := fun w => wwithinW p 1000001 w (by omega) (by omega)
  have p0 : 0 ≤ p % 1000001 := by omega
  have p1 : p % 1000001 < 1000001 := by omega
  generalize p % 1000001 = p' at *
  have Rp := Lib.hid rp; clear rp
  obtain ⟨f0, f1, f2, f3, f4, f5, f6, f7, f8⟩ := scale_plain d' o' p' d0 (by omega) p0 (by omega) o0
  have g := scale_plain o' o' p' o0 (by omega) p0 (by omega) o0
  have g0 := g.1; have g1 := g.2.1; clear g
  have q1 := scale_any d' p' false
  have q2 := scale_any d' p' true
  have q3 := scale_any o' p' false
  have q4 := scale_any (-d') p' false
  have q5 := scale_any (d' / 1000000000 * 1000000000) p' false
  rw [sclV_ok (vT_true.2 (by omega)) p0 (by omega)] at q1 q2 q3 q4 q5
  rw [f3] at q4
  rw [f6] at q5
  have e1 : 0 ≤ d' / 1000000000 := by omega
  have e2 : d' / 1000000000 ≤ 576460752 := by omega
  obtain ⟨v, hv⟩ : ∃ v, v = d' / 1000000000 * p' := ⟨_, rfl⟩
  rw [← hv] at q5 f7 f8
  have e3 : wrap64 (d' / 1000000000 * p') = v := by rw [← hv]; unfold wrap64; omega
  clear hv
  generalize quo d' p' 1000000000 false = x at *
  generalize quo d' p' 1000000000 true = y at *
  generalize quo o' p' 1000000000 false = z at *
  have Q1 := Lib.hid q1; have Q3 := Lib.hid q3; have Q5 := Lib.hid q5; clear q1 q3 q5 f3 f6
  rcases (show d' < o' ∨ d' = o' ∨ o' < d' by omega) with h | rfl | h
  · have hx := f4 (by omega)
    clear f4 f5
    rcases f2 with rfl | rfl
    · skip
      have Q2 := Lib.hid q2; have Q4 := Lib.hid q4; clear q2 q4
      go_enter Tryd.func3, Tryd.ntmps3
      go_wp2_with fail
      refine (Rd.out _).mono ?_
      rintro e wq1 ⟨rfl, rfl⟩
      go_wp2_with fail
      refine (Ro.out _).mono ?_
      rintro e wq2 ⟨rfl, rfl⟩
      go_wp2_with fail
      refine (Rp.out _).mono ?_
      rintro e wq3 ⟨rfl, rfl⟩
      go_wp2_with fail
      refine (Q1.out _).mono ?_
      rintro e wq4 ⟨rfl, nq4, rfl⟩
      go_wp2_with fail
      refine (Q2.out _).mono ?_
      rintro e wq5 ⟨rfl, nq5, rfl⟩
      go_wp2_with fail
      refine (Q3.out _).mono ?_
      rintro e wq6 ⟨rfl, nq6, rfl⟩
      go_wp2_with fail
      refine (Q4.out _).mono ?_
      rintro e wq7 ⟨rfl, nq7, rfl⟩
      go_wp2_with fail
      refine (Q5.out _).mono ?_
      rintro e wq8 ⟨rfl, nq8, rfl⟩
      go_wp2_with fail
      refine (known10_any _ (HW.out.below (by (repeat' (first | (with_reducible exact Below.refl _ _) | (with_reducible refine below_drewN ?_ _)))))).mono ?_
      rintro e wk ⟨rfl, hbk⟩
      go_wp2
      go_ret
      exact ⟨by first | (simp; done) | (simp; omega) | (simp; rw [Bool.eq_iff_iff]; simp; omega) | (simp; trace_state; sorry), kept_call hbk (by (repeat' (first | (with_reducible exact Below.refl _ _) | (with_reducible refine below_drewN ?_ _))))⟩
    · skip
      have Q2 := Lib.hid q2; have Q4 := Lib.hid q4; clear q2 q4
      go_enter Tryd.func3, Tryd.ntmps3
      go_wp2_with fail
      refine (Rd.out _).mono ?_
      rintro e wq1 ⟨rfl, rfl⟩
      go_wp2_with fail
      refine (Ro.out _).mono ?_
      rintro e wq2 ⟨rfl, rfl⟩
      go_wp2_with fail
      refine (Rp.out _).mono ?_
      rintro e wq3 ⟨rfl, rfl⟩
      go_wp2_with fail
      refine (Q1.out _).mono ?_
      rintro e wq4 ⟨rfl, nq4, rfl⟩
      go_wp2_with fail
      refine (Q2.out _).mono ?_
      rintro e wq5 ⟨rfl, nq5, rfl⟩
      go_wp2_with fail
      refine (Q3.out _).mono ?_
      rintro e wq6 ⟨rfl, nq6, rfl⟩
      go_wp2_with fail
      refine (Q4.out _).mono ?_
      rintro e wq7 ⟨rfl, nq7, rfl⟩
      go_wp2_with fail
      refine (Q5.out _).mono ?_
      rintro e wq8 ⟨rfl, nq8, rfl⟩
      go_wp2_with fail
      refine (known10_any _ (HW.out.below (by (repeat' (first | (with_reducible exact Below.refl _ _) | (with_reducible refine below_drewN ?_ _)))))).mono ?_
      rintro e wk ⟨rfl, hbk⟩
      go_wp2
      go_ret
      exact ⟨by first | (simp; done) | (simp; omega) | (simp; rw [Bool.eq_iff_iff]; simp; omega) | (simp; trace_state; sorry), kept_call hbk (by (repeat' (first | (with_reducible exact Below.refl _ _) | (with_reducible refine below_drewN ?_ _))))⟩
  · have hx := f4 (by omega)
    have hx2 := f5 (by omega)
    obtain rfl : z = x := by omega
    clear f4 f5 hx hx2
    rcases f2 with rfl | rfl
    · skip
      have Q2 := Lib.hid q2; have Q4 := Lib.hid q4; clear q2 q4
      go_enter Tryd.func3, Tryd.ntmps3
      go_wp2_with fail
      refine (Rd.out _).mono ?_
      rintro e wq1 ⟨rfl, rfl⟩
      go_wp2_with fail
      refine (Ro.out _).mono ?_
      rintro e wq2 ⟨rfl, rfl⟩
      go_wp2_with fail
      refine (Rp.out _).mono ?_
      rintro e wq3 ⟨rfl, rfl⟩
      go_wp2_with fail
      refine (Q1.out _).mono ?_
      rintro e wq4 ⟨rfl, nq4, rfl⟩
      go_wp2_with fail
      refine (Q2.out _).mono ?_
      rintro e wq5 ⟨rfl, nq5, rfl⟩
      go_wp2_with fail
      refine (Q3.out _).mono ?_
      rintro e wq6 ⟨rfl, nq6, rfl⟩
      go_wp2_with fail
      refine (Q4.out _).mono ?_
      rintro e wq7 ⟨rfl, nq7, rfl⟩
      go_wp2_with fail
      refine (Q5.out _).mono ?_
      rintro e wq8 ⟨rfl, nq8, rfl⟩
      go_wp2_with fail
      refine (known10_any _ (HW.out.below (by (repeat' (first | (with_reducible exact Below.refl _ _) | (with_reducible refine below_drewN ?_ _)))))).mono ?_
      rintro e wk ⟨rfl, hbk⟩
      go_wp2
      go_ret
      exact ⟨by first | (simp; done) | (simp; omega) | (simp; rw [Bool.eq_iff_iff]; simp; omega) | (simp; trace_state; sorry), kept_call hbk (by (repeat' (first | (with_reducible exact Below.refl _ _) | (with_reducible refine below_drewN ?_ _))))⟩
    · skip
      have Q2 := Lib.hid q2; have Q4 := Lib.hid q4; clear q2 q4
      go_enter Tryd.func3, Tryd.ntmps3
      go_wp2_with fail
      refine (Rd.out _).mono ?_
      rintro e wq1 ⟨rfl, rfl⟩
      go_wp2_with fail
      refine (Ro.out _).mono ?_
      rintro e wq2 ⟨rfl, rfl⟩
      go_wp2_with fail
      refine (Rp.out _).mono ?_
      rintro e wq3 ⟨rfl, rfl⟩
      go_wp2_with fail
      refine (Q1.out _).mono ?_
      rintro e wq4 ⟨rfl, nq4, rfl⟩
      go_wp2_with fail
      refine (Q2.out _).mono ?_
      rintro e wq5 ⟨rfl, nq5, rfl⟩
      go_wp2_with fail
      refine (Q3.out _).mono ?_
      rintro e wq6 ⟨rfl, nq6, rfl⟩
      go_wp2_with fail
      refine (Q4.out _).mono ?_
      rintro e wq7 ⟨rfl, nq7, rfl⟩
      go_wp2_with fail
      refine (Q5.out _).mono ?_
      rintro e wq8 ⟨rfl, nq8, rfl⟩
      go_wp2_with fail
      refine (known10_any _ (HW.out.below (by (repeat' (first | (with_reducible exact Below.refl _ _) | (with_reducible refine below_drewN ?_ _)))))).mono ?_
      rintro e wk ⟨rfl, hbk⟩
      go_wp2
      go_ret
      exact ⟨by first | (simp; done) | (simp; omega) | (simp; rw [Bool.eq_iff_iff]; simp; omega) | (simp; trace_state; sorry), kept_call hbk (by (repeat' (first | (with_reducible exact Below.refl _ _) | (with_reducible refine below_drewN ?_ _))))⟩
  · have hx := f5 (by omega)
    clear f4 f5
    rcases f2 with rfl | rfl
    · skip
      have Q2 := Lib.hid q2; have Q4 := Lib.hid q4; clear q2 q4
      go_enter Tryd.func3, Tryd.ntmps3
      go_wp2_with fail
      refine (Rd.out _).mono ?_
      rintro e wq1 ⟨rfl, rfl⟩
      go_wp2_with fail
      refine (Ro.out _).mono ?_
      rintro e wq2 ⟨rfl, rfl⟩
      go_wp2_with fail
      refine (Rp.out _).mono ?_
      rintro e wq3 ⟨rfl, rfl⟩
      go_wp2_with fail
      refine (Q1.out _).mono ?_
      rintro e wq4 ⟨rfl, nq4, rfl⟩
      go_wp2_with fail
      refine (Q2.out _).mono ?_
      rintro e wq5 ⟨rfl, nq5, rfl⟩
      go_wp2_with fail
      refine (Q3.out _).mono ?_
      rintro e wq6 ⟨rfl, nq6, rfl⟩
      go_wp2_with fail
      refine (Q4.out _).mono ?_
      rintro e wq7 ⟨rfl, nq7, rfl⟩
      go_wp2_with fail
      refine (Q5.out _).mono ?_
      rintro e wq8 ⟨rfl, nq8, rfl⟩
      go_wp2_with fail
      refine (known10_any _ (HW.out.below (by (repeat' (first | (with_reducible exact Below.refl _ _) | (with_reducible refine below_drewN ?_ _)))))).mono ?_
      rintro e wk ⟨rfl, hbk⟩
      go_wp2
      go_ret
      exact ⟨by first | (simp; done) | (simp; omega) | (simp; rw [Bool.eq_iff_iff]; simp; omega) | (simp; trace_state; sorry), kept_call hbk (by (repeat' (first | (with_reducible exact Below.refl _ _) | (with_reducible refine below_drewN ?_ _))))⟩
    · skip
      have Q2 := Lib.hid q2; have Q4 := Lib.hid q4; clear q2 q4
      go_enter Tryd.func3, Tryd.ntmps3
      go_wp2_with fail
      refine (Rd.out _).mono ?_
      rintro e wq1 ⟨rfl, rfl⟩
      go_wp2_with fail
      refine (Ro.out _).mono ?_
      rintro e wq2 ⟨rfl, rfl⟩
      go_wp2_with fail
      refine (Rp.out _).mono ?_
      rintro e wq3 ⟨rfl, rfl⟩
      go_wp2_with fail
      refine (Q1.out _).mono ?_
      rintro e wq4 ⟨rfl, nq4, rfl⟩
      go_wp2_with fail
      refine (Q2.out _).mono ?_
      rintro e wq5 ⟨rfl, nq5, rfl⟩
      go_wp2_with fail
      refine (Q3.out _).mono ?_
      rintro e wq6 ⟨rfl, nq6, rfl⟩
      go_wp2_with fail
      refine (Q4.out _).mono ?_
      rintro e wq7 ⟨rfl, nq7, rfl⟩
      go_wp2_with fail
      refine (Q5.out _).mono ?_
      rintro e wq8 ⟨rfl, nq8, rfl⟩
      go_wp2_with fail
      refine (known10_any _ (HW.out.below (by (repeat' (first | (with_reducible exact Below.refl _ _) | (with_reducible refine below_drewN ?_ _)))))).mono ?_
      rintro e wk ⟨rfl, hbk⟩
      go_wp2
      go_ret
      exact ⟨by first | (simp; done) | (simp; omega) | (simp; rw [Bool.eq_iff_iff]; simp; omega) | (simp; trace_state; sorry), kept_call hbk (by (repeat' (first | (with_reducible exact Below.refl _ _) | (with_reducible refine below_drewN ?_ _))))⟩
theorem ticksScale_walk (a : Int) (_ : IntIn a) (b : Int) (_ : IntIn b) (c : Int) (_ : IntIn c) (w : World) (hw : Pow10 w) :
    Walked 3 #[.int .i64 a, .int .i64 b, .int .i64 c] w := ticksScale_core a b c w hw
end Go.Proofs.YtelmcglckkjmfaaDoor
