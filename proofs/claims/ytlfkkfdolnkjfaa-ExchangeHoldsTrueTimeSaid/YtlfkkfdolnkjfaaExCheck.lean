/- Walks: exchange.Check. -/
import Derived.Test.YtlfkkfdolnkjfaaKit
import Derived.Test.YtlfkkfdolnkjfaaDrift
import Derived.Test.YtlfkkfdolnkjfaaNum
namespace Go.Proofs.Ytlfkkfdolnkjfaa
open Go.RowKit

/-- What Check returns. -/
def exE (t1 t2 t3 t4 err : Int) : Int := if vT t1 && vT t2 && vT t3 && vT t4 && decide (0 ≤ err) && decide (err ≤ 1152921504606846976) then (if t4 < t1 ∨ t3 < t2 then 12 else 0) else 4
theorem exE_4 {t1 t2 t3 t4 err : Int} (h : vT t1 = false ∨ vT t2 = false ∨ vT t3 = false ∨ vT t4 = false ∨ err < 0 ∨ 1152921504606846976 < err) : exE t1 t2 t3 t4 err = 4 := by
  unfold exE
  rw [if_neg]
  intro q
  simp only [Bool.and_eq_true, decide_eq_true_eq] at q
  obtain ⟨⟨⟨⟨⟨q1, q2⟩, q3⟩, q4⟩, q5⟩, q6⟩ := q
  rw [q1, q2, q3, q4] at h
  simp at h
  omega
theorem exE_in {t1 t2 t3 t4 err : Int} (h1 : vT t1 = true) (h2 : vT t2 = true) (h3 : vT t3 = true) (h4 : vT t4 = true) (h5 : 0 ≤ err) (h6 : err ≤ 1152921504606846976) : exE t1 t2 t3 t4 err = if t4 < t1 ∨ t3 < t2 then 12 else 0 := by
  unfold exE
  rw [if_pos (by simp [h1, h2, h3, h4, h5, h6])]
theorem exE_12 {t1 t2 t3 t4 err : Int} (h1 : vT t1 = true) (h2 : vT t2 = true) (h3 : vT t3 = true) (h4 : vT t4 = true) (h5 : 0 ≤ err) (h6 : err ≤ 1152921504606846976) (h : t4 < t1 ∨ t3 < t2) : exE t1 t2 t3 t4 err = 12 := by rw [exE_in h1 h2 h3 h4 h5 h6, if_pos h]
theorem exE_0 {t1 t2 t3 t4 err : Int} (h1 : vT t1 = true) (h2 : vT t2 = true) (h3 : vT t3 = true) (h4 : vT t4 = true) (h5 : 0 ≤ err) (h6 : err ≤ 1152921504606846976) (h : t1 ≤ t4) (h' : t2 ≤ t3) : exE t1 t2 t3 t4 err = 0 := by rw [exE_in h1 h2 h3 h4 h5 h6, if_neg (by omega)]
def ExRel (t1 t2 t3 t4 : Int) (i : Value) : Prop := ∃ k : Nat, k ≤ 4 ∧ i = .int .i64 k ∧ (1 ≤ k → vT t1 = true) ∧ (2 ≤ k → vT t2 = true) ∧ (3 ≤ k → vT t3 = true) ∧ (4 ≤ k → vT t4 = true)

set_option maxRecDepth 100000 in
set_option maxHeartbeats 2000000 in
theorem excheck_any (t1 t2 t3 t4 err : Int) (w : World) :
    Calls Try.prog 59 #[.agg #[.int .i64 t1, .int .i64 t2, .int .i64 t3, .int .i64 t4, .int .i64 err]] w (RB w (.int .i64 (exE t1 t2 t3 t4 err))) := by
  go_enter Try.func59, Try.ntmps59
  go_wp2
  go_loop [15] (fun i => ExRel t1 t2 t3 t4 i) (fun i => (4 - intOf i).toNat)
  case atStart => exact ⟨0, by omega, rfl, by omega, by omega, by omega, by omega⟩
  case round =>
    obtain ⟨k, hk, rfl, q1, q2, q3, q4⟩ := hrel
    obtain rfl | rfl | rfl | rfl | rfl : k = 0 ∨ k = 1 ∨ k = 2 ∨ k = 3 ∨ k = 4 := by omega
    · have Q1 := Lib.hid q1; have Q2 := Lib.hid q2; have Q3 := Lib.hid q3; have Q4 := Lib.hid q4; clear q1 q2 q3 q4
      rcases h : vT t1
      · go_wp2_with (go_at_call 61; refine (tvalid_any _ _).mono ?_; rintro e w1 ⟨rfl, rfl⟩)
        rw [exE_4 (by simp [h])]
        go_ret
        exact ⟨rfl, by (repeat' (first | (with_reducible exact Below.refl _ _) | (with_reducible refine Below.setCell ?_ ?_ _) | (with_reducible refine Below.alloc ?_ ?_ _) | (with_reducible refine Below.drew ?_) | (with_reducible refine below_drewN ?_ _))) <;> (first | omega | (simp <;> omega))⟩
      · go_wp2_with (go_at_call 61; refine (tvalid_any _ _).mono ?_; rintro e w1 ⟨rfl, rfl⟩)
        go_round
        case rel => exact ⟨1, by omega, rfl, fun _ => h, by omega, by omega, by omega⟩
        case measure => simp [intOf]
    · have Q1 := Lib.hid q1; have Q2 := Lib.hid q2; have Q3 := Lib.hid q3; have Q4 := Lib.hid q4; clear q1 q2 q3 q4
      rcases h : vT t2
      · go_wp2_with (go_at_call 61; refine (tvalid_any _ _).mono ?_; rintro e w1 ⟨rfl, rfl⟩)
        rw [exE_4 (by simp [h])]
        go_ret
        exact ⟨rfl, by (repeat' (first | (with_reducible exact Below.refl _ _) | (with_reducible refine Below.setCell ?_ ?_ _) | (with_reducible refine Below.alloc ?_ ?_ _) | (with_reducible refine Below.drew ?_) | (with_reducible refine below_drewN ?_ _))) <;> (first | omega | (simp <;> omega))⟩
      · go_wp2_with (go_at_call 61; refine (tvalid_any _ _).mono ?_; rintro e w1 ⟨rfl, rfl⟩)
        go_round
        case rel => exact ⟨2, by omega, rfl, fun _ => Q1.out (by omega), fun _ => h, by omega, by omega⟩
        case measure => simp [intOf]
    · have Q1 := Lib.hid q1; have Q2 := Lib.hid q2; have Q3 := Lib.hid q3; have Q4 := Lib.hid q4; clear q1 q2 q3 q4
      rcases h : vT t3
      · go_wp2_with (go_at_call 61; refine (tvalid_any _ _).mono ?_; rintro e w1 ⟨rfl, rfl⟩)
        rw [exE_4 (by simp [h])]
        go_ret
        exact ⟨rfl, by (repeat' (first | (with_reducible exact Below.refl _ _) | (with_reducible refine Below.setCell ?_ ?_ _) | (with_reducible refine Below.alloc ?_ ?_ _) | (with_reducible refine Below.drew ?_) | (with_reducible refine below_drewN ?_ _))) <;> (first | omega | (simp <;> omega))⟩
      · go_wp2_with (go_at_call 61; refine (tvalid_any _ _).mono ?_; rintro e w1 ⟨rfl, rfl⟩)
        go_round
        case rel => exact ⟨3, by omega, rfl, fun _ => Q1.out (by omega), fun _ => Q2.out (by omega), fun _ => h, by omega⟩
        case measure => simp [intOf]
    · have Q1 := Lib.hid q1; have Q2 := Lib.hid q2; have Q3 := Lib.hid q3; have Q4 := Lib.hid q4; clear q1 q2 q3 q4
      rcases h : vT t4
      · go_wp2_with (go_at_call 61; refine (tvalid_any _ _).mono ?_; rintro e w1 ⟨rfl, rfl⟩)
        rw [exE_4 (by simp [h])]
        go_ret
        exact ⟨rfl, by (repeat' (first | (with_reducible exact Below.refl _ _) | (with_reducible refine Below.setCell ?_ ?_ _) | (with_reducible refine Below.alloc ?_ ?_ _) | (with_reducible refine Below.drew ?_) | (with_reducible refine below_drewN ?_ _))) <;> (first | omega | (simp <;> omega))⟩
      · go_wp2_with (go_at_call 61; refine (tvalid_any _ _).mono ?_; rintro e w1 ⟨rfl, rfl⟩)
        go_round
        case rel => exact ⟨4, by omega, rfl, fun _ => Q1.out (by omega), fun _ => Q2.out (by omega), fun _ => Q3.out (by omega), fun _ => h⟩
        case measure => simp [intOf]
    · have p1 := q1 (by omega); have p2 := q2 (by omega); have p3 := q3 (by omega); have p4 := q4 (by omega)
      clear q1 q2 q3 q4
      have P1 := Lib.hid p1; have P2 := Lib.hid p2; have P3 := Lib.hid p3; have P4 := Lib.hid p4; clear p1 p2 p3 p4
      by_cases h5 : err < 0
      · have h5' : decide (err < 0) = true := by simpa using h5
        go_wp2
        go_ret
        exact ⟨by rw [exE_4 (by omega)]; rfl, by (repeat' (first | (with_reducible exact Below.refl _ _) | (with_reducible refine Below.setCell ?_ ?_ _) | (with_reducible refine Below.alloc ?_ ?_ _) | (with_reducible refine Below.drew ?_) | (with_reducible refine below_drewN ?_ _))) <;> (first | omega | (simp <;> omega))⟩
      have h5' : decide (err < 0) = false := by simpa using h5
      by_cases h6 : 1152921504606846976 < err
      · have h6' : decide (1152921504606846976 < err) = true := by simpa using h6
        go_wp2
        go_ret
        exact ⟨by rw [exE_4 (by omega)]; rfl, by (repeat' (first | (with_reducible exact Below.refl _ _) | (with_reducible refine Below.setCell ?_ ?_ _) | (with_reducible refine Below.alloc ?_ ?_ _) | (with_reducible refine Below.drew ?_) | (with_reducible refine below_drewN ?_ _))) <;> (first | omega | (simp <;> omega))⟩
      have h6' : decide (1152921504606846976 < err) = false := by simpa using h6
      by_cases h7 : t4 < t1
      · have h7' : decide (t4 < t1) = true := by simpa using h7
        go_wp2
        go_ret
        exact ⟨by rw [exE_12 P1.out P2.out P3.out P4.out (by omega) (by omega) (by omega)]; rfl, by (repeat' (first | (with_reducible exact Below.refl _ _) | (with_reducible refine Below.setCell ?_ ?_ _) | (with_reducible refine Below.alloc ?_ ?_ _) | (with_reducible refine Below.drew ?_) | (with_reducible refine below_drewN ?_ _))) <;> (first | omega | (simp <;> omega))⟩
      have h7' : decide (t4 < t1) = false := by simpa using h7
      by_cases h8 : t3 < t2
      · have h8' : decide (t3 < t2) = true := by simpa using h8
        go_wp2
        go_ret
        exact ⟨by rw [exE_12 P1.out P2.out P3.out P4.out (by omega) (by omega) (by omega)]; rfl, by (repeat' (first | (with_reducible exact Below.refl _ _) | (with_reducible refine Below.setCell ?_ ?_ _) | (with_reducible refine Below.alloc ?_ ?_ _) | (with_reducible refine Below.drew ?_) | (with_reducible refine below_drewN ?_ _))) <;> (first | omega | (simp <;> omega))⟩
      have h8' : decide (t3 < t2) = false := by simpa using h8
      go_wp2
      go_ret
      exact ⟨by rw [exE_0 P1.out P2.out P3.out P4.out (by omega) (by omega) (by omega) (by omega)]; rfl, by (repeat' (first | (with_reducible exact Below.refl _ _) | (with_reducible refine Below.setCell ?_ ?_ _) | (with_reducible refine Below.alloc ?_ ?_ _) | (with_reducible refine Below.drew ?_) | (with_reducible refine below_drewN ?_ _))) <;> (first | omega | (simp <;> omega))⟩
end Go.Proofs.Ytlfkkfdolnkjfaa
