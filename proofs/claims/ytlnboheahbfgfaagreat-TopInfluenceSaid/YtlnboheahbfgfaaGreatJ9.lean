/- Texts joined: Drift, Fits, FitsR -/
import Derived.Test.YtlnboheahbfgfaaGreatJ4
namespace Go.Proofs.YtlnboheahbfgfaaGreat
open Go.RowKit

/-- A duration of an advance, and a drift bound. -/
def inD (d ppb : Int) : Bool := decide (0 ≤ d ∧ d ≤ 576460752303423488 ∧ 0 ≤ ppb ∧ ppb ≤ 1000000)
theorem inD_true {d ppb : Int} : inD d ppb = true ↔ 0 ≤ d ∧ d ≤ 576460752303423488 ∧ 0 ≤ ppb ∧ ppb ≤ 1000000 := by simp [inD]
theorem inD_false {d ppb : Int} (h : ¬ (0 ≤ d ∧ d ≤ 576460752303423488 ∧ 0 ≤ ppb ∧ ppb ≤ 1000000)) : inD d ppb = false := by simp only [inD, decide_eq_false_iff_not]; exact h
def bdD (ppb : Int) : Bool := decide (0 ≤ ppb ∧ ppb ≤ 1000000)
theorem bound_any (ppb : Int) (w : World) : Calls Tryz.prog 136 #[.int .i64 ppb] w fun e w' => e = .returned (.bool (bdD ppb)) ∧ w = w' := by
  by_cases h1 : 0 ≤ ppb
  · by_cases h2 : ppb ≤ 1000000
    · rw [show bdD ppb = true by simp [bdD, h1, h2]]
      go_enter Tryz.func136, Tryz.ntmps136
      go_wp2; go_ret; exact ⟨rfl, rfl⟩
    · rw [show bdD ppb = false by simp [bdD, h1, h2]]
      go_enter Tryz.func136, Tryz.ntmps136
      go_wp2; go_ret; exact ⟨rfl, rfl⟩
  · rw [show bdD ppb = false by simp [bdD, h1]]
    go_enter Tryz.func136, Tryz.ntmps136
    go_wp2; go_ret; exact ⟨rfl, rfl⟩
theorem in_any (d ppb : Int) (w : World) : Calls Tryz.prog 118 #[.int .i64 d, .int .i64 ppb] w fun e w' => e = .returned (.bool (inD d ppb)) ∧ w = w' := by
  by_cases h1 : 0 ≤ d
  · by_cases h2 : d ≤ 576460752303423488
    · have e1 : inD d ppb = bdD ppb := by simp [inD, bdD, h1, h2]
      rw [e1]
      go_enter Tryz.func118, Tryz.ntmps118
      go_wp2_with (go_at_call 136; refine (bound_any _ _).mono ?_; rintro e w1 ⟨rfl, rfl⟩)
      go_ret; exact ⟨rfl, rfl⟩
    · rw [inD_false (by omega)]
      go_enter Tryz.func118, Tryz.ntmps118
      go_wp2; go_ret; exact ⟨rfl, rfl⟩
  · rw [inD_false (by omega)]
    go_enter Tryz.func118, Tryz.ntmps118
    go_wp2; go_ret; exact ⟨rfl, rfl⟩

/-- The spans of Elapsed and Advance, and the errors. -/
def elLo (d ppb : Int) : Int := quo d 1000000000 (1000000000 + ppb) false
def elHi (d ppb : Int) : Int := quo d 1000000000 (1000000000 - ppb) true
def outV (d ppb lo hi : Int) : Value := if inD d ppb then .tuple #[.agg #[.int .i64 lo, .int .i64 hi], .int .i64 0] else .tuple #[.agg #[.int .i64 0, .int .i64 0], .int .i64 4]
theorem outV_ok {d ppb lo hi : Int} (h : inD d ppb = true) : outV d ppb lo hi = .tuple #[.agg #[.int .i64 lo, .int .i64 hi], .int .i64 0] := by unfold outV; rw [if_pos h]
theorem outV_no {d ppb lo hi : Int} (h : inD d ppb = false) : outV d ppb lo hi = .tuple #[.agg #[.int .i64 0, .int .i64 0], .int .i64 4] := by unfold outV; rw [if_neg (by rw [h]; simp)]
/-- The quotients fit by far. -/
theorem scaled_le (d b c : Int) (hd : 0 ≤ d) (hd1 : d ≤ 576460752303423488) (hb : 0 ≤ b) (hb1 : b ≤ 1001000000) (hc : 999000000 ≤ c) : 0 ≤ d * b / c ∧ d * b / c ≤ 1152921504606846976 := by
  have p0 : 0 ≤ d * b := Int.mul_nonneg hd hb
  refine ⟨Int.ediv_nonneg p0 (by omega), ?_⟩
  have p1 : d * b ≤ 576460752303423488 * 1001000000 := Int.mul_le_mul hd1 hb1 hb (by omega)
  apply Int.le_of_lt_add_one
  apply Int.ediv_lt_of_lt_mul (by omega)
  have p2 : (1152921504606846976 + 1) * 999000000 ≤ (1152921504606846976 + 1) * c := Int.mul_le_mul_of_nonneg_left hc (by omega)
  omega
/-- Quotient of numbers that are not negative, with all bounds paid. -/
theorem quot_d (d b c : Int) (up : Bool) (w : World) (hd : 0 ≤ d) (hd1 : d ≤ 576460752303423488) (hb : 0 ≤ b) (hb1 : b ≤ 1001000000) (hc : 999000000 ≤ c) (hc1 : c ≤ 1001000000) :
    Calls Tryz.prog 119 #[.int .i64 d, .int .i64 b, .int .i64 c, .bool up] w fun e w' => e = .returned (.int .i64 (quo d b c up)) ∧ ∃ n, w' = w.drewN n :=
  quotient_pos d b c up w hd (by omega) hb (by omega) (by omega) (by omega) (by have := scaled_le d b c hd hd1 hb hb1 hc; omega)


set_option maxHeartbeats 1000000 in
theorem elapsed_any (d ppb : Int) (w : World) : Calls Tryz.prog 85 #[.int .i64 d, .int .i64 ppb] w (RB w (outV d ppb (elLo d ppb) (elHi d ppb))) := by
  rcases h : inD d ppb
  · rw [outV_no h]
    go_enter Tryz.func85, Tryz.ntmps85
    go_wp2_with (go_at_call 118; refine (in_any _ _ _).mono ?_; rintro e w1 ⟨rfl, rfl⟩)
    exact bodyPost_ret (v := .tuple #[.agg #[.int .i64 0, .int .i64 0], .int .i64 4]) (by simp [results, Tryz.results85, go_sem]) rfl ⟨rfl, by (repeat' (first | (with_reducible exact Below.refl _ _) | (with_reducible refine Below.setCell ?_ ?_ _) | (with_reducible refine Below.alloc ?_ ?_ _) | (with_reducible refine Below.drew ?_) | (with_reducible refine below_drewN ?_ _))) <;> (first | omega | (simp <;> omega))⟩
  · rw [outV_ok h]
    obtain ⟨h1, h2, h3, h4⟩ := inD_true.1 h
    unfold elLo elHi
    go_enter Tryz.func85, Tryz.ntmps85
    go_wp2_with (first | (go_at_call 118; refine (in_any _ _ _).mono ?_; rintro e w1 ⟨rfl, rfl⟩) | (go_at_call 119; refine (quot_d _ _ _ _ _ (by omega) (by omega) (by omega) (by omega) (by omega) (by omega)).mono ?_; rintro e w1 ⟨rfl, n, rfl⟩))
    exact bodyPost_ret (v := .tuple #[.agg #[.int .i64 (quo d 1000000000 (1000000000 + ppb) false), .int .i64 (quo d 1000000000 (1000000000 - ppb) true)], .int .i64 0]) (by simp [results, Tryz.results85, go_sem]) rfl ⟨rfl, by (repeat' (first | (with_reducible exact Below.refl _ _) | (with_reducible refine Below.setCell ?_ ?_ _) | (with_reducible refine Below.alloc ?_ ?_ _) | (with_reducible refine Below.drew ?_) | (with_reducible refine below_drewN ?_ _))) <;> (first | omega | (simp <;> omega))⟩



end Go.Proofs.YtlnboheahbfgfaaGreat
namespace Go.Proofs.YtlnboheahbfgfaaGreat
open Go.RowKit

/-- Fits. -/
def fitIn (e d ppb : Int) : Prop := 0 ≤ e ∧ e ≤ 1152921504606846976 ∧ 0 ≤ d ∧ d ≤ 1152921504606846976 ∧ 0 ≤ ppb ∧ ppb ≤ 1000000
def fitsP (e d ppb : Int) : Prop := fitIn e d ppb ∧ e * (1000000000 - ppb) ≤ d * 1000000000 ∧ d * 1000000000 ≤ e * (1000000000 + ppb)
instance (e d ppb : Int) : Decidable (fitsP e d ppb) := by unfold fitsP fitIn; infer_instance
end Go.Proofs.YtlnboheahbfgfaaGreat
namespace Go.Proofs.YtlnboheahbfgfaaGreat
open Go.RowKit

end Go.Proofs.YtlnboheahbfgfaaGreat
