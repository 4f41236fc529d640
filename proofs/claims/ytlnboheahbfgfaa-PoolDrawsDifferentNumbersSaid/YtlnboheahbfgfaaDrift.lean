/- Walks: drift: in, bound, Elapsed, Advance; exact.Compare, Fits. -/
import Derived.Test.YtlnboheahbfgfaaRound
namespace Go.Proofs.Ytlnboheahbfgfaa
open Go.RowKit

/-- A duration of an advance, and a drift bound. -/
def inD (d ppb : Int) : Bool := decide (0 ≤ d ∧ d ≤ 576460752303423488 ∧ 0 ≤ ppb ∧ ppb ≤ 1000000)
theorem inD_true {d ppb : Int} : inD d ppb = true ↔ 0 ≤ d ∧ d ≤ 576460752303423488 ∧ 0 ≤ ppb ∧ ppb ≤ 1000000 := by simp [inD]
theorem inD_false {d ppb : Int} (h : ¬ (0 ≤ d ∧ d ≤ 576460752303423488 ∧ 0 ≤ ppb ∧ ppb ≤ 1000000)) : inD d ppb = false := by simp only [inD, decide_eq_false_iff_not]; exact h
def bdD (ppb : Int) : Bool := decide (0 ≤ ppb ∧ ppb ≤ 1000000)
/-- The spans of Elapsed and Advance, and the errors. -/
def elLo (d ppb : Int) : Int := quo d 1000000000 (1000000000 + ppb) false
def elHi (d ppb : Int) : Int := quo d 1000000000 (1000000000 - ppb) true
def adLo (d ppb : Int) : Int := quo d (1000000000 - ppb) 1000000000 false
def adHi (d ppb : Int) : Int := quo d (1000000000 + ppb) 1000000000 true
def outV (d ppb lo hi : Int) : Value := if inD d ppb then .tuple #[.agg #[.int .i64 lo, .int .i64 hi], .int .i64 0] else .tuple #[.agg #[.int .i64 0, .int .i64 0], .int .i64 4]
theorem outV_ok {d ppb lo hi : Int} (h : inD d ppb = true) : outV d ppb lo hi = .tuple #[.agg #[.int .i64 lo, .int .i64 hi], .int .i64 0] := by unfold outV; rw [if_pos h]
theorem outV_no {d ppb lo hi : Int} (h : inD d ppb = false) : outV d ppb lo hi = .tuple #[.agg #[.int .i64 0, .int .i64 0], .int .i64 4] := by unfold outV; rw [if_neg (by rw [h]; simp)]
/-- The quotients fit by far. -/
theorem scaled_le (d b c : Int) (hd : 0 ≤ d) (hd1 : d ≤ 576460752303423488) (hb : 0 ≤ b) (hb1 : b ≤ 1001000000) (hc : 999000000 ≤ c) : 0 ≤ d * b / c ∧ d * b / c ≤ 1152921504606846976 := by
  have p0 : 0 ≤ d * b := Int.mul_nonneg hd hb
  refine ⟨Int.ediv_nonneg p0 (by omega), ?_⟩
  have p1 : d * b ≤ 576460752303423488 * 1001000000 := Int.mul_le_mul hd1 hb1 hb (by omega)
  apply Int.le_of_lt_add_one
  apply Int.ediv_lt_of_lt_mul (by omega)
  have p2 : (1152921504606846976 + 1) * 999000000 ≤ (1152921504606846976 + 1) * c := Int.mul_le_mul_of_nonneg_left hc (by omega)
  omega

end Go.Proofs.Ytlnboheahbfgfaa
