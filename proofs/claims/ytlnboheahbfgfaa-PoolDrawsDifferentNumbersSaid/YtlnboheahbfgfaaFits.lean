/- Walks: exact.Compare, drift.Fits. -/
import Derived.Test.YtlnboheahbfgfaaDrift
namespace Go.Proofs.Ytlnboheahbfgfaa
open Go.RowKit

def cmp3 (x y : Int) : Int := if x < y then -1 else if y < x then 1 else 0
theorem cmp3_lt {x y : Int} (h : x < y) : cmp3 x y = -1 := by unfold cmp3; rw [if_pos h]
theorem cmp3_gt {x y : Int} (h : y < x) : cmp3 x y = 1 := by unfold cmp3; rw [if_neg (by omega), if_pos h]
theorem cmp3_eq {x y : Int} (h : x = y) : cmp3 x y = 0 := by unfold cmp3; rw [if_neg (by omega), if_neg (by omega)]
theorem cmp3_le (x y : Int) : cmp3 x y ≤ 0 ↔ x ≤ y := by unfold cmp3; split <;> (try split) <;> omega
/-- The first that is not 0. -/
def orN (x y : Int) : Int := if x = 0 then y else x
theorem cmp3_words (x y : Int) : orN (cmp3 (x / 18446744073709551616) (y / 18446744073709551616)) (cmp3 (x % 18446744073709551616) (y % 18446744073709551616)) = cmp3 x y := by
  unfold orN cmp3; repeat' split
  all_goals omega

/-- Fits. -/
def fitIn (e d ppb : Int) : Prop := 0 ≤ e ∧ e ≤ 1152921504606846976 ∧ 0 ≤ d ∧ d ≤ 1152921504606846976 ∧ 0 ≤ ppb ∧ ppb ≤ 1000000
def fitsP (e d ppb : Int) : Prop := fitIn e d ppb ∧ e * (1000000000 - ppb) ≤ d * 1000000000 ∧ d * 1000000000 ≤ e * (1000000000 + ppb)
instance (e d ppb : Int) : Decidable (fitsP e d ppb) := by unfold fitsP fitIn; infer_instance
def fitsB (e d ppb : Int) : Bool := decide (fitsP e d ppb)
theorem fitsB_no {e d ppb : Int} (h : ¬ fitsP e d ppb) : fitsB e d ppb = false := by simp [fitsB, h]
theorem fitsB_yes {e d ppb : Int} (h : fitsP e d ppb) : fitsB e d ppb = true := by simp [fitsB, h]
theorem fitsB_true {e d ppb : Int} : fitsB e d ppb = true ↔ fitsP e d ppb := by simp [fitsB]

end Go.Proofs.Ytlnboheahbfgfaa
