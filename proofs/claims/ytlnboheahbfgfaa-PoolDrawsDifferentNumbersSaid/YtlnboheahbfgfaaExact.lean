/- Walks: exact.Quotient, exact.Compare. -/
import Derived.Test.YtlnboheahbfgfaaDiv
namespace Go.Proofs.Ytlnboheahbfgfaa
open Go.RowKit

/-- a b / c, rounded down or up. -/
def quo (a b c : Int) (up : Bool) : Int := if up then -(-(a * b) / c) else a * b / c
theorem neg_ediv (x c : Int) (hc : 0 < c) : -x / c = if x % c = 0 then -(x / c) else -(x / c) - 1 := by
  have e := Int.ediv_mul_add_emod x c
  have h0 := Int.emod_nonneg x (show c ≠ 0 by omega)
  have h1 := Int.emod_lt_of_pos x hc
  split
  · rename_i h
    rw [h] at e
    have e2 : -x = (-(x / c)) * c := by rw [Int.neg_mul]; omega
    rw [e2, Int.mul_ediv_cancel _ (by omega)]
  · rename_i h
    have e2 : -x = (c - x % c) + (-(x / c) - 1) * c := by rw [Int.sub_mul, Int.neg_mul, Int.one_mul]; omega
    rw [e2, Int.add_mul_ediv_right _ _ (by omega), Int.ediv_eq_zero_of_lt (by omega) (by omega)]; omega
theorem quo_down (a b c : Int) : quo a b c false = a * b / c := rfl
theorem quo_up (a b c : Int) (hc : 0 < c) : quo a b c true = if a * b % c = 0 then a * b / c else a * b / c + 1 := by
  show -(-(a * b) / c) = _
  rw [neg_ediv _ _ hc]; split <;> omega

end Go.Proofs.Ytlnboheahbfgfaa
