/- Walks: the reference's quotients (below, Rounded), and plain laws of rounding. -/
import Derived.Test.YtlnboheahbfgfaaExact
namespace Go.Proofs.Ytlnboheahbfgfaa
open Go.RowKit

/-- What a call returns; nothing that was there is written. -/
def RB (w : World) (v : Value) (e : Ending) (w' : World) : Prop := e = .returned v ∧ Below w.heap.size w w'
/-- x / c, rounded down or up. -/
def rnd (x c : Int) (up : Bool) : Int := if up then -(-x / c) else x / c
theorem quo_rnd (a b c : Int) (up : Bool) : quo a b c up = rnd (a * b) c up := rfl
theorem rnd_add (x k c : Int) (up : Bool) (hc : 0 < c) : rnd (x + k * c) c up = k + rnd x c up := by
  cases up
  · show (x + k * c) / c = k + x / c
    rw [Int.add_mul_ediv_right _ _ (by omega)]; omega
  · show -(-(x + k * c) / c) = k + -(-x / c)
    have e : -(x + k * c) = -x + (-k) * c := by rw [Int.neg_mul]; omega
    rw [e, Int.add_mul_ediv_right _ _ (by omega)]; omega
theorem rnd_up (x c : Int) (hc : 0 < c) : rnd x c true = if x % c = 0 then x / c else x / c + 1 := by
  show -(-x / c) = _
  rw [neg_ediv _ _ hc]; split <;> omega
theorem tdiv_below (a b : Int) (hb : 0 < b) : (a.tmod b < 0 → a / b = a.tdiv b - 1) ∧ (0 ≤ a.tmod b → a / b = a.tdiv b) := by
  have h := Int.mul_tdiv_add_tmod a b
  have hl := tmod_lo a b (by omega)
  constructor
  · intro hn
    have e : a = (b + a.tmod b) + (a.tdiv b - 1) * b := by rw [Int.sub_mul, Int.one_mul, Int.mul_comm (a.tdiv b)]; omega
    conv => lhs; rw [e]
    rw [Int.add_mul_ediv_right _ _ (by omega), Int.ediv_eq_zero_of_lt (by omega) (by omega)]; omega
  · intro hn
    have e : a = a.tmod b + a.tdiv b * b := by rw [Int.mul_comm (a.tdiv b)]; omega
    conv => lhs; rw [e]
    rw [Int.add_mul_ediv_right _ _ (by omega), Int.ediv_eq_zero_of_lt (by omega) (by omega)]; omega
theorem ediv_in (a b : Int) (hb : 0 < b) (h0 : -9223372036854775808 ≤ a) (h1 : a ≤ 9223372036854775807) : -9223372036854775808 ≤ a / b ∧ a / b ≤ 9223372036854775807 := by
  constructor
  · apply Int.le_ediv_of_mul_le hb
    have : -9223372036854775808 * b ≤ -9223372036854775808 * 1 := by omega
    omega
  · by_cases h : 0 ≤ a
    · have := Int.ediv_le_self b h; omega
    · have : a / b < 0 := Int.ediv_neg_of_neg_of_pos (by omega) hb
      omega
theorem emod_tmod (a b : Int) (hb : 0 < b) : (a.tmod b = 0 ↔ a % b = 0) := by
  constructor
  · intro h; exact Int.emod_eq_zero_of_dvd (Int.dvd_of_tmod_eq_zero h)
  · intro h; exact Int.tmod_eq_zero_of_dvd (Int.dvd_of_emod_eq_zero h)

end Go.Proofs.Ytlnboheahbfgfaa
