/- Plain law of Elapsed: bounds, monotonicity. -/
import Derived.Test.YtlnboheahbfgfaaGreatJ9
import Derived.Test.YtlnboheahbfgfaaGreatNum
namespace Go.Proofs.YtlnboheahbfgfaaGreat
open Go.RowKit

theorem hi_ceil (x e p : Int) (he : 0 < e) : quo x 1000000000 e true ≤ p ↔ x * 1000000000 ≤ p * e := by
  show -(-(x * 1000000000) / e) ≤ p ↔ _
  have h : (-p ≤ -(x * 1000000000) / e) ↔ (-p * e ≤ -(x * 1000000000)) := Int.le_ediv_iff_mul_le he
  rw [Int.neg_mul] at h
  constructor
  · intro k; have := h.1 (by omega); omega
  · intro k; have := h.2 (by omega); omega
theorem lo_mul (d p : Int) (hp : 0 ≤ p) : elLo d p * (1000000000 + p) ≤ d * 1000000000 := by
  show d * 1000000000 / (1000000000 + p) * (1000000000 + p) ≤ _
  exact Int.ediv_mul_le _ (by omega)
theorem le_lo {d p q : Int} (hp : 0 ≤ p) (h : q * (1000000000 + p) ≤ d * 1000000000) : q ≤ elLo d p := by
  show q ≤ d * 1000000000 / (1000000000 + p)
  exact (Int.le_ediv_iff_mul_le (by omega)).2 h
theorem hi_mul (d p : Int) (hp : p ≤ 1000000) : d * 1000000000 ≤ elHi d p * (1000000000 - p) :=
  (hi_ceil d (1000000000 - p) (elHi d p) (by omega)).1 (Int.le_refl _)
theorem hi_le {d p q : Int} (hp : p ≤ 1000000) (h : d * 1000000000 ≤ q * (1000000000 - p)) : elHi d p ≤ q :=
  (hi_ceil d (1000000000 - p) q (by omega)).2 h
theorem lo_le_of {d p q : Int} (hp : 0 ≤ p) (h : d * 1000000000 ≤ q * (1000000000 + p)) : elLo d p ≤ q :=
  Int.le_of_mul_le_mul_right (Int.le_trans (lo_mul d p hp) h) (by omega)
theorem le_hi_of {d p q : Int} (hp : p ≤ 1000000) (h : q * (1000000000 - p) ≤ d * 1000000000) : q ≤ elHi d p :=
  Int.le_of_mul_le_mul_right (Int.le_trans h (hi_mul d p hp)) (by omega)
theorem lo_pos {d p : Int} (hd : 0 ≤ d) (hp : 0 ≤ p) (_ : p ≤ 1000000) : 0 ≤ elLo d p := le_lo hp (by omega)
theorem lo_le {d p : Int} (hd : 0 ≤ d) (hp : 0 ≤ p) (_ : p ≤ 1000000) : elLo d p ≤ d := lo_le_of hp (by rw [Int.mul_add]; have := Int.mul_nonneg hd hp; omega)
theorem le_hi {d p : Int} (hd : 0 ≤ d) (hp : 0 ≤ p) (hp1 : p ≤ 1000000) : d ≤ elHi d p := le_hi_of hp1 (by rw [Int.mul_sub]; have := Int.mul_nonneg hd hp; omega)
theorem hi_two {d p : Int} (hd : 0 ≤ d) (_ : 0 ≤ p) (hp1 : p ≤ 1000000) : elHi d p ≤ 2 * d := hi_le hp1 (by
  have : d * p ≤ d * 1000000 := Int.mul_le_mul_of_nonneg_left hp1 hd
  rw [Int.mul_assoc, Int.mul_sub]; omega)
theorem el_span {d p : Int} (hd : 0 ≤ d) (hp : 0 ≤ p) (hp1 : p ≤ 1000000) (hd1 : d ≤ 576460752303423488) : vS (elLo d p) (elHi d p) = true := by
  have := lo_pos hd hp hp1; have := lo_le hd hp hp1; have := le_hi hd hp hp1; have := hi_two hd hp hp1
  exact vS_true.2 ⟨by omega, by omega, by omega⟩
theorem el_none {d : Int} : elLo d 0 = d ∧ elHi d 0 = d := by
  constructor
  · show d * 1000000000 / (1000000000 + 0) = d; omega
  · show -(-(d * 1000000000) / (1000000000 - 0)) = d; omega
end Go.Proofs.YtlnboheahbfgfaaGreat
