/- Plain law: the division of two words by one (Knuth's algorithm D at two digits of 32 bits). -/
import Derived.Laws.Bits64b
import Derived.WalkKit
namespace Go.Proofs.Ytlfkkfdolnkjfaa

/-! ### The divisor moved to the left by s places -/
theorem pow_pos_int (s : Nat) : (0 : Int) < 2 ^ s := Int.pow_pos (by decide)
theorem or_join (a s b : Nat) (hb : b < 2 ^ s) (h : a * 2 ^ s + b < 18446744073709551616) : bits .or .u64 ((a * 2 ^ s : Nat) : Int) (b : Int) = ((a * 2 ^ s + b : Nat) : Int) := by
  rw [bits_or_u64_nat _ _ (by omega) (by omega)]
  have := Nat.two_pow_add_eq_or_of_lt hb a
  rw [Nat.mul_comm a]; rw [this]
/-- What the code lays out ahead of the digits. -/
theorem moved (hi lo y : Int) (s : Nat) (hs : s ≤ 63) (g0 : 0 ≤ hi) (g1 : hi < y) (h0 : 0 ≤ lo) (h1 : lo < 18446744073709551616) (hy : y * 2 ^ s < 18446744073709551616) :
    IntKind.u64.wrap (hi * 2 ^ s) = hi * 2 ^ s ∧ bits .or .u64 (hi * 2 ^ s) (lo / 2 ^ (64 - s)) = hi * 2 ^ s + lo / 2 ^ (64 - s) ∧
    0 ≤ hi * 2 ^ s + lo / 2 ^ (64 - s) ∧ hi * 2 ^ s + lo / 2 ^ (64 - s) < y * 2 ^ s ∧
    (hi * 2 ^ s + lo / 2 ^ (64 - s)) * 18446744073709551616 + IntKind.u64.wrap (lo * 2 ^ s) = (hi * 18446744073709551616 + lo) * 2 ^ s := by
  have hp := pow_pos_int s
  have hq := pow_pos_int (64 - s)
  have e64 : (2 : Int) ^ (64 - s) * 2 ^ s = 18446744073709551616 := by rw [← Int.pow_add, Nat.sub_add_cancel (by omega)]; rfl
  have b1 : 0 ≤ lo / 2 ^ (64 - s) := Int.ediv_nonneg h0 (Int.le_of_lt hq)
  have b2 : lo / 2 ^ (64 - s) < 2 ^ s := by
    apply Int.ediv_lt_of_lt_mul hq
    rw [Int.mul_comm, e64]; exact h1
  have b3 : 0 ≤ hi * 2 ^ s := Int.mul_nonneg g0 (Int.le_of_lt hp)
  have b4 : (hi + 1) * 2 ^ s ≤ y * 2 ^ s := Int.mul_le_mul_of_nonneg_right (by omega) (Int.le_of_lt hp)
  rw [Int.add_mul, Int.one_mul] at b4
  refine ⟨IntWalk.u64_in _ (by omega), ?_, by omega, by omega, ?_⟩
  · obtain ⟨a, rfl⟩ := Int.eq_ofNat_of_zero_le g0
    obtain ⟨b, hb⟩ := Int.eq_ofNat_of_zero_le b1
    rw [hb] at b2 ⊢
    have e3 : ((2 ^ s : Nat) : Int) = 2 ^ s := by simp
    have e4 : ((a : Int) * 2 ^ s) = ((a * 2 ^ s : Nat) : Int) := by rw [Int.natCast_mul, e3]
    rw [e4] at b4 b3 ⊢
    have := or_join a s b (by rw [← e3] at b2; omega) (by omega)
    rw [this]; simp
  · rw [IntKind.wrap_u64]
    have k := Int.mul_emod_mul_of_pos lo (2 ^ (64 - s)) hp
    have e5 : lo * 2 ^ s % 18446744073709551616 = lo % 2 ^ (64 - s) * 2 ^ s := by
      rw [← e64]
      have := Int.mul_emod_mul_of_pos (a := 2 ^ s) lo (2 ^ (64 - s)) hp
      rw [Int.mul_comm lo, Int.mul_comm (2 ^ (64 - s)), this, Int.mul_comm]
    rw [e5]
    have e6 := Int.ediv_mul_add_emod lo (2 ^ (64 - s))
    rw [Int.add_mul, Int.add_mul]
    have e7 : lo / 2 ^ (64 - s) * 18446744073709551616 = lo / 2 ^ (64 - s) * 2 ^ (64 - s) * 2 ^ s := by rw [Int.mul_assoc, e64]
    have e8 : hi * 2 ^ s * 18446744073709551616 = hi * 18446744073709551616 * 2 ^ s := by rw [Int.mul_assoc, Int.mul_comm (2 ^ s), Int.mul_assoc]
    rw [e7, e8]
    conv => rhs; rw [← e6]
    rw [Int.add_mul]; omega
end Go.Proofs.Ytlfkkfdolnkjfaa
