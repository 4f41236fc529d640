/- Walks: the reference's product, atMost, Fits. -/
import Derived.Test.YtlnboheahbfgfaaFits
namespace Go.Proofs.Ytlnboheahbfgfaa
open Go.RowKit

theorem i64_or_join (a b : Nat) (s : Nat) (hb : b < 2 ^ s) (h : a * 2 ^ s + b < 9223372036854775808) : bits .or .i64 ((a * 2 ^ s : Nat) : Int) (b : Int) = ((a * 2 ^ s + b : Nat) : Int) := by
  have h1 : (BitVec.ofInt 64 ((a * 2 ^ s : Nat) : Int)).toNat = a * 2 ^ s := by
    rw [BitVec.ofInt_natCast, BitVec.toNat_ofNat]; exact Nat.mod_eq_of_lt (by omega)
  have h2 : (BitVec.ofInt 64 (b : Int)).toNat = b := by
    rw [BitVec.ofInt_natCast, BitVec.toNat_ofNat]; exact Nat.mod_eq_of_lt (by omega)
  show IntKind.i64.wrap ((BitVec.ofInt 64 ((a * 2 ^ s : Nat) : Int) ||| BitVec.ofInt 64 (b : Int)).toNat : Int) = _
  rw [BitVec.toNat_or, h1, h2]
  have := Nat.two_pow_add_eq_or_of_lt hb a
  rw [Nat.mul_comm a, ← this, Nat.mul_comm (2 ^ s)]
  exact IntWalk.i64_in _ (by omega)
theorem or31 (x y : Int) : bits .or .i64 (x % 2147483648 * 2147483648) (y % 2147483648) = x % 2147483648 * 2147483648 + y % 2147483648 := by
  obtain ⟨a, ha⟩ := Int.eq_ofNat_of_zero_le (Int.emod_nonneg x (show (2147483648 : Int) ≠ 0 by decide))
  obtain ⟨b, hb⟩ := Int.eq_ofNat_of_zero_le (Int.emod_nonneg y (show (2147483648 : Int) ≠ 0 by decide))
  have la := Int.emod_lt_of_pos x (show (0 : Int) < 2147483648 by decide)
  have lb := Int.emod_lt_of_pos y (show (0 : Int) < 2147483648 by decide)
  rw [ha, hb] at *
  have h := i64_or_join a b 31 (by omega) (by omega)
  have e1 : ((a * 2 ^ 31 : Nat) : Int) = (a : Int) * 2147483648 := by rw [Int.natCast_mul]; rfl
  have e2 : ((a * 2 ^ 31 + b : Nat) : Int) = (a : Int) * 2147483648 + b := by rw [Int.natCast_add, e1]
  rw [e1, e2] at h
  exact h
/-- The two words of 62 bits. -/
theorem words62 (p q r s : Int) (hq : 0 ≤ q) (hr : 0 ≤ r) (hs : 0 ≤ s) :
    (p * 4611686018427387904 + (q + r) * 2147483648 + s) / 4611686018427387904 = p + (q + s / 2147483648) / 2147483648 + (r + (q + s / 2147483648) % 2147483648) / 2147483648 ∧
    (p * 4611686018427387904 + (q + r) * 2147483648 + s) % 4611686018427387904 = (r + (q + s / 2147483648)) % 2147483648 * 2147483648 + s % 2147483648 := by omega
theorem prod_split (a b : Int) : a * b = (a / 2147483648 * (b / 2147483648)) * 4611686018427387904 + (a / 2147483648 * (b % 2147483648) + a % 2147483648 * (b / 2147483648)) * 2147483648 + a % 2147483648 * (b % 2147483648) := by
  have ea := Int.ediv_mul_add_emod a 2147483648
  have eb := Int.ediv_mul_add_emod b 2147483648
  generalize a / 2147483648 = a1 at *
  generalize a % 2147483648 = a0 at *
  generalize b / 2147483648 = b1 at *
  generalize b % 2147483648 = b0 at *
  subst ea eb
  rw [Int.add_mul, Int.mul_add, Int.mul_add, Int.add_mul]
  have k1 : a1 * 2147483648 * (b1 * 2147483648) = a1 * b1 * 4611686018427387904 := by rw [Int.mul_assoc, Int.mul_comm 2147483648 (b1 * 2147483648), Int.mul_assoc b1, ← Int.mul_assoc]; rfl
  have k2 : a1 * 2147483648 * b0 = a1 * b0 * 2147483648 := by rw [Int.mul_assoc, Int.mul_comm 2147483648, ← Int.mul_assoc]
  have k3 : a0 * (b1 * 2147483648) = a0 * b1 * 2147483648 := by rw [← Int.mul_assoc]
  rw [k1, k2, k3]; omega

theorem words_le (x y : Int) : (x ≤ y) ↔ (x / 4611686018427387904 < y / 4611686018427387904 ∨ (x / 4611686018427387904 = y / 4611686018427387904 ∧ x % 4611686018427387904 ≤ y % 4611686018427387904)) := by omega
end Go.Proofs.Ytlnboheahbfgfaa
