/- Walks: exact.Quotient, exact.Compare. -/
import Derived.Test.YtlfkkfdolnkjfaaDiv
namespace Go.Proofs.Ytlfkkfdolnkjfaa
open Go.RowKit

/-- a b / c, rounded down or up. -/
def quo (a b c : Int) (up : Bool) : Int := if up then -(-(a * b) / c) else a * b / c
theorem neg_ediv (x c : Int) (hc : 0 < c) : -x / c = if x % c = 0 then -(x / c) else -(x / c) - 1 := by
  have e := Int.ediv_mul_add_emod x c
  have h0 := Int.emod_nonneg x (show c ≠ 0 by omega)
  have h1 := Int.emod_lt_of_pos x hc
  split
  · rename_i h
    rw [h] at e
    have e2 : -x = (-(x / c)) * c := by rw [Int.neg_mul]; omega
    rw [e2, Int.mul_ediv_cancel _ (by omega)]
  · rename_i h
    have e2 : -x = (c - x % c) + (-(x / c) - 1) * c := by rw [Int.sub_mul, Int.neg_mul, Int.one_mul]; omega
    rw [e2, Int.add_mul_ediv_right _ _ (by omega), Int.ediv_eq_zero_of_lt (by omega) (by omega)]; omega
theorem quo_down (a b c : Int) : quo a b c false = a * b / c := rfl
theorem quo_up (a b c : Int) (hc : 0 < c) : quo a b c true = if a * b % c = 0 then a * b / c else a * b / c + 1 := by
  show -(-(a * b) / c) = _
  rw [neg_ediv _ _ hc]; split <;> omega

theorem magn_any (a : Int) (w : World) (h0 : -9223372036854775808 ≤ a) (h1 : a ≤ 9223372036854775807) :
    Calls Try.prog 134 #[.int .i64 a] w fun e w' => e = .returned (.int .u64 (if a < 0 then -a else a)) ∧ w = w' := by
  by_cases h : a < 0
  · rw [if_pos h]
    have e1 : IntKind.u64.wrap a = a + 18446744073709551616 := by rw [IntKind.wrap_u64]; omega
    have e2 : IntKind.u64.wrap (-(a + 18446744073709551616)) = -a := by rw [IntKind.wrap_u64]; omega
    go_enter Try.func134, Try.ntmps134
    go_wp2
    go_ret
    exact ⟨by simp [e2], rfl⟩
  · rw [if_neg h]
    go_enter Try.func134, Try.ntmps134
    go_wp2
    go_ret
    exact ⟨rfl, rfl⟩

set_option maxRecDepth 100000 in
set_option maxHeartbeats 1000000 in
/-- The core over the magnitude m: the quotient's words. -/
theorem quotient_pos (a b c : Int) (up : Bool) (w : World) (ha : 0 ≤ a) (ha1 : a ≤ 9223372036854775807) (hb : 0 ≤ b) (hb1 : b ≤ 9223372036854775807) (hc : 0 < c) (hc1 : c ≤ 9223372036854775807) (hq : a * b / c ≤ 9223372036854775806) :
    Calls Try.prog 101 #[.int .i64 a, .int .i64 b, .int .i64 c, .bool up] w fun e w' => e = .returned (.int .i64 (quo a b c up)) ∧ ∃ n, w' = w.drewN n := by
  have p0 : 0 ≤ a * b := Int.mul_nonneg ha hb
  have q0 : 0 ≤ a * b / c := Int.ediv_nonneg p0 (by omega)
  have p1 : a * b < (a * b / c + 1) * c := Int.lt_ediv_add_one_mul_self (a * b) hc
  have p2 : (a * b / c + 1) * c ≤ 9223372036854775807 * c := Int.mul_le_mul_of_nonneg_right (by omega) (by omega)
  have p3 : a * b / 18446744073709551616 < c := by omega
  have p4 : 0 ≤ a * b / 18446744073709551616 := by omega
  have p5 : 0 ≤ a * b % 18446744073709551616 ∧ a * b % 18446744073709551616 < 18446744073709551616 := by omega
  have p6 : a * b / 18446744073709551616 * 18446744073709551616 + a * b % 18446744073709551616 = a * b := by omega
  have r0 := Int.emod_nonneg (a * b) (show c ≠ 0 by omega)
  have hm := magn_any a
  rw [if_neg (by omega)] at hm
  have HM := Lib.hid hm
  have H6 := Lib.hid p6; clear p6 hm
  clear p1 p2
  have hdown := Lib.hid (quo_down a b c)
  have hup := Lib.hid (quo_up a b c hc)
  go_enter Try.func101, Try.ntmps101
  go_wp2_with fail
  refine (HM.out _ (by omega) ha1).mono ?_
  rintro e w1 ⟨rfl, rfl⟩
  go_wp2_with fail
  refine (mul64_any a b ha hb (by omega) (by omega) _).mono ?_
  rintro e w1 ⟨rfl, rfl⟩
  go_wp2_with fail
  refine (div64_any _ _ c p4 p3 p5.1 p5.2 (by omega) _).mono ?_
  rintro e w1 ⟨rfl, n, rfl⟩
  rw [H6.out]
  cases up
  · go_wp2
    go_ret
    exact ⟨by rw [hdown.out]; rfl, n, rfl⟩
  · by_cases hr : 0 < a * b % c
    · have hu : Hid (quo a b c true = a * b / c + 1) := by have := hup.out; rw [if_neg (by omega)] at this; exact this
      go_wp2
      go_ret
      exact ⟨by rw [hu.out]; rfl, n, rfl⟩
    · have hu : Hid (quo a b c true = a * b / c) := by have := hup.out; rw [if_pos (by omega)] at this; exact this
      go_wp2
      go_ret
      exact ⟨by rw [hu.out]; rfl, n, rfl⟩
set_option maxRecDepth 100000 in
set_option maxHeartbeats 1000000 in
theorem quotient_neg (m b c : Int) (up : Bool) (w : World) (ha : 0 < m) (ha1 : m ≤ 9223372036854775808) (hb : 0 ≤ b) (hb1 : b ≤ 9223372036854775807) (hc : 0 < c) (hc1 : c ≤ 9223372036854775807) (hq : m * b / c ≤ 9223372036854775806) :
    Calls Try.prog 101 #[.int .i64 (-m), .int .i64 b, .int .i64 c, .bool up] w fun e w' => e = .returned (.int .i64 (quo (-m) b c up)) ∧ ∃ n, w' = w.drewN n := by
  have p0 : 0 ≤ m * b := Int.mul_nonneg (by omega) hb
  have q0 : 0 ≤ m * b / c := Int.ediv_nonneg p0 (by omega)
  have p1 : m * b < (m * b / c + 1) * c := Int.lt_ediv_add_one_mul_self (m * b) hc
  have p2 : (m * b / c + 1) * c ≤ 9223372036854775807 * c := Int.mul_le_mul_of_nonneg_right (by omega) (by omega)
  have p3 : m * b / 18446744073709551616 < c := by omega
  have p4 : 0 ≤ m * b / 18446744073709551616 := by omega
  have p5 : 0 ≤ m * b % 18446744073709551616 ∧ m * b % 18446744073709551616 < 18446744073709551616 := by omega
  have p6 : m * b / 18446744073709551616 * 18446744073709551616 + m * b % 18446744073709551616 = m * b := by omega
  have r0 := Int.emod_nonneg (m * b) (show c ≠ 0 by omega)
  have hm := magn_any (-m)
  rw [if_pos (by omega), Int.neg_neg] at hm
  have HM := Lib.hid hm
  have H6 := Lib.hid p6; clear p6 hm
  clear p1 p2
  have hup : Hid (quo (-m) b c true = -(m * b / c)) := by show -(-(-m * b) / c) = _; rw [Int.neg_mul, Int.neg_neg]
  have hdown : Hid (quo (-m) b c false = if m * b % c = 0 then -(m * b / c) else -(m * b / c) - 1) := by show -m * b / c = _; rw [Int.neg_mul, neg_ediv _ _ hc]
  go_enter Try.func101, Try.ntmps101
  go_wp2_with fail
  refine (HM.out _ (by omega) (by omega)).mono ?_
  rintro e w1 ⟨rfl, rfl⟩
  go_wp2_with fail
  refine (mul64_any m b (by omega) hb (by omega) (by omega) _).mono ?_
  rintro e w1 ⟨rfl, rfl⟩
  go_wp2_with fail
  refine (div64_any _ _ c p4 p3 p5.1 p5.2 (by omega) _).mono ?_
  rintro e w1 ⟨rfl, n, rfl⟩
  rw [H6.out]
  have hneg : -m < 0 := by omega
  cases up
  · by_cases hr : 0 < m * b % c
    · have hu : Hid (quo (-m) b c false = -(m * b / c + 1)) := by have := hdown.out; rw [if_neg (by omega)] at this; rw [this]; show _ = _; omega
      go_wp2
      go_ret
      exact ⟨by rw [hu.out]; rfl, n, rfl⟩
    · have hu : Hid (quo (-m) b c false = -(m * b / c)) := by have := hdown.out; rw [if_pos (by omega)] at this; exact this
      go_wp2
      go_ret
      exact ⟨by rw [hu.out]; rfl, n, rfl⟩
  · go_wp2
    go_ret
    exact ⟨by rw [hup.out]; rfl, n, rfl⟩
end Go.Proofs.Ytlfkkfdolnkjfaa
