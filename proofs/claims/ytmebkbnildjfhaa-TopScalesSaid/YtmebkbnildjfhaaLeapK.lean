/- Contracts of ticks.Second, Part, Wire, Down, Up, and of the reference's Second, Part. -/
import Derived.Test.YtmebkbnildjfhaaExact
import Derived.Test.YtmebkbnildjfhaaNum
import Derived.Test.YtmebkbnildjfhaaKit
import Derived.Test.YtmebkbnildjfhaaRound
import Derived.Lib.BitFns
namespace Go.Proofs.Ytmebkbnildjfhaa
open Go.RowKit
set_option linter.unusedSimpArgs false
set_option linter.unusedVariables false

theorem wrapUK (x : Int) : IntKind.u64.wrap x = x % 18446744073709551616 := by
  simp only [IntKind.wrap, IntKind.signed, IntKind.bits]; rfl
theorem u64_maskIK (n : Int) (k : Nat) (hk : k < 63) : bits .and .u64 n (2 ^ k - 1) = n % 2 ^ k := by
  have hlt : (2 : Nat) ^ k < 2 ^ 63 := Nat.pow_lt_pow_right (by decide) hk
  have hp := Nat.two_pow_pos k
  have e3 := two_pow_cast k
  have e : ((2 : Int) ^ k - 1) = ((2 ^ k - 1 : Nat) : Int) := by omega
  have hm : (BitVec.ofInt 64 ((2 : Int) ^ k - 1)).toNat = 2 ^ k - 1 := by
    rw [e, BitVec.ofInt_natCast, BitVec.toNat_ofNat]; exact Nat.mod_eq_of_lt (by omega)
  have key : (BitVec.ofInt 64 n &&& BitVec.ofInt 64 ((2 : Int) ^ k - 1)).toNat = (n % ((2 ^ 64 : Nat) : Int)).toNat % 2 ^ k := by
    rw [BitVec.toNat_and, BitVec.toNat_ofInt, hm, Nat.and_two_pow_sub_one_eq_mod]
  show IntKind.u64.wrap ((BitVec.ofInt 64 n &&& BitVec.ofInt 64 ((2 : Int) ^ k - 1)).toNat : Nat) = n % 2 ^ k
  rw [key]
  have h0 := Int.emod_nonneg n (show ((2 ^ 64 : Nat) : Int) ≠ 0 by decide)
  have hd : (2 : Int) ^ k ∣ ((2 ^ 64 : Nat) : Int) := by
    rw [← e3]; exact Int.natCast_dvd_natCast.2 (Nat.pow_dvd_pow 2 (by omega))
  have e2 : (((n % ((2 ^ 64 : Nat) : Int)).toNat % 2 ^ k : Nat) : Int) = n % 2 ^ k := by
    rw [Int.natCast_emod, Int.toNat_of_nonneg h0, e3, Int.emod_emod_of_dvd _ hd]
  have h1 := Int.emod_nonneg n (show (2 : Int) ^ k ≠ 0 by omega)
  have h2 := Int.emod_lt_of_pos n (show (0 : Int) < 2 ^ k by omega)
  rw [e2, wrapUK, Int.emod_eq_of_lt h1 (by omega)]
theorem u64_mask12K (n : Int) : bits .and .u64 n 4095 = n % 4096 := u64_maskIK n 12 (by omega)
theorem i64_mask20K (n : Int) : bits .and .i64 n 1048575 = n % 1048576 := i64_mask n 20 (by omega)
set_option maxHeartbeats 1000000 in
theorem second_anyK (t : Int) (h0 : -9223372036854775808 ≤ t) (h1 : t ≤ 9223372036854775807) (w : World) :
    Calls Try.prog 61 #[.int .i64 t] w (fun e w' => e = .returned (.int .i64 (t / 1048576)) ∧ w = w') := by
  go_enter Try.func61, Try.ntmps61
  go_wp2
  go_ret
  exact ⟨rfl, rfl⟩
set_option maxHeartbeats 1000000 in
theorem part_anyK (t : Int) (w : World) :
    Calls Try.prog 65 #[.int .i64 t] w (fun e w' => e = .returned (.int .i64 (t % 1048576)) ∧ w = w') := by
  go_enter Try.func65, Try.ntmps65
  go_wp2
  go_ret
  exact ⟨by rw [i64_mask20K]; rfl, rfl⟩
set_option maxHeartbeats 1000000 in
theorem wire_anyK (t : Int) (h : vT t = true) (w : World) :
    Calls Try.prog 33 #[.int .i64 t] w (fun e w' => e = .returned (.tuple #[.int .u64 ((t * 4096) % 18446744073709551616), .int .i64 0]) ∧ w = w') := by
  have hb := vT_true.1 h
  have r := tvalid_any t
  rw [h] at r
  have R := Lib.hid r; clear r h
  go_enter Try.func33, Try.ntmps33
  go_wp2_with fail
  refine (R.out _).mono ?_
  rintro e wq1 ⟨rfl, rfl⟩
  go_wp2
  go_ret2
  exact ⟨by rw [wrapUK, wrapUK, show t % 18446744073709551616 * 4096 % 18446744073709551616 = t * 4096 % 18446744073709551616 by omega]; rfl, rfl⟩
set_option maxHeartbeats 1000000 in
theorem down_anyK (x : Int) (h0 : 0 ≤ x) (h1 : x < 18446744073709551616) (w : World) :
    Calls Try.prog 94 #[.int .u64 x] w (fun e w' => e = .returned (.int .i64 (x / 4096)) ∧ w = w') := by
  go_enter Try.func94, Try.ntmps94
  go_wp2
  go_ret
  exact ⟨rfl, rfl⟩
def upNK (x : Int) : Int := if x % 4096 = 0 then x / 4096 else x / 4096 + 1
set_option maxHeartbeats 1000000 in
theorem up_anyK (x : Int) (h0 : 0 ≤ x) (h1 : x < 18446744073709551616) (w : World) :
    Calls Try.prog 93 #[.int .u64 x] w (fun e w' => e = .returned (.int .i64 (upNK x)) ∧ w = w') := by
  have r := down_anyK x h0 h1
  have R := Lib.hid r; clear r
  have hm : bits .and .u64 x 4095 = x % 4096 := u64_mask12K x
  by_cases h : x % 4096 = 0
  · rw [show upNK x = x / 4096 from if_pos h]
    rw [h] at hm
    clear h
    go_enter Try.func93, Try.ntmps93
    go_wp2_with fail
    refine (R.out _).mono ?_
    rintro e wq1 ⟨rfl, rfl⟩
    go_wp2
    go_ret
    exact ⟨by simp, rfl⟩
  · rw [show upNK x = x / 4096 + 1 from if_neg h]
    have hp : 0 < x % 4096 := by omega
    generalize x % 4096 = m at *
    clear h
    go_enter Try.func93, Try.ntmps93
    go_wp2_with fail
    refine (R.out _).mono ?_
    rintro e wq2 ⟨rfl, rfl⟩
    go_wp2
    go_ret
    exact ⟨by simp, rfl⟩
set_option maxHeartbeats 1000000 in
theorem rsecond_anyK (t : Int) (h0 : -9223372036854775808 ≤ t) (h1 : t ≤ 9223372036854775807) (w : World) :
    Calls Try.prog 99 #[.int .i64 t] w (fun e w' => e = .returned (.int .i64 (t / 1048576)) ∧ w = w') := by
  have r := fun w => below10_any t 1048576 w (by omega) (by omega) h0 h1
  have R := Lib.hid r; clear r
  go_enter Try.func99, Try.ntmps99
  go_wp2_with fail
  refine (R.out _).mono ?_
  rintro e wq1 ⟨rfl, rfl⟩
  go_wp2
  go_ret
  exact ⟨rfl, rfl⟩
set_option maxHeartbeats 1000000 in
theorem rpart_anyK (t : Int) (h0 : -9223372036854775808 ≤ t) (h1 : t ≤ 9223372036854775807) (w : World) :
    Calls Try.prog 100 #[.int .i64 t] w (fun e w' => e = .returned (.int .i64 (t % 1048576)) ∧ w = w') := by
  have r := rsecond_anyK t h0 h1
  have e : t - t / 1048576 * 1048576 = t % 1048576 := by omega
  have b0 : -8796093022208 ≤ t / 1048576 := by omega
  have b1 : t / 1048576 ≤ 8796093022207 := by omega
  have b2 : 0 ≤ t % 1048576 := by omega
  have b3 : t % 1048576 < 1048576 := by omega
  generalize t / 1048576 = s at *
  generalize t % 1048576 = p at *
  have R := Lib.hid r; clear r
  go_enter Try.func100, Try.ntmps100
  go_wp2_with fail
  refine (R.out _).mono ?_
  rintro e wq1 ⟨rfl, rfl⟩
  go_wp2
  go_ret
  exact ⟨ret_int (by omega), rfl⟩
end Go.Proofs.Ytmebkbnildjfhaa
