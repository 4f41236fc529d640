/- Contracts of ticks.Second, Part, Wire, Down, Up, Delay, Divide, Scale, Units, Format. -/
import Derived.Test.YtelmcglckkjmfaaDoorItoa
import Derived.Test.YtelmcglckkjmfaaDoorExact
import Derived.Test.YtelmcglckkjmfaaDoorNum
import Derived.Test.YtelmcglckkjmfaaDoorKit
import Derived.Lib.BitFns
namespace Go.Proofs.YtelmcglckkjmfaaDoor
open Go.RowKit
set_option linter.unusedSimpArgs false
set_option linter.unusedVariables false

theorem wrapU (x : Int) : IntKind.u64.wrap x = x % 18446744073709551616 := by
  simp only [IntKind.wrap, IntKind.signed, IntKind.bits]; rfl
theorem wrapU32 (x : Int) : IntKind.u32.wrap x = x % 4294967296 := by
  simp only [IntKind.wrap, IntKind.signed, IntKind.bits]; rfl
theorem ret_u {k : IntKind} {a b : Int} (h : a = b) : Ending.returned (.int k a) = .returned (.int k b) := by rw [h]
theorem u64_maskI (n : Int) (k : Nat) (hk : k < 63) : bits .and .u64 n (2 ^ k - 1) = n % 2 ^ k := by
  have hlt : (2 : Nat) ^ k < 2 ^ 63 := Nat.pow_lt_pow_right (by decide) hk
  have hp := Nat.two_pow_pos k
  have e3 := two_pow_cast k
  have e : ((2 : Int) ^ k - 1) = ((2 ^ k - 1 : Nat) : Int) := by omega
  have hm : (BitVec.ofInt 64 ((2 : Int) ^ k - 1)).toNat = 2 ^ k - 1 := by
    rw [e, BitVec.ofInt_natCast, BitVec.toNat_ofNat]; exact Nat.mod_eq_of_lt (by omega)
  have key : (BitVec.ofInt 64 n &&& BitVec.ofInt 64 ((2 : Int) ^ k - 1)).toNat = (n % ((2 ^ 64 : Nat) : Int)).toNat % 2 ^ k := by
    rw [BitVec.toNat_and, BitVec.toNat_ofInt, hm, Nat.and_two_pow_sub_one_eq_mod]
  show IntKind.u64.wrap ((BitVec.ofInt 64 n &&& BitVec.ofInt 64 ((2 : Int) ^ k - 1)).toNat : Nat) = n % 2 ^ k
  rw [key]
  have h0 := Int.emod_nonneg n (show ((2 ^ 64 : Nat) : Int) ≠ 0 by decide)
  have hd : (2 : Int) ^ k ∣ ((2 ^ 64 : Nat) : Int) := by
    rw [← e3]; exact Int.natCast_dvd_natCast.2 (Nat.pow_dvd_pow 2 (by omega))
  have e2 : (((n % ((2 ^ 64 : Nat) : Int)).toNat % 2 ^ k : Nat) : Int) = n % 2 ^ k := by
    rw [Int.natCast_emod, Int.toNat_of_nonneg h0, e3, Int.emod_emod_of_dvd _ hd]
  have h1 := Int.emod_nonneg n (show (2 : Int) ^ k ≠ 0 by omega)
  have h2 := Int.emod_lt_of_pos n (show (0 : Int) < 2 ^ k by omega)
  rw [e2, wrapU, Int.emod_eq_of_lt h1 (by omega)]
theorem u64_mask12 (n : Int) : bits .and .u64 n 4095 = n % 4096 := u64_maskI n 12 (by omega)
theorem i64_mask20 (n : Int) : bits .and .i64 n 1048575 = n % 1048576 := i64_mask n 20 (by omega)
theorem quotient_any (a b c : Int) (up : Bool) (w : World) (ha : -9223372036854775807 ≤ a) (ha1 : a ≤ 9223372036854775807) (hb : 0 ≤ b) (hb1 : b ≤ 9223372036854775807) (hc : 0 < c) (hc1 : c ≤ 9223372036854775807) (hq : a * b / c ≤ 9223372036854775806) (hq2 : -a * b / c ≤ 9223372036854775806) :
    Calls Tryd.prog 36 #[.int .i64 a, .int .i64 b, .int .i64 c, .bool up] w fun e w' => e = .returned (.int .i64 (quo a b c up)) ∧ ∃ n, w' = w.drewN n := by
  by_cases h : 0 ≤ a
  · exact quotient_pos a b c up w h ha1 hb hb1 hc hc1 hq
  · obtain ⟨m, rfl⟩ : ∃ m, a = -m := ⟨-a, by omega⟩
    exact quotient_neg m b c up w (by omega) (by omega) hb hb1 hc hc1 (by simpa using hq2)

set_option maxHeartbeats 1000000 in
theorem second_any (t : Int) (h0 : -9223372036854775808 ≤ t) (h1 : t ≤ 9223372036854775807) (w : World) :
    Calls Tryd.prog 15 #[.int .i64 t] w (fun e w' => e = .returned (.int .i64 (t / 1048576)) ∧ w = w') := by
  go_enter Tryd.func15, Tryd.ntmps15
  go_wp2
  go_ret
  exact ⟨rfl, rfl⟩
set_option maxHeartbeats 1000000 in
theorem part_any (t : Int) (w : World) :
    Calls Tryd.prog 18 #[.int .i64 t] w (fun e w' => e = .returned (.int .i64 (t % 1048576)) ∧ w = w') := by
  go_enter Tryd.func18, Tryd.ntmps18
  go_wp2
  go_ret
  exact ⟨by rw [i64_mask20]; rfl, rfl⟩
set_option maxHeartbeats 1000000 in
theorem wire_no (t : Int) (h : vT t = false) (w : World) :
    Calls Tryd.prog 13 #[.int .i64 t] w (fun e w' => e = .returned (.tuple #[.int .u64 0, .int .i64 4]) ∧ w = w') := by
  have r := tvalid_any t
  rw [h] at r
  have R := Lib.hid r; clear r
  go_enter Tryd.func13, Tryd.ntmps13
  go_wp2_with fail
  refine (R.out _).mono ?_
  rintro e wq1 ⟨rfl, rfl⟩
  go_wp2
  go_ret2
  exact ⟨rfl, rfl⟩
set_option maxHeartbeats 1000000 in
theorem wire_any (t : Int) (h : vT t = true) (w : World) :
    Calls Tryd.prog 13 #[.int .i64 t] w (fun e w' => e = .returned (.tuple #[.int .u64 ((t * 4096) % 18446744073709551616), .int .i64 0]) ∧ w = w') := by
  have hb := vT_true.1 h
  have r := tvalid_any t
  rw [h] at r
  have R := Lib.hid r; clear r h
  go_enter Tryd.func13, Tryd.ntmps13
  go_wp2_with fail
  refine (R.out _).mono ?_
  rintro e wq1 ⟨rfl, rfl⟩
  go_wp2
  go_ret2
  exact ⟨by rw [wrapU, wrapU, show t % 18446744073709551616 * 4096 % 18446744073709551616 = t * 4096 % 18446744073709551616 by omega]; rfl, rfl⟩
set_option maxHeartbeats 1000000 in
theorem down_any (x : Int) (h0 : 0 ≤ x) (h1 : x < 18446744073709551616) (w : World) :
    Calls Tryd.prog 19 #[.int .u64 x] w (fun e w' => e = .returned (.int .i64 (x / 4096)) ∧ w = w') := by
  go_enter Tryd.func19, Tryd.ntmps19
  go_wp2
  go_ret
  exact ⟨rfl, rfl⟩
set_option maxHeartbeats 1000000 in
theorem delay_any (x : Int) (h0 : 0 ≤ x) (h1 : x < 4294967296) (w : World) :
    Calls Tryd.prog 22 #[.int .u32 x] w (fun e w' => e = .returned (.int .i64 (x * 16)) ∧ w = w') := by
  go_enter Tryd.func22, Tryd.ntmps22
  go_wp2
  go_ret
  exact ⟨rfl, rfl⟩
/-- A wire timestamp in ticks, rounded up. -/
def upN (x : Int) : Int := if x % 4096 = 0 then x / 4096 else x / 4096 + 1
set_option maxHeartbeats 1000000 in
theorem up_any (x : Int) (h0 : 0 ≤ x) (h1 : x < 18446744073709551616) (w : World) :
    Calls Tryd.prog 20 #[.int .u64 x] w (fun e w' => e = .returned (.int .i64 (upN x)) ∧ w = w') := by
  have r := down_any x h0 h1
  have R := Lib.hid r; clear r
  have hm : bits .and .u64 x 4095 = x % 4096 := u64_mask12 x
  by_cases h : x % 4096 = 0
  · rw [show upN x = x / 4096 from if_pos h]
    rw [h] at hm
    clear h
    go_enter Tryd.func20, Tryd.ntmps20
    go_wp2_with fail
    refine (R.out _).mono ?_
    rintro e wq1 ⟨rfl, rfl⟩
    go_wp2
    go_ret
    exact ⟨by simp, rfl⟩
  · rw [show upN x = x / 4096 + 1 from if_neg h]
    have hp : 0 < x % 4096 := by omega
    generalize x % 4096 = m at *
    clear h
    go_enter Tryd.func20, Tryd.ntmps20
    go_wp2_with fail
    refine (R.out _).mono ?_
    rintro e wq2 ⟨rfl, rfl⟩
    go_wp2
    go_ret
    exact ⟨by simp, rfl⟩
def divV (a b : Int) (up : Bool) : Value := if b < 1 then .tuple #[.int .i64 0, .int .i64 4] else if vT a then .tuple #[.int .i64 (quo a 1 b up), .int .i64 0] else .tuple #[.int .i64 0, .int .i64 4]
theorem divV_ok {a b : Int} {up : Bool} (hb : 1 ≤ b) (h : vT a = true) : divV a b up = .tuple #[.int .i64 (quo a 1 b up), .int .i64 0] := by unfold divV; rw [if_neg (by omega), if_pos h]
theorem quo_in (a b : Int) (hb : 1 ≤ b) (h : vT a = true) (m : Int) (hm : m = a ∨ m = -a) : m * 1 / b ≤ 9223372036854775806 := by
  have := vT_true.1 h
  rw [Int.mul_one]
  have h2 : m ≤ 1152921504606846976 := by omega
  by_cases h3 : 0 ≤ m
  · have := Int.ediv_le_self b h3; omega
  · rcases (show m / b < 0 ∨ 0 ≤ m / b by omega) with h5 | h5
    · omega
    · have h6 := Int.mul_nonneg h5 (show 0 ≤ b by omega)
      have h7 := Int.ediv_mul_le m (show b ≠ 0 by omega)
      omega

set_option maxHeartbeats 1000000 in
theorem divide_any (a b : Int) (up : Bool) (hb1 : b ≤ 9223372036854775807) (w : World) :
    Calls Tryd.prog 17 #[.int .i64 a, .int .i64 b, .bool up] w (fun e w' => e = .returned (divV a b up) ∧ ∃ n, w' = w.drewN n) := by
  have r := tvalid_any a
  by_cases hb : b < 1
  · rw [show divV a b up = .tuple #[.int .i64 0, .int .i64 4] from if_pos hb]
    clear r
    go_enter Tryd.func17, Tryd.ntmps17
    go_wp2
    go_ret2
    exact ⟨rfl, 0, rfl⟩
  · rcases h : vT a
    · rw [show divV a b up = .tuple #[.int .i64 0, .int .i64 4] by unfold divV; rw [if_neg hb, if_neg (by rw [h]; simp)]]
      rw [h] at r
      have R := Lib.hid r; clear r
      have hb' : decide (b < 1) = false := by simp; omega
      clear hb
      go_enter Tryd.func17, Tryd.ntmps17
      go_wp2_with fail
      refine (R.out _).mono ?_
      rintro e wq1 ⟨rfl, rfl⟩
      go_wp2
      go_ret2
      exact ⟨rfl, 0, rfl⟩
    · rw [divV_ok (by omega) h]
      rw [h] at r
      have q := fun w => quotient_any a 1 b up w (by have := vT_true.1 h; omega) (by have := vT_true.1 h; omega) (by omega) (by omega) (by omega) hb1 (quo_in a b (by omega) h a (.inl rfl)) (quo_in a b (by omega) h (-a) (.inr rfl))
      generalize quo a 1 b up = x at *
      have R := Lib.hid r; have Q := Lib.hid q; clear r q
      have hb' : decide (b < 1) = false := by simp; omega
      clear hb h
      go_enter Tryd.func17, Tryd.ntmps17
      go_wp2_with fail
      refine (R.out _).mono ?_
      rintro e wq2 ⟨rfl, rfl⟩
      go_wp2_with fail
      refine (Q.out _).mono ?_
      rintro e wq3 ⟨rfl, nq3, rfl⟩
      go_wp2
      go_ret2
      exact ⟨rfl, _, rfl⟩
def sclV (d p : Int) (up : Bool) : Value := if vT d = true ∧ 0 ≤ p ∧ p ≤ 1000000 then .tuple #[.int .i64 (quo d p 1000000000 up), .int .i64 0] else .tuple #[.int .i64 0, .int .i64 4]
theorem sclV_ok {d p : Int} {up : Bool} (h : vT d = true) (h0 : 0 ≤ p) (h1 : p ≤ 1000000) : sclV d p up = .tuple #[.int .i64 (quo d p 1000000000 up), .int .i64 0] := if_pos ⟨h, h0, h1⟩
theorem scl_in (a p : Int) (h0 : 0 ≤ p) (h1 : p ≤ 1000000) (ha : a ≤ 1152921504606846976) : a * p / 1000000000 ≤ 9223372036854775806 := by
  by_cases h3 : 0 ≤ a
  · have := Int.mul_le_mul ha h1 h0 (by omega); omega
  · have := Int.mul_nonneg (show 0 ≤ -a by omega) h0; rw [Int.neg_mul] at this; omega

set_option maxHeartbeats 1000000 in
theorem scale_any (d p : Int) (up : Bool) (w : World) :
    Calls Tryd.prog 11 #[.int .i64 d, .int .i64 p, .bool up] w (fun e w' => e = .returned (sclV d p up) ∧ ∃ n, w' = w.drewN n) := by
  have r := tvalid_any d
  rcases h : vT d
  · rw [show sclV d p up = .tuple #[.int .i64 0, .int .i64 4] from if_neg (by rw [h]; simp)]
    rw [h] at r
    have R := Lib.hid r; clear r
    go_enter Tryd.func11, Tryd.ntmps11
    go_wp2_with fail
    refine (R.out _).mono ?_
    rintro e wq1 ⟨rfl, rfl⟩
    go_wp2
    go_ret2
    exact ⟨rfl, 0, rfl⟩
  · rw [h] at r
    have R := Lib.hid r; clear r
    by_cases h0 : 0 ≤ p
    · by_cases h1 : p ≤ 1000000
      · rw [sclV_ok h h0 h1]
        have q := fun w => quotient_any d p 1000000000 up w (by have := vT_true.1 h; omega) (by have := vT_true.1 h; omega) h0 (by omega) (by omega) (by omega) (scl_in d p h0 h1 (by have := vT_true.1 h; omega)) (scl_in (-d) p h0 h1 (by have := vT_true.1 h; omega))
        generalize quo d p 1000000000 up = x at *
        have Q := Lib.hid q; clear q h
        go_enter Tryd.func11, Tryd.ntmps11
        go_wp2_with fail
        refine (R.out _).mono ?_
        rintro e wq2 ⟨rfl, rfl⟩
        go_wp2_with fail
        refine (Q.out _).mono ?_
        rintro e wq3 ⟨rfl, nq3, rfl⟩
        go_wp2
        go_ret2
        exact ⟨rfl, _, rfl⟩
      · rw [show sclV d p up = .tuple #[.int .i64 0, .int .i64 4] from if_neg (by omega)]
        have h1' : decide (p > 1000000) = true := by simp; omega
        clear h1 h
        go_enter Tryd.func11, Tryd.ntmps11
        go_wp2_with fail
        refine (R.out _).mono ?_
        rintro e wq4 ⟨rfl, rfl⟩
        go_wp2
        go_ret2
        exact ⟨rfl, 0, rfl⟩
    · rw [show sclV d p up = .tuple #[.int .i64 0, .int .i64 4] from if_neg (by omega)]
      have h0' : decide (p < 0) = true := by simp; omega
      clear h0 h
      go_enter Tryd.func11, Tryd.ntmps11
      go_wp2_with fail
      refine (R.out _).mono ?_
      rintro e wq5 ⟨rfl, rfl⟩
      go_wp2
      go_ret2
      exact ⟨rfl, 0, rfl⟩
def uniV (d : Int) (up : Bool) : Value := if 0 ≤ d ∧ quo d 1 16 up ≤ 4294967295 then .tuple #[.int .u32 (quo d 1 16 up), .int .i64 0] else .tuple #[.int .u32 0, .int .i64 4]

set_option maxHeartbeats 1000000 in
theorem units_any (d : Int) (up : Bool) (hd : d ≤ 9223372036854775807) (w : World) :
    Calls Tryd.prog 21 #[.int .i64 d, .bool up] w (fun e w' => e = .returned (uniV d up) ∧ ∃ n, w' = w.drewN n) := by
  by_cases h0 : 0 ≤ d
  · have q := fun w => quotient_any d 1 16 up w (by omega) (by omega) (by omega) (by omega) (by omega) (by omega) (by omega) (by omega)
    have q0 : 0 ≤ quo d 1 16 up ∧ quo d 1 16 up ≤ 9223372036854775806 := by cases up <;> simp only [quo, if_true, if_false, Bool.false_eq_true] <;> omega
    by_cases h1 : quo d 1 16 up ≤ 4294967295
    · rw [show uniV d up = .tuple #[.int .u32 (quo d 1 16 up), .int .i64 0] from if_pos ⟨h0, h1⟩]
      generalize quo d 1 16 up = x at *
      have Q := Lib.hid q; clear q
      go_enter Tryd.func21, Tryd.ntmps21
      go_wp2_with fail
      refine (Q.out _).mono ?_
      rintro e wq1 ⟨rfl, nq1, rfl⟩
      go_wp2
      go_ret2
      exact ⟨rfl, _, rfl⟩
    · rw [show uniV d up = .tuple #[.int .u32 0, .int .i64 4] from if_neg (by omega)]
      generalize quo d 1 16 up = x at *
      have Q := Lib.hid q; clear q
      go_enter Tryd.func21, Tryd.ntmps21
      go_wp2_with fail
      refine (Q.out _).mono ?_
      rintro e wq2 ⟨rfl, nq2, rfl⟩
      go_wp2
      go_ret2
      exact ⟨rfl, _, rfl⟩
  · rw [show uniV d up = .tuple #[.int .u32 0, .int .i64 4] from if_neg (by omega)]
    have h0' : decide (d < 0) = true := by simp; omega
    clear h0
    go_enter Tryd.func21, Tryd.ntmps21
    go_wp2
    go_ret2
    exact ⟨rfl, 0, rfl⟩
/-- What Format writes. -/
def fmtS (t : Int) : List UInt8 := Lib.itoa (t / 1048576) ++ [46] ++ Lib.repeatL [48] (7 - (Lib.itoa (t % 1048576)).length) ++ Lib.itoa (t % 1048576)

set_option maxHeartbeats 1000000 in
theorem format_any (t : Int) (h0 : -9223372036854775808 ≤ t) (h1 : t ≤ 9223372036854775807) (hl : (Lib.itoa (t % 1048576)).length ≤ 7) (hl2 : (Lib.itoa (t / 1048576)).length ≤ 30) (w : World) (hw : Pow10 w) :
    Calls Tryd.prog 14 #[.int .i64 t] w (RB w (.string ⟨(fmtS t).toArray⟩)) := by
  have r1 := part_any t
  have r2 := second_any t h0 h1
  have b1 : 0 ≤ t % 1048576 := by omega
  have b2 : t % 1048576 < 1048576 := by omega
  have b3 : -9223372036854775808 ≤ t / 1048576 := by omega
  have b4 : t / 1048576 ≤ 9223372036854775807 := by omega
  have r3 := fun w => itoa_any (t % 1048576) (by omega) (by omega) w
  have r4 := fun w => itoa_any (t / 1048576) (by omega) (by omega) w
  unfold fmtS
  generalize Lib.itoa (t % 1048576) = sp at *
  generalize Lib.itoa (t / 1048576) = ss at *
  have r5 : ∀ w, Calls Tryd.prog 38 #[.string ⟨#[48]⟩, .int .i64 ((7 - sp.length : Nat) : Int)] w (RB w (.string ⟨(Lib.repeatL [48] (7 - sp.length)).toArray⟩)) := fun w => repeat_any ⟨#[48]⟩ (7 - sp.length) w (by omega) (by show 1 * (7 - sp.length) ≤ _; omega)
  have hr : (Lib.repeatL [48] (7 - sp.length)).length ≤ 7 := by rw [Lib.repeatL_length]; simp
  generalize Lib.repeatL [48] (7 - sp.length) = rp at *
  have e5 : (7 : Int) - (sp.length : Int) = ((7 - sp.length : Nat) : Int) := by omega
  have R1 := Lib.hid r1; have R2 := Lib.hid r2; have R3 := Lib.hid r3; have R4 := Lib.hid r4; have R5 := Lib.hid r5; have E5 := Lib.hid e5; have HW := Lib.hid hw; clear r1 r2 r3 r4 r5 e5 hw
  go_enter Tryd.func14, Tryd.ntmps14
  go_wp2_with fail
  refine (R1.out _).mono ?_
  rintro e wq1 ⟨rfl, rfl⟩
  go_wp2_with fail
  refine (R3.out _ HW.out).mono ?_
  rintro e w1 ⟨rfl, hb1⟩
  have K1 : Below w.heap.size w w1 := kept_call hb1 (by (repeat' (first | (with_reducible exact Below.refl _ _) | (with_reducible refine Below.setCell ?_ ?_ _) | (with_reducible refine Below.alloc ?_ ?_ _) | (with_reducible refine Below.drew ?_) | (with_reducible refine below_drewN ?_ _))) <;> (first | omega | (simp <;> omega)))
  have Z1 : w.heap.size ≤ w1.heap.size := K1.size
  clear hb1
  go_wp2_with fail
  refine (R2.out _).mono ?_
  rintro e wq2 ⟨rfl, rfl⟩
  go_wp2_with fail
  refine (R4.out _ (HW.out.below K1)).mono ?_
  rintro e w2 ⟨rfl, hb2⟩
  have K2 : Below w.heap.size w w2 := kept_call hb2 (by (repeat' (first | (with_reducible exact K1) | (with_reducible refine Below.setCell ?_ ?_ _) | (with_reducible refine Below.alloc ?_ ?_ _) | (with_reducible refine Below.drew ?_) | (with_reducible refine below_drewN ?_ _))) <;> (first | omega | (simp <;> omega)))
  have Z2 : w.heap.size ≤ w2.heap.size := K2.size
  clear hb2 K1
  go_wp2_with fail
  rw [E5.out]
  refine (R5.out _).mono ?_
  rintro e w3 ⟨rfl, hb3⟩
  go_wp2
  go_ret
  exact ⟨by (simp; apply ByteArray.ext; simp), kept_call hb3 K2⟩
end Go.Proofs.YtelmcglckkjmfaaDoor
