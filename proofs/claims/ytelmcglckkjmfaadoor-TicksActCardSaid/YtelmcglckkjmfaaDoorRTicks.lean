/- Contracts of the reference of chapter 10: Second, Part, Wire, Down, Up, Delay, Divide, Scale, Units. -/
import Derived.Test.YtelmcglckkjmfaaDoorKnown10
namespace Go.Proofs.YtelmcglckkjmfaaDoor
open Go.RowKit
set_option linter.unusedSimpArgs false
set_option linter.unusedVariables false

theorem u64_or (h l : Nat) (hh : h < 4294967296) (hl : l < 4294967296) : bits .or .u64 ((h : Int) * 4294967296) (l : Int) = (h : Int) * 4294967296 + l := by
  have e : ((h : Int) * 4294967296) = ((h * 4294967296 : Nat) : Int) := by omega
  show IntKind.u64.wrap ((BitVec.ofInt 64 ((h : Int) * 4294967296) ||| BitVec.ofInt 64 (l : Int)).toNat : Nat) = _
  rw [e, BitVec.ofInt_natCast, BitVec.ofInt_natCast, BitVec.toNat_or, BitVec.toNat_ofNat, BitVec.toNat_ofNat, Nat.mod_eq_of_lt (by omega), Nat.mod_eq_of_lt (by omega)]
  have k := Nat.shiftLeft_add_eq_or_of_lt (i := 32) (b := l) (by omega) h
  rw [Nat.shiftLeft_eq] at k
  rw [show h * 4294967296 = h * 2 ^ 32 by rfl, ← k, wrapU]
  omega
theorem i64_mask32 (n : Int) : bits .and .i64 n 4294967295 = n % 4294967296 := i64_mask n 32 (by omega)

set_option maxHeartbeats 1000000 in
theorem rsecond_any (t : Int) (h0 : -9223372036854775808 ≤ t) (h1 : t ≤ 9223372036854775807) (w : World) :
    Calls Tryd.prog 30 #[.int .i64 t] w (fun e w' => e = .returned (.int .i64 (t / 1048576)) ∧ w = w') := by
  have r := fun w => below10_any t 1048576 w (by omega) (by omega) h0 h1
  have R := Lib.hid r; clear r
  go_enter Tryd.func30, Tryd.ntmps30
  go_wp2_with fail
  refine (R.out _).mono ?_
  rintro e wq1 ⟨rfl, rfl⟩
  go_wp2
  go_ret
  exact ⟨rfl, rfl⟩
set_option maxHeartbeats 1000000 in
theorem rpart_any (t : Int) (h0 : -9223372036854775808 ≤ t) (h1 : t ≤ 9223372036854775807) (w : World) :
    Calls Tryd.prog 31 #[.int .i64 t] w (fun e w' => e = .returned (.int .i64 (t % 1048576)) ∧ w = w') := by
  have r := rsecond_any t h0 h1
  have e : t - t / 1048576 * 1048576 = t % 1048576 := by omega
  have b0 : -8796093022208 ≤ t / 1048576 := by omega
  have b1 : t / 1048576 ≤ 8796093022207 := by omega
  have b2 : 0 ≤ t % 1048576 := by omega
  have b3 : t % 1048576 < 1048576 := by omega
  generalize t / 1048576 = s at *
  generalize t % 1048576 = p at *
  have R := Lib.hid r; clear r
  go_enter Tryd.func31, Tryd.ntmps31
  go_wp2_with fail
  refine (R.out _).mono ?_
  rintro e wq1 ⟨rfl, rfl⟩
  go_wp2
  go_ret
  exact ⟨ret_int (by omega), rfl⟩
set_option maxHeartbeats 1000000 in
theorem rwire_no (t : Int) (h : vT t = false) (w : World) :
    Calls Tryd.prog 26 #[.int .i64 t] w (fun e w' => e = .returned (.tuple #[.int .u64 0, .int .i64 4]) ∧ w = w') := by
  have r := rvalid_any t
  rw [h] at r
  have R := Lib.hid r; clear r
  go_enter Tryd.func26, Tryd.ntmps26
  go_wp2_with fail
  refine (R.out _).mono ?_
  rintro e wq1 ⟨rfl, rfl⟩
  go_wp2
  go_ret2
  exact ⟨rfl, rfl⟩
set_option maxHeartbeats 1000000 in
theorem rwire_any (t : Int) (h : vT t = true) (w : World) :
    Calls Tryd.prog 26 #[.int .i64 t] w (fun e w' => e = .returned (.tuple #[.int .u64 ((t * 4096) % 18446744073709551616), .int .i64 0]) ∧ w = w') := by
  have hb := vT_true.1 h
  have r := rvalid_any t
  rw [h] at r
  have r2 := rsecond_any t (by omega) (by omega)
  have r3 := rpart_any t (by omega) (by omega)
  obtain ⟨hi, hhi⟩ : ∃ hi : Nat, (hi : Int) = t / 1048576 % 4294967296 := ⟨(t / 1048576 % 4294967296).toNat, by omega⟩
  obtain ⟨lo, hlo⟩ : ∃ lo : Nat, (lo : Int) = t % 1048576 * 4096 := ⟨(t % 1048576 * 4096).toNat, by omega⟩
  have e0 := u64_or hi lo (by omega) (by omega)
  have e1 := i64_mask32 (t / 1048576)
  rw [← hhi] at e1
  have e2 : (t * 4096) % 18446744073709551616 = (hi : Int) * 4294967296 + lo := by omega
  rw [e2]
  have b1 : (hi : Int) < 4294967296 := by omega
  have b2 : (lo : Int) < 4294967296 := by omega
  have b3 : 0 ≤ t % 1048576 := by omega
  have b4 : t % 1048576 < 1048576 := by omega
  generalize t % 1048576 = p at *
  generalize t / 1048576 = s at *
  clear hhi e2 hb h
  have R := Lib.hid r; have R2 := Lib.hid r2; have R3 := Lib.hid r3; clear r r2 r3
  have hlo' : p * 4096 = lo := hlo.symm
  clear hlo
  go_enter Tryd.func26, Tryd.ntmps26
  go_wp2_with fail
  refine (R.out _).mono ?_
  rintro e wq1 ⟨rfl, rfl⟩
  go_wp2_with fail
  refine (R2.out _).mono ?_
  rintro e wq2 ⟨rfl, rfl⟩
  go_wp2_with fail
  refine (R3.out _).mono ?_
  rintro e wq3 ⟨rfl, rfl⟩
  go_wp2
  go_ret2
  exact ⟨rfl, rfl⟩
set_option maxHeartbeats 1000000 in
theorem rdown_any (x : Int) (h0 : 0 ≤ x) (h1 : x < 18446744073709551616) (w : World) :
    Calls Tryd.prog 32 #[.int .u64 x] w (fun e w' => e = .returned (.int .i64 (x / 4096)) ∧ w = w') := by
  go_enter Tryd.func32, Tryd.ntmps32
  go_wp2
  go_ret
  exact ⟨rfl, rfl⟩
set_option maxHeartbeats 1000000 in
theorem rdelay_any (x : Int) (h0 : 0 ≤ x) (h1 : x < 4294967296) (w : World) :
    Calls Tryd.prog 34 #[.int .u32 x] w (fun e w' => e = .returned (.int .i64 (x * 16)) ∧ w = w') := by
  go_enter Tryd.func34, Tryd.ntmps34
  go_wp2
  go_ret
  exact ⟨rfl, rfl⟩
set_option maxHeartbeats 1000000 in
theorem rup_any (x : Int) (h0 : 0 ≤ x) (h1 : x < 18446744073709551616) (w : World) :
    Calls Tryd.prog 33 #[.int .u64 x] w (fun e w' => e = .returned (.int .i64 (upN x)) ∧ w = w') := by
  have hm : bits .and .u64 x 4095 = x % 4096 := u64_mask12 x
  by_cases h : x % 4096 = 0
  · rw [show upN x = x / 4096 from if_pos h]
    rw [h] at hm
    clear h
    go_enter Tryd.func33, Tryd.ntmps33
    go_wp2
    go_ret
    exact ⟨by simp, rfl⟩
  · rw [show upN x = x / 4096 + 1 from if_neg h]
    have hp : 0 < x % 4096 := by omega
    generalize x % 4096 = m at *
    have h' : (m != 0) = true := by simp; omega
    have h2 : (m == 0) = false := by simp; omega
    clear h
    go_enter Tryd.func33, Tryd.ntmps33
    go_wp2
    go_ret
    exact ⟨by simp, rfl⟩
set_option maxHeartbeats 1000000 in
theorem rdivide_any (a b : Int) (up : Bool) (hb1 : b ≤ 9223372036854775807) (w : World) :
    Calls Tryd.prog 24 #[.int .i64 a, .int .i64 b, .bool up] w (fun e w' => e = .returned (divV a b up) ∧ w = w') := by
  have r := rvalid_any a
  by_cases hb : b < 1
  · rw [show divV a b up = .tuple #[.int .i64 0, .int .i64 4] from if_pos hb]
    clear r
    go_enter Tryd.func24, Tryd.ntmps24
    go_wp2
    go_ret2
    exact ⟨rfl, rfl⟩
  · rcases h : vT a
    · rw [show divV a b up = .tuple #[.int .i64 0, .int .i64 4] by unfold divV; rw [if_neg hb, if_neg (by rw [h]; simp)]]
      rw [h] at r
      have R := Lib.hid r; clear r
      have hb' : decide (b < 1) = false := by simp; omega
      clear hb
      go_enter Tryd.func24, Tryd.ntmps24
      go_wp2_with fail
      refine (R.out _).mono ?_
      rintro e wq1 ⟨rfl, rfl⟩
      go_wp2
      go_ret2
      exact ⟨rfl, rfl⟩
    · rw [divV_ok (by omega) h]
      rw [h] at r
      have q := fun w => rounded_any a b up w (by omega) hb1 (by have := vT_true.1 h; omega) (by have := vT_true.1 h; omega) (by have := quo_in a b (by omega) h a (.inl rfl); rwa [Int.mul_one] at this)
      rw [show rnd a b up = quo a 1 b up by rw [quo_rnd, Int.mul_one]] at q
      generalize quo a 1 b up = x at *
      have R := Lib.hid r; have Q := Lib.hid q; clear r q
      have hb' : decide (b < 1) = false := by simp; omega
      clear hb h
      go_enter Tryd.func24, Tryd.ntmps24
      go_wp2_with fail
      refine (R.out _).mono ?_
      rintro e wq2 ⟨rfl, rfl⟩
      go_wp2_with fail
      refine (Q.out _).mono ?_
      rintro e wq3 ⟨rfl, rfl⟩
      go_wp2
      go_ret2
      exact ⟨rfl, rfl⟩
set_option maxHeartbeats 2000000 in
theorem rscale_any (d p : Int) (up : Bool) (w : World) :
    Calls Tryd.prog 25 #[.int .i64 d, .int .i64 p, .bool up] w (fun e w' => e = .returned (sclV d p up) ∧ w = w') := by
  have r := rvalid_any d
  rcases h : vT d
  · rw [show sclV d p up = .tuple #[.int .i64 0, .int .i64 4] from if_neg (by rw [h]; simp)]
    rw [h] at r
    have R := Lib.hid r; clear r
    go_enter Tryd.func25, Tryd.ntmps25
    go_wp2_with fail
    refine (R.out _).mono ?_
    rintro e wq1 ⟨rfl, rfl⟩
    go_wp2
    go_ret2
    exact ⟨rfl, rfl⟩
  · rw [h] at r
    have R := Lib.hid r; clear r
    by_cases h0 : 0 ≤ p
    · by_cases h1 : p ≤ 1000000
      · rw [sclV_ok h h0 h1]
        have hb := vT_true.1 h
        have q1 := fun w => below10_any d 1000000000 w (by omega) (by omega) (by omega) (by omega)
        have e0 : d - d / 1000000000 * 1000000000 = d % 1000000000 := by omega
        have c0 : 0 ≤ d % 1000000000 := by omega
        have c1 : d % 1000000000 ≤ 999999999 := by omega
        have m0 := Int.mul_nonneg c0 h0
        have m1 := Int.mul_le_mul c1 h1 h0 (by omega)
        have m2 : -1152921505000000 ≤ d / 1000000000 * p := by
          by_cases hd : 0 ≤ d / 1000000000
          · have := Int.mul_nonneg hd h0; omega
          · have := Int.mul_le_mul (show -(d / 1000000000) ≤ 1152921505 by omega) h1 h0 (by omega); rw [Int.neg_mul] at this; omega
        have m3 : d / 1000000000 * p ≤ 1152921505000000 := by
          by_cases hd : 0 ≤ d / 1000000000
          · have := Int.mul_le_mul (show d / 1000000000 ≤ 1152921505 by omega) h1 h0 (by omega); omega
          · have := Int.mul_nonneg (show 0 ≤ -(d / 1000000000) by omega) h0; rw [Int.neg_mul] at this; omega
        have e5 : quo d p 1000000000 up = d / 1000000000 * p + rnd (d % 1000000000 * p) 1000000000 up := by
          rw [quo_rnd, ← rnd_add _ _ _ _ (by omega)]
          congr 1
          have : (d / 1000000000 * 1000000000 + d % 1000000000) * p = d * p := by rw [show d / 1000000000 * 1000000000 + d % 1000000000 = d by omega]
          rw [← this, Int.add_mul, Int.mul_assoc, Int.mul_comm 1000000000 p, ← Int.mul_assoc]; omega
        have q2 := fun w => rounded_any (d % 1000000000 * p) 1000000000 up w (by omega) (by omega) (by omega) (by omega) (by omega)
        have e6 : 0 ≤ rnd (d % 1000000000 * p) 1000000000 up ∧ rnd (d % 1000000000 * p) 1000000000 up ≤ 1000001 := by cases up <;> simp only [rnd, if_true, Bool.false_eq_true, if_false] <;> omega
        rw [e5]
        clear e5 h
        generalize rnd (d % 1000000000 * p) 1000000000 up = z at *
        obtain ⟨x, hx⟩ : ∃ x, x = d / 1000000000 * p := ⟨_, rfl⟩
        obtain ⟨y, hy⟩ : ∃ y, y = d % 1000000000 * p := ⟨_, rfl⟩
        rw [← hx] at m2 m3 ⊢
        rw [← hy] at m0 m1 q2
        have c2 : -1152921505 ≤ d / 1000000000 := by omega
        have c3 : d / 1000000000 ≤ 1152921505 := by omega
        generalize d / 1000000000 = q at *
        generalize d % 1000000000 = r at *
        have w1 : wrap64 (q * p) = x := by rw [← hx]; unfold wrap64; omega
        have w2 : wrap64 (r * p) = y := by rw [← hy]; unfold wrap64; omega
        obtain ⟨z0, z1⟩ := e6
        have Q1 := Lib.hid q1; have Q2 := Lib.hid q2; clear q1 q2 hx hy
        go_enter Tryd.func25, Tryd.ntmps25
        go_wp2_with fail
        refine (R.out _).mono ?_
        rintro e wq2 ⟨rfl, rfl⟩
        go_wp2_with fail
        refine (Q1.out _).mono ?_
        rintro e wq3 ⟨rfl, rfl⟩
        go_wp2_with fail
        refine (Q2.out _).mono ?_
        rintro e w9 ⟨rfl, rfl⟩
        go_wp2
        go_ret2
        exact ⟨by simp, rfl⟩
      · rw [show sclV d p up = .tuple #[.int .i64 0, .int .i64 4] from if_neg (by omega)]
        have h1' : decide (p > 1000000) = true := by simp; omega
        clear h1 h
        go_enter Tryd.func25, Tryd.ntmps25
        go_wp2_with fail
        refine (R.out _).mono ?_
        rintro e wq4 ⟨rfl, rfl⟩
        go_wp2
        go_ret2
        exact ⟨rfl, rfl⟩
    · rw [show sclV d p up = .tuple #[.int .i64 0, .int .i64 4] from if_neg (by omega)]
      have h0' : decide (p < 0) = true := by simp; omega
      clear h0 h
      go_enter Tryd.func25, Tryd.ntmps25
      go_wp2_with fail
      refine (R.out _).mono ?_
      rintro e wq5 ⟨rfl, rfl⟩
      go_wp2
      go_ret2
      exact ⟨rfl, rfl⟩
set_option maxHeartbeats 1000000 in
theorem runits_any (d : Int) (up : Bool) (hd0 : -9223372036854775808 ≤ d) (hd : d ≤ 9223372036854775807) (w : World) :
    Calls Tryd.prog 27 #[.int .i64 d, .bool up] w (fun e w' => e = .returned (uniV d up) ∧ w = w') := by
  have q0 : quo d 1 16 up = rnd d 16 up := by rw [quo_rnd, Int.mul_one]
  have q1 : d / 16 ≤ rnd d 16 up ∧ rnd d 16 up ≤ d / 16 + 1 := by cases up <;> simp only [rnd, if_true, if_false, Bool.false_eq_true] <;> omega
  have r := rvalid_any d
  by_cases h0 : 0 ≤ d
  · rcases h : vT d
    · rw [show uniV d up = .tuple #[.int .u32 0, .int .i64 4] from if_neg (by rw [q0]; have := vT_false.1 h; omega)]
      rw [h] at r
      have R := Lib.hid r; clear r q0 q1 h
      go_enter Tryd.func27, Tryd.ntmps27
      go_wp2_with fail
      refine (R.out _).mono ?_
      rintro e wq1 ⟨rfl, rfl⟩
      go_wp2
      go_ret2
      exact ⟨rfl, rfl⟩
    · have q := fun w => rounded_any d 16 up w (by omega) (by omega) hd0 hd (by omega)
      rw [h] at r
      have R := Lib.hid r; clear r
      have hb := vT_true.1 h
      by_cases h1 : rnd d 16 up ≤ 4294967295
      · rw [show uniV d up = .tuple #[.int .u32 (rnd d 16 up), .int .i64 0] by unfold uniV; rw [q0, if_pos ⟨h0, h1⟩]]
        generalize rnd d 16 up = x at *
        have Q := Lib.hid q; clear q q0 h
        go_enter Tryd.func27, Tryd.ntmps27
        go_wp2_with fail
        refine (R.out _).mono ?_
        rintro e wq2 ⟨rfl, rfl⟩
        go_wp2_with fail
        refine (Q.out _).mono ?_
        rintro e wq3 ⟨rfl, rfl⟩
        go_wp2
        go_ret2
        exact ⟨rfl, rfl⟩
      · rw [show uniV d up = .tuple #[.int .u32 0, .int .i64 4] by unfold uniV; rw [q0, if_neg (by omega)]]
        generalize rnd d 16 up = x at *
        have Q := Lib.hid q; clear q q0 h
        go_enter Tryd.func27, Tryd.ntmps27
        go_wp2_with fail
        refine (R.out _).mono ?_
        rintro e wq4 ⟨rfl, rfl⟩
        go_wp2_with fail
        refine (Q.out _).mono ?_
        rintro e wq5 ⟨rfl, rfl⟩
        go_wp2
        go_ret2
        exact ⟨rfl, rfl⟩
  · rw [show uniV d up = .tuple #[.int .u32 0, .int .i64 4] from if_neg (by omega)]
    have h0' : decide (d < 0) = true := by simp; omega
    clear h0 r q0 q1
    go_enter Tryd.func27, Tryd.ntmps27
    go_wp2
    go_ret2
    exact ⟨rfl, rfl⟩
end Go.Proofs.YtelmcglckkjmfaaDoor
