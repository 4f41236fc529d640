/- Walks: math/bits.Len64, LeadingZeros64, Mul64, Div64. -/
import Derived.Test.YtlfkkfdolnkjfaaBase
import Derived.Test.YtlfkkfdolnkjfaaPlainDiv
import Derived.Test.YtlfkkfdolnkjfaaLen
import Derived.Deep.QuietTactic
import Derived.BigQuiet
import Derived.Deep.DeepCutAuto
import Derived.Deep.CutBlock
import Derived.Lib.BitFns
import Derived.Lib.ItoaNum
import Derived.Lib.Mul64
import Derived.Laws.Bits64b
namespace Go.Proofs.Ytlfkkfdolnkjfaa
open Go.RowKit

theorem lz64_any (x : Int) (w : World) (h0 : 0 ≤ x) (h1 : x ≤ 18446744073709551615) :
    Calls Try.prog 153 #[.int .u64 x] w fun e w' => e = .returned (.int .i64 (64 - (Lib.bitLen x.toNat : Int))) ∧ w = w' := by
  have l := Lib.bitLen_le x.toNat 64 (by omega) (by omega)
  go_enter Try.func153, Try.ntmps153
  go_wp2_with (go_at_call 163; refine (len64_any x _ h0 h1).mono ?_; rintro e w' ⟨rfl, rfl⟩)
  go_ret
  exact ⟨rfl, rfl⟩

theorem u64_mask (a : Nat) (ha : a < 18446744073709551616) : bits .and .u64 (a : Int) 4294967295 = ((a % 4294967296 : Nat) : Int) := by
  have h := bits_and_u64_nat a 4294967295 ha (by omega)
  rwa [show a &&& 4294967295 = a % 4294967296 from Nat.and_two_pow_sub_one_eq_mod a 32] at h
theorem nat_div (a : Nat) : (a : Int) / 4294967296 = ((a / 4294967296 : Nat) : Int) := by omega
theorem nat_mul (a b : Nat) : (a : Int) * (b : Int) = ((a * b : Nat) : Int) := (Int.natCast_mul a b).symm
theorem nat_add (a b : Nat) : (a : Int) + (b : Int) = ((a + b : Nat) : Int) := (Int.natCast_add a b).symm
theorem nat_wrap (a : Nat) (ha : a < 18446744073709551616) : IntKind.u64.wrap (a : Int) = (a : Int) := by rw [IntKind.wrap_u64]; omega
theorem nat_wrapM (a : Nat) : IntKind.u64.wrap (a : Int) = ((a % 18446744073709551616 : Nat) : Int) := by rw [IntKind.wrap_u64]; omega

set_option maxHeartbeats 1000000 in
theorem mul64_nat (x y : Nat) (hx : x < 18446744073709551616) (hy : y < 18446744073709551616) (w : World) :
    Calls Try.prog 133 #[.int .u64 x, .int .u64 y] w fun e w' => e = .returned (.tuple #[.int .u64 ((x * y / 18446744073709551616 : Nat) : Int), .int .u64 ((x * y % 18446744073709551616 : Nat) : Int)]) ∧ w = w' := by
  obtain ⟨bd, bt, bw, hhi⟩ := Lib.mul64_hi x y hx hy
  have ba := Lib.half_mul_le (a := x / 4294967296) (b := y / 4294967296) (by omega) (by omega)
  have bb := Lib.half_mul_le (a := x / 4294967296) (b := y % 4294967296) (by omega) (by omega)
  have bc := Lib.half_mul_le (a := x % 4294967296) (b := y / 4294967296) (by omega) (by omega)
  have ba' : x / 4294967296 * (y / 4294967296) < 18446744073709551616 := by omega
  have bb' : x / 4294967296 * (y % 4294967296) < 18446744073709551616 := by omega
  have bc' : x % 4294967296 * (y / 4294967296) < 18446744073709551616 := by omega
  have bh1 : x / 4294967296 * (y / 4294967296) + (x / 4294967296 * (y % 4294967296) + x % 4294967296 * (y % 4294967296) / 4294967296) / 4294967296 < 18446744073709551616 := by omega
  have bh : x / 4294967296 * (y / 4294967296) + (x / 4294967296 * (y % 4294967296) + x % 4294967296 * (y % 4294967296) / 4294967296) / 4294967296 + ((x / 4294967296 * (y % 4294967296) + x % 4294967296 * (y % 4294967296) / 4294967296) % 4294967296 + x % 4294967296 * (y / 4294967296)) / 4294967296 < 18446744073709551616 := by omega
  go_enter Try.func133, Try.ntmps133
  go_wp2
  simp only [u64_mask x hx, u64_mask y hy, nat_div, nat_mul, nat_add, nat_wrap _ bd, nat_wrap _ bb', nat_wrap _ bt, u64_mask _ bt, nat_wrap _ bc', nat_wrap _ bw, nat_wrap _ ba', nat_wrap _ bh1, nat_wrap _ bh, nat_wrapM (x * y)]
  rw [hhi]
  go_ret2
  exact ⟨rfl, rfl⟩
theorem mul64_any (x y : Int) (hx : 0 ≤ x) (hy : 0 ≤ y) (hx1 : x < 18446744073709551616) (hy1 : y < 18446744073709551616) (w : World) :
    Calls Try.prog 133 #[.int .u64 x, .int .u64 y] w fun e w' => e = .returned (.tuple #[.int .u64 (x * y / 18446744073709551616), .int .u64 (x * y % 18446744073709551616)]) ∧ w = w' := by
  obtain ⟨x, rfl⟩ := Int.eq_ofNat_of_zero_le hx
  obtain ⟨y, rfl⟩ := Int.eq_ofNat_of_zero_le hy
  have h := mul64_nat x y (by omega) (by omega) w
  have e1 : ((x * y / 18446744073709551616 : Nat) : Int) = (x : Int) * (y : Int) / 18446744073709551616 := by rw [Int.natCast_ediv, Int.natCast_mul]; rfl
  have e2 : ((x * y % 18446744073709551616 : Nat) : Int) = (x : Int) * (y : Int) % 18446744073709551616 := by rw [Int.natCast_emod, Int.natCast_mul]; rfl
  rwa [e1, e2] at h

/-- hi = 0: the plain quotient. -/
theorem div64_low (lo y : Int) (h0 : 0 ≤ lo) (h1 : lo < 18446744073709551616) (hy : 0 < y) (hy1 : y < 18446744073709551616) (w : World) :
    Calls Try.prog 135 #[.int .u64 0, .int .u64 lo, .int .u64 y] w fun e w' => e = .returned (.tuple #[.int .u64 (lo / y), .int .u64 (lo % y)]) ∧ ∃ n, w' = w.drewN n := by
  have k1 : (y == 0) = false := beq_eq_false_iff_ne.2 (by omega)
  have k2 : decide (y ≤ 0) = false := by simp; omega
  have q1 : lo.tdiv y = lo / y := Int.tdiv_eq_ediv_of_nonneg h0
  have q2 : lo.tmod y = lo % y := Int.tmod_eq_emod_of_nonneg h0
  have q3 := IntWalk.tdiv_le lo y h0 (by omega)
  have q4 : IntKind.u64.wrap (lo / y) = lo / y := IntWalk.u64_in _ (by omega)
  go_enter Try.func135, Try.ntmps135
  go_wp2
  go_quiet (fail)
  go_wp2
  go_ret2
  exact ⟨rfl, _, rfl⟩

/-- LeadingZeros64, under a letter: the places that the divisor is moved by. -/
theorem lz64_letter (y : Int) (h0 : 0 < y) (h1 : y < 18446744073709551616) : ∃ s : Nat, s ≤ 63 ∧ 9223372036854775808 ≤ y * 2 ^ s ∧ y * 2 ^ s < 18446744073709551616 ∧
    ∀ w, Calls Try.prog 153 #[.int .u64 y] w fun e w' => e = .returned (.int .i64 (s : Int)) ∧ w = w' := by
  obtain ⟨x, rfl⟩ := Int.eq_ofNat_of_zero_le (Int.le_of_lt h0)
  have b := Lib.bitLenAux_bounds 64 x (by omega) (by omega)
  have l := Lib.bitLen_le x 64 (by omega) (by omega)
  have e : Lib.bitLen x = Lib.bitLenAux 64 x := rfl
  rw [← e] at b
  obtain ⟨b1, b2, b3⟩ := b
  generalize hL : Lib.bitLen x = L at *
  refine ⟨64 - L, by omega, ?_, ?_, fun w => ?_⟩
  · have k : (2 : Int) ^ (L - 1) * 2 ^ (64 - L) = 9223372036854775808 := by rw [← Int.pow_add, show L - 1 + (64 - L) = 63 by omega]; rfl
    rw [← k]
    have : (2 : Int) ^ (L - 1) ≤ (x : Int) := by rw [← two_pow_cast]; omega
    exact Int.mul_le_mul_of_nonneg_right this (Int.le_of_lt (pow_pos_int _))
  · have k : (2 : Int) ^ L * 2 ^ (64 - L) = 18446744073709551616 := by rw [← Int.pow_add, show L + (64 - L) = 64 by omega]; rfl
    rw [← k]
    have : (x : Int) < (2 : Int) ^ L := by rw [← two_pow_cast]; omega
    exact Int.mul_lt_mul_of_pos_right this (pow_pos_int _)
  · have h := lz64_any x w (by omega) (by omega)
    rw [Int.toNat_natCast, hL, show (64 - (L : Int)) = ((64 - L : Nat) : Int) by omega] at h
    exact h

/-- The rounds of a digit. -/
def DigRel (u c y1 y0 : Int) (qv rv : Value) : Prop := ∃ q r, qv = .int .u64 q ∧ rv = .int .u64 r ∧ DigitInv u c y1 y0 q r

set_option maxRecDepth 100000 in
set_option maxHeartbeats 2000000 in
theorem div64_core (hi lo y u c d y1 y0 t Y : Int) (s : Nat) (gy : 0 < y) (g0 : 0 < hi) (g1 : hi < y) (h0 : 0 ≤ lo) (h1 : lo < 18446744073709551616) (hy1 : y < 18446744073709551616) (hs : s ≤ 63)
    (hlz : ∀ w, Calls Try.prog 153 #[.int .u64 y] w fun e w' => e = .returned (.int .i64 (s : Int)) ∧ w = w')
    (G : DigitGiven u c y1 y0) (d0 : 0 ≤ d) (d1 : d < 4294967296) (hY : Y = y1 * 4294967296 + y0)
    (e1 : IntKind.u64.wrap (y * 2 ^ s) = Y) (e2 : Y / 4294967296 = y1) (e3 : bits .and .u64 Y 4294967295 = y0)
    (e4 : bits .or .u64 (IntKind.u64.wrap (hi * 2 ^ s)) (lo / 2 ^ (64 - s)) = u) (e5 : IntKind.u64.wrap (lo * 2 ^ s) = t) (e6 : t / 4294967296 = c) (e7 : bits .and .u64 t 4294967295 = d) (w : World) :
    Calls Try.prog 135 #[.int .u64 hi, .int .u64 lo, .int .u64 y] w fun e w' =>
      e = .returned (.tuple #[.int .u64 ((u * 4294967296 + c) / Y * 4294967296 + ((u * 4294967296 + c) % Y * 4294967296 + d) / Y), .int .u64 (((u * 4294967296 + c) % Y * 4294967296 + d) % Y / 2 ^ s)]) ∧ w = w' := by
  have k1 : (y == 0) = false := beq_eq_false_iff_ne.2 (by omega)
  have k2 : decide (y ≤ hi) = false := by simp; omega
  have k3 : (hi == 0) = false := beq_eq_false_iff_ne.2 (by omega)
  obtain ⟨G1, G2, G3, G4, G5, G6, G7, G8⟩ := id G
  have k4 : y1 ≠ 0 := by omega
  have q1 : u.tdiv y1 = u / y1 := Int.tdiv_eq_ediv_of_nonneg G7
  have q2 := IntWalk.tdiv_le u y1 G7 (by omega)
  have st := digit_start G
  have HY := Lib.hid hY; clear hY
  have q3 := Int.ediv_mul_add_emod u y1
  have q4 := Int.emod_nonneg u k4
  have q4' := Int.emod_lt_of_pos u (show 0 < y1 by omega)
  have q5 : u - u / y1 * y1 = u % y1 := by omega
  have q6 : 0 ≤ u / y1 * y1 := Int.mul_nonneg (Int.ediv_nonneg G7 (by omega)) (by omega)
  have q7 : u / y1 * y1 ≤ 18446744073709551615 := by omega
  rw [q5] at st
  have st1 := Lib.hid st
  clear q3 st
  have dl := digit_lt G
  have dr := Int.emod_nonneg (u * 4294967296 + c) (show y1 * 4294967296 + y0 ≠ 0 by omega)
  have dr2 := Int.emod_lt_of_pos (u * 4294967296 + c) (show 0 < y1 * 4294967296 + y0 by omega)
  have wr := word_rem u c Y ((u * 4294967296 + c) / Y) (by omega) (by omega) rfl
  rw [← HY.out] at dl dr dr2
  have HW := Lib.hid wr; clear wr
  obtain ⟨dl0, dl1⟩ := dl
  go_enter Try.func135, Try.ntmps135
  go_upto_block 0 with (go_at_call 153; refine (hlz _).mono ?_; rintro e w' ⟨rfl, rfl⟩)
  go_cut [15, 16] (fun qv rv wx => qv = .int .u64 ((u * 4294967296 + c) / Y) ∧ (∃ r, rv = .int .u64 r) ∧ wx = w)
  case first =>
    go_wp2
    go_loop [15, 16] (fun qv rv => DigRel u c y1 y0 qv rv) (fun qv _ => (intOf qv).toNat)
    case atStart => exact ⟨_, _, rfl, rfl, st1⟩
    case round =>
      obtain ⟨q, r, rfl, rfl, inv⟩ := hrel
      obtain ⟨i1, i2, i3, i4, i5, i6⟩ := id inv
      by_cases hq : 4294967296 ≤ q
      · have hov : 4294967296 ≤ q ∨ (q < 4294967296 ∧ 4294967296 * r + c < q * y0) := .inl hq
        by_cases hr : 4294967296 ≤ r + y1
        · have fin := Lib.hid (digit_break G inv hov hr)
          clear hov i4 i1
          go_wp2
          go_meet
          case rel => exact ⟨by rw [HY.out, fin.out], ⟨_, rfl⟩, rfl⟩
        · have nxt := Lib.hid (digit_step G inv hov (by omega))
          clear hov i4 i1
          go_wp2
          go_round
          case rel => exact ⟨_, _, rfl, rfl, nxt.out⟩
          case measure => simp [intOf]; omega
      · have b1 : 0 ≤ q * y0 := Int.mul_nonneg i5 G3
        have b2 : q * y0 ≤ 4294967296 * y0 := Int.mul_le_mul_of_nonneg_right (by omega) G3
        have b3 : q * y0 ≤ 18446744073709551615 := by omega
        clear b2
        have hq' : decide (4294967296 ≤ q) = false := by simpa using hq
        by_cases ht : 4294967296 * r + c < q * y0
        · have hov : 4294967296 ≤ q ∨ (q < 4294967296 ∧ 4294967296 * r + c < q * y0) := .inr ⟨by omega, ht⟩
          have hk := (digit_over G inv hov).2
          by_cases hr : 4294967296 ≤ r + y1
          · have fin := Lib.hid (digit_break G inv hov hr)
            clear hov i4 i1
            go_wp2
            go_meet
            case rel => exact ⟨by rw [HY.out, fin.out], ⟨_, rfl⟩, rfl⟩
          · have nxt := Lib.hid (digit_step G inv hov (by omega))
            clear hov i4 i1
            go_wp2
            go_round
            case rel => exact ⟨_, _, rfl, rfl, nxt.out⟩
            case measure => simp [intOf]; omega
        · have fin := Lib.hid (digit_done G inv (by omega) (by omega))
          clear i4 i1
          go_wp2
          go_meet
          case rel => exact ⟨by rw [HY.out, fin.out], ⟨_, rfl⟩, rfl⟩
  case rest =>
    obtain ⟨rfl, ⟨r, rfl⟩, rfl⟩ := hcut
    have W1 := HW.out
    have GV : DigitGiven ((u * 4294967296 + c) % Y) d y1 y0 := ⟨G1, G2, G3, G4, d0, d1, dr, by have := HY.out; omega⟩
    generalize hQ1 : (u * 4294967296 + c) / Y = Q1 at *
    generalize hv : (u * 4294967296 + c) % Y = v at *
    have HQ1 := Lib.hid hQ1; clear hQ1
    have Hv := Lib.hid hv; clear hv
    clear q1 q2 q4 q4' q5 q6 q7
    have q1 : v.tdiv y1 = v / y1 := Int.tdiv_eq_ediv_of_nonneg dr
    have q2 := IntWalk.tdiv_le v y1 dr (by omega)
    have st := digit_start GV
    have q3 := Int.ediv_mul_add_emod v y1
    have q4 := Int.emod_nonneg v k4
    have q4' := Int.emod_lt_of_pos v (show 0 < y1 by omega)
    have q5 : v - v / y1 * y1 = v % y1 := by omega
    have q6 : 0 ≤ v / y1 * y1 := Int.mul_nonneg (Int.ediv_nonneg dr (by omega)) (by omega)
    have q8 := HY.out
    have q7 : v / y1 * y1 ≤ 18446744073709551615 := by omega
    rw [q5] at st
    have st2 := Lib.hid st
    clear q3 st
    have dl := digit_lt GV
    rw [← HY.out] at dl
    have wr := word_rem v d Y ((v * 4294967296 + d) / Y) (by omega) (by omega) rfl
    have HW2 := Lib.hid wr; clear wr q8
    obtain ⟨dl2, dl3⟩ := dl
    go_upto_block 2 with (fail)
    go_cut [18, 16] (fun qv rv wx => qv = .int .u64 ((v * 4294967296 + d) / Y) ∧ (∃ r, rv = .int .u64 r) ∧ wx = wc)
    case first =>
      go_wp2
      go_loop [18, 16] (fun qv rv => DigRel v d y1 y0 qv rv) (fun qv _ => (intOf qv).toNat)
      case atStart => exact ⟨_, _, rfl, rfl, st2⟩
      case round =>
        obtain ⟨q, r, rfl, rfl, inv⟩ := hrel
        obtain ⟨i1, i2, i3, i4, i5, i6⟩ := id inv
        by_cases hq : 4294967296 ≤ q
        · have hov : 4294967296 ≤ q ∨ (q < 4294967296 ∧ 4294967296 * r + d < q * y0) := .inl hq
          by_cases hr : 4294967296 ≤ r + y1
          · have fin := Lib.hid (digit_break GV inv hov hr)
            clear hov i4 i1
            go_wp2
            go_meet
            case rel => exact ⟨by rw [HY.out, fin.out], ⟨_, rfl⟩, rfl⟩
          · have nxt := Lib.hid (digit_step GV inv hov (by omega))
            clear hov i4 i1
            go_wp2
            go_round
            case rel => exact ⟨_, _, rfl, rfl, nxt.out⟩
            case measure => simp [intOf]; omega
        · have b1 : 0 ≤ q * y0 := Int.mul_nonneg i5 G3
          have b2 : q * y0 ≤ 4294967296 * y0 := Int.mul_le_mul_of_nonneg_right (by omega) G3
          have b3 : q * y0 ≤ 18446744073709551615 := by omega
          clear b2
          have hq' : decide (4294967296 ≤ q) = false := by simpa using hq
          by_cases ht : 4294967296 * r + d < q * y0
          · have hov : 4294967296 ≤ q ∨ (q < 4294967296 ∧ 4294967296 * r + d < q * y0) := .inr ⟨by omega, ht⟩
            have hk := (digit_over GV inv hov).2
            by_cases hr : 4294967296 ≤ r + y1
            · have fin := Lib.hid (digit_break GV inv hov hr)
              clear hov i4 i1
              go_wp2
              go_meet
              case rel => exact ⟨by rw [HY.out, fin.out], ⟨_, rfl⟩, rfl⟩
            · have nxt := Lib.hid (digit_step GV inv hov (by omega))
              clear hov i4 i1
              go_wp2
              go_round
              case rel => exact ⟨_, _, rfl, rfl, nxt.out⟩
              case measure => simp [intOf]; omega
          · have fin := Lib.hid (digit_done GV inv (by omega) (by omega))
            clear i4 i1
            go_wp2
            go_meet
            case rel => exact ⟨by rw [HY.out, fin.out], ⟨_, rfl⟩, rfl⟩
    case rest =>
      obtain ⟨rfl, ⟨r, rfl⟩, rfl⟩ := hcut
      have W2 := HW2.out
      generalize hQ2 : (v * 4294967296 + d) / Y = Q2 at *
      generalize hz : (v * 4294967296 + d) % Y = z at *
      have HQ2 := Lib.hid hQ2; clear hQ2
      have Hz := Lib.hid hz; clear hz
      go_wp2
      go_ret2
      exact ⟨by rw [HQ1.out, Hv.out, HQ2.out, Hz.out]; rfl, rfl⟩

/-- math/bits.Div64: the quotient and the remainder of two words by one, where the quotient fits. -/
theorem div64_any (hi lo y : Int) (g0 : 0 ≤ hi) (g1 : hi < y) (h0 : 0 ≤ lo) (h1 : lo < 18446744073709551616) (hy1 : y < 18446744073709551616) (w : World) :
    Calls Try.prog 135 #[.int .u64 hi, .int .u64 lo, .int .u64 y] w fun e w' =>
      e = .returned (.tuple #[.int .u64 ((hi * 18446744073709551616 + lo) / y), .int .u64 ((hi * 18446744073709551616 + lo) % y)]) ∧ ∃ n, w' = w.drewN n := by
  by_cases hz : hi = 0
  · subst hz
    rw [Int.zero_mul, Int.zero_add]
    exact div64_low lo y h0 h1 (by omega) hy1 w
  · obtain ⟨s, hs, b1, b2, hlz⟩ := lz64_letter y (by omega) hy1
    obtain ⟨m1, m2, m3, m4, m5⟩ := moved hi lo y s hs g0 g1 h0 h1 b2
    have eY : IntKind.u64.wrap (y * 2 ^ s) = y * 2 ^ s := IntWalk.u64_in _ (by omega)
    have et := IntKind.wrap_u64 (lo * 2 ^ s)
    have hY := halves (y * 2 ^ s) (by omega) b2
    have ht := halves (IntKind.u64.wrap (lo * 2 ^ s)) (by omega) (by omega)
    generalize hYY : y * 2 ^ s = Y at *
    generalize hu : hi * 2 ^ s + lo / 2 ^ (64 - s) = u at *
    generalize htt : IntKind.u64.wrap (lo * 2 ^ s) = t at *
    have et0 : 0 ≤ t ∧ t < 18446744073709551616 := by omega
    have k := div64_core hi lo y u (t / 4294967296) (t % 4294967296) (Y / 4294967296) (Y % 4294967296) t Y s (by omega) (by omega) g1 h0 h1 hy1 hs hlz
      ⟨by omega, by omega, by omega, by omega, by omega, by omega, m3, by omega⟩ (by omega) (by omega) (by omega) (by rw [hYY]; exact eY) rfl hY (by rw [m1]; exact m2) htt rfl ht w
    obtain ⟨t1, t2⟩ := two_digits u (t / 4294967296) (t % 4294967296) Y (by omega) (by omega) (by omega)
    have e3 : (u * 4294967296 + t / 4294967296) * 4294967296 + t % 4294967296 = (hi * 18446744073709551616 + lo) * 2 ^ s := by rw [← m5]; omega
    rw [t1, t2, e3, ← hYY, (moved_back _ y s).1, (moved_back _ y s).2] at k
    exact k.mono fun e w' ⟨a, b⟩ => ⟨a, 0, b ▸ rfl⟩
end Go.Proofs.Ytlfkkfdolnkjfaa
