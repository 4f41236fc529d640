/- Lemmas. -/
import Derived.BigQuiet
import Derived.Deep.CutBlock
import Derived.Deep.DeepCutAuto
import Derived.Deep.QuietTactic
import Derived.Laws.Bits64b
import Derived.Lib.BitFns
import Derived.Lib.ItoaNum
import Derived.Lib.Mul64
import Derived.Laws.OwnMore
import Derived.Laws.Rows
import Derived.Test.YtiinmhfolfgobaaGreatDoorJ5
import Derived.Test.YtiinmhfolfgobaaGreatDoorLen
set_option linter.unusedVariables false
set_option linter.unusedSimpArgs false
namespace Go.Proofs.YtiinmhfolfgobaaGreatDoor
open Go.RowKit
set_option maxHeartbeats 8000000
set_option maxRecDepth 100000
theorem lz64_any (x : Int) (w : World) (h0 : 0 ≤ x) (h1 : x ≤ 18446744073709551615) :
  Calls Tryz.prog 144 #[.int .u64 x] w fun e w' => e = .returned (.int .i64 (64 - (Lib.bitLen x.toNat : Int))) ∧ w = w' := by
 have l := Lib.bitLen_le x.toNat 64 Yo Yo
 go_enter Tryz.func144, Tryz.ntmps144
 go_wp2_with (go_at_call 182; refine (len64_any x _ h0 h1).mono ?_; rintro e w' ⟨rfl, rfl⟩)
 go_ret
 exact ⟨rfl, rfl⟩
theorem u64_mask (a : Nat) (ha : a < 18446744073709551616) : bits .and .u64 (a : Int) 4294967295 = ((a % 4294967296 : Nat) : Int) := by
 have h := bits_and_u64_nat a 4294967295 ha Yo
 rwa [show a &&& 4294967295 = a % 4294967296 from Nat.and_two_pow_sub_one_eq_mod a 32] at h
theorem nat_div (a : Nat) : (a : Int) / 4294967296 = ((a / 4294967296 : Nat) : Int) := by omega
theorem nat_mul (a b : Nat) : (a : Int) * (b : Int) = ((a * b : Nat) : Int) := (Int.natCast_mul a b).symm
theorem nat_add (a b : Nat) : (a : Int) + (b : Int) = ((a + b : Nat) : Int) := (Int.natCast_add a b).symm
theorem nat_wrap (a : Nat) (ha : a < 18446744073709551616) : IntKind.u64.wrap (a : Int) = (a : Int) := by rw [IntKind.wrap_u64]; omega
theorem nat_wrapM (a : Nat) : IntKind.u64.wrap (a : Int) = ((a % 18446744073709551616 : Nat) : Int) := by rw [IntKind.wrap_u64]; omega
theorem mul64_nat (x y : Nat) (hx : x < 18446744073709551616) (hy : y < 18446744073709551616) (w : World) :
  Calls Tryz.prog 107 #[.int .u64 x, .int .u64 y] w fun e w' => e = .returned (.tuple #[.int .u64 ((x * y / 18446744073709551616 : Nat) : Int), .int .u64 ((x * y % 18446744073709551616 : Nat) : Int)]) ∧ w = w' := by
 obtain ⟨bd, bt, bw, hhi⟩ := Lib.mul64_hi x y hx hy
 have ba := Lib.half_mul_le (a := x / 4294967296) (b := y / 4294967296) Yo Yo
 have bb := Lib.half_mul_le (a := x / 4294967296) (b := y % 4294967296) Yo Yo
 have bc := Lib.half_mul_le (a := x % 4294967296) (b := y / 4294967296) Yo Yo
 have ba' : x / 4294967296 * (y / 4294967296) < 18446744073709551616 := by omega
 have bb' : x / 4294967296 * (y % 4294967296) < 18446744073709551616 := by omega
 have bc' : x % 4294967296 * (y / 4294967296) < 18446744073709551616 := by omega
 have bh1 : x / 4294967296 * (y / 4294967296) + (x / 4294967296 * (y % 4294967296) + x % 4294967296 * (y % 4294967296) / 4294967296) / 4294967296 < 18446744073709551616 := by omega
 have bh : x / 4294967296 * (y / 4294967296) + (x / 4294967296 * (y % 4294967296) + x % 4294967296 * (y % 4294967296) / 4294967296) / 4294967296 + ((x / 4294967296 * (y % 4294967296) + x % 4294967296 * (y % 4294967296) / 4294967296) % 4294967296 + x % 4294967296 * (y / 4294967296)) / 4294967296 < 18446744073709551616 := by omega
 go_enter Tryz.func107, Tryz.ntmps107
 go_wp2
 simp only [u64_mask x hx, u64_mask y hy, nat_div, nat_mul, nat_add, nat_wrap _ bd, nat_wrap _ bb', nat_wrap _ bt, u64_mask _ bt, nat_wrap _ bc', nat_wrap _ bw, nat_wrap _ ba', nat_wrap _ bh1, nat_wrap _ bh, nat_wrapM (x * y)]
 rw [hhi]
 go_ret2
 exact ⟨rfl, rfl⟩
theorem mul64_any (x y : Int) (hx : 0 ≤ x) (hy : 0 ≤ y) (hx1 : x < 18446744073709551616) (hy1 : y < 18446744073709551616) (w : World) :
  Calls Tryz.prog 107 #[.int .u64 x, .int .u64 y] w fun e w' => e = .returned (.tuple #[.int .u64 (x * y / 18446744073709551616), .int .u64 (x * y % 18446744073709551616)]) ∧ w = w' := by
 obtain ⟨x, rfl⟩ := Int.eq_ofNat_of_zero_le hx
 obtain ⟨y, rfl⟩ := Int.eq_ofNat_of_zero_le hy
 have h := mul64_nat x y Yo Yo w
 have e1 : ((x * y / 18446744073709551616 : Nat) : Int) = (x : Int) * (y : Int) / 18446744073709551616 := by rw [Int.natCast_ediv, Int.natCast_mul]; rfl
 have e2 : ((x * y % 18446744073709551616 : Nat) : Int) = (x : Int) * (y : Int) % 18446744073709551616 := by rw [Int.natCast_emod, Int.natCast_mul]; rfl
 rwa [e1, e2] at h
theorem div64_low (lo y : Int) (h0 : 0 ≤ lo) (h1 : lo < 18446744073709551616) (hy : 0 < y) (hy1 : y < 18446744073709551616) (w : World) :
  Calls Tryz.prog 109 #[.int .u64 0, .int .u64 lo, .int .u64 y] w fun e w' => e = .returned (.tuple #[.int .u64 (lo / y), .int .u64 (lo % y)]) ∧ ∃ n, w' = w.drewN n := by
 have k1 : (y == 0) = false := beq_eq_false_iff_ne.2 Yo
 have k2 : decide (y ≤ 0) = false := by simp; omega
 have q1 : lo.tdiv y = lo / y := Int.tdiv_eq_ediv_of_nonneg h0
 have q2 : lo.tmod y = lo % y := Int.tmod_eq_emod_of_nonneg h0
 have q3 := IntWalk.tdiv_le lo y h0 Yo
 have q4 : IntKind.u64.wrap (lo / y) = lo / y := IntWalk.u64_in _ Yo
 go_enter Tryz.func109, Tryz.ntmps109
 go_wp2
 go_quiet (fail)
 go_wp2
 go_ret2
 exact ⟨rfl, _, rfl⟩
theorem lz64_letter (y : Int) (h0 : 0 < y) (h1 : y < 18446744073709551616) : ∃ s : Nat, s ≤ 63 ∧ 9223372036854775808 ≤ y * 2 ^ s ∧ y * 2 ^ s < 18446744073709551616 ∧
  ∀ w, Calls Tryz.prog 144 #[.int .u64 y] w fun e w' => e = .returned (.int .i64 (s : Int)) ∧ w = w' := by
 obtain ⟨x, rfl⟩ := Int.eq_ofNat_of_zero_le (Int.le_of_lt h0)
 have b := Lib.bitLenAux_bounds 64 x Yo Yo
 have l := Lib.bitLen_le x 64 Yo Yo
 have e : Lib.bitLen x = Lib.bitLenAux 64 x := rfl
 rw [← e] at b
 obtain ⟨b1, b2, b3⟩ := b
 generalize hL : Lib.bitLen x = L at *
 refine ⟨64 - L, Yo, ?_, ?_, fun w => ?_⟩
 ·have k : (2 : Int) ^ (L - 1) * 2 ^ (64 - L) = 9223372036854775808 := by rw [← Int.pow_add, show L - 1 + (64 - L) = 63 by omega]; rfl
  rw [← k]
  have : (2 : Int) ^ (L - 1) ≤ (x : Int) := by rw [← two_pow_cast]; omega
  exact Int.mul_le_mul_of_nonneg_right this (Int.le_of_lt (pow_pos_int _))
 ·have k : (2 : Int) ^ L * 2 ^ (64 - L) = 18446744073709551616 := by rw [← Int.pow_add, show L + (64 - L) = 64 by omega]; rfl
  rw [← k]
  have : (x : Int) < (2 : Int) ^ L := by rw [← two_pow_cast]; omega
  exact Int.mul_lt_mul_of_pos_right this (pow_pos_int _)
 ·have h := lz64_any x w Yo Yo
  rw [Int.toNat_natCast, hL, show (64 - (L : Int)) = ((64 - L : Nat) : Int) by omega] at h
  exact h
def DigRel (u c y1 y0 : Int) (qv rv : Value) : Prop := ∃ q r, qv = .int .u64 q ∧ rv = .int .u64 r ∧ DigitInv u c y1 y0 q r
theorem div64_core (hi lo y u c d y1 y0 t Y : Int) (s : Nat) (gy : 0 < y) (g0 : 0 < hi) (g1 : hi < y) (h0 : 0 ≤ lo) (h1 : lo < 18446744073709551616) (hy1 : y < 18446744073709551616) (hs : s ≤ 63)
  (hlz : ∀ w, Calls Tryz.prog 144 #[.int .u64 y] w fun e w' => e = .returned (.int .i64 (s : Int)) ∧ w = w')
  (G : DigitGiven u c y1 y0) (d0 : 0 ≤ d) (d1 : d < 4294967296) (hY : Y = y1 * 4294967296 + y0)
  (e1 : IntKind.u64.wrap (y * 2 ^ s) = Y) (e2 : Y / 4294967296 = y1) (e3 : bits .and .u64 Y 4294967295 = y0)
  (e4 : bits .or .u64 (IntKind.u64.wrap (hi * 2 ^ s)) (lo / 2 ^ (64 - s)) = u) (e5 : IntKind.u64.wrap (lo * 2 ^ s) = t) (e6 : t / 4294967296 = c) (e7 : bits .and .u64 t 4294967295 = d) (w : World) :
  Calls Tryz.prog 109 #[.int .u64 hi, .int .u64 lo, .int .u64 y] w fun e w' =>
   e = .returned (.tuple #[.int .u64 ((u * 4294967296 + c) / Y * 4294967296 + ((u * 4294967296 + c) % Y * 4294967296 + d) / Y), .int .u64 (((u * 4294967296 + c) % Y * 4294967296 + d) % Y / 2 ^ s)]) ∧ w = w' := by
 have k1 : (y == 0) = false := beq_eq_false_iff_ne.2 Yo
 have k2 : decide (y ≤ hi) = false := by simp; omega
 have k3 : (hi == 0) = false := beq_eq_false_iff_ne.2 Yo
 obtain ⟨G1, G2, G3, G4, G5, G6, G7, G8⟩ := id G
 have k4 : y1 ≠ 0 := by omega
 have q1 : u.tdiv y1 = u / y1 := Int.tdiv_eq_ediv_of_nonneg G7
 have q2 := IntWalk.tdiv_le u y1 G7 Yo
 have st := digit_start G
 have HY := Yh hY; clear hY
 have q3 := Int.ediv_mul_add_emod u y1
 have q4 := Int.emod_nonneg u k4
 have q4' := Int.emod_lt_of_pos u (show 0 < y1 by omega)
 have q5 : u - u / y1 * y1 = u % y1 := by omega
 have q6 : 0 ≤ u / y1 * y1 := Int.mul_nonneg (Int.ediv_nonneg G7 Yo) Yo
 have q7 : u / y1 * y1 ≤ 18446744073709551615 := by omega
 rw [q5] at st
 have st1 := Yh st
 clear q3 st
 have dl := digit_lt G
 have dr := Int.emod_nonneg (u * 4294967296 + c) (show y1 * 4294967296 + y0 ≠ 0 by omega)
 have dr2 := Int.emod_lt_of_pos (u * 4294967296 + c) (show 0 < y1 * 4294967296 + y0 by omega)
 have wr := word_rem u c Y ((u * 4294967296 + c) / Y) Yo Yo rfl
 rw [← HY.out] at dl dr dr2
 have HW := Yh wr; clear wr
 obtain ⟨dl0, dl1⟩ := dl
 go_enter Tryz.func109, Tryz.ntmps109
 go_upto_block 0 with (go_at_call 144; refine (hlz _).mono ?_; rintro e w' ⟨rfl, rfl⟩)
 go_cut [15, 16] (fun qv rv wx => qv = .int .u64 ((u * 4294967296 + c) / Y) ∧ (∃ r, rv = .int .u64 r) ∧ wx = w)
 case first =>
  go_wp2
  go_loop [15, 16] (fun qv rv => DigRel u c y1 y0 qv rv) (fun qv _ => (intOf qv).toNat)
  case atStart => exact ⟨_, _, rfl, rfl, st1⟩
  case round =>
   obtain ⟨q, r, rfl, rfl, inv⟩ := hrel
   obtain ⟨i1, i2, i3, i4, i5, i6⟩ := id inv
   by_cases hq : 4294967296 ≤ q
   ·have hov : 4294967296 ≤ q ∨ (q < 4294967296 ∧ 4294967296 * r + c < q * y0) := .inl hq
    by_cases hr : 4294967296 ≤ r + y1
    ·have fin := Yh (digit_break G inv hov hr)
     clear hov i4 i1
     go_wp2
     go_meet
     case rel => exact ⟨by rw [HY.out, fin.out], ⟨_, rfl⟩, rfl⟩
    ·have nxt := Yh (digit_step G inv hov Yo)
     clear hov i4 i1
     go_wp2
     go_round
     case rel => exact ⟨_, _, rfl, rfl, nxt.out⟩
     case measure => simp [intOf]; omega
   ·have b1 : 0 ≤ q * y0 := Int.mul_nonneg i5 G3
    have b2 : q * y0 ≤ 4294967296 * y0 := Int.mul_le_mul_of_nonneg_right Yo G3
    have b3 : q * y0 ≤ 18446744073709551615 := by omega
    clear b2
    have hq' : decide (4294967296 ≤ q) = false := by simpa using hq
    by_cases ht : 4294967296 * r + c < q * y0
    ·have hov : 4294967296 ≤ q ∨ (q < 4294967296 ∧ 4294967296 * r + c < q * y0) := .inr ⟨Yo, ht⟩
     have hk := (digit_over G inv hov).2
     by_cases hr : 4294967296 ≤ r + y1
     ·have fin := Yh (digit_break G inv hov hr)
      clear hov i4 i1
      go_wp2
      go_meet
      case rel => exact ⟨by rw [HY.out, fin.out], ⟨_, rfl⟩, rfl⟩
     ·have nxt := Yh (digit_step G inv hov Yo)
      clear hov i4 i1
      go_wp2
      go_round
      case rel => exact ⟨_, _, rfl, rfl, nxt.out⟩
      case measure => simp [intOf]; omega
    ·have fin := Yh (digit_done G inv Yo Yo)
     clear i4 i1
     go_wp2
     go_meet
     case rel => exact ⟨by rw [HY.out, fin.out], ⟨_, rfl⟩, rfl⟩
 case rest =>
  obtain ⟨rfl, ⟨r, rfl⟩, rfl⟩ := hcut
  have W1 := HW.out
  have GV : DigitGiven ((u * 4294967296 + c) % Y) d y1 y0 := ⟨G1, G2, G3, G4, d0, d1, dr, by have := HY.out; omega⟩
  generalize hQ1 : (u * 4294967296 + c) / Y = Q1 at *
  generalize hv : (u * 4294967296 + c) % Y = v at *
  have HQ1 := Yh hQ1; clear hQ1
  have Hv := Yh hv; clear hv
  clear q1 q2 q4 q4' q5 q6 q7
  have q1 : v.tdiv y1 = v / y1 := Int.tdiv_eq_ediv_of_nonneg dr
  have q2 := IntWalk.tdiv_le v y1 dr Yo
  have st := digit_start GV
  have q3 := Int.ediv_mul_add_emod v y1
  have q4 := Int.emod_nonneg v k4
  have q4' := Int.emod_lt_of_pos v (show 0 < y1 by omega)
  have q5 : v - v / y1 * y1 = v % y1 := by omega
  have q6 : 0 ≤ v / y1 * y1 := Int.mul_nonneg (Int.ediv_nonneg dr Yo) Yo
  have q8 := HY.out
  have q7 : v / y1 * y1 ≤ 18446744073709551615 := by omega
  rw [q5] at st
  have st2 := Yh st
  clear q3 st
  have dl := digit_lt GV
  rw [← HY.out] at dl
  have wr := word_rem v d Y ((v * 4294967296 + d) / Y) Yo Yo rfl
  have HW2 := Yh wr; clear wr q8
  obtain ⟨dl2, dl3⟩ := dl
  go_upto_block 2 with (fail)
  go_cut [18, 16] (fun qv rv wx => qv = .int .u64 ((v * 4294967296 + d) / Y) ∧ (∃ r, rv = .int .u64 r) ∧ wx = wc)
  case first =>
   go_wp2
   go_loop [18, 16] (fun qv rv => DigRel v d y1 y0 qv rv) (fun qv _ => (intOf qv).toNat)
   case atStart => exact ⟨_, _, rfl, rfl, st2⟩
   case round =>
    obtain ⟨q, r, rfl, rfl, inv⟩ := hrel
    obtain ⟨i1, i2, i3, i4, i5, i6⟩ := id inv
    by_cases hq : 4294967296 ≤ q
    ·have hov : 4294967296 ≤ q ∨ (q < 4294967296 ∧ 4294967296 * r + d < q * y0) := .inl hq
     by_cases hr : 4294967296 ≤ r + y1
     ·have fin := Yh (digit_break GV inv hov hr)
      clear hov i4 i1
      go_wp2
      go_meet
      case rel => exact ⟨by rw [HY.out, fin.out], ⟨_, rfl⟩, rfl⟩
     ·have nxt := Yh (digit_step GV inv hov Yo)
      clear hov i4 i1
      go_wp2
      go_round
      case rel => exact ⟨_, _, rfl, rfl, nxt.out⟩
      case measure => simp [intOf]; omega
    ·have b1 : 0 ≤ q * y0 := Int.mul_nonneg i5 G3
     have b2 : q * y0 ≤ 4294967296 * y0 := Int.mul_le_mul_of_nonneg_right Yo G3
     have b3 : q * y0 ≤ 18446744073709551615 := by omega
     clear b2
     have hq' : decide (4294967296 ≤ q) = false := by simpa using hq
     by_cases ht : 4294967296 * r + d < q * y0
     ·have hov : 4294967296 ≤ q ∨ (q < 4294967296 ∧ 4294967296 * r + d < q * y0) := .inr ⟨Yo, ht⟩
      have hk := (digit_over GV inv hov).2
      by_cases hr : 4294967296 ≤ r + y1
      ·have fin := Yh (digit_break GV inv hov hr)
       clear hov i4 i1
       go_wp2
       go_meet
       case rel => exact ⟨by rw [HY.out, fin.out], ⟨_, rfl⟩, rfl⟩
      ·have nxt := Yh (digit_step GV inv hov Yo)
       clear hov i4 i1
       go_wp2
       go_round
       case rel => exact ⟨_, _, rfl, rfl, nxt.out⟩
       case measure => simp [intOf]; omega
     ·have fin := Yh (digit_done GV inv Yo Yo)
      clear i4 i1
      go_wp2
      go_meet
      case rel => exact ⟨by rw [HY.out, fin.out], ⟨_, rfl⟩, rfl⟩
  case rest =>
   obtain ⟨rfl, ⟨r, rfl⟩, rfl⟩ := hcut
   have W2 := HW2.out
   generalize hQ2 : (v * 4294967296 + d) / Y = Q2 at *
   generalize hz : (v * 4294967296 + d) % Y = z at *
   have HQ2 := Yh hQ2; clear hQ2
   have Hz := Yh hz; clear hz
   go_wp2
   go_ret2
   exact ⟨by rw [HQ1.out, Hv.out, HQ2.out, Hz.out]; rfl, rfl⟩
theorem div64_any (hi lo y : Int) (g0 : 0 ≤ hi) (g1 : hi < y) (h0 : 0 ≤ lo) (h1 : lo < 18446744073709551616) (hy1 : y < 18446744073709551616) (w : World) :
  Calls Tryz.prog 109 #[.int .u64 hi, .int .u64 lo, .int .u64 y] w fun e w' =>
   e = .returned (.tuple #[.int .u64 ((hi * 18446744073709551616 + lo) / y), .int .u64 ((hi * 18446744073709551616 + lo) % y)]) ∧ ∃ n, w' = w.drewN n := by
 by_cases hz : hi = 0
 ·subst hz
  rw [Int.zero_mul, Int.zero_add]
  exact div64_low lo y h0 h1 Yo hy1 w
 ·obtain ⟨s, hs, b1, b2, hlz⟩ := lz64_letter y Yo hy1
  obtain ⟨m1, m2, m3, m4, m5⟩ := moved hi lo y s hs g0 g1 h0 h1 b2
  have eY : IntKind.u64.wrap (y * 2 ^ s) = y * 2 ^ s := IntWalk.u64_in _ Yo
  have et := IntKind.wrap_u64 (lo * 2 ^ s)
  have hY := halves (y * 2 ^ s) Yo b2
  have ht := halves (IntKind.u64.wrap (lo * 2 ^ s)) Yo Yo
  generalize hYY : y * 2 ^ s = Y at *
  generalize hu : hi * 2 ^ s + lo / 2 ^ (64 - s) = u at *
  generalize htt : IntKind.u64.wrap (lo * 2 ^ s) = t at *
  have et0 : 0 ≤ t ∧ t < 18446744073709551616 := by omega
  have k := div64_core hi lo y u (t / 4294967296) (t % 4294967296) (Y / 4294967296) (Y % 4294967296) t Y s Yo Yo g1 h0 h1 hy1 hs hlz
   ⟨Yo, Yo, Yo, Yo, Yo, Yo, m3, Yo⟩ Yo Yo Yo (by rw [hYY]; exact eY) rfl hY (by rw [m1]; exact m2) htt rfl ht w
  obtain ⟨t1, t2⟩ := two_digits u (t / 4294967296) (t % 4294967296) Y Yo Yo Yo
  have e3 : (u * 4294967296 + t / 4294967296) * 4294967296 + t % 4294967296 = (hi * 18446744073709551616 + lo) * 2 ^ s := by rw [← m5]; omega
  rw [t1, t2, e3, ← hYY, (moved_back _ y s).1, (moved_back _ y s).2] at k
  exact k.mono fun e w' ⟨a, b⟩ => ⟨a, 0, b ▸ rfl⟩
def quo (a b c : Int) (up : Bool) : Int := if up then -(-(a * b) / c) else a * b / c
theorem neg_ediv (x c : Int) (hc : 0 < c) : -x / c = if x % c = 0 then -(x / c) else -(x / c) - 1 := by
 have e := Int.ediv_mul_add_emod x c
 have h0 := Int.emod_nonneg x (show c ≠ 0 by omega)
 have h1 := Int.emod_lt_of_pos x hc
 split
 ·rename_i h
  rw [h] at e
  have e2 : -x = (-(x / c)) * c := by rw [Int.neg_mul]; omega
  rw [e2, Int.mul_ediv_cancel _ Yo]
 ·rename_i h
  have e2 : -x = (c - x % c) + (-(x / c) - 1) * c := by rw [Int.sub_mul, Int.neg_mul, Int.one_mul]; omega
  rw [e2, Int.add_mul_ediv_right _ _ Yo, Int.ediv_eq_zero_of_lt Yo Yo]; omega
theorem quo_down (a b c : Int) : quo a b c false = a * b / c := rfl
theorem quo_up (a b c : Int) (hc : 0 < c) : quo a b c true = if a * b % c = 0 then a * b / c else a * b / c + 1 := by
 show -(-(a * b) / c) = _
 rw [neg_ediv _ _ hc]; split <;> omega
theorem magn_any (a : Int) (w : World) (h0 : -9223372036854775808 ≤ a) (h1 : a ≤ 9223372036854775807) :
  Calls Tryz.prog 108 #[.int .i64 a] w fun e w' => e = .returned (.int .u64 (if a < 0 then -a else a)) ∧ w = w' := by
 by_cases h : a < 0
 ·rw [if_pos h]
  have e1 : IntKind.u64.wrap a = a + 18446744073709551616 := by rw [IntKind.wrap_u64]; omega
  have e2 : IntKind.u64.wrap (-(a + 18446744073709551616)) = -a := by rw [IntKind.wrap_u64]; omega
  go_enter Tryz.func108, Tryz.ntmps108
  go_wp2
  go_ret
  exact ⟨by simp [e2], rfl⟩
 ·rw [if_neg h]
  go_enter Tryz.func108, Tryz.ntmps108
  go_wp2
  go_ret
  exact ⟨rfl, rfl⟩
theorem quotient_pos (a b c : Int) (up : Bool) (w : World) (ha : 0 ≤ a) (ha1 : a ≤ 9223372036854775807) (hb : 0 ≤ b) (hb1 : b ≤ 9223372036854775807) (hc : 0 < c) (hc1 : c ≤ 9223372036854775807) (hq : a * b / c ≤ 9223372036854775806) :
  Calls Tryz.prog 71 #[.int .i64 a, .int .i64 b, .int .i64 c, .bool up] w fun e w' => e = .returned (.int .i64 (quo a b c up)) ∧ ∃ n, w' = w.drewN n := by
 have p0 : 0 ≤ a * b := Int.mul_nonneg ha hb
 have q0 : 0 ≤ a * b / c := Int.ediv_nonneg p0 Yo
 have p1 : a * b < (a * b / c + 1) * c := Int.lt_ediv_add_one_mul_self (a * b) hc
 have p2 : (a * b / c + 1) * c ≤ 9223372036854775807 * c := Int.mul_le_mul_of_nonneg_right Yo Yo
 have p3 : a * b / 18446744073709551616 < c := by omega
 have p4 : 0 ≤ a * b / 18446744073709551616 := by omega
 have p5 : 0 ≤ a * b % 18446744073709551616 ∧ a * b % 18446744073709551616 < 18446744073709551616 := by omega
 have p6 : a * b / 18446744073709551616 * 18446744073709551616 + a * b % 18446744073709551616 = a * b := by omega
 have r0 := Int.emod_nonneg (a * b) (show c ≠ 0 by omega)
 have hm := magn_any a
 rw [if_neg Yo] at hm
 have HM := Yh hm
 have H6 := Yh p6; clear p6 hm
 clear p1 p2
 have hdown := Yh (quo_down a b c)
 have hup := Yh (quo_up a b c hc)
 go_enter Tryz.func71, Tryz.ntmps71
 go_wp2_with fail
 refine (HM.out _ Yo ha1).mono ?_
 rintro e w1 ⟨rfl, rfl⟩
 go_wp2_with fail
 refine (mul64_any a b ha hb Yo Yo _).mono ?_
 rintro e w1 ⟨rfl, rfl⟩
 go_wp2_with fail
 refine (div64_any _ _ c p4 p3 p5.1 p5.2 Yo _).mono ?_
 rintro e w1 ⟨rfl, n, rfl⟩
 rw [H6.out]
 cases up
 ·go_wp2
  go_ret
  exact ⟨by rw [hdown.out]; rfl, n, rfl⟩
 ·by_cases hr : 0 < a * b % c
  ·have hu : Hid (quo a b c true = a * b / c + 1) := by have := hup.out; rw [if_neg Yo] at this; exact this
   go_wp2
   go_ret
   exact ⟨by rw [hu.out]; rfl, n, rfl⟩
  ·have hu : Hid (quo a b c true = a * b / c) := by have := hup.out; rw [if_pos Yo] at this; exact this
   go_wp2
   go_ret
   exact ⟨by rw [hu.out]; rfl, n, rfl⟩
def RB (w : World) (v : Value) (e : Ending) (w' : World) : Prop := e = .returned v ∧ Below w.heap.size w w'
def rnd (x c : Int) (up : Bool) : Int := if up then -(-x / c) else x / c
theorem quo_rnd (a b c : Int) (up : Bool) : quo a b c up = rnd (a * b) c up := rfl
theorem rnd_add (x k c : Int) (up : Bool) (hc : 0 < c) : rnd (x + k * c) c up = k + rnd x c up := by
 cases up
 ·show (x + k * c) / c = k + x / c
  rw [Int.add_mul_ediv_right _ _ Yo]; omega
 ·show -(-(x + k * c) / c) = k + -(-x / c)
  have e : -(x + k * c) = -x + (-k) * c := by rw [Int.neg_mul]; omega
  rw [e, Int.add_mul_ediv_right _ _ Yo]; omega
theorem rnd_up (x c : Int) (hc : 0 < c) : rnd x c true = if x % c = 0 then x / c else x / c + 1 := by
 show -(-x / c) = _
 rw [neg_ediv _ _ hc]; split <;> omega
theorem tdiv_below (a b : Int) (hb : 0 < b) : (a.tmod b < 0 → a / b = a.tdiv b - 1) ∧ (0 ≤ a.tmod b → a / b = a.tdiv b) := by
 have h := Int.mul_tdiv_add_tmod a b
 have hl := tmod_lo a b Yo
 constructor
 ·intro hn
  have e : a = (b + a.tmod b) + (a.tdiv b - 1) * b := by rw [Int.sub_mul, Int.one_mul, Int.mul_comm (a.tdiv b)]; omega
  conv => lhs; rw [e]
  rw [Int.add_mul_ediv_right _ _ Yo, Int.ediv_eq_zero_of_lt Yo Yo]; omega
 ·intro hn
  have e : a = a.tmod b + a.tdiv b * b := by rw [Int.mul_comm (a.tdiv b)]; omega
  conv => lhs; rw [e]
  rw [Int.add_mul_ediv_right _ _ Yo, Int.ediv_eq_zero_of_lt Yo Yo]; omega
theorem ediv_in (a b : Int) (hb : 0 < b) (h0 : -9223372036854775808 ≤ a) (h1 : a ≤ 9223372036854775807) : -9223372036854775808 ≤ a / b ∧ a / b ≤ 9223372036854775807 := by
 constructor
 ·apply Int.le_ediv_of_mul_le hb
  have : -9223372036854775808 * b ≤ -9223372036854775808 * 1 := by omega
  omega
 ·by_cases h : 0 ≤ a
  ·have := Int.ediv_le_self b h; omega
  ·have : a / b < 0 := Int.ediv_neg_of_neg_of_pos Yo hb
   omega
theorem emod_tmod (a b : Int) (hb : 0 < b) : (a.tmod b = 0 ↔ a % b = 0) := by
 constructor
 ·intro h; exact Int.emod_eq_zero_of_dvd (Int.dvd_of_tmod_eq_zero h)
 ·intro h; exact Int.tmod_eq_zero_of_dvd (Int.dvd_of_emod_eq_zero h)
theorem below10_any (a b : Int) (w : World) (hb : 0 < b) (hb1 : b ≤ 9223372036854775807) (h0 : -9223372036854775808 ≤ a) (h1 : a ≤ 9223372036854775807) :
  Calls Tryz.prog 142 #[.int .i64 a, .int .i64 b] w fun e w' => e = .returned (.int .i64 (a / b)) ∧ w = w' := by
 obtain ⟨t1, t2⟩ := tdiv_below a b hb
 have hi := ediv_in a b hb h0 h1
 have hl := tmod_lo a b Yo
 by_cases h : a.tmod b < 0
 ·have e := t1 h
  rw [e] at hi
  have E := Yh e; clear e t1 t2
  go_enter Tryz.func142, Tryz.ntmps142
  go_wp2
  go_ret
  exact ⟨by rw [E.out]; rfl, rfl⟩
 ·have e := t2 Yo
  have E := Yh e; clear e t1 t2
  go_enter Tryz.func142, Tryz.ntmps142
  go_wp2
  go_ret
  exact ⟨by rw [E.out]; rfl, rfl⟩
theorem rounded_any (a b : Int) (up : Bool) (w : World) (hb : 0 < b) (hb1 : b ≤ 9223372036854775807) (h0 : -9223372036854775808 ≤ a) (h1 : a ≤ 9223372036854775807) (hq : a / b ≤ 9223372036854775806) :
  Calls Tryz.prog 102 #[.int .i64 a, .int .i64 b, .bool up] w fun e w' => e = .returned (.int .i64 (rnd a b up)) ∧ w = w' := by
 have hi := ediv_in a b hb h0 h1
 cases up
 ·rw [show rnd a b false = a / b from rfl]
  go_enter Tryz.func102, Tryz.ntmps102
  go_wp2_with (go_at_call 142; refine (below10_any _ _ _ hb hb1 h0 h1).mono ?_; rintro e w1 ⟨rfl, rfl⟩)
  go_ret
  exact ⟨rfl, rfl⟩
 ·rw [rnd_up a b hb]
  have hl := tmod_lo a b Yo
  by_cases h : a.tmod b = 0
  ·rw [if_pos ((emod_tmod a b hb).1 h)]
   have h' : (a.tmod b != 0) = false := by simp [h]
   clear h
   go_enter Tryz.func102, Tryz.ntmps102
   go_wp2_with (go_at_call 142; refine (below10_any _ _ _ hb hb1 h0 h1).mono ?_; rintro e w1 ⟨rfl, rfl⟩)
   go_ret
   exact ⟨rfl, rfl⟩
  ·rw [if_neg (fun k => h ((emod_tmod a b hb).2 k))]
   have h' : (a.tmod b != 0) = true := by simp [h]
   clear h
   go_enter Tryz.func102, Tryz.ntmps102
   go_wp2_with (go_at_call 142; refine (below10_any _ _ _ hb hb1 h0 h1).mono ?_; rintro e w1 ⟨rfl, rfl⟩)
   go_ret
   exact ⟨rfl, rfl⟩
def Blk (w : World) (g : Nat) (t : TypeId) (cs : Array Value) : Prop := w.heap[g]? = some (.cells cs t (0, 0))
section
variable {w w' : World} {g : Nat} {t : TypeId} {cs : Array Value}
theorem Blk.lt (h : Blk w g t cs) : g < w.heap.size := by
 rcases Nat.lt_or_ge g w.heap.size with hlt | hge
 ·exact hlt
 ·unfold Blk at h; rw [Array.getElem?_eq_none hge] at h; cases h
theorem Blk.cell (h : Blk w g t cs) (i : Nat) : w.cell? ⟨g, i, none⟩ = cs[i]? := cell_of_row w g i cs t (0, 0) h
theorem Blk.frozen (h : Blk w g t cs) (i : Nat) : w.frozen? ⟨g, i, none⟩ = false := by
 unfold Blk at h
 simp [World.frozen?, h]
theorem Blk.new (w : World) (t : TypeId) (cs : Array Value) : Blk (w.alloc (.cells cs t)) w.heap.size t cs := heap_alloc_new w _
theorem Blk.newE {w : World} {g : Nat} {t : TypeId} {cs : Array Value} (h : g = w.heap.size) : Blk (w.alloc (.cells cs t)) g t cs := h ▸ heap_alloc_new w _
theorem Blk.new1 (w : World) (o : Obj) (t : TypeId) (cs : Array Value) : Blk ((w.alloc o).alloc (.cells cs t)) (w.heap.size + 1) t cs := by
 have := heap_alloc_new (w.alloc o) (.cells cs t); simpa [Blk] using this
theorem Blk.drew (h : Blk w g t cs) : Blk w.drew g t cs := h
theorem Blk.drewN (h : Blk w g t cs) (n : Nat) : Blk (w.drewN n) g t cs := h
theorem Blk.alloc (h : Blk w g t cs) (o : Obj) : Blk (w.alloc o) g t cs := (Below.heap_alloc w o g h.lt).trans h
theorem Blk.set_ (h : Blk w g t cs) (i : Nat) (u : Value) : Blk (w.setCell ⟨g, i, none⟩ u) g t (cs.setIfInBounds i u) := by
 unfold Blk at h ⊢
 simp [World.setCell, Array.getElem?_modify, h]
theorem Blk.put {i : Nat} {u : Value} {cs' : Array Value} (h : Blk w g t cs) (he : cs.setIfInBounds i u = cs') : Blk (w.setCell ⟨g, i, none⟩ u) g t cs' := he ▸ h.set_ i u
theorem Blk.far (h : Blk w g t cs) {p : Addr} (hp : g ≠ p.block) (u : Value) : Blk (w.setCell p u) g t cs := (Below.heap_setCell w p u g hp).trans h
theorem Blk.keep (hb : Below w.heap.size w w') (h : Blk w g t cs) : Blk w' g t cs := (hb.block g h.lt).trans h
theorem Blk.facts (h : Blk w g t cs) : (∀ i, w.cell? ⟨g, i, none⟩ = cs[i]?) ∧ (∀ i, w.frozen? ⟨g, i, none⟩ = false) ∧ g < w.heap.size ∧ g ≤ w.heap.size ∧ ∀ k, g < w.heap.size + k :=
 ⟨h.cell, h.frozen, h.lt, Nat.le_of_lt h.lt, fun k => Nat.lt_of_lt_of_le h.lt (Nat.le_add_right _ _)⟩
end
/-- Closing tactics, written once. -/
theorem bl0 {n : Nat} {w w' : World} (h : Below n w w' := by (repeat' (first | (with_reducible exact Below.refl _ _) | (with_reducible refine Below.setCell ?_ ?_ _) | (with_reducible refine Below.alloc ?_ ?_ _) | (with_reducible refine Below.drew ?_) | (with_reducible refine below_drewN ?_ _))) <;> (first | omega | (simp <;> omega))) : Below n w w' := h
theorem bl1 {n : Nat} {w w' : World} (h : Below n w w' := by (repeat' (first | (with_reducible (show Below _ _ _; assumption)) | (with_reducible refine Below.setCell ?_ ?_ _) | (with_reducible refine Below.alloc ?_ ?_ _) | (with_reducible refine Below.drew ?_) | (with_reducible refine below_drewN ?_ _))) <;> (first | omega | (simp <;> omega))) : Below n w w' := h
theorem bn0 {w : World} {g : Nat} {t : TypeId} {cs : Array Value} (h : Blk w g t cs := by (repeat' (first | ((with_reducible refine' Blk.newE ?_); first | rfl | (simp; done)) | (with_reducible refine' Blk.alloc ?_ _) | (with_reducible refine' Blk.drew ?_) | (with_reducible refine' Blk.drewN ?_ _) | (with_reducible refine' Blk.put ?_ ?_) | (with_reducible refine' Blk.far ?_ ?_ _) | exact rfl)) <;> (first | omega | (simp <;> omega))) : Blk w g t cs := h
theorem bn1 {w : World} {g : Nat} {t : TypeId} {cs : Array Value} (h : Blk w g t cs := by (repeat' (first | (with_reducible (show Blk _ _ _ _; assumption)) | (with_reducible refine' Blk.alloc ?_ _) | (with_reducible refine' Blk.drew ?_) | (with_reducible refine' Blk.drewN ?_ _) | (with_reducible refine' Blk.put ?_ ?_) | (with_reducible refine' Blk.far ?_ ?_ _) | (show Blk _ _ _ _; assumption) | exact rfl)) <;> (first | omega | (simp <;> omega))) : Blk w g t cs := h
theorem bs1 {w : World} {g : Nat} {t : TypeId} {cs : Array Value} (h : Blk w g t cs := by (repeat' (first | (with_reducible refine' Blk.alloc ?_ _) | (with_reducible refine' Blk.drew ?_) | (with_reducible refine' Blk.drewN ?_ _) | (with_reducible refine' Blk.set_ ?_ _ _) | (with_reducible refine' Blk.far ?_ ?_ _) | (show Blk _ _ _ _; assumption))) <;> (first | omega | (simp <;> omega))) : Blk w g t cs := h
theorem bs2 {w : World} {g : Nat} {t : TypeId} {cs : Array Value} (h : Blk w g t cs := by (repeat' (first | (with_reducible exact Blk.new _ _ _) | (with_reducible exact Blk.new1 _ _ _ _) | (with_reducible exact Blk.new2 _ _ _ _ _) | (with_reducible refine' Blk.alloc ?_ _) | (with_reducible refine' Blk.drew ?_) | (with_reducible refine' Blk.drewN ?_ _) | (with_reducible refine' Blk.set_ ?_ _ _) | (with_reducible refine' Blk.far ?_ ?_ _))) <;> (first | omega | (simp <;> omega))) : Blk w g t cs := h
abbrev Yb := @bodyPost_ret
theorem Yl {n : Nat} {w : World} : RowKit.Below n w w := RowKit.Below.refl _ _
abbrev Yf := @Blk.facts
abbrev Yk := @Blk.keep
abbrev Yc := @kept_call
end Go.Proofs.YtiinmhfolfgobaaGreatDoor
