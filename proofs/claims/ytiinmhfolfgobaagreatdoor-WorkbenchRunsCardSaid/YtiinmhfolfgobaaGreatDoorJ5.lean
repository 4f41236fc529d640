/- Lemmas. -/
import Derived.Deep.Draws
import Derived.Lib.Hide
import Derived.WalkKit
import Derived.WalkLawsBesides
import Derived.WalkSpells
import Derived.Laws.Bits64b
import Derived.Test.YtiinmhfolfgobaaGreatDoorPk
import Derived.Test.YtiinmhfolfgobaaGreatDoorRows
set_option linter.unusedVariables false
set_option linter.unusedSimpArgs false
namespace Go.Proofs.YtiinmhfolfgobaaGreatDoor
open Go.RowKit
set_option maxHeartbeats 8000000
theorem tmod_lo (v n : Int) (hn : 1 ≤ n) : -n < v.tmod n ∧ v.tmod n < n := by
 have h1 := Int.tmod_lt_of_pos v (show 0 < n by omega)
 have h2 : v.tmod n = if 0 ≤ v then v % n else -((-v) % n) := by
  split
  ·exact Int.tmod_eq_emod_of_nonneg ‹_›
  ·rename_i h
   have : v = -(-v) := by omega
   rw [this, Int.neg_tmod, Int.tmod_eq_emod_of_nonneg Yo]; simp
 have h3 := Int.emod_nonneg (-v) (show n ≠ 0 by omega)
 have h4 := Int.emod_lt_of_pos (-v) (show 0 < n by omega)
 have h5 := Int.emod_nonneg v (show n ≠ 0 by omega)
 refine ⟨?_, h1⟩
 rw [h2]; split <;> omega
theorem tmod_mod (v n : Int) : v.tmod n % n = v % n := by
 have h := Int.tmod_def v n
 rw [h, Int.sub_mul_emod_self_left]
theorem tmod_neg (v n : Int) (hn : 1 ≤ n) (h : v.tmod n < 0) : v.tmod n + n = v % n := by
 have hp : v.tmod n % n = v % n := tmod_mod v n
 have h1 := tmod_lo v n hn
 have : (v.tmod n + n) % n = v % n := by rw [Int.add_emod_right]; exact hp
 rw [← this]; exact (Int.emod_eq_of_lt Yo Yo).symm
theorem tmod_pos (v n : Int) (hn : 1 ≤ n) (h : 0 ≤ v.tmod n) : v.tmod n = v % n := by
 have hp : v.tmod n % n = v % n := tmod_mod v n
 have h1 := tmod_lo v n hn
 rw [← hp]; exact (Int.emod_eq_of_lt Yo Yo).symm
theorem ret_int {k : IntKind} {a b : Int} (h : a = b) : Ending.returned (.int k a) = .returned (.int k b) := by rw [h]
theorem two_pow_cast (k : Nat) : ((2 ^ k : Nat) : Int) = 2 ^ k := by simp
theorem i64_mask (n : Int) (k : Nat) (hk : k < 63) : bits .and .i64 n (2 ^ k - 1) = n % 2 ^ k := by
 have hlt : (2 : Nat) ^ k < 2 ^ 63 := Nat.pow_lt_pow_right Yd hk
 have hp := Nat.two_pow_pos k
 have e3 := two_pow_cast k
 have e : ((2 : Int) ^ k - 1) = ((2 ^ k - 1 : Nat) : Int) := by omega
 have hm : (BitVec.ofInt 64 ((2 : Int) ^ k - 1)).toNat = 2 ^ k - 1 := by
  rw [e, BitVec.ofInt_natCast, BitVec.toNat_ofNat]; exact Nat.mod_eq_of_lt Yo
 have key : (BitVec.ofInt 64 n &&& BitVec.ofInt 64 ((2 : Int) ^ k - 1)).toNat = (n % ((2 ^ 64 : Nat) : Int)).toNat % 2 ^ k := by
  rw [BitVec.toNat_and, BitVec.toNat_ofInt, hm, Nat.and_two_pow_sub_one_eq_mod]
 show IntKind.i64.wrap ((BitVec.ofInt 64 n &&& BitVec.ofInt 64 ((2 : Int) ^ k - 1)).toNat : Nat) = n % 2 ^ k
 rw [key]
 have h0 := Int.emod_nonneg n (show ((2 ^ 64 : Nat) : Int) ≠ 0 by decide)
 have hd : (2 : Int) ^ k ∣ ((2 ^ 64 : Nat) : Int) := by
  rw [← e3]; exact Int.natCast_dvd_natCast.2 (Nat.pow_dvd_pow 2 Yo)
 have e2 : (((n % ((2 ^ 64 : Nat) : Int)).toNat % 2 ^ k : Nat) : Int) = n % 2 ^ k := by
  rw [Int.natCast_emod, Int.toNat_of_nonneg h0, e3, Int.emod_emod_of_dvd _ hd]
 have h1 := Int.emod_nonneg n (show (2 : Int) ^ k ≠ 0 by omega)
 have h2 := Int.emod_lt_of_pos n (show (0 : Int) < 2 ^ k by omega)
 rw [e2, IntWalk.i64_in _ Yo]
theorem within_any (v n : Int) (w : World) (hn : 1 ≤ n) (hn2 : n ≤ 9223372036854775807) :
  Calls Tryz.prog 35 #[.int .i64 v, .int .i64 n] w fun e w' => e = .returned (.int .i64 (v % n)) ∧ w = w' := by
 have h := tmod_lo v n hn
 obtain ⟨h1, h2⟩ := h
 by_cases hv : v.tmod n < 0
 ·have e1 := tmod_neg v n hn hv
  go_enter Tryz.func35, Tryz.ntmps35
  go_wp2
  go_ret
  exact ⟨rfl, rfl⟩
 ·have e1 := tmod_pos v n hn Yo
  go_enter Tryz.func35, Tryz.ntmps35
  go_wp2
  go_ret
  exact ⟨rfl, rfl⟩
/-! ### Worlds behind calls -/
theorem cell_below {w w' : World} {a : Addr} {v : Value} (hb : Below w.heap.size w w') (h : w.cell? a = some v) : w'.cell? a = some v := (hb.cell (World.block_lt_of_cell? w a h)).trans h
theorem kept_call {wr W w' : World} (hb : Below W.heap.size W w') (h : Below wr.heap.size wr W) : Below wr.heap.size wr w' := h.trans (hb.mono h.size)
theorem below_q {w w' : World} (h : ∃ n, w' = w.drewN n) : Below w.heap.size w w' := by
 obtain ⟨n, rfl⟩ := h
 exact ⟨rfl, rfl, rfl, Nat.le_refl _, fun _ _ => rfl⟩
theorem below_drewN {B : Nat} {w w' : World} (h : Below B w w') (n : Nat) : Below B w (w'.drewN n) := h.trans ⟨rfl, rfl, rfl, Nat.le_refl _, fun _ _ => rfl⟩
theorem bcell {W w1 : World} (hb : Below W.heap.size W w1) : (∀ b o, b < W.heap.size → w1.cell? ⟨b, o, none⟩ = W.cell? ⟨b, o, none⟩) ∧ (∀ b o, b < W.heap.size → w1.frozen? ⟨b, o, none⟩ = W.frozen? ⟨b, o, none⟩) :=
 ⟨fun b o h => hb.cell (p := ⟨b, o, none⟩) h, fun b o h => hb.frozen (p := ⟨b, o, none⟩) h⟩
theorem Y4 {x y : Int} (h : IntKind.i64.wrap x = y := by rw [IntWalk.i64_in _ (by omega)]; omega) : IntKind.i64.wrap x = y := h
theorem Yh {P : Prop} (h : P) : RowKit.Hid P := Lib.hid h
end Go.Proofs.YtiinmhfolfgobaaGreatDoor
namespace Go.Proofs.YtiinmhfolfgobaaGreatDoor
structure DigitInv (u c y1 y0 q r : Int) : Prop where
 r_eq : r = u - q * y1
 r0 : 0 ≤ r
 rB : r < 4294967296
 up : u * 4294967296 + c < (q + 1) * (y1 * 4294967296 + y0)
 q0 : 0 ≤ q
 qB : q ≤ 4294967297
structure DigitGiven (u c y1 y0 : Int) : Prop where
 y1lo : 2147483648 ≤ y1
 y1hi : y1 < 4294967296
 y0lo : 0 ≤ y0
 y0hi : y0 < 4294967296
 clo : 0 ≤ c
 chi : c < 4294967296
 ulo : 0 ≤ u
 uhi : u < y1 * 4294967296 + y0
theorem digit_start {u c y1 y0 : Int} (g : DigitGiven u c y1 y0) : DigitInv u c y1 y0 (u / y1) (u - u / y1 * y1) := by
 obtain ⟨h1, h2, h3, h4, h5, h6, h7, h8⟩ := g
 have hp : 0 < y1 := by omega
 have d1 : u / y1 * y1 + u % y1 = u := Int.ediv_mul_add_emod u y1
 have d2 := Int.emod_nonneg u (show y1 ≠ 0 by omega)
 have d3 := Int.emod_lt_of_pos u hp
 have d4 := Int.ediv_nonneg h7 (show 0 ≤ y1 by omega)
 refine ⟨rfl, Yo, Yo, ?_, d4, ?_⟩
 ·have e : (u / y1 + 1) * (y1 * 4294967296 + y0) = (u / y1 * y1) * 4294967296 + y1 * 4294967296 + (u / y1 + 1) * y0 := by
   rw [Int.mul_add, ← Int.mul_assoc, Int.add_mul (u / y1) 1 y1, Int.one_mul, Int.add_mul]
  have e2 : 0 ≤ (u / y1 + 1) * y0 := Int.mul_nonneg Yo h3
  rw [e]; omega
 ·-- if it were at least 2^32 + 2
  apply Int.not_lt.1
  intro h
  have : 4294967298 * y1 ≤ u / y1 * y1 := Int.mul_le_mul_of_nonneg_right Yo Yo
  omega
theorem digit_over {u c y1 y0 q r : Int} (g : DigitGiven u c y1 y0) (i : DigitInv u c y1 y0 q r)
  (h : 4294967296 ≤ q ∨ (q < 4294967296 ∧ 4294967296 * r + c < q * y0)) : u * 4294967296 + c < q * (y1 * 4294967296 + y0) ∧ 1 ≤ q := by
 obtain ⟨h1, h2, h3, h4, h5, h6, h7, h8⟩ := g
 obtain ⟨i1, i2, i3, i4, i5, i6⟩ := i
 have key : u * 4294967296 + c < q * (y1 * 4294967296 + y0) := by
  rcases h with h | ⟨hq, h⟩
  ·have : 4294967296 * (y1 * 4294967296 + y0) ≤ q * (y1 * 4294967296 + y0) := Int.mul_le_mul_of_nonneg_right h Yo
   omega
  ·have e : q * (y1 * 4294967296 + y0) = (q * y1) * 4294967296 + q * y0 := by rw [Int.mul_add, ← Int.mul_assoc]
   rw [e]; omega
 refine ⟨key, ?_⟩
 apply Int.not_lt.1
 intro hq
 obtain rfl : q = 0 := by omega
 simp at key; omega
theorem digit_step {u c y1 y0 q r : Int} (g : DigitGiven u c y1 y0) (i : DigitInv u c y1 y0 q r)
  (h : 4294967296 ≤ q ∨ (q < 4294967296 ∧ 4294967296 * r + c < q * y0)) (hr : r + y1 < 4294967296) : DigitInv u c y1 y0 (q - 1) (r + y1) := by
 obtain ⟨k1, k2⟩ := digit_over g i h
 obtain ⟨h1, h2, h3, h4, h5, h6, h7, h8⟩ := g
 obtain ⟨i1, i2, i3, i4, i5, i6⟩ := i
 refine ⟨by rw [i1, Int.sub_mul]; omega, Yo, hr, by rw [show q - 1 + 1 = q by omega]; exact k1, Yo, Yo⟩
theorem ediv_of {a b q : Int} (hb : 0 < b) (h1 : q * b ≤ a) (h2 : a < (q + 1) * b) : a / b = q := by
 have e : (q + 1) * b = q * b + b := by rw [Int.add_mul, Int.one_mul]
 rw [show a = (a - q * b) + q * b by omega, Int.add_mul_ediv_right _ _ Yo, Int.ediv_eq_zero_of_lt Yo Yo]; omega
theorem digit_break {u c y1 y0 q r : Int} (g : DigitGiven u c y1 y0) (i : DigitInv u c y1 y0 q r)
  (h : 4294967296 ≤ q ∨ (q < 4294967296 ∧ 4294967296 * r + c < q * y0)) (hr : 4294967296 ≤ r + y1) :
  (u * 4294967296 + c) / (y1 * 4294967296 + y0) = q - 1 := by
 obtain ⟨k1, k2⟩ := digit_over g i h
 obtain ⟨h1, h2, h3, h4, h5, h6, h7, h8⟩ := g
 obtain ⟨i1, i2, i3, i4, i5, i6⟩ := i
 refine ediv_of Yo ?_ (by rw [show q - 1 + 1 = q by omega]; exact k1)
 have e : (q - 1) * (y1 * 4294967296 + y0) = (q * y1) * 4294967296 - y1 * 4294967296 + (q - 1) * y0 := by
  rw [Int.mul_add, ← Int.mul_assoc, Int.sub_mul q 1 y1, Int.one_mul, Int.sub_mul]
 have e2 : (q - 1) * y0 ≤ 4294967296 * y0 := Int.mul_le_mul_of_nonneg_right Yo h3
 rw [e]; omega
theorem digit_done {u c y1 y0 q r : Int} (g : DigitGiven u c y1 y0) (i : DigitInv u c y1 y0 q r)
  (h1' : q < 4294967296) (h2' : q * y0 ≤ 4294967296 * r + c) : (u * 4294967296 + c) / (y1 * 4294967296 + y0) = q := by
 obtain ⟨h1, h2, h3, h4, h5, h6, h7, h8⟩ := g
 obtain ⟨i1, i2, i3, i4, i5, i6⟩ := i
 refine ediv_of Yo ?_ i4
 have e : q * (y1 * 4294967296 + y0) = (q * y1) * 4294967296 + q * y0 := by rw [Int.mul_add, ← Int.mul_assoc]
 rw [e]; omega
theorem digit_lt {u c y1 y0 : Int} (g : DigitGiven u c y1 y0) : 0 ≤ (u * 4294967296 + c) / (y1 * 4294967296 + y0) ∧ (u * 4294967296 + c) / (y1 * 4294967296 + y0) < 4294967296 := by
 obtain ⟨h1, h2, h3, h4, h5, h6, h7, h8⟩ := g
 refine ⟨Int.ediv_nonneg Yo Yo, Int.ediv_lt_of_lt_mul Yo ?_⟩
 omega
theorem two_digits (u c d y : Int) (hy : 0 < y) (hd : 0 ≤ d) (hd' : d < 4294967296) :
  (u * 4294967296 + c) / y * 4294967296 + ((u * 4294967296 + c) % y * 4294967296 + d) / y = ((u * 4294967296 + c) * 4294967296 + d) / y ∧
  ((u * 4294967296 + c) % y * 4294967296 + d) % y = ((u * 4294967296 + c) * 4294967296 + d) % y := by
 generalize u * 4294967296 + c = t
 have e : t * 4294967296 + d = (t % y * 4294967296 + d) + (t / y * 4294967296) * y := by
  have := Int.ediv_mul_add_emod t y
  have e3 : t / y * 4294967296 * y = (t / y * y) * 4294967296 := by rw [Int.mul_assoc, Int.mul_comm 4294967296 y, Int.mul_assoc]
  omega
 constructor
 ·conv => rhs; rw [e]
  rw [Int.add_mul_ediv_right _ _ Yo]; omega
 ·conv => rhs; rw [e]
  rw [Int.add_mul_emod_self_right]
/-! ### The divisor moved to the left by s places -/
theorem pow_pos_int (s : Nat) : (0 : Int) < 2 ^ s := Int.pow_pos Yd
theorem or_join (a s b : Nat) (hb : b < 2 ^ s) (h : a * 2 ^ s + b < 18446744073709551616) : bits .or .u64 ((a * 2 ^ s : Nat) : Int) (b : Int) = ((a * 2 ^ s + b : Nat) : Int) := by
 rw [bits_or_u64_nat _ _ Yo Yo]
 have := Nat.two_pow_add_eq_or_of_lt hb a
 rw [Nat.mul_comm a]; rw [this]
theorem moved (hi lo y : Int) (s : Nat) (hs : s ≤ 63) (g0 : 0 ≤ hi) (g1 : hi < y) (h0 : 0 ≤ lo) (h1 : lo < 18446744073709551616) (hy : y * 2 ^ s < 18446744073709551616) :
  IntKind.u64.wrap (hi * 2 ^ s) = hi * 2 ^ s ∧ bits .or .u64 (hi * 2 ^ s) (lo / 2 ^ (64 - s)) = hi * 2 ^ s + lo / 2 ^ (64 - s) ∧
  0 ≤ hi * 2 ^ s + lo / 2 ^ (64 - s) ∧ hi * 2 ^ s + lo / 2 ^ (64 - s) < y * 2 ^ s ∧
  (hi * 2 ^ s + lo / 2 ^ (64 - s)) * 18446744073709551616 + IntKind.u64.wrap (lo * 2 ^ s) = (hi * 18446744073709551616 + lo) * 2 ^ s := by
 have hp := pow_pos_int s
 have hq := pow_pos_int (64 - s)
 have e64 : (2 : Int) ^ (64 - s) * 2 ^ s = 18446744073709551616 := by rw [← Int.pow_add, Nat.sub_add_cancel Yo]; rfl
 have b1 : 0 ≤ lo / 2 ^ (64 - s) := Int.ediv_nonneg h0 (Int.le_of_lt hq)
 have b2 : lo / 2 ^ (64 - s) < 2 ^ s := by
  apply Int.ediv_lt_of_lt_mul hq
  rw [Int.mul_comm, e64]; exact h1
 have b3 : 0 ≤ hi * 2 ^ s := Int.mul_nonneg g0 (Int.le_of_lt hp)
 have b4 : (hi + 1) * 2 ^ s ≤ y * 2 ^ s := Int.mul_le_mul_of_nonneg_right Yo (Int.le_of_lt hp)
 rw [Int.add_mul, Int.one_mul] at b4
 refine ⟨IntWalk.u64_in _ Yo, ?_, Yo, Yo, ?_⟩
 ·obtain ⟨a, rfl⟩ := Int.eq_ofNat_of_zero_le g0
  obtain ⟨b, hb⟩ := Int.eq_ofNat_of_zero_le b1
  rw [hb] at b2 ⊢
  have e3 : ((2 ^ s : Nat) : Int) = 2 ^ s := by simp
  have e4 : ((a : Int) * 2 ^ s) = ((a * 2 ^ s : Nat) : Int) := by rw [Int.natCast_mul, e3]
  rw [e4] at b4 b3 ⊢
  have := or_join a s b (by rw [← e3] at b2; omega) Yo
  rw [this]; simp
 ·rw [IntKind.wrap_u64]
  have k := Int.mul_emod_mul_of_pos lo (2 ^ (64 - s)) hp
  have e5 : lo * 2 ^ s % 18446744073709551616 = lo % 2 ^ (64 - s) * 2 ^ s := by
   rw [← e64]
   have := Int.mul_emod_mul_of_pos (a := 2 ^ s) lo (2 ^ (64 - s)) hp
   rw [Int.mul_comm lo, Int.mul_comm (2 ^ (64 - s)), this, Int.mul_comm]
  rw [e5]
  have e6 := Int.ediv_mul_add_emod lo (2 ^ (64 - s))
  rw [Int.add_mul, Int.add_mul]
  have e7 : lo / 2 ^ (64 - s) * 18446744073709551616 = lo / 2 ^ (64 - s) * 2 ^ (64 - s) * 2 ^ s := by rw [Int.mul_assoc, e64]
  have e8 : hi * 2 ^ s * 18446744073709551616 = hi * 18446744073709551616 * 2 ^ s := by rw [Int.mul_assoc, Int.mul_comm (2 ^ s), Int.mul_assoc]
  rw [e7, e8]
  conv => rhs; rw [← e6]
  rw [Int.add_mul]; omega
theorem moved_back (n y : Int) (s : Nat) : (n * 2 ^ s) / (y * 2 ^ s) = n / y ∧ (n * 2 ^ s) % (y * 2 ^ s) / 2 ^ s = n % y := by
 have hp := pow_pos_int s
 constructor
 ·exact Int.mul_ediv_mul_of_pos_left n y hp
 ·rw [Int.mul_comm n, Int.mul_comm y, Int.mul_emod_mul_of_pos _ _ hp, Int.mul_comm, Int.mul_ediv_cancel _ Yo]
theorem word_rem (u c y q : Int) (hy : 0 < y) (hy1 : y < 18446744073709551616) (hq : (u * 4294967296 + c) / y = q) :
  IntKind.u64.wrap (IntKind.u64.wrap (IntKind.u64.wrap (u * 4294967296) + c) - IntKind.u64.wrap (q * y)) = (u * 4294967296 + c) % y := by
 have e1 := Int.ediv_mul_add_emod (u * 4294967296 + c) y
 rw [hq] at e1
 have e2 := Int.emod_nonneg (u * 4294967296 + c) (show y ≠ 0 by omega)
 have e3 := Int.emod_lt_of_pos (u * 4294967296 + c) hy
 simp only [IntKind.wrap_u64]
 generalize q * y = p at *
 omega
theorem halves (y : Int) (h0 : 0 ≤ y) (h1 : y < 18446744073709551616) : bits .and .u64 y 4294967295 = y % 4294967296 := by
 obtain ⟨a, rfl⟩ := Int.eq_ofNat_of_zero_le h0
 have h := bits_and_u64_nat a 4294967295 Yo Yo
 rw [show a &&& 4294967295 = a % 4294967296 from Nat.and_two_pow_sub_one_eq_mod a 32] at h
 exact h
end Go.Proofs.YtiinmhfolfgobaaGreatDoor
