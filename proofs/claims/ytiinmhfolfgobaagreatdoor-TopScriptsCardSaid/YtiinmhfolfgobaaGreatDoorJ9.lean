/- Texts joined: Drift, Fits, FitsR, DriftR -/
import Derived.Test.YtiinmhfolfgobaaGreatDoorJ6
namespace Go.Proofs.YtiinmhfolfgobaaGreatDoor
open Go.RowKit

/-- A duration of an advance, and a drift bound. -/
def inD (d ppb : Int) : Bool := decide (0 ≤ d ∧ d ≤ 576460752303423488 ∧ 0 ≤ ppb ∧ ppb ≤ 1000000)
theorem inD_true {d ppb : Int} : inD d ppb = true ↔ 0 ≤ d ∧ d ≤ 576460752303423488 ∧ 0 ≤ ppb ∧ ppb ≤ 1000000 := by simp [inD]
theorem inD_false {d ppb : Int} (h : ¬ (0 ≤ d ∧ d ≤ 576460752303423488 ∧ 0 ≤ ppb ∧ ppb ≤ 1000000)) : inD d ppb = false := by simp only [inD, decide_eq_false_iff_not]; exact h
def bdD (ppb : Int) : Bool := decide (0 ≤ ppb ∧ ppb ≤ 1000000)
theorem bound_any (ppb : Int) (w : World) : Calls Tryz.prog 106 #[.int .i64 ppb] w fun e w' => e = .returned (.bool (bdD ppb)) ∧ w = w' := by
  by_cases h1 : 0 ≤ ppb
  · by_cases h2 : ppb ≤ 1000000
    · rw [show bdD ppb = true by simp [bdD, h1, h2]]
      go_enter Tryz.func106, Tryz.ntmps106
      go_wp2; go_ret; exact ⟨rfl, rfl⟩
    · rw [show bdD ppb = false by simp [bdD, h1, h2]]
      go_enter Tryz.func106, Tryz.ntmps106
      go_wp2; go_ret; exact ⟨rfl, rfl⟩
  · rw [show bdD ppb = false by simp [bdD, h1]]
    go_enter Tryz.func106, Tryz.ntmps106
    go_wp2; go_ret; exact ⟨rfl, rfl⟩
theorem in_any (d ppb : Int) (w : World) : Calls Tryz.prog 70 #[.int .i64 d, .int .i64 ppb] w fun e w' => e = .returned (.bool (inD d ppb)) ∧ w = w' := by
  by_cases h1 : 0 ≤ d
  · by_cases h2 : d ≤ 576460752303423488
    · have e1 : inD d ppb = bdD ppb := by simp [inD, bdD, h1, h2]
      rw [e1]
      go_enter Tryz.func70, Tryz.ntmps70
      go_wp2_with (go_at_call 106; refine (bound_any _ _).mono ?_; rintro e w1 ⟨rfl, rfl⟩)
      go_ret; exact ⟨rfl, rfl⟩
    · rw [inD_false (by omega)]
      go_enter Tryz.func70, Tryz.ntmps70
      go_wp2; go_ret; exact ⟨rfl, rfl⟩
  · rw [inD_false (by omega)]
    go_enter Tryz.func70, Tryz.ntmps70
    go_wp2; go_ret; exact ⟨rfl, rfl⟩

/-- The spans of Elapsed and Advance, and the errors. -/
def elLo (d ppb : Int) : Int := quo d 1000000000 (1000000000 + ppb) false
def elHi (d ppb : Int) : Int := quo d 1000000000 (1000000000 - ppb) true
def adLo (d ppb : Int) : Int := quo d (1000000000 - ppb) 1000000000 false
def adHi (d ppb : Int) : Int := quo d (1000000000 + ppb) 1000000000 true
def outV (d ppb lo hi : Int) : Value := if inD d ppb then .tuple #[.agg #[.int .i64 lo, .int .i64 hi], .int .i64 0] else .tuple #[.agg #[.int .i64 0, .int .i64 0], .int .i64 4]
theorem outV_ok {d ppb lo hi : Int} (h : inD d ppb = true) : outV d ppb lo hi = .tuple #[.agg #[.int .i64 lo, .int .i64 hi], .int .i64 0] := by unfold outV; rw [if_pos h]
theorem outV_no {d ppb lo hi : Int} (h : inD d ppb = false) : outV d ppb lo hi = .tuple #[.agg #[.int .i64 0, .int .i64 0], .int .i64 4] := by unfold outV; rw [if_neg (by rw [h]; simp)]
/-- The quotients fit by far. -/
theorem scaled_le (d b c : Int) (hd : 0 ≤ d) (hd1 : d ≤ 576460752303423488) (hb : 0 ≤ b) (hb1 : b ≤ 1001000000) (hc : 999000000 ≤ c) : 0 ≤ d * b / c ∧ d * b / c ≤ 1152921504606846976 := by
  have p0 : 0 ≤ d * b := Int.mul_nonneg hd hb
  refine ⟨Int.ediv_nonneg p0 (by omega), ?_⟩
  have p1 : d * b ≤ 576460752303423488 * 1001000000 := Int.mul_le_mul hd1 hb1 hb (by omega)
  apply Int.le_of_lt_add_one
  apply Int.ediv_lt_of_lt_mul (by omega)
  have p2 : (1152921504606846976 + 1) * 999000000 ≤ (1152921504606846976 + 1) * c := Int.mul_le_mul_of_nonneg_left hc (by omega)
  omega
/-- Quotient of numbers that are not negative, with all bounds paid. -/
theorem quot_d (d b c : Int) (up : Bool) (w : World) (hd : 0 ≤ d) (hd1 : d ≤ 576460752303423488) (hb : 0 ≤ b) (hb1 : b ≤ 1001000000) (hc : 999000000 ≤ c) (hc1 : c ≤ 1001000000) :
    Calls Tryz.prog 71 #[.int .i64 d, .int .i64 b, .int .i64 c, .bool up] w fun e w' => e = .returned (.int .i64 (quo d b c up)) ∧ ∃ n, w' = w.drewN n :=
  quotient_pos d b c up w hd (by omega) hb (by omega) (by omega) (by omega) (by have := scaled_le d b c hd hd1 hb hb1 hc; omega)


set_option maxHeartbeats 1000000 in
theorem elapsed_any (d ppb : Int) (w : World) : Calls Tryz.prog 46 #[.int .i64 d, .int .i64 ppb] w (RB w (outV d ppb (elLo d ppb) (elHi d ppb))) := by
  rcases h : inD d ppb
  · rw [outV_no h]
    go_enter Tryz.func46, Tryz.ntmps46
    go_wp2_with (go_at_call 70; refine (in_any _ _ _).mono ?_; rintro e w1 ⟨rfl, rfl⟩)
    exact bodyPost_ret (v := .tuple #[.agg #[.int .i64 0, .int .i64 0], .int .i64 4]) (by simp [results, Tryz.results46, go_sem]) rfl ⟨rfl, by (repeat' (first | (with_reducible exact Below.refl _ _) | (with_reducible refine Below.setCell ?_ ?_ _) | (with_reducible refine Below.alloc ?_ ?_ _) | (with_reducible refine Below.drew ?_) | (with_reducible refine below_drewN ?_ _))) <;> (first | omega | (simp <;> omega))⟩
  · rw [outV_ok h]
    obtain ⟨h1, h2, h3, h4⟩ := inD_true.1 h
    unfold elLo elHi
    go_enter Tryz.func46, Tryz.ntmps46
    go_wp2_with (first | (go_at_call 70; refine (in_any _ _ _).mono ?_; rintro e w1 ⟨rfl, rfl⟩) | (go_at_call 71; refine (quot_d _ _ _ _ _ (by omega) (by omega) (by omega) (by omega) (by omega) (by omega)).mono ?_; rintro e w1 ⟨rfl, n, rfl⟩))
    exact bodyPost_ret (v := .tuple #[.agg #[.int .i64 (quo d 1000000000 (1000000000 + ppb) false), .int .i64 (quo d 1000000000 (1000000000 - ppb) true)], .int .i64 0]) (by simp [results, Tryz.results46, go_sem]) rfl ⟨rfl, by (repeat' (first | (with_reducible exact Below.refl _ _) | (with_reducible refine Below.setCell ?_ ?_ _) | (with_reducible refine Below.alloc ?_ ?_ _) | (with_reducible refine Below.drew ?_) | (with_reducible refine below_drewN ?_ _))) <;> (first | omega | (simp <;> omega))⟩



end Go.Proofs.YtiinmhfolfgobaaGreatDoor
namespace Go.Proofs.YtiinmhfolfgobaaGreatDoor
open Go.RowKit

/-- Fits. -/
def fitIn (e d ppb : Int) : Prop := 0 ≤ e ∧ e ≤ 1152921504606846976 ∧ 0 ≤ d ∧ d ≤ 1152921504606846976 ∧ 0 ≤ ppb ∧ ppb ≤ 1000000
def fitsP (e d ppb : Int) : Prop := fitIn e d ppb ∧ e * (1000000000 - ppb) ≤ d * 1000000000 ∧ d * 1000000000 ≤ e * (1000000000 + ppb)
instance (e d ppb : Int) : Decidable (fitsP e d ppb) := by unfold fitsP fitIn; infer_instance
def fitsB (e d ppb : Int) : Bool := decide (fitsP e d ppb)
theorem fitsB_no {e d ppb : Int} (h : ¬ fitsP e d ppb) : fitsB e d ppb = false := by simp [fitsB, h]
theorem fitsB_yes {e d ppb : Int} (h : fitsP e d ppb) : fitsB e d ppb = true := by simp [fitsB, h]
theorem fitsB_true {e d ppb : Int} : fitsB e d ppb = true ↔ fitsP e d ppb := by simp [fitsB]

end Go.Proofs.YtiinmhfolfgobaaGreatDoor
namespace Go.Proofs.YtiinmhfolfgobaaGreatDoor
open Go.RowKit

theorem i64_or_join (a b : Nat) (s : Nat) (hb : b < 2 ^ s) (h : a * 2 ^ s + b < 9223372036854775808) : bits .or .i64 ((a * 2 ^ s : Nat) : Int) (b : Int) = ((a * 2 ^ s + b : Nat) : Int) := by
  have h1 : (BitVec.ofInt 64 ((a * 2 ^ s : Nat) : Int)).toNat = a * 2 ^ s := by
    rw [BitVec.ofInt_natCast, BitVec.toNat_ofNat]; exact Nat.mod_eq_of_lt (by omega)
  have h2 : (BitVec.ofInt 64 (b : Int)).toNat = b := by
    rw [BitVec.ofInt_natCast, BitVec.toNat_ofNat]; exact Nat.mod_eq_of_lt (by omega)
  show IntKind.i64.wrap ((BitVec.ofInt 64 ((a * 2 ^ s : Nat) : Int) ||| BitVec.ofInt 64 (b : Int)).toNat : Int) = _
  rw [BitVec.toNat_or, h1, h2]
  have := Nat.two_pow_add_eq_or_of_lt hb a
  rw [Nat.mul_comm a, ← this, Nat.mul_comm (2 ^ s)]
  exact IntWalk.i64_in _ (by omega)
theorem or31 (x y : Int) : bits .or .i64 (x % 2147483648 * 2147483648) (y % 2147483648) = x % 2147483648 * 2147483648 + y % 2147483648 := by
  obtain ⟨a, ha⟩ := Int.eq_ofNat_of_zero_le (Int.emod_nonneg x (show (2147483648 : Int) ≠ 0 by decide))
  obtain ⟨b, hb⟩ := Int.eq_ofNat_of_zero_le (Int.emod_nonneg y (show (2147483648 : Int) ≠ 0 by decide))
  have la := Int.emod_lt_of_pos x (show (0 : Int) < 2147483648 by decide)
  have lb := Int.emod_lt_of_pos y (show (0 : Int) < 2147483648 by decide)
  rw [ha, hb] at *
  have h := i64_or_join a b 31 (by omega) (by omega)
  have e1 : ((a * 2 ^ 31 : Nat) : Int) = (a : Int) * 2147483648 := by rw [Int.natCast_mul]; rfl
  have e2 : ((a * 2 ^ 31 + b : Nat) : Int) = (a : Int) * 2147483648 + b := by rw [Int.natCast_add, e1]
  rw [e1, e2] at h
  exact h
/-- The two words of 62 bits. -/
theorem words62 (p q r s : Int) (hq : 0 ≤ q) (hr : 0 ≤ r) (hs : 0 ≤ s) :
    (p * 4611686018427387904 + (q + r) * 2147483648 + s) / 4611686018427387904 = p + (q + s / 2147483648) / 2147483648 + (r + (q + s / 2147483648) % 2147483648) / 2147483648 ∧
    (p * 4611686018427387904 + (q + r) * 2147483648 + s) % 4611686018427387904 = (r + (q + s / 2147483648)) % 2147483648 * 2147483648 + s % 2147483648 := by omega
theorem prod_split (a b : Int) : a * b = (a / 2147483648 * (b / 2147483648)) * 4611686018427387904 + (a / 2147483648 * (b % 2147483648) + a % 2147483648 * (b / 2147483648)) * 2147483648 + a % 2147483648 * (b % 2147483648) := by
  have ea := Int.ediv_mul_add_emod a 2147483648
  have eb := Int.ediv_mul_add_emod b 2147483648
  generalize a / 2147483648 = a1 at *
  generalize a % 2147483648 = a0 at *
  generalize b / 2147483648 = b1 at *
  generalize b % 2147483648 = b0 at *
  subst ea eb
  rw [Int.add_mul, Int.mul_add, Int.mul_add, Int.add_mul]
  have k1 : a1 * 2147483648 * (b1 * 2147483648) = a1 * b1 * 4611686018427387904 := by rw [Int.mul_assoc, Int.mul_comm 2147483648 (b1 * 2147483648), Int.mul_assoc b1, ← Int.mul_assoc]; rfl
  have k2 : a1 * 2147483648 * b0 = a1 * b0 * 2147483648 := by rw [Int.mul_assoc, Int.mul_comm 2147483648, ← Int.mul_assoc]
  have k3 : a0 * (b1 * 2147483648) = a0 * b1 * 2147483648 := by rw [← Int.mul_assoc]
  rw [k1, k2, k3]; omega

set_option maxHeartbeats 1000000 in
theorem product_any (a b : Int) (w : World) (ha : 0 ≤ a) (ha1 : a ≤ 2305843009213693951) (hb : 0 ≤ b) (hb1 : b ≤ 2305843009213693951) :
    Calls Tryz.prog 181 #[.int .i64 a, .int .i64 b] w fun e w' => e = .returned (.tuple #[.int .i64 (a * b / 4611686018427387904), .int .i64 (a * b % 4611686018427387904)]) ∧ w = w' := by
  have m31 : ∀ x, bits .and .i64 x 2147483647 = x % 2147483648 := fun x => i64_mask x 31 (by decide)
  have j31 := or31
  have a10 : 0 ≤ a / 2147483648 := by omega
  have a11 : a / 2147483648 ≤ 1073741823 := by omega
  have b10 : 0 ≤ b / 2147483648 := by omega
  have b11 : b / 2147483648 ≤ 1073741823 := by omega
  have a00 := Int.emod_nonneg a (show (2147483648 : Int) ≠ 0 by decide)
  have a01 := Int.emod_lt_of_pos a (show (0 : Int) < 2147483648 by decide)
  have b00 := Int.emod_nonneg b (show (2147483648 : Int) ≠ 0 by decide)
  have b01 := Int.emod_lt_of_pos b (show (0 : Int) < 2147483648 by decide)
  have p0 : 0 ≤ a / 2147483648 * (b / 2147483648) := Int.mul_nonneg a10 b10
  have p1 : a / 2147483648 * (b / 2147483648) ≤ 1073741823 * 1073741823 := Int.mul_le_mul a11 b11 b10 (by omega)
  have q0 : 0 ≤ a / 2147483648 * (b % 2147483648) := Int.mul_nonneg a10 b00
  have q1 : a / 2147483648 * (b % 2147483648) ≤ 1073741823 * 2147483647 := Int.mul_le_mul a11 (by omega) b00 (by omega)
  have r0 : 0 ≤ a % 2147483648 * (b / 2147483648) := Int.mul_nonneg a00 b10
  have r1 : a % 2147483648 * (b / 2147483648) ≤ 2147483647 * 1073741823 := Int.mul_le_mul (by omega) b11 b10 (by omega)
  have s0 : 0 ≤ a % 2147483648 * (b % 2147483648) := Int.mul_nonneg a00 b00
  have s1 : a % 2147483648 * (b % 2147483648) ≤ 2147483647 * 2147483647 := Int.mul_le_mul (by omega) (by omega) b00 (by omega)
  have fin := words62 (a / 2147483648 * (b / 2147483648)) _ _ _ q0 r0 s0
  rw [← prod_split] at fin
  have F := Lib.hid fin; clear fin
  go_enter Tryz.func181, Tryz.ntmps181
  go_wp2
  go_ret2
  exact ⟨by rw [F.out.1, F.out.2]; rfl, rfl⟩

theorem words_le (x y : Int) : (x ≤ y) ↔ (x / 4611686018427387904 < y / 4611686018427387904 ∨ (x / 4611686018427387904 = y / 4611686018427387904 ∧ x % 4611686018427387904 ≤ y % 4611686018427387904)) := by omega
set_option maxHeartbeats 1000000 in
theorem atMost_core (a b c d x1 x0 y1 y0 : Int) (w : World)
    (R1 : Hid (∀ W, Calls Tryz.prog 181 #[.int .i64 a, .int .i64 b] W fun e w' => e = .returned (.tuple #[.int .i64 x1, .int .i64 x0]) ∧ W = w'))
    (R2 : Hid (∀ W, Calls Tryz.prog 181 #[.int .i64 c, .int .i64 d] W fun e w' => e = .returned (.tuple #[.int .i64 y1, .int .i64 y0]) ∧ W = w')) :
    Calls Tryz.prog 143 #[.int .i64 a, .int .i64 b, .int .i64 c, .int .i64 d] w fun e w' => e = .returned (.bool (decide (x1 < y1 ∨ (x1 = y1 ∧ x0 ≤ y0)))) ∧ w = w' := by
  by_cases h1 : x1 < y1
  · rw [decide_eq_true (.inl h1)]
    go_enter Tryz.func143, Tryz.ntmps143
    go_wp2_with (fail)
    refine (R1.out _).mono ?_
    rintro e w1 ⟨rfl, rfl⟩
    go_wp2_with (fail)
    refine (R2.out _).mono ?_
    rintro e w1 ⟨rfl, rfl⟩
    go_wp2
    go_ret; exact ⟨rfl, rfl⟩
  · by_cases h2 : x1 = y1
    · subst h2
      have h2' : (x1 == x1) = true := by simp
      by_cases h3 : x0 ≤ y0
      · rw [decide_eq_true (.inr ⟨rfl, h3⟩)]
        go_enter Tryz.func143, Tryz.ntmps143
        go_wp2_with (fail)
        refine (R1.out _).mono ?_
        rintro e w1 ⟨rfl, rfl⟩
        go_wp2_with (fail)
        refine (R2.out _).mono ?_
        rintro e w1 ⟨rfl, rfl⟩
        go_wp2
        go_ret; exact ⟨rfl, rfl⟩
      · rw [decide_eq_false (by omega)]
        go_enter Tryz.func143, Tryz.ntmps143
        go_wp2_with (fail)
        refine (R1.out _).mono ?_
        rintro e w1 ⟨rfl, rfl⟩
        go_wp2_with (fail)
        refine (R2.out _).mono ?_
        rintro e w1 ⟨rfl, rfl⟩
        go_wp2
        go_ret; exact ⟨by simp; omega, rfl⟩
    · rw [decide_eq_false (by omega)]
      have h2' : (x1 == y1) = false := by simp [h2]
      clear h2
      go_enter Tryz.func143, Tryz.ntmps143
      go_wp2_with (fail)
      refine (R1.out _).mono ?_
      rintro e w1 ⟨rfl, rfl⟩
      go_wp2_with (fail)
      refine (R2.out _).mono ?_
      rintro e w1 ⟨rfl, rfl⟩
      go_wp2
      go_ret; exact ⟨by simp; omega, rfl⟩
theorem atMost_any (a b c d : Int) (w : World) (ha : 0 ≤ a) (ha1 : a ≤ 2305843009213693951) (hb : 0 ≤ b) (hb1 : b ≤ 2305843009213693951) (hc : 0 ≤ c) (hc1 : c ≤ 2305843009213693951) (hd : 0 ≤ d) (hd1 : d ≤ 2305843009213693951) :
    Calls Tryz.prog 143 #[.int .i64 a, .int .i64 b, .int .i64 c, .int .i64 d] w fun e w' => e = .returned (.bool (decide (a * b ≤ c * d))) ∧ w = w' := by
  have k := atMost_core a b c d _ _ _ _ w (fun W => product_any a b W ha ha1 hb hb1) (fun W => product_any c d W hc hc1 hd hd1)
  rwa [decide_eq_decide.2 (words_le (a * b) (c * d)).symm] at k

theorem rfits_out (e d ppb : Int) (w : World) (h : ¬ fitIn e d ppb) : Calls Tryz.prog 105 #[.int .i64 e, .int .i64 d, .int .i64 ppb] w fun e w' => e = .returned (.bool false) ∧ w = w' := by
  unfold fitIn at h
  by_cases h1 : e < 0
  · clear h; go_enter Tryz.func105, Tryz.ntmps105
    go_wp2; go_ret; exact ⟨rfl, rfl⟩
  have h1' : decide (e < 0) = false := by simpa using h1
  by_cases h2 : 1152921504606846976 < e
  · clear h; go_enter Tryz.func105, Tryz.ntmps105
    go_wp2; go_ret; exact ⟨rfl, rfl⟩
  have h2' : decide (1152921504606846976 < e) = false := by simpa using h2
  by_cases h3 : d < 0
  · clear h; go_enter Tryz.func105, Tryz.ntmps105
    go_wp2; go_ret; exact ⟨rfl, rfl⟩
  have h3' : decide (d < 0) = false := by simpa using h3
  by_cases h4 : 1152921504606846976 < d
  · clear h; go_enter Tryz.func105, Tryz.ntmps105
    go_wp2; go_ret; exact ⟨rfl, rfl⟩
  have h4' : decide (1152921504606846976 < d) = false := by simpa using h4
  by_cases h5 : ppb < 0
  · clear h; go_enter Tryz.func105, Tryz.ntmps105
    go_wp2; go_ret; exact ⟨rfl, rfl⟩
  have h5' : decide (ppb < 0) = false := by simpa using h5
  have h6 : 1000000 < ppb := by omega
  clear h; go_enter Tryz.func105, Tryz.ntmps105
  go_wp2; go_ret; exact ⟨rfl, rfl⟩
set_option maxHeartbeats 1000000 in
theorem rfits_in (e d ppb : Int) (w : World) (h : fitIn e d ppb) : Calls Tryz.prog 105 #[.int .i64 e, .int .i64 d, .int .i64 ppb] w fun x w' => x = .returned (.bool (fitsB e d ppb)) ∧ w = w' := by
  obtain ⟨k1, k2, k3, k4, k5, k6⟩ := id h
  have h1' : decide (e < 0) = false := by simp; omega
  have h2' : decide (1152921504606846976 < e) = false := by simp; omega
  have h3' : decide (d < 0) = false := by simp; omega
  have h4' : decide (1152921504606846976 < d) = false := by simp; omega
  have h5' : decide (ppb < 0) = false := by simp; omega
  have h6' : decide (1000000 < ppb) = false := by simp; omega
  have arm1 := Lib.hid (fun W => atMost_any e (1000000000 - ppb) d 1000000000 W k1 (by omega) (by omega) (by omega) k3 (by omega) (by omega) (by omega))
  have arm2 := Lib.hid (fun W => atMost_any d 1000000000 e (1000000000 + ppb) W k3 (by omega) (by omega) (by omega) k1 (by omega) (by omega) (by omega))
  by_cases c1 : e * (1000000000 - ppb) ≤ d * 1000000000
  · rw [decide_eq_true c1] at arm1
    by_cases c2 : d * 1000000000 ≤ e * (1000000000 + ppb)
    · rw [fitsB_yes ⟨h, c1, c2⟩]
      rw [decide_eq_true c2] at arm2
      clear c1 c2 h
      go_enter Tryz.func105, Tryz.ntmps105
      go_wp2_with fail
      refine (arm1.out _).mono ?_
      rintro e w1 ⟨rfl, rfl⟩
      go_wp2_with fail
      refine (arm2.out _).mono ?_
      rintro e w1 ⟨rfl, rfl⟩
      go_wp2
      go_ret
      exact ⟨rfl, rfl⟩
    · rw [fitsB_no (fun k => c2 k.2.2)]
      rw [decide_eq_false c2] at arm2
      clear c1 c2 h
      go_enter Tryz.func105, Tryz.ntmps105
      go_wp2_with fail
      refine (arm1.out _).mono ?_
      rintro e w1 ⟨rfl, rfl⟩
      go_wp2_with fail
      refine (arm2.out _).mono ?_
      rintro e w1 ⟨rfl, rfl⟩
      go_wp2
      go_ret
      exact ⟨rfl, rfl⟩
  · rw [fitsB_no (fun k => c1 k.2.1)]
    rw [decide_eq_false c1] at arm1
    clear c1 h
    go_enter Tryz.func105, Tryz.ntmps105
    go_wp2_with fail
    refine (arm1.out _).mono ?_
    rintro e w1 ⟨rfl, rfl⟩
    go_wp2
    go_ret
    exact ⟨rfl, rfl⟩
theorem rfits_any (e d ppb : Int) (w : World) : Calls Tryz.prog 105 #[.int .i64 e, .int .i64 d, .int .i64 ppb] w fun x w' => x = .returned (.bool (fitsB e d ppb)) ∧ w = w' := by
  by_cases h : fitIn e d ppb
  · exact rfits_in e d ppb w h
  · rw [fitsB_no (fun k => h k.1)]; exact rfits_out e d ppb w h
end Go.Proofs.YtiinmhfolfgobaaGreatDoor
namespace Go.Proofs.YtiinmhfolfgobaaGreatDoor
open Go.RowKit

theorem rin_any (d ppb : Int) (w : World) : Calls Tryz.prog 63 #[.int .i64 d, .int .i64 ppb] w fun e w' => e = .returned (.bool (inD d ppb)) ∧ w = w' := by
  by_cases h1 : 0 ≤ d
  · by_cases h2 : d ≤ 576460752303423488
    · by_cases h3 : 0 ≤ ppb
      · by_cases h4 : ppb ≤ 1000000
        · rw [inD_true.2 ⟨h1, h2, h3, h4⟩]
          go_enter Tryz.func63, Tryz.ntmps63
          go_wp2; go_ret; exact ⟨rfl, rfl⟩
        · rw [inD_false (by omega)]
          go_enter Tryz.func63, Tryz.ntmps63
          go_wp2; go_ret; exact ⟨rfl, rfl⟩
      · rw [inD_false (by omega)]
        go_enter Tryz.func63, Tryz.ntmps63
        go_wp2; go_ret; exact ⟨rfl, rfl⟩
    · rw [inD_false (by omega)]
      go_enter Tryz.func63, Tryz.ntmps63
      go_wp2; go_ret; exact ⟨rfl, rfl⟩
  · rw [inD_false (by omega)]
    go_enter Tryz.func63, Tryz.ntmps63
    go_wp2; go_ret; exact ⟨rfl, rfl⟩

/-- The reference's ratio: the quotient and the remainder are multiplied one by one. -/
theorem ratio_any (a b c : Int) (up : Bool) (w : World) (hd : 0 ≤ a) (hd1 : a ≤ 576460752303423488) (hb : 0 ≤ b) (hb1 : b ≤ 1001000000) (hc : 999000000 ≤ c) (hc1 : c ≤ 1001000000) :
    Calls Tryz.prog 64 #[.int .i64 a, .int .i64 b, .int .i64 c, .bool up] w fun e w' => e = .returned (.int .i64 (quo a b c up)) ∧ ∃ n, w' = w.drewN n := by
  have e := Int.ediv_mul_add_emod a c
  have r0 := Int.emod_nonneg a (show c ≠ 0 by omega)
  have r1 := Int.emod_lt_of_pos a (show 0 < c by omega)
  have q0 : 0 ≤ a / c := Int.ediv_nonneg hd (by omega)
  have q1 : 0 ≤ a / c * c := Int.mul_nonneg q0 (by omega)
  have q2 : a - a / c * c = a % c := by omega
  have k1 : a / c * 999000000 ≤ a / c * c := Int.mul_le_mul_of_nonneg_left hc q0
  have k2 : a / c ≤ 577037790 := by omega
  have m0 : 0 ≤ a % c * b := Int.mul_nonneg r0 hb
  have m1 : a % c * b ≤ 1001000000 * 1001000000 := Int.mul_le_mul (by omega) hb1 hb (by omega)
  have n0 : 0 ≤ a / c * b := Int.mul_nonneg q0 hb
  have n1 : a / c * b ≤ 577037790 * 1001000000 := Int.mul_le_mul k2 hb1 hb (by omega)
  have eq1 : quo a b c up = a / c * b + rnd (a % c * b) c up := by
    rw [quo_rnd, ← rnd_add _ _ _ _ (by omega)]
    congr 1
    have : a / c * b * c = a / c * c * b := by rw [Int.mul_assoc, Int.mul_comm b, ← Int.mul_assoc]
    rw [this, ← Int.add_mul]
    congr 1; omega
  have hi := ediv_in (a % c * b) c (by omega) (by omega) (by omega)
  have d1 : a % c * b / c ≤ 1002001 * 1000000 := by
    apply Int.le_of_lt_add_one; apply Int.ediv_lt_of_lt_mul (by omega)
    have : (1002001 * 1000000 + 1) * 999000000 ≤ (1002001 * 1000000 + 1) * c := Int.mul_le_mul_of_nonneg_left hc (by omega)
    omega
  have rb : -1 ≤ rnd (a % c * b) c up ∧ rnd (a % c * b) c up ≤ 1002001 * 1000000 + 1 := by
    have d0 : 0 ≤ a % c * b / c := Int.ediv_nonneg m0 (by omega)
    cases up
    · show -1 ≤ a % c * b / c ∧ a % c * b / c ≤ _; omega
    · rw [rnd_up _ _ (by omega)]; split <;> omega
  have E := Lib.hid eq1
  clear e k1 k2 eq1
  go_enter Tryz.func64, Tryz.ntmps64
  go_wp2_with (go_at_call 102; refine (rounded_any _ _ _ _ (by omega) (by omega) (by omega) (by omega) (by omega)).mono ?_; rintro e w1 ⟨rfl, rfl⟩)
  go_ret
  exact ⟨by rw [E.out]; rfl, 0, rfl⟩


set_option maxHeartbeats 1000000 in
theorem radvance_any (d ppb : Int) (w : World) : Calls Tryz.prog 104 #[.int .i64 d, .int .i64 ppb] w (RB w (outV d ppb (adLo d ppb) (adHi d ppb))) := by
  rcases h : inD d ppb
  · rw [outV_no h]
    go_enter Tryz.func104, Tryz.ntmps104
    go_wp2_with (go_at_call 63; refine (rin_any _ _ _).mono ?_; rintro e w1 ⟨rfl, rfl⟩)
    exact bodyPost_ret (v := .tuple #[.agg #[.int .i64 0, .int .i64 0], .int .i64 4]) (by simp [results, Tryz.results104, go_sem]) rfl ⟨rfl, by (repeat' (first | (with_reducible exact Below.refl _ _) | (with_reducible refine Below.setCell ?_ ?_ _) | (with_reducible refine Below.alloc ?_ ?_ _) | (with_reducible refine Below.drew ?_) | (with_reducible refine below_drewN ?_ _))) <;> (first | omega | (simp <;> omega))⟩
  · rw [outV_ok h]
    obtain ⟨h1, h2, h3, h4⟩ := inD_true.1 h
    unfold adLo adHi
    go_enter Tryz.func104, Tryz.ntmps104
    go_wp2_with (first | (go_at_call 63; refine (rin_any _ _ _).mono ?_; rintro e w1 ⟨rfl, rfl⟩) | (go_at_call 64; refine (ratio_any _ _ _ _ _ (by omega) (by omega) (by omega) (by omega) (by omega) (by omega)).mono ?_; rintro e w1 ⟨rfl, n, rfl⟩))
    exact bodyPost_ret (v := .tuple #[.agg #[.int .i64 (quo d (1000000000 - ppb) 1000000000 false), .int .i64 (quo d (1000000000 + ppb) 1000000000 true)], .int .i64 0]) (by simp [results, Tryz.results104, go_sem]) rfl ⟨rfl, by (repeat' (first | (with_reducible exact Below.refl _ _) | (with_reducible refine Below.setCell ?_ ?_ _) | (with_reducible refine Below.alloc ?_ ?_ _) | (with_reducible refine Below.drew ?_) | (with_reducible refine below_drewN ?_ _))) <;> (first | omega | (simp <;> omega))⟩

end Go.Proofs.YtiinmhfolfgobaaGreatDoor
