/- Walks: the reference's drift: in, ratio, Elapsed, Advance. -/
import Derived.Test.YtlnboheahbfgfaaGreatJ17
namespace Go.Proofs.YtlnboheahbfgfaaGreat
open Go.RowKit

theorem rin_any (d ppb : Int) (w : World) : Calls Tryz.prog 148 #[.int .i64 d, .int .i64 ppb] w fun e w' => e = .returned (.bool (inD d ppb)) ∧ w = w' := by
 by_cases h1 : 0 ≤ d
 ·by_cases h2 : d ≤ 576460752303423488
  ·by_cases h3 : 0 ≤ ppb
   ·by_cases h4 : ppb ≤ 1000000
    ·rw [inD_true.2 ⟨h1, h2, h3, h4⟩]
     go_enter Tryz.func148, Tryz.ntmps148
     go_wp2; go_ret; exact ⟨rfl, rfl⟩
    ·rw [inD_false (by omega)]
     go_enter Tryz.func148, Tryz.ntmps148
     go_wp2; go_ret; exact ⟨rfl, rfl⟩
   ·rw [inD_false (by omega)]
    go_enter Tryz.func148, Tryz.ntmps148
    go_wp2; go_ret; exact ⟨rfl, rfl⟩
  ·rw [inD_false (by omega)]
   go_enter Tryz.func148, Tryz.ntmps148
   go_wp2; go_ret; exact ⟨rfl, rfl⟩
 ·rw [inD_false (by omega)]
  go_enter Tryz.func148, Tryz.ntmps148
  go_wp2; go_ret; exact ⟨rfl, rfl⟩

theorem ratio_any (a b c : Int) (up : Bool) (w : World) (hd : 0 ≤ a) (hd1 : a ≤ 576460752303423488) (hb : 0 ≤ b) (hb1 : b ≤ 1001000000) (hc : 999000000 ≤ c) (hc1 : c ≤ 1001000000) :
  Calls Tryz.prog 149 #[.int .i64 a, .int .i64 b, .int .i64 c, .bool up] w fun e w' => e = .returned (.int .i64 (quo a b c up)) ∧ ∃ n, w' = w.drewN n := by
 have e := Int.ediv_mul_add_emod a c
 have r0 := Int.emod_nonneg a (show c ≠ 0 by omega)
 have r1 := Int.emod_lt_of_pos a (show 0 < c by omega)
 have q0 : 0 ≤ a / c := Int.ediv_nonneg hd (by omega)
 have q1 : 0 ≤ a / c * c := Int.mul_nonneg q0 (by omega)
 have q2 : a - a / c * c = a % c := by omega
 have k1 : a / c * 999000000 ≤ a / c * c := Int.mul_le_mul_of_nonneg_left hc q0
 have k2 : a / c ≤ 577037790 := by omega
 have m0 : 0 ≤ a % c * b := Int.mul_nonneg r0 hb
 have m1 : a % c * b ≤ 1001000000 * 1001000000 := Int.mul_le_mul (by omega) hb1 hb (by omega)
 have n0 : 0 ≤ a / c * b := Int.mul_nonneg q0 hb
 have n1 : a / c * b ≤ 577037790 * 1001000000 := Int.mul_le_mul k2 hb1 hb (by omega)
 have eq1 : quo a b c up = a / c * b + rnd (a % c * b) c up := by
  rw [quo_rnd, ← rnd_add _ _ _ _ (by omega)]
  congr 1
  have : a / c * b * c = a / c * c * b := by rw [Int.mul_assoc, Int.mul_comm b, ← Int.mul_assoc]
  rw [this, ← Int.add_mul]
  congr 1; omega
 have hi := ediv_in (a % c * b) c (by omega) (by omega) (by omega)
 have d1 : a % c * b / c ≤ 1002001 * 1000000 := by
  apply Int.le_of_lt_add_one; apply Int.ediv_lt_of_lt_mul (by omega)
  have : (1002001 * 1000000 + 1) * 999000000 ≤ (1002001 * 1000000 + 1) * c := Int.mul_le_mul_of_nonneg_left hc (by omega)
  omega
 have rb : -1 ≤ rnd (a % c * b) c up ∧ rnd (a % c * b) c up ≤ 1002001 * 1000000 + 1 := by
  have d0 : 0 ≤ a % c * b / c := Int.ediv_nonneg m0 (by omega)
  cases up
  ·show -1 ≤ a % c * b / c ∧ a % c * b / c ≤ _; omega
  ·rw [rnd_up _ _ (by omega)]; split <;> omega
 have E := Lib.hid eq1
 clear e k1 k2 eq1
 go_enter Tryz.func149, Tryz.ntmps149
 go_wp2_with (go_at_call 162; refine (rounded_any _ _ _ _ (by omega) (by omega) (by omega) (by omega) (by omega)).mono ?_; rintro e w1 ⟨rfl, rfl⟩)
 go_ret
 exact ⟨by rw [E.out]; rfl, 0, rfl⟩


set_option maxHeartbeats 1000000 in
theorem relapsed_any (d ppb : Int) (w : World) : Calls Tryz.prog 130 #[.int .i64 d, .int .i64 ppb] w (RB w (outV d ppb (elLo d ppb) (elHi d ppb))) := by
 rcases h : inD d ppb
 ·rw [outV_no h]
  go_enter Tryz.func130, Tryz.ntmps130
  go_wp2_with (go_at_call 148; refine (rin_any _ _ _).mono ?_; rintro e w1 ⟨rfl, rfl⟩)
  exact bodyPost_ret (v := .tuple #[.agg #[.int .i64 0, .int .i64 0], .int .i64 4]) (by simp [results, Tryz.results130, go_sem]) rfl ⟨rfl, by (repeat' (first | (with_reducible exact Below.refl _ _) | (with_reducible refine Below.setCell ?_ ?_ _) | (with_reducible refine Below.alloc ?_ ?_ _) | (with_reducible refine Below.drew ?_) | (with_reducible refine below_drewN ?_ _))) <;> (first | omega | (simp <;> omega))⟩
 ·rw [outV_ok h]
  obtain ⟨h1, h2, h3, h4⟩ := inD_true.1 h
  unfold elLo elHi
  go_enter Tryz.func130, Tryz.ntmps130
  go_wp2_with (first | (go_at_call 148; refine (rin_any _ _ _).mono ?_; rintro e w1 ⟨rfl, rfl⟩) | (go_at_call 149; refine (ratio_any _ _ _ _ _ (by omega) (by omega) (by omega) (by omega) (by omega) (by omega)).mono ?_; rintro e w1 ⟨rfl, n, rfl⟩))
  exact bodyPost_ret (v := .tuple #[.agg #[.int .i64 (quo d 1000000000 (1000000000 + ppb) false), .int .i64 (quo d 1000000000 (1000000000 - ppb) true)], .int .i64 0]) (by simp [results, Tryz.results130, go_sem]) rfl ⟨rfl, by (repeat' (first | (with_reducible exact Below.refl _ _) | (with_reducible refine Below.setCell ?_ ?_ _) | (with_reducible refine Below.alloc ?_ ?_ _) | (with_reducible refine Below.drew ?_) | (with_reducible refine below_drewN ?_ _))) <;> (first | omega | (simp <;> omega))⟩


set_option maxHeartbeats 1000000 in
theorem radvance_any (d ppb : Int) (w : World) : Calls Tryz.prog 125 #[.int .i64 d, .int .i64 ppb] w (RB w (outV d ppb (adLo d ppb) (adHi d ppb))) := by
 rcases h : inD d ppb
 ·rw [outV_no h]
  go_enter Tryz.func125, Tryz.ntmps125
  go_wp2_with (go_at_call 148; refine (rin_any _ _ _).mono ?_; rintro e w1 ⟨rfl, rfl⟩)
  exact bodyPost_ret (v := .tuple #[.agg #[.int .i64 0, .int .i64 0], .int .i64 4]) (by simp [results, Tryz.results125, go_sem]) rfl ⟨rfl, by (repeat' (first | (with_reducible exact Below.refl _ _) | (with_reducible refine Below.setCell ?_ ?_ _) | (with_reducible refine Below.alloc ?_ ?_ _) | (with_reducible refine Below.drew ?_) | (with_reducible refine below_drewN ?_ _))) <;> (first | omega | (simp <;> omega))⟩
 ·rw [outV_ok h]
  obtain ⟨h1, h2, h3, h4⟩ := inD_true.1 h
  unfold adLo adHi
  go_enter Tryz.func125, Tryz.ntmps125
  go_wp2_with (first | (go_at_call 148; refine (rin_any _ _ _).mono ?_; rintro e w1 ⟨rfl, rfl⟩) | (go_at_call 149; refine (ratio_any _ _ _ _ _ (by omega) (by omega) (by omega) (by omega) (by omega) (by omega)).mono ?_; rintro e w1 ⟨rfl, n, rfl⟩))
  exact bodyPost_ret (v := .tuple #[.agg #[.int .i64 (quo d (1000000000 - ppb) 1000000000 false), .int .i64 (quo d (1000000000 + ppb) 1000000000 true)], .int .i64 0]) (by simp [results, Tryz.results125, go_sem]) rfl ⟨rfl, by (repeat' (first | (with_reducible exact Below.refl _ _) | (with_reducible refine Below.setCell ?_ ?_ _) | (with_reducible refine Below.alloc ?_ ?_ _) | (with_reducible refine Below.drew ?_) | (with_reducible refine below_drewN ?_ _))) <;> (first | omega | (simp <;> omega))⟩

end Go.Proofs.YtlnboheahbfgfaaGreat
