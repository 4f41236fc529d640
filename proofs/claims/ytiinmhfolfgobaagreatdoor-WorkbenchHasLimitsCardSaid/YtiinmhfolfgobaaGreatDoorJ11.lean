/- Texts joined: Num, R11, I11 -/
import Derived.Test.YtiinmhfolfgobaaGreatDoorJ6
namespace Go.Proofs.YtiinmhfolfgobaaGreatDoor
open Go.RowKit

/-- An instant or a duration. -/
def vT (t : Int) : Bool := decide (-1152921504606846976 ≤ t ∧ t ≤ 1152921504606846976)
theorem vT_true {t : Int} : vT t = true ↔ -1152921504606846976 ≤ t ∧ t ≤ 1152921504606846976 := by simp [vT]
theorem vT_false {t : Int} : vT t = false ↔ t < -1152921504606846976 ∨ 1152921504606846976 < t := by simp [vT]; omega
/-- A span. -/
def vS (lo hi : Int) : Bool := vT lo && vT hi && decide (lo ≤ hi)
theorem vS_true {lo hi : Int} : vS lo hi = true ↔ (-1152921504606846976 ≤ lo ∧ lo ≤ hi ∧ hi ≤ 1152921504606846976) := by simp [vS, vT]; omega

theorem tvalid_any (t : Int) (w : World) : Calls Tryz.prog 47 #[.int .i64 t] w fun e w' => e = .returned (.bool (vT t)) ∧ w = w' := by
  by_cases h1 : -1152921504606846976 ≤ t
  · by_cases h2 : t ≤ 1152921504606846976
    · rw [vT_true.2 ⟨h1, h2⟩]
      go_enter Tryz.func47, Tryz.ntmps47
      go_wp2; go_ret; exact ⟨rfl, rfl⟩
    · rw [vT_false.2 (.inr (by omega))]
      go_enter Tryz.func47, Tryz.ntmps47
      go_wp2; go_ret; exact ⟨rfl, rfl⟩
  · rw [vT_false.2 (.inl (by omega))]
    go_enter Tryz.func47, Tryz.ntmps47
    go_wp2; go_ret; exact ⟨rfl, rfl⟩
/-- A span's check lays one block. -/
theorem svalid_any (lo hi : Int) (w : World) : Calls Tryz.prog 50 #[.agg #[.int .i64 lo, .int .i64 hi]] w fun e w' => e = .returned (.bool (vS lo hi)) ∧ w' = w.alloc (.cells #[.int .i64 lo, .int .i64 hi] 40) := by
  have hs : vS lo hi = (vT lo && vT hi && decide (lo ≤ hi)) := rfl
  rcases h1 : vT lo
  · rw [hs, h1]
    go_enter Tryz.func50, Tryz.ntmps50
    go_wp2_with (go_at_call 47; refine (tvalid_any _ _).mono ?_; rintro e w1 ⟨rfl, rfl⟩)
    go_ret; exact ⟨rfl, rfl⟩
  · rcases h2 : vT hi
    · rw [hs, h1, h2]
      go_enter Tryz.func50, Tryz.ntmps50
      go_wp2_with (go_at_call 47; refine (tvalid_any _ _).mono ?_; rintro e w1 ⟨rfl, rfl⟩)
      go_ret; exact ⟨rfl, rfl⟩
    · rw [hs, h1, h2]
      go_enter Tryz.func50, Tryz.ntmps50
      go_wp2_with (go_at_call 47; refine (tvalid_any _ _).mono ?_; rintro e w1 ⟨rfl, rfl⟩)
      go_ret; exact ⟨by simp, rfl⟩
/-- The width. -/
def wid (lo hi : Int) : Int := if vS lo hi then hi - lo else 0
theorem width_any (lo hi : Int) (w : World) : Calls Tryz.prog 196 #[.agg #[.int .i64 lo, .int .i64 hi]] w fun e w' => e = .returned (.int .i64 (wid lo hi)) ∧ Below w.heap.size w w' := by
  rcases h : vS lo hi
  · have e1 : wid lo hi = 0 := by unfold wid; rw [h]; rfl
    rw [e1]
    go_enter Tryz.func196, Tryz.ntmps196
    go_wp2_with (go_at_call 50; refine (svalid_any _ _ _).mono ?_; rintro e w1 ⟨rfl, rfl⟩)
    go_ret; exact ⟨rfl, ((Below.refl _ _).alloc (Nat.le_refl _) _).alloc (by simp) _⟩
  · have e1 : wid lo hi = hi - lo := by unfold wid; rw [h]; rfl
    have b := vS_true.1 h
    rw [e1]
    go_enter Tryz.func196, Tryz.ntmps196
    go_wp2_with (go_at_call 50; refine (svalid_any _ _ _).mono ?_; rintro e w1 ⟨rfl, rfl⟩)
    go_ret; exact ⟨rfl, ((Below.refl _ _).alloc (Nat.le_refl _) _).alloc (by simp) _⟩
/-- wide.Down. -/
theorem wdown_any (a b c : Int) (w : World) (ha : 0 ≤ a) (ha1 : a ≤ 9223372036854775807) (hb : 0 ≤ b) (hb1 : b ≤ 9223372036854775807) (hc : 0 < c) (hc1 : c ≤ 9223372036854775807) (hq : a * b / c ≤ 9223372036854775807) :
    Calls Tryz.prog 168 #[.int .i64 a, .int .i64 b, .int .i64 c] w fun e w' => e = .returned (.int .i64 (a * b / c)) ∧ ∃ n, w' = w.drewN n := by
  have p0 : 0 ≤ a * b := Int.mul_nonneg ha hb
  have q0 : 0 ≤ a * b / c := Int.ediv_nonneg p0 (by omega)
  have p1 : a * b < (a * b / c + 1) * c := by
    have := Int.lt_ediv_add_one_mul_self (a * b) hc
    exact this
  have p2 : (a * b / c + 1) * c ≤ 9223372036854775808 * c := Int.mul_le_mul_of_nonneg_right (by omega) (by omega)
  have p3 : a * b / 18446744073709551616 < c := by omega
  have p4 : 0 ≤ a * b / 18446744073709551616 := by omega
  have p5 : 0 ≤ a * b % 18446744073709551616 ∧ a * b % 18446744073709551616 < 18446744073709551616 := by omega
  have p6 : a * b / 18446744073709551616 * 18446744073709551616 + a * b % 18446744073709551616 = a * b := by omega
  have H6 := Lib.hid p6; clear p6
  clear p1 p2
  go_enter Tryz.func168, Tryz.ntmps168
  go_wp2_with fail
  refine (mul64_any a b ha hb (by omega) (by omega) _).mono ?_
  rintro e w1 ⟨rfl, rfl⟩
  go_wp2_with fail
  refine (div64_any _ _ c p4 p3 p5.1 p5.2 (by omega) _).mono ?_
  rintro e w1 ⟨rfl, n, rfl⟩
  rw [H6.out]
  go_wp2
  go_ret
  exact ⟨rfl, n, rfl⟩
end Go.Proofs.YtiinmhfolfgobaaGreatDoor
namespace Go.Proofs.YtiinmhfolfgobaaGreatDoor
open Go.RowKit

/-- A span that was made, or ErrRange. -/
def mkS (lo hi : Int) : Value := if vS lo hi then .tuple #[.agg #[.int .i64 lo, .int .i64 hi], .int .i64 0] else .tuple #[.agg #[.int .i64 0, .int .i64 0], .int .i64 4]
theorem mkS_ok {lo hi : Int} (h : vS lo hi = true) : mkS lo hi = .tuple #[.agg #[.int .i64 lo, .int .i64 hi], .int .i64 0] := by unfold mkS; rw [if_pos h]
theorem mkS_no {lo hi : Int} (h : vS lo hi = false) : mkS lo hi = .tuple #[.agg #[.int .i64 0, .int .i64 0], .int .i64 4] := by unfold mkS; rw [if_neg (by rw [h]; simp)]
theorem mkS_form (lo hi : Int) : ∃ x y e, mkS lo hi = .tuple #[.agg #[.int .i64 x, .int .i64 y], .int .i64 e] := by
  unfold mkS; split <;> exact ⟨_, _, _, rfl⟩

/-- A span holds an instant; a span lies inside of another; what two spans have in common. -/
def hdB (lo hi t : Int) : Bool := vS lo hi && (decide (lo ≤ t) && decide (t ≤ hi))
def mtB (a b c d : Int) : Bool := vS a b && (vS c d && decide (max a c ≤ min b d))
def mtLo (a b c d : Int) : Int := if mtB a b c d then max a c else 0
def mtHi (a b c d : Int) : Int := if mtB a b c d then min b d else 0
theorem mtLo_yes {a b c d : Int} (h : mtB a b c d = true) : mtLo a b c d = max a c := by unfold mtLo; rw [if_pos h]
theorem mtHi_yes {a b c d : Int} (h : mtB a b c d = true) : mtHi a b c d = min b d := by unfold mtHi; rw [if_pos h]
theorem mtLo_no {a b c d : Int} (h : mtB a b c d = false) : mtLo a b c d = 0 := by unfold mtLo; rw [if_neg (by rw [h]; simp)]
theorem mtHi_no {a b c d : Int} (h : mtB a b c d = false) : mtHi a b c d = 0 := by unfold mtHi; rw [if_neg (by rw [h]; simp)]
/-- A sum or a shift of valid spans, or ErrForm, or ErrRange. -/
def opV (ok in_ : Bool) (lo hi : Int) : Value := if ok then (if in_ then mkS lo hi else .tuple #[.agg #[.int .i64 0, .int .i64 0], .int .i64 4]) else .tuple #[.agg #[.int .i64 0, .int .i64 0], .int .i64 3]
theorem opV_3 {in_ : Bool} {lo hi : Int} : opV false in_ lo hi = .tuple #[.agg #[.int .i64 0, .int .i64 0], .int .i64 3] := rfl
theorem opV_4 {lo hi : Int} : opV true false lo hi = .tuple #[.agg #[.int .i64 0, .int .i64 0], .int .i64 4] := rfl
theorem opV_ok {lo hi : Int} : opV true true lo hi = mkS lo hi := rfl
theorem opV_form (ok in_ : Bool) (lo hi : Int) : ∃ x y e, opV ok in_ lo hi = .tuple #[.agg #[.int .i64 x, .int .i64 y], .int .i64 e] := by
  cases ok
  · exact ⟨_, _, _, rfl⟩
  · cases in_
    · exact ⟨_, _, _, rfl⟩
    · exact mkS_form lo hi
end Go.Proofs.YtiinmhfolfgobaaGreatDoor
namespace Go.Proofs.YtiinmhfolfgobaaGreatDoor
open Go.RowKit

set_option maxHeartbeats 1000000 in
theorem iholds_all (lo hi t : Int) (w : World) :
    Calls Tryz.prog 25 #[.agg #[.int .i64 lo, .int .i64 hi], .int .i64 t] w (RB w (.bool (hdB lo hi t))) := by
  rcases h : vS lo hi
  · rw [show hdB lo hi t = false by simp [hdB, h]]
    go_enter Tryz.func25, Tryz.ntmps25
    go_wp2_with fail
    refine (svalid_any _ _ _).mono ?_
    rintro e wq1 ⟨rfl, rfl⟩
    rw [h]
    go_wp2
    go_ret
    exact ⟨rfl, by (repeat' (first | (with_reducible exact Below.refl _ _) | (with_reducible refine Below.setCell ?_ ?_ _) | (with_reducible refine Below.alloc ?_ ?_ _) | (with_reducible refine Below.drew ?_) | (with_reducible refine below_drewN ?_ _))) <;> (first | omega | (simp <;> omega))⟩
  · by_cases h1 : lo ≤ t
    · by_cases h2 : t ≤ hi
      · rw [show hdB lo hi t = true by simp [hdB, h, h1, h2]]
        go_enter Tryz.func25, Tryz.ntmps25
        go_wp2_with fail
        refine (svalid_any _ _ _).mono ?_
        rintro e wq2 ⟨rfl, rfl⟩
        rw [h]
        go_wp2
        go_ret
        exact ⟨rfl, by (repeat' (first | (with_reducible exact Below.refl _ _) | (with_reducible refine Below.setCell ?_ ?_ _) | (with_reducible refine Below.alloc ?_ ?_ _) | (with_reducible refine Below.drew ?_) | (with_reducible refine below_drewN ?_ _))) <;> (first | omega | (simp <;> omega))⟩
      · rw [show hdB lo hi t = false by simp [hdB, h, h1, h2]]
        have q2 : decide (t ≤ hi) = false := by simpa using h2
        go_enter Tryz.func25, Tryz.ntmps25
        go_wp2_with fail
        refine (svalid_any _ _ _).mono ?_
        rintro e wq3 ⟨rfl, rfl⟩
        rw [h]
        go_wp2
        go_ret
        exact ⟨rfl, by (repeat' (first | (with_reducible exact Below.refl _ _) | (with_reducible refine Below.setCell ?_ ?_ _) | (with_reducible refine Below.alloc ?_ ?_ _) | (with_reducible refine Below.drew ?_) | (with_reducible refine below_drewN ?_ _))) <;> (first | omega | (simp <;> omega))⟩
    · rw [show hdB lo hi t = false by simp [hdB, h, h1]]
      go_enter Tryz.func25, Tryz.ntmps25
      go_wp2_with fail
      refine (svalid_any _ _ _).mono ?_
      rintro e wq4 ⟨rfl, rfl⟩
      rw [h]
      go_wp2
      go_ret
      exact ⟨rfl, by (repeat' (first | (with_reducible exact Below.refl _ _) | (with_reducible refine Below.setCell ?_ ?_ _) | (with_reducible refine Below.alloc ?_ ?_ _) | (with_reducible refine Below.drew ?_) | (with_reducible refine below_drewN ?_ _))) <;> (first | omega | (simp <;> omega))⟩
set_option maxHeartbeats 2000000 in
theorem imeet_all (a b c d : Int) (w : World) :
    Calls Tryz.prog 51 #[.agg #[.int .i64 a, .int .i64 b], .agg #[.int .i64 c, .int .i64 d]] w (RB w (.tuple #[.agg #[.int .i64 (mtLo a b c d), .int .i64 (mtHi a b c d)], .bool (mtB a b c d)])) := by
  rcases h : vS a b
  · have hm : mtB a b c d = false := by simp [mtB, h]
    rw [mtLo_no hm, mtHi_no hm, hm]
    go_enter Tryz.func51, Tryz.ntmps51
    go_wp2_with fail
    refine (svalid_any _ _ _).mono ?_
    rintro e wq1 ⟨rfl, rfl⟩
    rw [h]
    go_wp2
    exact bodyPost_ret (v := .tuple #[.agg #[.int .i64 0, .int .i64 0], .bool false]) (by simp [results, Tryz.results51, go_sem, *]) rfl ⟨rfl, by (repeat' (first | (with_reducible exact Below.refl _ _) | (with_reducible refine Below.setCell ?_ ?_ _) | (with_reducible refine Below.alloc ?_ ?_ _) | (with_reducible refine Below.drew ?_) | (with_reducible refine below_drewN ?_ _))) <;> (first | omega | (simp <;> omega))⟩
  rcases h' : vS c d
  · have hm : mtB a b c d = false := by simp [mtB, h']
    rw [mtLo_no hm, mtHi_no hm, hm]
    go_enter Tryz.func51, Tryz.ntmps51
    go_wp2_with fail
    refine (svalid_any _ _ _).mono ?_
    rintro e wq2 ⟨rfl, rfl⟩
    rw [h]
    go_wp2_with fail
    refine (svalid_any _ _ _).mono ?_
    rintro e wq3 ⟨rfl, rfl⟩
    rw [h']
    go_wp2
    exact bodyPost_ret (v := .tuple #[.agg #[.int .i64 0, .int .i64 0], .bool false]) (by simp [results, Tryz.results51, go_sem, *]) rfl ⟨rfl, by (repeat' (first | (with_reducible exact Below.refl _ _) | (with_reducible refine Below.setCell ?_ ?_ _) | (with_reducible refine Below.alloc ?_ ?_ _) | (with_reducible refine Below.drew ?_) | (with_reducible refine below_drewN ?_ _))) <;> (first | omega | (simp <;> omega))⟩
  have hv1 := vS_true.1 h; have hv2 := vS_true.1 h'
  have hmx : vS (max a c) (min b d) = decide (max a c ≤ min b d) := by
    rw [Bool.eq_iff_iff, vS_true, decide_eq_true_eq]; omega
  rcases hm : mtB a b c d
  · have h2 : vS (max a c) (min b d) = false := by rw [hmx]; simpa [mtB, h, h'] using hm
    rw [mtLo_no hm, mtHi_no hm]
    have H := Lib.hid h; have H' := Lib.hid h'; have H2 := Lib.hid h2; clear h h' h2 hm hmx hv1 hv2
    go_enter Tryz.func51, Tryz.ntmps51
    go_wp2_with fail
    refine (svalid_any _ _ _).mono ?_
    rintro e wq1 ⟨rfl, rfl⟩
    rw [H.out]
    go_wp2_with fail
    refine (svalid_any _ _ _).mono ?_
    rintro e wq2 ⟨rfl, rfl⟩
    rw [H'.out]
    go_wp2_with fail
    refine (svalid_any _ _ _).mono ?_
    rintro e wq3 ⟨rfl, rfl⟩
    rw [H2.out]
    go_wp2
    exact bodyPost_ret (v := .tuple #[.agg #[.int .i64 0, .int .i64 0], .bool false]) (by simp [results, Tryz.results51, go_sem, *]) rfl ⟨rfl, by (repeat' (first | (with_reducible exact Below.refl _ _) | (with_reducible refine Below.setCell ?_ ?_ _) | (with_reducible refine Below.alloc ?_ ?_ _) | (with_reducible refine Below.drew ?_) | (with_reducible refine below_drewN ?_ _))) <;> (first | omega | (simp <;> omega))⟩
  · have h2 : vS (max a c) (min b d) = true := by rw [hmx]; simpa [mtB, h, h'] using hm
    rw [mtLo_yes hm, mtHi_yes hm]
    have H := Lib.hid h; have H' := Lib.hid h'; have H2 := Lib.hid h2; clear h h' h2 hm hmx hv1 hv2
    go_enter Tryz.func51, Tryz.ntmps51
    go_wp2_with fail
    refine (svalid_any _ _ _).mono ?_
    rintro e wq1 ⟨rfl, rfl⟩
    rw [H.out]
    go_wp2_with fail
    refine (svalid_any _ _ _).mono ?_
    rintro e wq2 ⟨rfl, rfl⟩
    rw [H'.out]
    go_wp2_with fail
    refine (svalid_any _ _ _).mono ?_
    rintro e wq3 ⟨rfl, rfl⟩
    rw [H2.out]
    go_wp2
    exact bodyPost_ret (v := .tuple #[.agg #[.int .i64 (max a c), .int .i64 (min b d)], .bool true]) (by simp [results, Tryz.results51, go_sem, *]) rfl ⟨rfl, by (repeat' (first | (with_reducible exact Below.refl _ _) | (with_reducible refine Below.setCell ?_ ?_ _) | (with_reducible refine Below.alloc ?_ ?_ _) | (with_reducible refine Below.drew ?_) | (with_reducible refine below_drewN ?_ _))) <;> (first | omega | (simp <;> omega))⟩
end Go.Proofs.YtiinmhfolfgobaaGreatDoor
