/- Walks: exact.Compare, drift.Fits. -/
import Derived.Test.YtfffhdcdkdaijaaDrift
namespace Go.Proofs.Ytfffhdcdkdaijaa
open Go.RowKit

def cmp3 (x y : Int) : Int := if x < y then -1 else if y < x then 1 else 0
theorem cmp3_lt {x y : Int} (h : x < y) : cmp3 x y = -1 := by unfold cmp3; rw [if_pos h]
theorem cmp3_gt {x y : Int} (h : y < x) : cmp3 x y = 1 := by unfold cmp3; rw [if_neg (by omega), if_pos h]
theorem cmp3_eq {x y : Int} (h : x = y) : cmp3 x y = 0 := by unfold cmp3; rw [if_neg (by omega), if_neg (by omega)]
theorem cmp3_le (x y : Int) : cmp3 x y ≤ 0 ↔ x ≤ y := by unfold cmp3; split <;> (try split) <;> omega
/-- The first that is not 0. -/
def orN (x y : Int) : Int := if x = 0 then y else x
theorem cmp3_words (x y : Int) : orN (cmp3 (x / 18446744073709551616) (y / 18446744073709551616)) (cmp3 (x % 18446744073709551616) (y % 18446744073709551616)) = cmp3 x y := by
  unfold orN cmp3; repeat' split
  all_goals omega

theorem cmpu64_any (x y : Int) (w : World) : Calls Try.prog 97 #[.int .u64 x, .int .u64 y] w fun e w' => e = .returned (.int .i64 (cmp3 x y)) ∧ w = w' := by
  by_cases h1 : x < y
  · rw [cmp3_lt h1]
    go_enter Try.func97, Try.ntmps97
    go_wp2; go_ret; exact ⟨rfl, rfl⟩
  · by_cases h2 : y < x
    · rw [cmp3_gt h2]
      go_enter Try.func97, Try.ntmps97
      go_wp2; go_ret; exact ⟨rfl, rfl⟩
    · rw [cmp3_eq (by omega)]
      go_enter Try.func97, Try.ntmps97
      go_wp2; go_ret; exact ⟨rfl, rfl⟩

theorem or_any (x y : Int) (g : Nat) (w : World) (c0 : w.cell? ⟨g, 0, none⟩ = some (.int .i64 x)) (c1 : w.cell? ⟨g, 1, none⟩ = some (.int .i64 y)) :
    Calls Try.prog 96 #[.slice (some ⟨g, 0, none⟩) 2 2] w fun e w' => e = .returned (.int .i64 (orN x y)) ∧ w = w' := by
  by_cases hx : x = 0
  · subst hx
    rw [show orN 0 y = y from rfl]
    go_enter Try.func96, Try.ntmps96
    go_wp2
    go_loop [8] (fun i => ∃ q : Nat, q ≤ 2 ∧ i = .int .i64 q ∧ (q = 2 → y = 0)) (fun i => (2 - intOf i).toNat)
    case atStart => exact ⟨0, by omega, rfl, by omega⟩
    case round =>
      obtain ⟨q, hq, rfl, hy⟩ := hrel
      have Hy := Lib.hid hy; clear hy
      by_cases h0 : q = 0
      · subst h0
        go_wp2
        go_round
        case rel => exact ⟨1, by omega, by go_num, by omega⟩
        case measure => simp [intOf]
      · by_cases h1 : q = 1
        · subst h1
          by_cases hz : y = 0
          · subst hz
            clear h0
            go_wp2
            go_round
            case rel => exact ⟨2, by omega, by go_num, by simp⟩
            case measure => simp [intOf]
          · have hz' : (y != 0) = true := by simp [hz]
            clear h0
            go_wp2
            go_ret
            exact ⟨rfl, rfl⟩
        · obtain rfl : q = 2 := by omega
          have e := Hy.out rfl
          subst e
          clear h0 h1
          go_wp2
          go_ret
          exact ⟨rfl, rfl⟩
  · rw [show orN x y = x by unfold orN; rw [if_neg hx]]
    have hx' : (x != 0) = true := by simp [hx]
    clear hx
    go_enter Try.func96, Try.ntmps96
    go_wp2
    go_loop [8] (fun i => i = .int .i64 0) (fun _ => 0)
    case atStart => rfl
    case round =>
      obtain rfl := hrel
      go_wp2
      go_ret
      exact ⟨rfl, rfl⟩

set_option maxHeartbeats 1000000 in
theorem compare_any (a b c d : Int) (w : World) (ha : 0 ≤ a) (ha1 : a ≤ 9223372036854775807) (hb : 0 ≤ b) (hb1 : b ≤ 9223372036854775807) (hc : 0 ≤ c) (hc1 : c ≤ 9223372036854775807) (hd : 0 ≤ d) (hd1 : d ≤ 9223372036854775807) :
    Calls Try.prog 60 #[.int .i64 a, .int .i64 b, .int .i64 c, .int .i64 d] w (RB w (.int .i64 (cmp3 (a * b) (c * d)))) := by
  have hw := Lib.hid (cmp3_words (a * b) (c * d))
  go_enter Try.func60, Try.ntmps60
  go_wp2_with fail
  refine (mul64_any a b ha hb (by omega) (by omega) _).mono ?_
  rintro e w1 ⟨rfl, rfl⟩
  go_wp2_with fail
  refine (mul64_any c d hc hd (by omega) (by omega) _).mono ?_
  rintro e w1 ⟨rfl, rfl⟩
  go_wp2_with fail
  refine (cmpu64_any _ _ _).mono ?_
  rintro e w1 ⟨rfl, rfl⟩
  go_wp2_with fail
  refine (cmpu64_any _ _ _).mono ?_
  rintro e w1 ⟨rfl, rfl⟩
  generalize cmp3 (a * b / 18446744073709551616) (c * d / 18446744073709551616) = x at *
  generalize cmp3 (a * b % 18446744073709551616) (c * d % 18446744073709551616) = y at *
  go_wp2_with fail
  refine (or_any x y _ _ (by simp [go_sem]) (by simp [go_sem])).mono ?_
  rintro e w1 ⟨rfl, rfl⟩
  go_wp2
  go_ret
  exact ⟨by rw [← hw.out]; rfl, (Below.refl _ _).alloc (Nat.le_refl _) _⟩

/-- Fits. -/
def fitIn (e d ppb : Int) : Prop := 0 ≤ e ∧ e ≤ 1152921504606846976 ∧ 0 ≤ d ∧ d ≤ 1152921504606846976 ∧ 0 ≤ ppb ∧ ppb ≤ 1000000
def fitsP (e d ppb : Int) : Prop := fitIn e d ppb ∧ e * (1000000000 - ppb) ≤ d * 1000000000 ∧ d * 1000000000 ≤ e * (1000000000 + ppb)
instance (e d ppb : Int) : Decidable (fitsP e d ppb) := by unfold fitsP fitIn; infer_instance
def fitsB (e d ppb : Int) : Bool := decide (fitsP e d ppb)
theorem fitsB_no {e d ppb : Int} (h : ¬ fitsP e d ppb) : fitsB e d ppb = false := by simp [fitsB, h]
theorem fitsB_yes {e d ppb : Int} (h : fitsP e d ppb) : fitsB e d ppb = true := by simp [fitsB, h]
theorem fitsB_true {e d ppb : Int} : fitsB e d ppb = true ↔ fitsP e d ppb := by simp [fitsB]

set_option maxHeartbeats 1000000 in
theorem fits_out (e d ppb : Int) (w : World) (h : ¬ fitIn e d ppb) : Calls Try.prog 24 #[.int .i64 e, .int .i64 d, .int .i64 ppb] w (RB w (.bool false)) := by
  unfold fitIn at h
  by_cases h1 : min e d < 0
  · clear h
    go_enter Try.func24, Try.ntmps24
    go_wp2
    all_goals (go_ret; exact ⟨rfl, Below.refl _ _⟩)
  have h1' : decide (min e d < 0) = false := by simpa using h1
  by_cases h2 : 1152921504606846976 < max e d
  · clear h
    go_enter Try.func24, Try.ntmps24
    go_wp2
    all_goals (go_ret; exact ⟨rfl, Below.refl _ _⟩)
  have h2' : decide (1152921504606846976 < max e d) = false := by simpa using h2
  have h3 : bdD ppb = false := by simp only [bdD, decide_eq_false_iff_not]; omega
  clear h
  go_enter Try.func24, Try.ntmps24
  go_wp2_with (go_at_call 59; refine (bound_any _ _).mono ?_; rintro e w1 ⟨rfl, rfl⟩)
  all_goals (go_ret; exact ⟨rfl, Below.refl _ _⟩)
set_option maxHeartbeats 1000000 in
theorem fits_in (e d ppb : Int) (w : World) (h : fitIn e d ppb) : Calls Try.prog 24 #[.int .i64 e, .int .i64 d, .int .i64 ppb] w (RB w (.bool (fitsB e d ppb))) := by
  obtain ⟨k1, k2, k3, k4, k5, k6⟩ := id h
  have h1' : decide (min e d < 0) = false := by simp; omega
  have h2' : decide (1152921504606846976 < max e d) = false := by simp; omega
  have h3 : bdD ppb = true := by simp [bdD, k5, k6]
  have l1 := cmp3_le (e * (1000000000 - ppb)) (d * 1000000000)
  have l2 := cmp3_le (d * 1000000000) (e * (1000000000 + ppb))
  have arm1 := Lib.hid (fun W => compare_any e (1000000000 - ppb) d 1000000000 W k1 (by omega) (by omega) (by omega) k3 (by omega) (by omega) (by omega))
  have arm2 := Lib.hid (fun W => compare_any d 1000000000 e (1000000000 + ppb) W k3 (by omega) (by omega) (by omega) k1 (by omega) (by omega) (by omega))
  by_cases c1 : e * (1000000000 - ppb) ≤ d * 1000000000
  · have d1 : cmp3 (e * (1000000000 - ppb)) (d * 1000000000) ≤ 0 := l1.2 c1
    by_cases c2 : d * 1000000000 ≤ e * (1000000000 + ppb)
    · have d2 : cmp3 (d * 1000000000) (e * (1000000000 + ppb)) ≤ 0 := l2.2 c2
      rw [fitsB_yes ⟨h, c1, c2⟩]
      clear l1 l2 c1 c2 h
      go_enter Try.func24, Try.ntmps24
      go_wp2_with (go_at_call 59; refine (bound_any _ _).mono ?_; rintro e w1 ⟨rfl, rfl⟩)
      refine (arm1.out _).mono ?_
      rintro e w1 ⟨rfl, hb1⟩
      go_wp2_with fail
      refine (arm2.out _).mono ?_
      rintro e w2 ⟨rfl, hb2⟩
      go_wp2
      go_ret
      exact ⟨rfl, hb1.trans (hb2.mono hb1.size)⟩
    · have d2 : 0 < cmp3 (d * 1000000000) (e * (1000000000 + ppb)) := by
        apply Int.not_le.1; intro k; exact c2 (l2.1 k)
      rw [fitsB_no (fun k => c2 k.2.2)]
      clear l1 l2 c1 c2 h
      go_enter Try.func24, Try.ntmps24
      go_wp2_with (go_at_call 59; refine (bound_any _ _).mono ?_; rintro e w1 ⟨rfl, rfl⟩)
      refine (arm1.out _).mono ?_
      rintro e w1 ⟨rfl, hb1⟩
      go_wp2_with fail
      refine (arm2.out _).mono ?_
      rintro e w2 ⟨rfl, hb2⟩
      go_wp2
      go_ret
      exact ⟨by simp; omega, hb1.trans (hb2.mono hb1.size)⟩
  · have d1 : 0 < cmp3 (e * (1000000000 - ppb)) (d * 1000000000) := by
      apply Int.not_le.1; intro k; exact c1 (l1.1 k)
    rw [fitsB_no (fun k => c1 k.2.1)]
    clear l1 l2 c1 h
    go_enter Try.func24, Try.ntmps24
    go_wp2_with (go_at_call 59; refine (bound_any _ _).mono ?_; rintro e w1 ⟨rfl, rfl⟩)
    refine (arm1.out _).mono ?_
    rintro e w1 ⟨rfl, hb1⟩
    have d1' : decide (cmp3 (e * (1000000000 - ppb)) (d * 1000000000) ≤ 0) = false := by simp; omega
    go_wp2
    go_ret
    exact ⟨rfl, hb1⟩
theorem fits_any (e d ppb : Int) (w : World) : Calls Try.prog 24 #[.int .i64 e, .int .i64 d, .int .i64 ppb] w (RB w (.bool (fitsB e d ppb))) := by
  by_cases h : fitIn e d ppb
  · exact fits_in e d ppb w h
  · rw [fitsB_no (fun k => h k.1)]; exact fits_out e d ppb w h
end Go.Proofs.Ytfffhdcdkdaijaa
