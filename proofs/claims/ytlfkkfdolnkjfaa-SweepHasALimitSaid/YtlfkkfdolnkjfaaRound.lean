/- Walks: the reference's quotients (below, Rounded), and plain laws of rounding. -/
import Derived.Test.YtlfkkfdolnkjfaaExact
namespace Go.Proofs.Ytlfkkfdolnkjfaa
open Go.RowKit

/-- What a call returns; nothing that was there is written. -/
def RB (w : World) (v : Value) (e : Ending) (w' : World) : Prop := e = .returned v ∧ Below w.heap.size w w'
/-- x / c, rounded down or up. -/
def rnd (x c : Int) (up : Bool) : Int := if up then -(-x / c) else x / c
theorem quo_rnd (a b c : Int) (up : Bool) : quo a b c up = rnd (a * b) c up := rfl
theorem rnd_add (x k c : Int) (up : Bool) (hc : 0 < c) : rnd (x + k * c) c up = k + rnd x c up := by
  cases up
  · show (x + k * c) / c = k + x / c
    rw [Int.add_mul_ediv_right _ _ (by omega)]; omega
  · show -(-(x + k * c) / c) = k + -(-x / c)
    have e : -(x + k * c) = -x + (-k) * c := by rw [Int.neg_mul]; omega
    rw [e, Int.add_mul_ediv_right _ _ (by omega)]; omega
theorem rnd_up (x c : Int) (hc : 0 < c) : rnd x c true = if x % c = 0 then x / c else x / c + 1 := by
  show -(-x / c) = _
  rw [neg_ediv _ _ hc]; split <;> omega
theorem tdiv_below (a b : Int) (hb : 0 < b) : (a.tmod b < 0 → a / b = a.tdiv b - 1) ∧ (0 ≤ a.tmod b → a / b = a.tdiv b) := by
  have h := Int.mul_tdiv_add_tmod a b
  have hl := tmod_lo a b (by omega)
  constructor
  · intro hn
    have e : a = (b + a.tmod b) + (a.tdiv b - 1) * b := by rw [Int.sub_mul, Int.one_mul, Int.mul_comm (a.tdiv b)]; omega
    conv => lhs; rw [e]
    rw [Int.add_mul_ediv_right _ _ (by omega), Int.ediv_eq_zero_of_lt (by omega) (by omega)]; omega
  · intro hn
    have e : a = a.tmod b + a.tdiv b * b := by rw [Int.mul_comm (a.tdiv b)]; omega
    conv => lhs; rw [e]
    rw [Int.add_mul_ediv_right _ _ (by omega), Int.ediv_eq_zero_of_lt (by omega) (by omega)]; omega
theorem ediv_in (a b : Int) (hb : 0 < b) (h0 : -9223372036854775808 ≤ a) (h1 : a ≤ 9223372036854775807) : -9223372036854775808 ≤ a / b ∧ a / b ≤ 9223372036854775807 := by
  constructor
  · apply Int.le_ediv_of_mul_le hb
    have : -9223372036854775808 * b ≤ -9223372036854775808 * 1 := by omega
    omega
  · by_cases h : 0 ≤ a
    · have := Int.ediv_le_self b h; omega
    · have : a / b < 0 := Int.ediv_neg_of_neg_of_pos (by omega) hb
      omega
theorem emod_tmod (a b : Int) (hb : 0 < b) : (a.tmod b = 0 ↔ a % b = 0) := by
  constructor
  · intro h; exact Int.emod_eq_zero_of_dvd (Int.dvd_of_tmod_eq_zero h)
  · intro h; exact Int.tmod_eq_zero_of_dvd (Int.dvd_of_emod_eq_zero h)

theorem below10_any (a b : Int) (w : World) (hb : 0 < b) (hb1 : b ≤ 9223372036854775807) (h0 : -9223372036854775808 ≤ a) (h1 : a ≤ 9223372036854775807) :
    Calls Try.prog 147 #[.int .i64 a, .int .i64 b] w fun e w' => e = .returned (.int .i64 (a / b)) ∧ w = w' := by
  obtain ⟨t1, t2⟩ := tdiv_below a b hb
  have hi := ediv_in a b hb h0 h1
  have hl := tmod_lo a b (by omega)
  by_cases h : a.tmod b < 0
  · have e := t1 h
    rw [e] at hi
    have E := Lib.hid e; clear e t1 t2
    go_enter Try.func147, Try.ntmps147
    go_wp2
    go_ret
    exact ⟨by rw [E.out]; rfl, rfl⟩
  · have e := t2 (by omega)
    have E := Lib.hid e; clear e t1 t2
    go_enter Try.func147, Try.ntmps147
    go_wp2
    go_ret
    exact ⟨by rw [E.out]; rfl, rfl⟩
theorem rounded_any (a b : Int) (up : Bool) (w : World) (hb : 0 < b) (hb1 : b ≤ 9223372036854775807) (h0 : -9223372036854775808 ≤ a) (h1 : a ≤ 9223372036854775807) (hq : a / b ≤ 9223372036854775806) :
    Calls Try.prog 121 #[.int .i64 a, .int .i64 b, .bool up] w fun e w' => e = .returned (.int .i64 (rnd a b up)) ∧ w = w' := by
  have hi := ediv_in a b hb h0 h1
  cases up
  · rw [show rnd a b false = a / b from rfl]
    go_enter Try.func121, Try.ntmps121
    go_wp2_with (go_at_call 147; refine (below10_any _ _ _ hb hb1 h0 h1).mono ?_; rintro e w1 ⟨rfl, rfl⟩)
    go_ret
    exact ⟨rfl, rfl⟩
  · rw [rnd_up a b hb]
    have hl := tmod_lo a b (by omega)
    by_cases h : a.tmod b = 0
    · rw [if_pos ((emod_tmod a b hb).1 h)]
      have h' : (a.tmod b != 0) = false := by simp [h]
      clear h
      go_enter Try.func121, Try.ntmps121
      go_wp2_with (go_at_call 147; refine (below10_any _ _ _ hb hb1 h0 h1).mono ?_; rintro e w1 ⟨rfl, rfl⟩)
      go_ret
      exact ⟨rfl, rfl⟩
    · rw [if_neg (fun k => h ((emod_tmod a b hb).2 k))]
      have h' : (a.tmod b != 0) = true := by simp [h]
      clear h
      go_enter Try.func121, Try.ntmps121
      go_wp2_with (go_at_call 147; refine (below10_any _ _ _ hb hb1 h0 h1).mono ?_; rintro e w1 ⟨rfl, rfl⟩)
      go_ret
      exact ⟨rfl, rfl⟩
end Go.Proofs.Ytlfkkfdolnkjfaa
