/- Walk: the reference's Rate (a binary search). -/
import Derived.Test.YtfffhdcdkdaijaaLawRates
namespace Go.Proofs.Ytfffhdcdkdaijaa
open Go.RowKit

def RateInv (e d : Int) (i j : Value) : Prop := ∃ a b : Int, i = .int .i64 a ∧ j = .int .i64 b ∧ 0 ≤ a ∧ a ≤ b ∧ b ≤ 1000000 ∧ fitsB e d b = true ∧ ∀ p, 0 ≤ p → p < a → fitsB e d p = false
theorem fitsB_below {e d m p : Int} (h : fitsB e d m = false) (hp : p ≤ m) (hm : m ≤ 1000000) : fitsB e d p = false := by
  rcases q : fitsB e d p
  · rfl
  · rw [fitsB_yes (fits_mono (fitsB_true.1 q) hp hm)] at h; cases h

set_option maxHeartbeats 1000000 in
theorem rrate_any (e d : Int) (w : World) : Calls Try.prog 49 #[.int .i64 e, .int .i64 d] w fun x w' => x = .returned (rateV e d) ∧ w = w' := by
  rcases h1 : inD e 0
  · rw [rateV_of (rate_1 (.inl h1))]
    go_enter Try.func49, Try.ntmps49
    go_wp2_with (go_at_call 82; refine (rin_any _ _ _).mono ?_; rintro x w1 ⟨rfl, rfl⟩)
    go_ret2; exact ⟨rfl, rfl⟩
  rcases h2 : inD d 0
  · rw [rateV_of (rate_1 (.inr h2))]
    go_enter Try.func49, Try.ntmps49
    go_wp2_with (go_at_call 82; refine (rin_any _ _ _).mono ?_; rintro x w1 ⟨rfl, rfl⟩)
    go_ret2; exact ⟨rfl, rfl⟩
  rcases h3 : fitsB e d 1000000
  · rw [rateV_of (rate_none e d h1 h2 h3)]
    go_enter Try.func49, Try.ntmps49
    go_wp2_with (first | (go_at_call 82; refine (rin_any _ _ _).mono ?_; rintro x w1 ⟨rfl, rfl⟩) | (go_at_call 50; refine (rfits_any _ _ _ _).mono ?_; rintro x w1 ⟨rfl, rfl⟩))
    go_ret2; exact ⟨rfl, rfl⟩
  go_enter Try.func49, Try.ntmps49
  go_wp2_with (first | (go_at_call 82; refine (rin_any _ _ _).mono ?_; rintro x w1 ⟨rfl, rfl⟩) | (go_at_call 50; refine (rfits_any _ _ _ _).mono ?_; rintro x w1 ⟨rfl, rfl⟩))
  go_loop [6, 7] (fun i j => RateInv e d i j) (fun i j => (intOf j - intOf i).toNat)
  case atStart => exact ⟨0, 1000000, rfl, rfl, by omega, by omega, by omega, h3, by omega⟩
  case round =>
    obtain ⟨a, b, rfl, rfl, a0, ab, b1, hb, hl⟩ := hrel
    have HB := Lib.hid hb; clear hb
    have HL := Lib.hid hl; clear hl
    have H3 := Lib.hid h3; clear h3
    by_cases hab : a < b
    · rcases hm : fitsB e d ((a + b) / 2)
      · go_wp2_with (go_at_call 50; refine (rfits_any _ _ _ _).mono ?_; rintro x w1 ⟨rfl, rfl⟩)
        go_round
        case rel => exact ⟨(a + b) / 2 + 1, b, by go_num, rfl, by omega, by omega, b1, HB.out, fun p p0 p1 => fitsB_below hm (by omega) (by omega)⟩
        case measure => simp [intOf]; omega
      · go_wp2_with (go_at_call 50; refine (rfits_any _ _ _ _).mono ?_; rintro x w1 ⟨rfl, rfl⟩)
        go_round
        case rel => exact ⟨a, (a + b) / 2, rfl, by go_num, by omega, by omega, by omega, hm, HL.out⟩
        case measure => simp [intOf]; omega
    · obtain rfl : a = b := by omega
      go_wp2
      go_ret2
      exact ⟨by rw [rateV_of (rate_least e d a h1 h2 a0 b1 HB.out HL.out)]; rfl, rfl⟩
end Go.Proofs.Ytfffhdcdkdaijaa
