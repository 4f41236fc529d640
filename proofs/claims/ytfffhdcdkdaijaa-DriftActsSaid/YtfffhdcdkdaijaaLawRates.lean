/- The walk of the law DriftRates. -/
import Derived.Test.YtfffhdcdkdaijaaLaw15
import Derived.Test.YtfffhdcdkdaijaaFrame
namespace Go.Proofs.Ytfffhdcdkdaijaa
open Go.RowKit

theorem wwithin_eq {v n E : Int} (h : v % n = E) (w : World) (hn : 1 ≤ n) (hn2 : n ≤ 9223372036854775807) :
    Calls Try.prog 18 #[.int .i64 v, .int .i64 n] w fun e w' => e = .returned (.int .i64 E) ∧ w = w' := by
  subst h; exact wwithin_any v n w hn hn2
theorem fits_in_range {e d p : Int} (h : fitsP e d p) : d ≤ e + e / 1000 + 1 := by
  obtain ⟨⟨h1, h2, h3, h4, h5, h6⟩, h7, h8⟩ := h
  have : e * (1000000000 + p) ≤ e * 1001000000 := Int.mul_le_mul_of_nonneg_left (by omega) h1
  omega
theorem fits_mono {e d p q : Int} (h : fitsP e d p) (h1 : p ≤ q) (h2 : q ≤ 1000000) : fitsP e d q := by
  obtain ⟨⟨k1, k2, k3, k4, k5, k6⟩, k7, k8⟩ := h
  have : e * (1000000000 + p) ≤ e * (1000000000 + q) := Int.mul_le_mul_of_nonneg_left (by omega) k1
  have : e * (1000000000 - q) ≤ e * (1000000000 - p) := Int.mul_le_mul_of_nonneg_left (by omega) k1
  exact ⟨⟨k1, k2, k3, k4, by omega, h2⟩, by omega, by omega⟩
theorem rate_law {e d p : Int} (h1 : inD e 0 = true) (h2 : inD d 0 = true) (h : fitsP e d p) :
    ∃ r, rateN e d = (r, 0) ∧ 0 ≤ r ∧ r ≤ p ∧ fitsP e d r ∧ (0 < r → fitsB e d (r - 1) = false) := by
  obtain ⟨e0, e1, _, _⟩ := inD_true.1 h1
  obtain ⟨d0, d1, _, _⟩ := inD_true.1 h2
  have p0 : 0 ≤ p ∧ p ≤ 1000000 := ⟨h.1.2.2.2.2.1, h.1.2.2.2.2.2⟩
  have k := (fits_iff e d p e0 (by omega) d0 (by omega) p0.1 p0.2).1 h
  have a0 : 0 ≤ apart e d := by unfold apart; omega
  by_cases ha : apart e d = 0
  · refine ⟨0, rate_2 h1 h2 ha, by omega, p0.1, (fits_iff e d 0 e0 (by omega) d0 (by omega) (by omega) (by omega)).2 (by rw [ha]; simp), by omega⟩
  have pe : p * e ≤ 1000000 * e := Int.mul_le_mul_of_nonneg_right p0.2 e0
  have he : 0 < e := by
    apply Int.not_le.1; intro q
    have : e = 0 := by omega
    subst this
    simp at k; omega
  have c1 := (ceil_le (apart e d) e p he).2 k
  have hq : 0 < quo (apart e d) 1000000000 e true := by
    apply Int.not_le.1; intro q
    have := (ceil_le (apart e d) e 0 he).1 q
    simp at this; omega
  refine ⟨_, rate_5 h1 h2 ha (by omega) (by omega), by omega, c1, (fits_iff e d _ e0 (by omega) d0 (by omega) (by omega) (by omega)).2 ((ceil_le _ e _ he).1 (Int.le_refl _)), fun _ => fitsB_no fun k' => ?_⟩
  have := (ceil_le (apart e d) e _ he).2 ((fits_iff e d _ e0 (by omega) d0 (by omega) (by omega) (by omega)).1 k')
  omega

set_option maxRecDepth 100000 in
set_option maxHeartbeats 600000 in
theorem driftRates_core (e ppb c more : Int) (w : World) : Calls Try.prog 5 #[.int .i64 e, .int .i64 ppb, .int .i64 c, .int .i64 more] w (RB w (.bool true)) := by
  obtain ⟨E, hE⟩ : ∃ E, e % 1125899906842624 = E := ⟨_, rfl⟩
  obtain ⟨P, hP⟩ : ∃ P, ppb % 1000001 = P := ⟨_, rfl⟩
  have E0 : 0 ≤ E ∧ E < 1125899906842624 := by omega
  have P0 : 0 ≤ P ∧ P ≤ 1000000 := by omega
  have HE := Lib.hid hE; clear hE
  have HP := Lib.hid hP; clear hP
  have hin : inD E P = true := inD_true.2 ⟨by omega, by omega, by omega, by omega⟩
  have hA := advN_fits E P c hin
  have r1 := fun w => adv_any E P c w hin
  have hin0 : inD E 0 = true := inD_true.2 ⟨by omega, by omega, by omega, by omega⟩
  generalize advN E P c = D at *
  have hD := fits_in_range hA
  have hD0 : inD D 0 = true := inD_true.2 ⟨hA.1.2.2.1, by omega, by omega, by omega⟩
  obtain ⟨r, q1, q2, q3, q4, q5⟩ := rate_law hin0 hD0 hA
  have r2 := rate_any E D
  rw [rateV_of q1] at r2
  have r3 := rate_any E E
  rw [rateV_of (rate_2 hin0 hin0 (by unfold apart; omega))] at r3
  obtain ⟨M, hM⟩ : ∃ M, more % (1000000 - r + 1) = M := ⟨_, rfl⟩
  have M0 : 0 ≤ M ∧ M < 1000000 - r + 1 := by
    rw [← hM]; exact ⟨Int.emod_nonneg _ (by omega), Int.emod_lt_of_pos _ (by omega)⟩
  have HM := Lib.hid hM; clear hM
  have r4 := fits_any E D r
  rw [fitsB_yes q4] at r4
  have r5 := fits_any E D (r + M)
  rw [fitsB_yes (fits_mono q4 (by omega) (by omega))] at r5
  have r6 := fits_any E D (r - 1)
  have R1 := Lib.hid r1; clear r1
  have R2 := Lib.hid r2; clear r2
  have R3 := Lib.hid r3; clear r3
  have R4 := Lib.hid r4; clear r4
  have R5 := Lib.hid r5; clear r5
  clear hA q1 q4 hD hD0 hin0
  by_cases hr : 0 < r
  · rw [q5 hr] at r6
    have R6 := Lib.hid r6; clear r6
    clear q5
    go_enter Try.func5, Try.ntmps5
    go_wp2_with fail
    refine (wwithin_eq HE.out _ (by omega) (by omega)).mono ?_
    rintro x w1 ⟨rfl, rfl⟩
    go_wp2_with fail
    refine (wwithin_eq HP.out _ (by omega) (by omega)).mono ?_
    rintro x w1 ⟨rfl, rfl⟩
    go_wp2_with fail
    refine (R1.out _).mono ?_
    rintro x w1 ⟨rfl, hb1⟩
    go_wp2_with fail
    refine (R2.out _).mono ?_
    rintro x w2 ⟨rfl, hb2⟩
    replace hb2 := below_q hb2
    go_wp2_with fail
    refine (R3.out _).mono ?_
    rintro x w3 ⟨rfl, hb3⟩
    replace hb3 := below_q hb3
    go_wp2_with fail
    refine (R4.out _).mono ?_
    rintro x w4 ⟨rfl, hb4⟩
    go_wp2_with fail
    refine (R6.out _).mono ?_
    rintro x w5 ⟨rfl, hb5⟩
    go_wp2_with fail
    refine (known15_any _).mono ?_
    rintro x w6 ⟨rfl, hb6⟩
    go_wp2_with fail
    refine (wwithin_eq HM.out _ (by omega) (by omega)).mono ?_
    rintro x w7 ⟨rfl, rfl⟩
    go_wp2_with fail
    refine (R5.out _).mono ?_
    rintro x w7 ⟨rfl, hb7⟩
    go_wp2
    go_ret
    exact ⟨rfl, kept_call hb7 (kept_call hb6 (kept_call hb5 (kept_call hb4 (kept_call hb3 (kept_call hb2 hb1)))))⟩
  · obtain rfl : r = 0 := by omega
    clear r6 q5
    simp only [Int.zero_add] at R5
    go_enter Try.func5, Try.ntmps5
    go_wp2_with fail
    refine (wwithin_eq HE.out _ (by omega) (by omega)).mono ?_
    rintro x w1 ⟨rfl, rfl⟩
    go_wp2_with fail
    refine (wwithin_eq HP.out _ (by omega) (by omega)).mono ?_
    rintro x w1 ⟨rfl, rfl⟩
    go_wp2_with fail
    refine (R1.out _).mono ?_
    rintro x w1 ⟨rfl, hb1⟩
    go_wp2_with fail
    refine (R2.out _).mono ?_
    rintro x w2 ⟨rfl, hb2⟩
    replace hb2 := below_q hb2
    go_wp2_with fail
    refine (R3.out _).mono ?_
    rintro x w3 ⟨rfl, hb3⟩
    replace hb3 := below_q hb3
    go_wp2_with fail
    refine (R4.out _).mono ?_
    rintro x w4 ⟨rfl, hb4⟩
    go_wp2_with fail
    refine (known15_any _).mono ?_
    rintro x w6 ⟨rfl, hb6⟩
    go_wp2_with fail
    refine (wwithin_eq HM.out _ (by omega) (by omega)).mono ?_
    rintro x w7 ⟨rfl, rfl⟩
    go_wp2_with fail
    refine (R5.out _).mono ?_
    rintro x w7 ⟨rfl, hb7⟩
    go_wp2
    go_ret
    exact ⟨rfl, kept_call hb7 (kept_call hb6 (kept_call hb4 (kept_call hb3 (kept_call hb2 hb1))))⟩
theorem driftRates_walk (e : Int) (_ : IntIn e) (ppb : Int) (_ : IntIn ppb) (c : Int) (_ : IntIn c) (more : Int) (_ : IntIn more) (w : World) :
    Walked 5 #[.int .i64 e, .int .i64 ppb, .int .i64 c, .int .i64 more] w := driftRates_core e ppb c more w
end Go.Proofs.Ytfffhdcdkdaijaa
