/- Walks: what the laws of layer 15 share: Within, Holds, Inside, known, advance. -/
import Derived.Test.YtfffhdcdkdaijaaRate
import Derived.Test.YtfffhdcdkdaijaaNum
import Derived.Deep.RegionHeld3
namespace Go.Proofs.Ytfffhdcdkdaijaa
open Go.RowKit

set_option maxHeartbeats 400000 in
theorem wwithin_any (v n : Int) (w : World) (hn : 1 ≤ n) (hn2 : n ≤ 9223372036854775807) :
    Calls Try.prog 18 #[.int .i64 v, .int .i64 n] w fun e w' => e = .returned (.int .i64 (v % n)) ∧ w = w' := by
  have h := tmod_lo v n hn
  obtain ⟨h1, h2⟩ := h
  by_cases hv : v.tmod n < 0
  · have e1 := tmod_neg v n hn hv
    go_enter Try.func18, Try.ntmps18
    go_wp2
    go_ret
    exact ⟨rfl, rfl⟩
  · have e1 := tmod_pos v n hn (by omega)
    go_enter Try.func18, Try.ntmps18
    go_wp2
    go_ret
    exact ⟨rfl, rfl⟩

theorem below_e {w w' : World} (h : w = w') : Below w.heap.size w w' := h ▸ Below.refl _ _
theorem holds_any (lo hi t : Int) (w : World) (h : vS lo hi = true) (h1 : lo ≤ t) (h2 : t ≤ hi) : Calls Try.prog 25 #[.agg #[.int .i64 lo, .int .i64 hi], .int .i64 t] w (RB w (.bool true)) := by
  go_enter Try.func25, Try.ntmps25
  go_wp2_with (go_at_call 61; refine (rsvalid_any _ _ _).mono ?_; rintro e w1 ⟨rfl, rfl⟩)
  go_ret; exact ⟨rfl, ((Below.refl _ _).alloc (Nat.le_refl _) _).alloc (by simp) _⟩
theorem inside_any (a b c d : Int) (w : World) (h : vS a b = true) (h' : vS c d = true) (h1 : c ≤ a) (h2 : b ≤ d) : Calls Try.prog 27 #[.agg #[.int .i64 a, .int .i64 b], .agg #[.int .i64 c, .int .i64 d]] w (RB w (.bool true)) := by
  go_enter Try.func27, Try.ntmps27
  go_wp2_with (go_at_call 61; refine (rsvalid_any _ _ _).mono ?_; rintro e w1 ⟨rfl, rfl⟩)
  go_ret
  exact ⟨rfl, by (repeat' (first | (with_reducible exact Below.refl _ _) | (with_reducible refine Below.alloc ?_ ?_ _))) <;> (first | omega | (simp <;> omega))⟩

set_option maxHeartbeats 1000000 in
theorem known15_any (w : World) : Calls Try.prog 23 #[] w (RB w (.bool true)) := by
  have r1 := elapsed_any 1099511627776 1000
  have r2 := rate_any 1000000 1000001
  have r3 := fits_any 0 0 0
  have r4 := fits_any 0 1 1000000
  rw [show outV 1099511627776 1000 (elLo 1099511627776 1000) (elHi 1099511627776 1000) = .tuple #[.agg #[.int .i64 1099510528265, .int .i64 1099512727289], .int .i64 0] by kernel_rfl] at r1
  rw [show rateV 1000000 1000001 = .tuple #[.int .i64 1000, .int .i64 0] by kernel_rfl] at r2
  rw [show fitsB 0 0 0 = true by decide +kernel] at r3
  rw [show fitsB 0 1 1000000 = false by decide +kernel] at r4
  have R1 := Lib.hid r1; clear r1
  have R2 := Lib.hid r2; clear r2
  have R3 := Lib.hid r3; clear r3
  have R4 := Lib.hid r4; clear r4
  go_enter Try.func23, Try.ntmps23
  go_wp2_with fail
  refine (R1.out _).mono ?_
  rintro e w1 ⟨rfl, hb1⟩
  go_wp2_with fail
  refine (R2.out _).mono ?_
  rintro e w2 ⟨rfl, n, rfl⟩
  have hz1 := hb1.size
  go_wp2_with fail
  refine (R3.out _).mono ?_
  rintro e w3 ⟨rfl, hb3⟩
  go_wp2_with fail
  refine (R4.out _).mono ?_
  rintro e w4 ⟨rfl, hb4⟩
  go_wp2
  go_ret
  exact ⟨rfl, kept_call hb4 (kept_call hb3 (below_drewN (hb1.alloc hz1 _) n))⟩

/-- The advance that a choice stands for. -/
def advN (e ppb c : Int) : Int := if fitsB e (adLo e ppb + c % (adHi e ppb - adLo e ppb + 1)) ppb then adLo e ppb + c % (adHi e ppb - adLo e ppb + 1) else e
theorem advN_fits (e ppb c : Int) (h : inD e ppb = true) : fitsP e (advN e ppb c) ppb := by
  unfold advN
  rcases q : fitsB e (adLo e ppb + c % (adHi e ppb - adLo e ppb + 1)) ppb
  · obtain ⟨h1, h2, h3, h4⟩ := inD_true.1 h
    simp only [Bool.false_eq_true, if_false]
    have : e * (1000000000 - ppb) ≤ e * 1000000000 := Int.mul_le_mul_of_nonneg_left (by omega) h1
    have : e * 1000000000 ≤ e * (1000000000 + ppb) := Int.mul_le_mul_of_nonneg_left (by omega) h1
    exact ⟨⟨by omega, by omega, by omega, by omega, by omega, by omega⟩, by omega, by omega⟩
  · simp only [if_true]; exact fitsB_true.1 q
theorem ad_le (e ppb : Int) (h : inD e ppb = true) : 0 ≤ adLo e ppb ∧ adLo e ppb ≤ adHi e ppb ∧ adHi e ppb ≤ 1152921504606846977 := by
  obtain ⟨h1, h2, h3, h4⟩ := inD_true.1 h
  have a1 := scaled_le e (1000000000 - ppb) 1000000000 h1 h2 (by omega) (by omega) (by omega)
  have a2 := scaled_le e (1000000000 + ppb) 1000000000 h1 h2 (by omega) (by omega) (by omega)
  have a3 : e * (1000000000 - ppb) ≤ e * (1000000000 + ppb) := Int.mul_le_mul_of_nonneg_left (by omega) h1
  unfold adLo adHi quo
  simp only [Bool.false_eq_true, if_false, if_true]
  omega

set_option maxHeartbeats 1000000 in
theorem adv_any (e ppb c : Int) (w : World) (h : inD e ppb = true) : Calls Try.prog 21 #[.int .i64 e, .int .i64 ppb, .int .i64 c] w (RB w (.int .i64 (advN e ppb c))) := by
  obtain ⟨h1, h2, h3, h4⟩ := inD_true.1 h
  obtain ⟨k1, k2, k3⟩ := ad_le e ppb h
  have r1 := radvance_any e ppb
  rw [outV_ok h] at r1
  have R1 := Lib.hid r1; clear r1
  have hv : advN e ppb c = if fitsB e (adLo e ppb + c % (adHi e ppb - adLo e ppb + 1)) ppb then adLo e ppb + c % (adHi e ppb - adLo e ppb + 1) else e := rfl
  have m1 := Int.emod_nonneg c (b := adHi e ppb - adLo e ppb + 1) (by omega)
  have m2 := Int.emod_lt_of_pos c (b := adHi e ppb - adLo e ppb + 1) (by omega)
  generalize adLo e ppb = lo at *
  generalize adHi e ppb = hi at *
  have ew1 : IntKind.i64.wrap (hi - lo) = hi - lo := IntWalk.i64_in _ (by omega)
  have ew2 : IntKind.i64.wrap (hi - lo + 1) = hi - lo + 1 := IntWalk.i64_in _ (by omega)
  have ew3 : IntKind.i64.wrap (lo + c % (hi - lo + 1)) = lo + c % (hi - lo + 1) := IntWalk.i64_in _ (by omega)
  rcases hf : fitsB e (lo + c % (hi - lo + 1)) ppb
  · rw [hv, hf]; simp only [Bool.false_eq_true, if_false]; clear hv
    go_enter Try.func21, Try.ntmps21
    go_wp2_with fail
    refine (R1.out _).mono ?_
    rintro x w1 ⟨rfl, hb1⟩
    have hz1 := hb1.size
    go_wp2_with fail
    go_region_held3 (fun w' => w'.cell? ⟨w1.heap.size, 0, none⟩ = some (.int .i64 lo) ∧ w'.cell? ⟨w1.heap.size, 1, none⟩ = some (.int .i64 hi) ∧ Below w.heap.size w w')
      ((go_split_ands; refine ⟨?_, ?_, ?_⟩ <;> first | assumption | exact cell_below hb (by assumption) | exact kept_call hb (by assumption) | (simp [go_sem]; done) | (simp only [World.cell?_drew]; assumption) | exact Below.drew (by assumption) | exact (Below.alloc hb1 hz1 _).drew))
      (first | (go_at_call 18; refine (wwithin_any _ _ _ (by omega) (by omega)).mono ?_; rintro e w' ⟨rfl, hq⟩; have hb := below_e hq; clear hq))
    have R : Below w.heap.size w w' := by go_split_ands; assumption
    go_wp2_with (go_at_call 50; refine (rfits_any _ _ _ _).mono ?_; rintro x w' ⟨rfl, rfl⟩)
    go_ret
    exact ⟨rfl, R⟩
  · rw [hv, hf]; simp only [if_true]; clear hv
    go_enter Try.func21, Try.ntmps21
    go_wp2_with fail
    refine (R1.out _).mono ?_
    rintro x w1 ⟨rfl, hb1⟩
    have hz1 := hb1.size
    go_wp2_with fail
    go_region_held3 (fun w' => w'.cell? ⟨w1.heap.size, 0, none⟩ = some (.int .i64 lo) ∧ w'.cell? ⟨w1.heap.size, 1, none⟩ = some (.int .i64 hi) ∧ Below w.heap.size w w')
      ((go_split_ands; refine ⟨?_, ?_, ?_⟩ <;> first | assumption | exact cell_below hb (by assumption) | exact kept_call hb (by assumption) | (simp [go_sem]; done) | (simp only [World.cell?_drew]; assumption) | exact Below.drew (by assumption) | exact (Below.alloc hb1 hz1 _).drew))
      (first | (go_at_call 18; refine (wwithin_any _ _ _ (by omega) (by omega)).mono ?_; rintro e w' ⟨rfl, hq⟩; have hb := below_e hq; clear hq))
    have R : Below w.heap.size w w' := by go_split_ands; assumption
    go_wp2_with (go_at_call 50; refine (rfits_any _ _ _ _).mono ?_; rintro x w' ⟨rfl, rfl⟩)
    go_ret
    exact ⟨rfl, R⟩

end Go.Proofs.Ytfffhdcdkdaijaa
