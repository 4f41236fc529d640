/- sectimecase.local: an advance that fits. -/
import Derived.BigQuiet
import Derived.Deep.DeepCutAuto
import Derived.Deep.LoopGhost
import Derived.Deep.QuietTactic
import Derived.Test.YtiinmhfolfgobaaGreatDoorJ9
import Derived.Test.YtiinmhfolfgobaaGreatDoorJ6
import Derived.Test.YtiinmhfolfgobaaGreatDoorTape
namespace Go.Proofs.YtiinmhfolfgobaaGreatDoor
open Go.RowKit
set_option linter.unusedSimpArgs false
set_option linter.unusedVariables false

theorem fits_self {e p : Int} (h : inD e p = true) : fitsP e e p := by
  obtain ⟨h1, h2, h3, h4⟩ := inD_true.1 h
  have : e * (1000000000 - p) ≤ e * 1000000000 := Int.mul_le_mul_of_nonneg_left (by omega) h1
  have : e * 1000000000 ≤ e * (1000000000 + p) := Int.mul_le_mul_of_nonneg_left (by omega) h1
  exact ⟨⟨by omega, by omega, by omega, by omega, by omega, by omega⟩, by omega, by omega⟩
theorem fits_between {e a b c p : Int} (h : fitsP e a p) (h' : fitsP e b p) (h1 : a ≤ c) (h2 : c ≤ b) : fitsP e c p := by
  obtain ⟨⟨a1, a2, a3, a4, a5, a6⟩, a7, a8⟩ := h
  obtain ⟨⟨b1, b2, b3, b4, b5, b6⟩, b7, b8⟩ := h'
  exact ⟨⟨by omega, by omega, by omega, by omega, by omega, by omega⟩, by omega, by omega⟩
theorem ad_small {e p : Int} (h0 : 0 ≤ e) (h1 : e ≤ 3000000) (p0 : 0 ≤ p) (p1 : p ≤ 1000000) : 0 ≤ adLo e p ∧ adLo e p ≤ e ∧ e ≤ adHi e p ∧ adHi e p ≤ 3003001 := by
  have a1 : e * (1000000000 - p) ≤ e * 1000000000 := Int.mul_le_mul_of_nonneg_left (by omega) h0
  have a2 : e * 1000000000 ≤ e * (1000000000 + p) := Int.mul_le_mul_of_nonneg_left (by omega) h0
  have a3 : 0 ≤ e * (1000000000 - p) := Int.mul_nonneg h0 (by omega)
  have a4 : e * (1000000000 + p) ≤ e * 1001000000 := Int.mul_le_mul_of_nonneg_left (by omega) h0
  unfold adLo adHi quo
  simp only [Bool.false_eq_true, if_false, if_true]
  omega
def LocRel1 (w : World) (e lo0 : Int) (G : Nat) (i : Value) (wr : World) : Prop := ∃ a : Int, lo0 ≤ a ∧ a ≤ e ∧ G = (e - a).toNat ∧ i = .int .i64 a ∧ Below w.heap.size w wr
def LocRel2 (w : World) (e hi0 : Int) (G : Nat) (j : Value) (wr : World) : Prop := ∃ a : Int, e ≤ a ∧ a ≤ hi0 ∧ G = (a - e).toNat ∧ j = .int .i64 a ∧ Below w.heap.size w wr
set_option maxRecDepth 100000 in
set_option maxHeartbeats 4000000 in
theorem local_any (e p v : Int) (h0 : 0 ≤ e) (h1 : e ≤ 3000000) (p0 : 0 ≤ p) (p1 : p ≤ 1000000) (w : World) :
    Calls Tryz.prog 69 #[.int .i64 e, .int .i64 p, .int .i64 v] w (fun x w' => ∃ r : Int, x = .returned (.int .i64 r) ∧ 0 ≤ r ∧ r ≤ 3003001 ∧ fitsP e r p ∧ Below w.heap.size w w') := by
  have hin : inD e p = true := inD_true.2 ⟨by omega, by omega, by omega, by omega⟩
  have hs := fits_self hin
  obtain ⟨k1, k2, k3, k4⟩ := ad_small h0 h1 p0 p1
  have r1 := radvance_any e p
  rw [outV_ok hin] at r1
  have R1 := Lib.hid r1; have HS := Lib.hid hs; clear r1 hs hin
  generalize adLo e p = lo0 at *
  generalize adHi e p = hi0 at *
  go_enter Tryz.func69, Tryz.ntmps69
  go_wp2_with fail
  refine (R1.out _).mono ?_
  rintro x w1 ⟨rfl, hb1⟩
  have hz1 := hb1.size
  go_wp2_with fail
  go_quiet (fail)
  go_wp2_with fail
  go_loopg [9] (e - lo0).toNat (fun G i wr => LocRel1 w e lo0 G i wr)
  case atStart => exact ⟨lo0, by omega, by omega, rfl, by go_num, by (repeat' (first | (with_reducible exact hb1) | (with_reducible refine Below.setCell ?_ ?_ _) | (with_reducible refine Below.alloc ?_ ?_ _) | (with_reducible refine Below.drew ?_) | (with_reducible refine below_drewN ?_ _))) <;> (first | omega | (simp <;> omega))⟩
  case round =>
    obtain ⟨a, ha, hae, rfl, rfl, hbel⟩ := hrel
    have hzr := hbel.size
    have r := rfits_any e a p
    have wa : IntKind.i64.wrap (a + 1) = a + 1 := IntWalk.i64_in _ (by omega)
    by_cases hlt : a < hi0
    · rcases hf : fitsB e a p
      · have hne : a ≠ e := fun q => by rw [q, fitsB_yes HS.out] at hf; cases hf
        rw [hf] at r
        have R := Lib.hid r; clear r hf
        go_wp2_with fail
        refine (R.out _).mono ?_
        rintro x w2 ⟨rfl, rfl⟩
        go_wp2
        go_roundg (e - (a + 1)).toNat
        case measure => omega
        case rel => exact ⟨a + 1, by omega, by omega, rfl, by go_num, by (repeat' (first | (with_reducible exact hbel) | (with_reducible refine Below.setCell ?_ ?_ _) | (with_reducible refine Below.alloc ?_ ?_ _) | (with_reducible refine Below.drew ?_) | (with_reducible refine below_drewN ?_ _))) <;> (first | omega | (simp <;> omega))⟩
      · have F1 := Lib.hid (fitsB_true.1 hf)
        rw [hf] at r
        have R := Lib.hid r; clear r hf
        go_wp2_with fail
        refine (R.out _).mono ?_
        rintro x w2 ⟨rfl, rfl⟩
        go_wp2_with fail
        go_loopg [10] (hi0 - e).toNat (fun G j wr => LocRel2 w e hi0 G j wr)
        case atStart => exact ⟨hi0, by omega, by omega, rfl, rfl, by (repeat' (first | (with_reducible exact hbel) | (with_reducible refine Below.setCell ?_ ?_ _) | (with_reducible refine Below.alloc ?_ ?_ _) | (with_reducible refine Below.drew ?_) | (with_reducible refine below_drewN ?_ _))) <;> (first | omega | (simp <;> omega))⟩
        case round =>
          obtain ⟨b, hbe, hbh, rfl, rfl, hbel2⟩ := hrel
          have hzs := hbel2.size
          have r := rfits_any e b p
          have wb : IntKind.i64.wrap (b - 1) = b - 1 := IntWalk.i64_in _ (by omega)
          have fin : ∀ r : Int, r = v % (b - a + 1) → fitsB e b p = true → 0 ≤ a + r ∧ a + r ≤ 3003001 ∧ fitsP e (a + r) p := fun r hr hfb => by
            have m1 := Int.emod_nonneg v (b := b - a + 1) (by omega)
            have m2 := Int.emod_lt_of_pos v (b := b - a + 1) (by omega)
            exact ⟨by omega, by omega, fits_between F1.out (fitsB_true.1 hfb) (by omega) (by omega)⟩
          have w0 := fun W => within_any v (b - a + 1) W (by omega) (by omega)
          have m1 := Int.emod_nonneg v (b := b - a + 1) (by omega)
          have m2 := Int.emod_lt_of_pos v (b := b - a + 1) (by omega)
          have wd : IntKind.i64.wrap (b - a) = b - a := IntWalk.i64_in _ (by omega)
          have wd2 : IntKind.i64.wrap (b - a + 1) = b - a + 1 := IntWalk.i64_in _ (by omega)
          have R0 := Lib.hid w0; clear w0
          have FIN := Lib.hid fin; clear fin
          generalize hm : v % (b - a + 1) = m at *
          have HM := Lib.hid hm; clear hm
          have wm : IntKind.i64.wrap (a + m) = a + m := IntWalk.i64_in _ (by omega)
          by_cases hlt2 : a < b
          · rcases hf : fitsB e b p
            · have hne : b ≠ e := fun q => by rw [q, fitsB_yes HS.out] at hf; cases hf
              rw [hf] at r
              have R := Lib.hid r; clear r hf
              go_wp2_with fail
              refine (R.out _).mono ?_
              rintro x w3 ⟨rfl, rfl⟩
              go_wp2
              go_roundg (b - 1 - e).toNat
              case measure => omega
              case rel => exact ⟨b - 1, by omega, by omega, rfl, by go_num, by (repeat' (first | (with_reducible exact hbel2) | (with_reducible refine Below.setCell ?_ ?_ _) | (with_reducible refine Below.alloc ?_ ?_ _) | (with_reducible refine Below.drew ?_) | (with_reducible refine below_drewN ?_ _))) <;> (first | omega | (simp <;> omega))⟩
            · have F2 := Lib.hid (FIN.out m rfl hf)
              rw [hf] at r
              have R := Lib.hid r; clear r hf
              go_wp2_with fail
              refine (R.out _).mono ?_
              rintro x w3 ⟨rfl, rfl⟩
              go_wp2_with fail
              refine (R0.out _).mono ?_
              rintro x w4 ⟨rfl, rfl⟩
              go_wp2
              go_ret
              exact ⟨_, rfl, F2.out.1, F2.out.2.1, F2.out.2.2, by (repeat' (first | (with_reducible exact hbel2) | (with_reducible refine Below.setCell ?_ ?_ _) | (with_reducible refine Below.alloc ?_ ?_ _) | (with_reducible refine Below.drew ?_) | (with_reducible refine below_drewN ?_ _))) <;> (first | omega | (simp <;> omega))⟩
          · have gab : decide (a < b) = false := decide_eq_false hlt2
            have F2 := Lib.hid (FIN.out m rfl (by rw [show b = e by omega]; exact fitsB_yes HS.out))
            go_wp2_with fail
            refine (R0.out _).mono ?_
            rintro x w4 ⟨rfl, rfl⟩
            go_wp2
            go_ret
            exact ⟨_, rfl, F2.out.1, F2.out.2.1, F2.out.2.2, by (repeat' (first | (with_reducible exact hbel2) | (with_reducible refine Below.setCell ?_ ?_ _) | (with_reducible refine Below.alloc ?_ ?_ _) | (with_reducible refine Below.drew ?_) | (with_reducible refine below_drewN ?_ _))) <;> (first | omega | (simp <;> omega))⟩
    · have gah : decide (a < hi0) = false := decide_eq_false hlt
      have F1 := Lib.hid (show fitsP e a p by rw [show a = e by omega]; exact HS.out)
      go_wp2_with fail
      go_loopg [10] (hi0 - e).toNat (fun G j wr => LocRel2 w e hi0 G j wr)
      case atStart => exact ⟨hi0, by omega, by omega, rfl, rfl, by (repeat' (first | (with_reducible exact hbel) | (with_reducible refine Below.setCell ?_ ?_ _) | (with_reducible refine Below.alloc ?_ ?_ _) | (with_reducible refine Below.drew ?_) | (with_reducible refine below_drewN ?_ _))) <;> (first | omega | (simp <;> omega))⟩
      case round =>
        obtain ⟨b, hbe, hbh, rfl, rfl, hbel2⟩ := hrel
        have hzs := hbel2.size
        have r := rfits_any e b p
        have wb : IntKind.i64.wrap (b - 1) = b - 1 := IntWalk.i64_in _ (by omega)
        have fin : ∀ r : Int, r = v % (b - a + 1) → fitsB e b p = true → 0 ≤ a + r ∧ a + r ≤ 3003001 ∧ fitsP e (a + r) p := fun r hr hfb => by
          have m1 := Int.emod_nonneg v (b := b - a + 1) (by omega)
          have m2 := Int.emod_lt_of_pos v (b := b - a + 1) (by omega)
          exact ⟨by omega, by omega, fits_between F1.out (fitsB_true.1 hfb) (by omega) (by omega)⟩
        have w0 := fun W => within_any v (b - a + 1) W (by omega) (by omega)
        have m1 := Int.emod_nonneg v (b := b - a + 1) (by omega)
        have m2 := Int.emod_lt_of_pos v (b := b - a + 1) (by omega)
        have wd : IntKind.i64.wrap (b - a) = b - a := IntWalk.i64_in _ (by omega)
        have wd2 : IntKind.i64.wrap (b - a + 1) = b - a + 1 := IntWalk.i64_in _ (by omega)
        have R0 := Lib.hid w0; clear w0
        have FIN := Lib.hid fin; clear fin
        generalize hm : v % (b - a + 1) = m at *
        have HM := Lib.hid hm; clear hm
        have wm : IntKind.i64.wrap (a + m) = a + m := IntWalk.i64_in _ (by omega)
        by_cases hlt2 : a < b
        · rcases hf : fitsB e b p
          · have hne : b ≠ e := fun q => by rw [q, fitsB_yes HS.out] at hf; cases hf
            rw [hf] at r
            have R := Lib.hid r; clear r hf
            go_wp2_with fail
            refine (R.out _).mono ?_
            rintro x w3 ⟨rfl, rfl⟩
            go_wp2
            go_roundg (b - 1 - e).toNat
            case measure => omega
            case rel => exact ⟨b - 1, by omega, by omega, rfl, by go_num, by (repeat' (first | (with_reducible exact hbel2) | (with_reducible refine Below.setCell ?_ ?_ _) | (with_reducible refine Below.alloc ?_ ?_ _) | (with_reducible refine Below.drew ?_) | (with_reducible refine below_drewN ?_ _))) <;> (first | omega | (simp <;> omega))⟩
          · have F2 := Lib.hid (FIN.out m rfl hf)
            rw [hf] at r
            have R := Lib.hid r; clear r hf
            go_wp2_with fail
            refine (R.out _).mono ?_
            rintro x w3 ⟨rfl, rfl⟩
            go_wp2_with fail
            refine (R0.out _).mono ?_
            rintro x w4 ⟨rfl, rfl⟩
            go_wp2
            go_ret
            exact ⟨_, rfl, F2.out.1, F2.out.2.1, F2.out.2.2, by (repeat' (first | (with_reducible exact hbel2) | (with_reducible refine Below.setCell ?_ ?_ _) | (with_reducible refine Below.alloc ?_ ?_ _) | (with_reducible refine Below.drew ?_) | (with_reducible refine below_drewN ?_ _))) <;> (first | omega | (simp <;> omega))⟩
        · have gab : decide (a < b) = false := decide_eq_false hlt2
          have F2 := Lib.hid (FIN.out m rfl (by rw [show b = e by omega]; exact fitsB_yes HS.out))
          go_wp2_with fail
          refine (R0.out _).mono ?_
          rintro x w4 ⟨rfl, rfl⟩
          go_wp2
          go_ret
          exact ⟨_, rfl, F2.out.1, F2.out.2.1, F2.out.2.2, by (repeat' (first | (with_reducible exact hbel2) | (with_reducible refine Below.setCell ?_ ?_ _) | (with_reducible refine Below.alloc ?_ ?_ _) | (with_reducible refine Below.drew ?_) | (with_reducible refine below_drewN ?_ _))) <;> (first | omega | (simp <;> omega))⟩
end Go.Proofs.YtiinmhfolfgobaaGreatDoor
