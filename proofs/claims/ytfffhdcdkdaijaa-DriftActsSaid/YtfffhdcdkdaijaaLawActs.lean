/- The walk of the law DriftActs. -/
import Derived.Test.YtfffhdcdkdaijaaProjAll
import Derived.Test.YtfffhdcdkdaijaaRateR
import Derived.Test.YtfffhdcdkdaijaaLawRates
namespace Go.Proofs.Ytfffhdcdkdaijaa
open Go.RowKit

set_option maxRecDepth 100000 in
set_option maxHeartbeats 4000000 in
theorem driftActs_core (e d p a b : Int) (w : World) :
    Calls Try.prog 12 #[.int .i64 e, .int .i64 d, .int .i64 p, .agg #[.int .i64 a, .int .i64 b]] w (RB w (.bool true)) := by
  have r1 := elapsed_any d p
  have r2 := relapsed_any d p
  have r3 := advance_any e p
  have r4 := radvance_any e p
  have r5 := proj_all a b d p
  have r6 := rproj_all a b d p
  have r7 := back_all a b d p
  have r8 := rback_all a b d p
  have r9 := rate_any e d
  have r10 := rrate_any e d
  have r11 := fits_any e d p
  have r12 := rfits_any e d p
  unfold rateV at r9 r10
  obtain ⟨x1, y1, e1, h1⟩ := outV_form d p (elLo d p) (elHi d p)
  obtain ⟨x2, y2, e2, h2⟩ := outV_form e p (adLo e p) (adHi e p)
  obtain ⟨x3, y3, e3, h3⟩ := carV_form a b d p (a + elLo d p) (b + elHi d p)
  obtain ⟨x4, y4, e4, h4⟩ := carV_form a b d p (a - elHi d p) (b - elLo d p)
  rw [h1] at r1 r2
  rw [h2] at r3 r4
  rw [h3] at r5 r6
  rw [h4] at r7 r8
  clear h1 h2 h3 h4
  generalize (rateN e d).1 = x5 at *
  generalize (rateN e d).2 = e5 at *
  generalize fitsB e d p = f at *
  have R1 := Lib.hid r1; clear r1
  have R2 := Lib.hid r2; clear r2
  have R3 := Lib.hid r3; clear r3
  have R4 := Lib.hid r4; clear r4
  have R5 := Lib.hid r5; clear r5
  have R6 := Lib.hid r6; clear r6
  have R7 := Lib.hid r7; clear r7
  have R8 := Lib.hid r8; clear r8
  have R9 := Lib.hid r9; clear r9
  have R10 := Lib.hid r10; clear r10
  have R11 := Lib.hid r11; clear r11
  have R12 := Lib.hid r12; clear r12
  go_enter Try.func12, Try.ntmps12
  go_wp2_with fail
  refine (R1.out _).mono ?_
  rintro e w1 ⟨rfl, hb1⟩
  have K1 : Below w.heap.size w w1 := kept_call hb1 (by (repeat' (first | (with_reducible exact Below.refl _ _) | (with_reducible refine Below.setCell ?_ ?_ _) | (with_reducible refine Below.alloc ?_ ?_ _) | (with_reducible refine Below.drew ?_) | (with_reducible refine below_drewN ?_ _))) <;> (first | omega | (simp <;> omega)))
  have Z1 : w.heap.size ≤ w1.heap.size := K1.size
  have b1_0 := Blk.keep (g := w.heap.size) hb1 (by (repeat' (first | (with_reducible exact Blk.new _ _ _) | (with_reducible refine' Blk.alloc ?_ _) | (with_reducible refine' Blk.drew ?_) | (with_reducible refine' Blk.drewN ?_ _) | (with_reducible refine' Blk.set_ ?_ _ _) | (with_reducible refine' Blk.far ?_ ?_ _))) <;> (first | omega | (simp <;> omega)))
  clear hb1
  obtain ⟨c1_0, f1_0, l1_0, e1_0, k1_0⟩ := Blk.facts b1_0
  go_wp2_with fail
  refine (R2.out _).mono ?_
  rintro e w2 ⟨rfl, hb2⟩
  have K2 : Below w.heap.size w w2 := kept_call hb2 (by (repeat' (first | (with_reducible exact K1) | (with_reducible refine Below.setCell ?_ ?_ _) | (with_reducible refine Below.alloc ?_ ?_ _) | (with_reducible refine Below.drew ?_) | (with_reducible refine below_drewN ?_ _))) <;> (first | omega | (simp <;> omega)))
  have Z2 : w.heap.size ≤ w2.heap.size := K2.size
  have b1_0' := Blk.keep (g := w.heap.size) hb2 (by (repeat' (first | (with_reducible refine' Blk.alloc ?_ _) | (with_reducible refine' Blk.drew ?_) | (with_reducible refine' Blk.drewN ?_ _) | (with_reducible refine' Blk.set_ ?_ _ _) | (with_reducible refine' Blk.far ?_ ?_ _) | exact b1_0)) <;> (first | omega | (simp <;> omega)))
  have b2_0 := Blk.keep (g := w1.heap.size) hb2 (by (repeat' (first | (with_reducible exact Blk.new _ _ _) | (with_reducible refine' Blk.alloc ?_ _) | (with_reducible refine' Blk.drew ?_) | (with_reducible refine' Blk.drewN ?_ _) | (with_reducible refine' Blk.set_ ?_ _ _) | (with_reducible refine' Blk.far ?_ ?_ _))) <;> (first | omega | (simp <;> omega)))
  clear hb2 K1
  clear b1_0 c1_0 f1_0 l1_0 e1_0 k1_0; have b1_0 := b1_0'; clear b1_0'
  obtain ⟨c1_0, f1_0, l1_0, e1_0, k1_0⟩ := Blk.facts b1_0
  obtain ⟨c2_0, f2_0, l2_0, e2_0, k2_0⟩ := Blk.facts b2_0
  go_wp2_with fail
  refine (R3.out _).mono ?_
  rintro e w3 ⟨rfl, hb3⟩
  have K3 : Below w.heap.size w w3 := kept_call hb3 (by (repeat' (first | (with_reducible exact K2) | (with_reducible refine Below.setCell ?_ ?_ _) | (with_reducible refine Below.alloc ?_ ?_ _) | (with_reducible refine Below.drew ?_) | (with_reducible refine below_drewN ?_ _))) <;> (first | omega | (simp <;> omega)))
  have Z3 : w.heap.size ≤ w3.heap.size := K3.size
  have b1_0' := Blk.keep (g := w.heap.size) hb3 (by (repeat' (first | (with_reducible refine' Blk.alloc ?_ _) | (with_reducible refine' Blk.drew ?_) | (with_reducible refine' Blk.drewN ?_ _) | (with_reducible refine' Blk.set_ ?_ _ _) | (with_reducible refine' Blk.far ?_ ?_ _) | exact b1_0)) <;> (first | omega | (simp <;> omega)))
  have b2_0' := Blk.keep (g := w1.heap.size) hb3 (by (repeat' (first | (with_reducible refine' Blk.alloc ?_ _) | (with_reducible refine' Blk.drew ?_) | (with_reducible refine' Blk.drewN ?_ _) | (with_reducible refine' Blk.set_ ?_ _ _) | (with_reducible refine' Blk.far ?_ ?_ _) | exact b2_0)) <;> (first | omega | (simp <;> omega)))
  have b3_0 := Blk.keep (g := w2.heap.size) hb3 (by (repeat' (first | (with_reducible exact Blk.new _ _ _) | (with_reducible refine' Blk.alloc ?_ _) | (with_reducible refine' Blk.drew ?_) | (with_reducible refine' Blk.drewN ?_ _) | (with_reducible refine' Blk.set_ ?_ _ _) | (with_reducible refine' Blk.far ?_ ?_ _))) <;> (first | omega | (simp <;> omega)))
  clear hb3 K2
  clear b1_0 c1_0 f1_0 l1_0 e1_0 k1_0; have b1_0 := b1_0'; clear b1_0'
  clear b2_0 c2_0 f2_0 l2_0 e2_0 k2_0; have b2_0 := b2_0'; clear b2_0'
  obtain ⟨c1_0, f1_0, l1_0, e1_0, k1_0⟩ := Blk.facts b1_0
  obtain ⟨c2_0, f2_0, l2_0, e2_0, k2_0⟩ := Blk.facts b2_0
  obtain ⟨c3_0, f3_0, l3_0, e3_0, k3_0⟩ := Blk.facts b3_0
  go_wp2_with fail
  refine (R4.out _).mono ?_
  rintro e w4 ⟨rfl, hb4⟩
  have K4 : Below w.heap.size w w4 := kept_call hb4 (by (repeat' (first | (with_reducible exact K3) | (with_reducible refine Below.setCell ?_ ?_ _) | (with_reducible refine Below.alloc ?_ ?_ _) | (with_reducible refine Below.drew ?_) | (with_reducible refine below_drewN ?_ _))) <;> (first | omega | (simp <;> omega)))
  have Z4 : w.heap.size ≤ w4.heap.size := K4.size
  have b1_0' := Blk.keep (g := w.heap.size) hb4 (by (repeat' (first | (with_reducible refine' Blk.alloc ?_ _) | (with_reducible refine' Blk.drew ?_) | (with_reducible refine' Blk.drewN ?_ _) | (with_reducible refine' Blk.set_ ?_ _ _) | (with_reducible refine' Blk.far ?_ ?_ _) | exact b1_0)) <;> (first | omega | (simp <;> omega)))
  have b2_0' := Blk.keep (g := w1.heap.size) hb4 (by (repeat' (first | (with_reducible refine' Blk.alloc ?_ _) | (with_reducible refine' Blk.drew ?_) | (with_reducible refine' Blk.drewN ?_ _) | (with_reducible refine' Blk.set_ ?_ _ _) | (with_reducible refine' Blk.far ?_ ?_ _) | exact b2_0)) <;> (first | omega | (simp <;> omega)))
  have b3_0' := Blk.keep (g := w2.heap.size) hb4 (by (repeat' (first | (with_reducible refine' Blk.alloc ?_ _) | (with_reducible refine' Blk.drew ?_) | (with_reducible refine' Blk.drewN ?_ _) | (with_reducible refine' Blk.set_ ?_ _ _) | (with_reducible refine' Blk.far ?_ ?_ _) | exact b3_0)) <;> (first | omega | (simp <;> omega)))
  have b4_0 := Blk.keep (g := w3.heap.size) hb4 (by (repeat' (first | (with_reducible exact Blk.new _ _ _) | (with_reducible refine' Blk.alloc ?_ _) | (with_reducible refine' Blk.drew ?_) | (with_reducible refine' Blk.drewN ?_ _) | (with_reducible refine' Blk.set_ ?_ _ _) | (with_reducible refine' Blk.far ?_ ?_ _))) <;> (first | omega | (simp <;> omega)))
  clear hb4 K3
  clear b1_0 c1_0 f1_0 l1_0 e1_0 k1_0; have b1_0 := b1_0'; clear b1_0'
  clear b2_0 c2_0 f2_0 l2_0 e2_0 k2_0; have b2_0 := b2_0'; clear b2_0'
  clear b3_0 c3_0 f3_0 l3_0 e3_0 k3_0; have b3_0 := b3_0'; clear b3_0'
  obtain ⟨c1_0, f1_0, l1_0, e1_0, k1_0⟩ := Blk.facts b1_0
  obtain ⟨c2_0, f2_0, l2_0, e2_0, k2_0⟩ := Blk.facts b2_0
  obtain ⟨c3_0, f3_0, l3_0, e3_0, k3_0⟩ := Blk.facts b3_0
  obtain ⟨c4_0, f4_0, l4_0, e4_0, k4_0⟩ := Blk.facts b4_0
  go_wp2_with fail
  refine (R5.out _).mono ?_
  rintro e w5 ⟨rfl, hb5⟩
  have K5 : Below w.heap.size w w5 := kept_call hb5 (by (repeat' (first | (with_reducible exact K4) | (with_reducible refine Below.setCell ?_ ?_ _) | (with_reducible refine Below.alloc ?_ ?_ _) | (with_reducible refine Below.drew ?_) | (with_reducible refine below_drewN ?_ _))) <;> (first | omega | (simp <;> omega)))
  have Z5 : w.heap.size ≤ w5.heap.size := K5.size
  have b1_0' := Blk.keep (g := w.heap.size) hb5 (by (repeat' (first | (with_reducible refine' Blk.alloc ?_ _) | (with_reducible refine' Blk.drew ?_) | (with_reducible refine' Blk.drewN ?_ _) | (with_reducible refine' Blk.set_ ?_ _ _) | (with_reducible refine' Blk.far ?_ ?_ _) | exact b1_0)) <;> (first | omega | (simp <;> omega)))
  have b2_0' := Blk.keep (g := w1.heap.size) hb5 (by (repeat' (first | (with_reducible refine' Blk.alloc ?_ _) | (with_reducible refine' Blk.drew ?_) | (with_reducible refine' Blk.drewN ?_ _) | (with_reducible refine' Blk.set_ ?_ _ _) | (with_reducible refine' Blk.far ?_ ?_ _) | exact b2_0)) <;> (first | omega | (simp <;> omega)))
  have b3_0' := Blk.keep (g := w2.heap.size) hb5 (by (repeat' (first | (with_reducible refine' Blk.alloc ?_ _) | (with_reducible refine' Blk.drew ?_) | (with_reducible refine' Blk.drewN ?_ _) | (with_reducible refine' Blk.set_ ?_ _ _) | (with_reducible refine' Blk.far ?_ ?_ _) | exact b3_0)) <;> (first | omega | (simp <;> omega)))
  have b4_0' := Blk.keep (g := w3.heap.size) hb5 (by (repeat' (first | (with_reducible refine' Blk.alloc ?_ _) | (with_reducible refine' Blk.drew ?_) | (with_reducible refine' Blk.drewN ?_ _) | (with_reducible refine' Blk.set_ ?_ _ _) | (with_reducible refine' Blk.far ?_ ?_ _) | exact b4_0)) <;> (first | omega | (simp <;> omega)))
  have b5_0 := Blk.keep (g := w4.heap.size) hb5 (by (repeat' (first | (with_reducible exact Blk.new _ _ _) | (with_reducible refine' Blk.alloc ?_ _) | (with_reducible refine' Blk.drew ?_) | (with_reducible refine' Blk.drewN ?_ _) | (with_reducible refine' Blk.set_ ?_ _ _) | (with_reducible refine' Blk.far ?_ ?_ _))) <;> (first | omega | (simp <;> omega)))
  clear hb5 K4
  clear b1_0 c1_0 f1_0 l1_0 e1_0 k1_0; have b1_0 := b1_0'; clear b1_0'
  clear b2_0 c2_0 f2_0 l2_0 e2_0 k2_0; have b2_0 := b2_0'; clear b2_0'
  clear b3_0 c3_0 f3_0 l3_0 e3_0 k3_0; have b3_0 := b3_0'; clear b3_0'
  clear b4_0 c4_0 f4_0 l4_0 e4_0 k4_0; have b4_0 := b4_0'; clear b4_0'
  obtain ⟨c1_0, f1_0, l1_0, e1_0, k1_0⟩ := Blk.facts b1_0
  obtain ⟨c2_0, f2_0, l2_0, e2_0, k2_0⟩ := Blk.facts b2_0
  obtain ⟨c3_0, f3_0, l3_0, e3_0, k3_0⟩ := Blk.facts b3_0
  obtain ⟨c4_0, f4_0, l4_0, e4_0, k4_0⟩ := Blk.facts b4_0
  obtain ⟨c5_0, f5_0, l5_0, e5_0, k5_0⟩ := Blk.facts b5_0
  go_wp2_with fail
  refine (R6.out _).mono ?_
  rintro e w6 ⟨rfl, hb6⟩
  have K6 : Below w.heap.size w w6 := kept_call hb6 (by (repeat' (first | (with_reducible exact K5) | (with_reducible refine Below.setCell ?_ ?_ _) | (with_reducible refine Below.alloc ?_ ?_ _) | (with_reducible refine Below.drew ?_) | (with_reducible refine below_drewN ?_ _))) <;> (first | omega | (simp <;> omega)))
  have Z6 : w.heap.size ≤ w6.heap.size := K6.size
  have b1_0' := Blk.keep (g := w.heap.size) hb6 (by (repeat' (first | (with_reducible refine' Blk.alloc ?_ _) | (with_reducible refine' Blk.drew ?_) | (with_reducible refine' Blk.drewN ?_ _) | (with_reducible refine' Blk.set_ ?_ _ _) | (with_reducible refine' Blk.far ?_ ?_ _) | exact b1_0)) <;> (first | omega | (simp <;> omega)))
  have b2_0' := Blk.keep (g := w1.heap.size) hb6 (by (repeat' (first | (with_reducible refine' Blk.alloc ?_ _) | (with_reducible refine' Blk.drew ?_) | (with_reducible refine' Blk.drewN ?_ _) | (with_reducible refine' Blk.set_ ?_ _ _) | (with_reducible refine' Blk.far ?_ ?_ _) | exact b2_0)) <;> (first | omega | (simp <;> omega)))
  have b3_0' := Blk.keep (g := w2.heap.size) hb6 (by (repeat' (first | (with_reducible refine' Blk.alloc ?_ _) | (with_reducible refine' Blk.drew ?_) | (with_reducible refine' Blk.drewN ?_ _) | (with_reducible refine' Blk.set_ ?_ _ _) | (with_reducible refine' Blk.far ?_ ?_ _) | exact b3_0)) <;> (first | omega | (simp <;> omega)))
  have b4_0' := Blk.keep (g := w3.heap.size) hb6 (by (repeat' (first | (with_reducible refine' Blk.alloc ?_ _) | (with_reducible refine' Blk.drew ?_) | (with_reducible refine' Blk.drewN ?_ _) | (with_reducible refine' Blk.set_ ?_ _ _) | (with_reducible refine' Blk.far ?_ ?_ _) | exact b4_0)) <;> (first | omega | (simp <;> omega)))
  have b5_0' := Blk.keep (g := w4.heap.size) hb6 (by (repeat' (first | (with_reducible refine' Blk.alloc ?_ _) | (with_reducible refine' Blk.drew ?_) | (with_reducible refine' Blk.drewN ?_ _) | (with_reducible refine' Blk.set_ ?_ _ _) | (with_reducible refine' Blk.far ?_ ?_ _) | exact b5_0)) <;> (first | omega | (simp <;> omega)))
  have b6_0 := Blk.keep (g := w5.heap.size) hb6 (by (repeat' (first | (with_reducible exact Blk.new _ _ _) | (with_reducible refine' Blk.alloc ?_ _) | (with_reducible refine' Blk.drew ?_) | (with_reducible refine' Blk.drewN ?_ _) | (with_reducible refine' Blk.set_ ?_ _ _) | (with_reducible refine' Blk.far ?_ ?_ _))) <;> (first | omega | (simp <;> omega)))
  clear hb6 K5
  clear b1_0 c1_0 f1_0 l1_0 e1_0 k1_0; have b1_0 := b1_0'; clear b1_0'
  clear b2_0 c2_0 f2_0 l2_0 e2_0 k2_0; have b2_0 := b2_0'; clear b2_0'
  clear b3_0 c3_0 f3_0 l3_0 e3_0 k3_0; have b3_0 := b3_0'; clear b3_0'
  clear b4_0 c4_0 f4_0 l4_0 e4_0 k4_0; have b4_0 := b4_0'; clear b4_0'
  clear b5_0 c5_0 f5_0 l5_0 e5_0 k5_0; have b5_0 := b5_0'; clear b5_0'
  obtain ⟨c1_0, f1_0, l1_0, e1_0, k1_0⟩ := Blk.facts b1_0
  obtain ⟨c2_0, f2_0, l2_0, e2_0, k2_0⟩ := Blk.facts b2_0
  obtain ⟨c3_0, f3_0, l3_0, e3_0, k3_0⟩ := Blk.facts b3_0
  obtain ⟨c4_0, f4_0, l4_0, e4_0, k4_0⟩ := Blk.facts b4_0
  obtain ⟨c5_0, f5_0, l5_0, e5_0, k5_0⟩ := Blk.facts b5_0
  obtain ⟨c6_0, f6_0, l6_0, e6_0, k6_0⟩ := Blk.facts b6_0
  go_wp2_with fail
  refine (R7.out _).mono ?_
  rintro e w7 ⟨rfl, hb7⟩
  have K7 : Below w.heap.size w w7 := kept_call hb7 (by (repeat' (first | (with_reducible exact K6) | (with_reducible refine Below.setCell ?_ ?_ _) | (with_reducible refine Below.alloc ?_ ?_ _) | (with_reducible refine Below.drew ?_) | (with_reducible refine below_drewN ?_ _))) <;> (first | omega | (simp <;> omega)))
  have Z7 : w.heap.size ≤ w7.heap.size := K7.size
  have b1_0' := Blk.keep (g := w.heap.size) hb7 (by (repeat' (first | (with_reducible refine' Blk.alloc ?_ _) | (with_reducible refine' Blk.drew ?_) | (with_reducible refine' Blk.drewN ?_ _) | (with_reducible refine' Blk.set_ ?_ _ _) | (with_reducible refine' Blk.far ?_ ?_ _) | exact b1_0)) <;> (first | omega | (simp <;> omega)))
  have b2_0' := Blk.keep (g := w1.heap.size) hb7 (by (repeat' (first | (with_reducible refine' Blk.alloc ?_ _) | (with_reducible refine' Blk.drew ?_) | (with_reducible refine' Blk.drewN ?_ _) | (with_reducible refine' Blk.set_ ?_ _ _) | (with_reducible refine' Blk.far ?_ ?_ _) | exact b2_0)) <;> (first | omega | (simp <;> omega)))
  have b3_0' := Blk.keep (g := w2.heap.size) hb7 (by (repeat' (first | (with_reducible refine' Blk.alloc ?_ _) | (with_reducible refine' Blk.drew ?_) | (with_reducible refine' Blk.drewN ?_ _) | (with_reducible refine' Blk.set_ ?_ _ _) | (with_reducible refine' Blk.far ?_ ?_ _) | exact b3_0)) <;> (first | omega | (simp <;> omega)))
  have b4_0' := Blk.keep (g := w3.heap.size) hb7 (by (repeat' (first | (with_reducible refine' Blk.alloc ?_ _) | (with_reducible refine' Blk.drew ?_) | (with_reducible refine' Blk.drewN ?_ _) | (with_reducible refine' Blk.set_ ?_ _ _) | (with_reducible refine' Blk.far ?_ ?_ _) | exact b4_0)) <;> (first | omega | (simp <;> omega)))
  have b5_0' := Blk.keep (g := w4.heap.size) hb7 (by (repeat' (first | (with_reducible refine' Blk.alloc ?_ _) | (with_reducible refine' Blk.drew ?_) | (with_reducible refine' Blk.drewN ?_ _) | (with_reducible refine' Blk.set_ ?_ _ _) | (with_reducible refine' Blk.far ?_ ?_ _) | exact b5_0)) <;> (first | omega | (simp <;> omega)))
  have b6_0' := Blk.keep (g := w5.heap.size) hb7 (by (repeat' (first | (with_reducible refine' Blk.alloc ?_ _) | (with_reducible refine' Blk.drew ?_) | (with_reducible refine' Blk.drewN ?_ _) | (with_reducible refine' Blk.set_ ?_ _ _) | (with_reducible refine' Blk.far ?_ ?_ _) | exact b6_0)) <;> (first | omega | (simp <;> omega)))
  have b7_0 := Blk.keep (g := w6.heap.size) hb7 (by (repeat' (first | (with_reducible exact Blk.new _ _ _) | (with_reducible refine' Blk.alloc ?_ _) | (with_reducible refine' Blk.drew ?_) | (with_reducible refine' Blk.drewN ?_ _) | (with_reducible refine' Blk.set_ ?_ _ _) | (with_reducible refine' Blk.far ?_ ?_ _))) <;> (first | omega | (simp <;> omega)))
  clear hb7 K6
  clear b1_0 c1_0 f1_0 l1_0 e1_0 k1_0; have b1_0 := b1_0'; clear b1_0'
  clear b2_0 c2_0 f2_0 l2_0 e2_0 k2_0; have b2_0 := b2_0'; clear b2_0'
  clear b3_0 c3_0 f3_0 l3_0 e3_0 k3_0; have b3_0 := b3_0'; clear b3_0'
  clear b4_0 c4_0 f4_0 l4_0 e4_0 k4_0; have b4_0 := b4_0'; clear b4_0'
  clear b5_0 c5_0 f5_0 l5_0 e5_0 k5_0; have b5_0 := b5_0'; clear b5_0'
  clear b6_0 c6_0 f6_0 l6_0 e6_0 k6_0; have b6_0 := b6_0'; clear b6_0'
  obtain ⟨c1_0, f1_0, l1_0, e1_0, k1_0⟩ := Blk.facts b1_0
  obtain ⟨c2_0, f2_0, l2_0, e2_0, k2_0⟩ := Blk.facts b2_0
  obtain ⟨c3_0, f3_0, l3_0, e3_0, k3_0⟩ := Blk.facts b3_0
  obtain ⟨c4_0, f4_0, l4_0, e4_0, k4_0⟩ := Blk.facts b4_0
  obtain ⟨c5_0, f5_0, l5_0, e5_0, k5_0⟩ := Blk.facts b5_0
  obtain ⟨c6_0, f6_0, l6_0, e6_0, k6_0⟩ := Blk.facts b6_0
  obtain ⟨c7_0, f7_0, l7_0, e7_0, k7_0⟩ := Blk.facts b7_0
  go_wp2_with fail
  refine (R8.out _).mono ?_
  rintro e w8 ⟨rfl, hb8⟩
  have K8 : Below w.heap.size w w8 := kept_call hb8 (by (repeat' (first | (with_reducible exact K7) | (with_reducible refine Below.setCell ?_ ?_ _) | (with_reducible refine Below.alloc ?_ ?_ _) | (with_reducible refine Below.drew ?_) | (with_reducible refine below_drewN ?_ _))) <;> (first | omega | (simp <;> omega)))
  have Z8 : w.heap.size ≤ w8.heap.size := K8.size
  have b1_0' := Blk.keep (g := w.heap.size) hb8 (by (repeat' (first | (with_reducible refine' Blk.alloc ?_ _) | (with_reducible refine' Blk.drew ?_) | (with_reducible refine' Blk.drewN ?_ _) | (with_reducible refine' Blk.set_ ?_ _ _) | (with_reducible refine' Blk.far ?_ ?_ _) | exact b1_0)) <;> (first | omega | (simp <;> omega)))
  have b2_0' := Blk.keep (g := w1.heap.size) hb8 (by (repeat' (first | (with_reducible refine' Blk.alloc ?_ _) | (with_reducible refine' Blk.drew ?_) | (with_reducible refine' Blk.drewN ?_ _) | (with_reducible refine' Blk.set_ ?_ _ _) | (with_reducible refine' Blk.far ?_ ?_ _) | exact b2_0)) <;> (first | omega | (simp <;> omega)))
  have b3_0' := Blk.keep (g := w2.heap.size) hb8 (by (repeat' (first | (with_reducible refine' Blk.alloc ?_ _) | (with_reducible refine' Blk.drew ?_) | (with_reducible refine' Blk.drewN ?_ _) | (with_reducible refine' Blk.set_ ?_ _ _) | (with_reducible refine' Blk.far ?_ ?_ _) | exact b3_0)) <;> (first | omega | (simp <;> omega)))
  have b4_0' := Blk.keep (g := w3.heap.size) hb8 (by (repeat' (first | (with_reducible refine' Blk.alloc ?_ _) | (with_reducible refine' Blk.drew ?_) | (with_reducible refine' Blk.drewN ?_ _) | (with_reducible refine' Blk.set_ ?_ _ _) | (with_reducible refine' Blk.far ?_ ?_ _) | exact b4_0)) <;> (first | omega | (simp <;> omega)))
  have b5_0' := Blk.keep (g := w4.heap.size) hb8 (by (repeat' (first | (with_reducible refine' Blk.alloc ?_ _) | (with_reducible refine' Blk.drew ?_) | (with_reducible refine' Blk.drewN ?_ _) | (with_reducible refine' Blk.set_ ?_ _ _) | (with_reducible refine' Blk.far ?_ ?_ _) | exact b5_0)) <;> (first | omega | (simp <;> omega)))
  have b6_0' := Blk.keep (g := w5.heap.size) hb8 (by (repeat' (first | (with_reducible refine' Blk.alloc ?_ _) | (with_reducible refine' Blk.drew ?_) | (with_reducible refine' Blk.drewN ?_ _) | (with_reducible refine' Blk.set_ ?_ _ _) | (with_reducible refine' Blk.far ?_ ?_ _) | exact b6_0)) <;> (first | omega | (simp <;> omega)))
  have b7_0' := Blk.keep (g := w6.heap.size) hb8 (by (repeat' (first | (with_reducible refine' Blk.alloc ?_ _) | (with_reducible refine' Blk.drew ?_) | (with_reducible refine' Blk.drewN ?_ _) | (with_reducible refine' Blk.set_ ?_ _ _) | (with_reducible refine' Blk.far ?_ ?_ _) | exact b7_0)) <;> (first | omega | (simp <;> omega)))
  have b8_0 := Blk.keep (g := w7.heap.size) hb8 (by (repeat' (first | (with_reducible exact Blk.new _ _ _) | (with_reducible refine' Blk.alloc ?_ _) | (with_reducible refine' Blk.drew ?_) | (with_reducible refine' Blk.drewN ?_ _) | (with_reducible refine' Blk.set_ ?_ _ _) | (with_reducible refine' Blk.far ?_ ?_ _))) <;> (first | omega | (simp <;> omega)))
  clear hb8 K7
  clear b1_0 c1_0 f1_0 l1_0 e1_0 k1_0; have b1_0 := b1_0'; clear b1_0'
  clear b2_0 c2_0 f2_0 l2_0 e2_0 k2_0; have b2_0 := b2_0'; clear b2_0'
  clear b3_0 c3_0 f3_0 l3_0 e3_0 k3_0; have b3_0 := b3_0'; clear b3_0'
  clear b4_0 c4_0 f4_0 l4_0 e4_0 k4_0; have b4_0 := b4_0'; clear b4_0'
  clear b5_0 c5_0 f5_0 l5_0 e5_0 k5_0; have b5_0 := b5_0'; clear b5_0'
  clear b6_0 c6_0 f6_0 l6_0 e6_0 k6_0; have b6_0 := b6_0'; clear b6_0'
  clear b7_0 c7_0 f7_0 l7_0 e7_0 k7_0; have b7_0 := b7_0'; clear b7_0'
  obtain ⟨c1_0, f1_0, l1_0, e1_0, k1_0⟩ := Blk.facts b1_0
  obtain ⟨c2_0, f2_0, l2_0, e2_0, k2_0⟩ := Blk.facts b2_0
  obtain ⟨c3_0, f3_0, l3_0, e3_0, k3_0⟩ := Blk.facts b3_0
  obtain ⟨c4_0, f4_0, l4_0, e4_0, k4_0⟩ := Blk.facts b4_0
  obtain ⟨c5_0, f5_0, l5_0, e5_0, k5_0⟩ := Blk.facts b5_0
  obtain ⟨c6_0, f6_0, l6_0, e6_0, k6_0⟩ := Blk.facts b6_0
  obtain ⟨c7_0, f7_0, l7_0, e7_0, k7_0⟩ := Blk.facts b7_0
  obtain ⟨c8_0, f8_0, l8_0, e8_0, k8_0⟩ := Blk.facts b8_0
  go_wp2_with fail
  refine (R9.out _).mono ?_
  rintro e wq1 ⟨rfl, nq1, rfl⟩
  go_wp2_with fail
  refine (R10.out _).mono ?_
  rintro e wq2 ⟨rfl, rfl⟩
  go_wp2_with fail
  refine (known15_any _).mono ?_
  rintro e w9 ⟨rfl, hb9⟩
  have K9 : Below w.heap.size w w9 := kept_call hb9 (by (repeat' (first | (with_reducible exact K8) | (with_reducible refine Below.setCell ?_ ?_ _) | (with_reducible refine Below.alloc ?_ ?_ _) | (with_reducible refine Below.drew ?_) | (with_reducible refine below_drewN ?_ _))) <;> (first | omega | (simp <;> omega)))
  have Z9 : w.heap.size ≤ w9.heap.size := K9.size
  have b1_0' := Blk.keep (g := w.heap.size) hb9 (by (repeat' (first | (with_reducible refine' Blk.alloc ?_ _) | (with_reducible refine' Blk.drew ?_) | (with_reducible refine' Blk.drewN ?_ _) | (with_reducible refine' Blk.set_ ?_ _ _) | (with_reducible refine' Blk.far ?_ ?_ _) | exact b1_0)) <;> (first | omega | (simp <;> omega)))
  have b2_0' := Blk.keep (g := w1.heap.size) hb9 (by (repeat' (first | (with_reducible refine' Blk.alloc ?_ _) | (with_reducible refine' Blk.drew ?_) | (with_reducible refine' Blk.drewN ?_ _) | (with_reducible refine' Blk.set_ ?_ _ _) | (with_reducible refine' Blk.far ?_ ?_ _) | exact b2_0)) <;> (first | omega | (simp <;> omega)))
  have b3_0' := Blk.keep (g := w2.heap.size) hb9 (by (repeat' (first | (with_reducible refine' Blk.alloc ?_ _) | (with_reducible refine' Blk.drew ?_) | (with_reducible refine' Blk.drewN ?_ _) | (with_reducible refine' Blk.set_ ?_ _ _) | (with_reducible refine' Blk.far ?_ ?_ _) | exact b3_0)) <;> (first | omega | (simp <;> omega)))
  have b4_0' := Blk.keep (g := w3.heap.size) hb9 (by (repeat' (first | (with_reducible refine' Blk.alloc ?_ _) | (with_reducible refine' Blk.drew ?_) | (with_reducible refine' Blk.drewN ?_ _) | (with_reducible refine' Blk.set_ ?_ _ _) | (with_reducible refine' Blk.far ?_ ?_ _) | exact b4_0)) <;> (first | omega | (simp <;> omega)))
  have b5_0' := Blk.keep (g := w4.heap.size) hb9 (by (repeat' (first | (with_reducible refine' Blk.alloc ?_ _) | (with_reducible refine' Blk.drew ?_) | (with_reducible refine' Blk.drewN ?_ _) | (with_reducible refine' Blk.set_ ?_ _ _) | (with_reducible refine' Blk.far ?_ ?_ _) | exact b5_0)) <;> (first | omega | (simp <;> omega)))
  have b6_0' := Blk.keep (g := w5.heap.size) hb9 (by (repeat' (first | (with_reducible refine' Blk.alloc ?_ _) | (with_reducible refine' Blk.drew ?_) | (with_reducible refine' Blk.drewN ?_ _) | (with_reducible refine' Blk.set_ ?_ _ _) | (with_reducible refine' Blk.far ?_ ?_ _) | exact b6_0)) <;> (first | omega | (simp <;> omega)))
  have b7_0' := Blk.keep (g := w6.heap.size) hb9 (by (repeat' (first | (with_reducible refine' Blk.alloc ?_ _) | (with_reducible refine' Blk.drew ?_) | (with_reducible refine' Blk.drewN ?_ _) | (with_reducible refine' Blk.set_ ?_ _ _) | (with_reducible refine' Blk.far ?_ ?_ _) | exact b7_0)) <;> (first | omega | (simp <;> omega)))
  have b8_0' := Blk.keep (g := w7.heap.size) hb9 (by (repeat' (first | (with_reducible refine' Blk.alloc ?_ _) | (with_reducible refine' Blk.drew ?_) | (with_reducible refine' Blk.drewN ?_ _) | (with_reducible refine' Blk.set_ ?_ _ _) | (with_reducible refine' Blk.far ?_ ?_ _) | exact b8_0)) <;> (first | omega | (simp <;> omega)))
  have b9_0 := Blk.keep (g := w8.heap.size) hb9 (by (repeat' (first | (with_reducible exact Blk.new _ _ _) | (with_reducible refine' Blk.alloc ?_ _) | (with_reducible refine' Blk.drew ?_) | (with_reducible refine' Blk.drewN ?_ _) | (with_reducible refine' Blk.set_ ?_ _ _) | (with_reducible refine' Blk.far ?_ ?_ _))) <;> (first | omega | (simp <;> omega)))
  clear hb9 K8
  clear b1_0 c1_0 f1_0 l1_0 e1_0 k1_0; have b1_0 := b1_0'; clear b1_0'
  clear b2_0 c2_0 f2_0 l2_0 e2_0 k2_0; have b2_0 := b2_0'; clear b2_0'
  clear b3_0 c3_0 f3_0 l3_0 e3_0 k3_0; have b3_0 := b3_0'; clear b3_0'
  clear b4_0 c4_0 f4_0 l4_0 e4_0 k4_0; have b4_0 := b4_0'; clear b4_0'
  clear b5_0 c5_0 f5_0 l5_0 e5_0 k5_0; have b5_0 := b5_0'; clear b5_0'
  clear b6_0 c6_0 f6_0 l6_0 e6_0 k6_0; have b6_0 := b6_0'; clear b6_0'
  clear b7_0 c7_0 f7_0 l7_0 e7_0 k7_0; have b7_0 := b7_0'; clear b7_0'
  clear b8_0 c8_0 f8_0 l8_0 e8_0 k8_0; have b8_0 := b8_0'; clear b8_0'
  obtain ⟨c1_0, f1_0, l1_0, e1_0, k1_0⟩ := Blk.facts b1_0
  obtain ⟨c2_0, f2_0, l2_0, e2_0, k2_0⟩ := Blk.facts b2_0
  obtain ⟨c3_0, f3_0, l3_0, e3_0, k3_0⟩ := Blk.facts b3_0
  obtain ⟨c4_0, f4_0, l4_0, e4_0, k4_0⟩ := Blk.facts b4_0
  obtain ⟨c5_0, f5_0, l5_0, e5_0, k5_0⟩ := Blk.facts b5_0
  obtain ⟨c6_0, f6_0, l6_0, e6_0, k6_0⟩ := Blk.facts b6_0
  obtain ⟨c7_0, f7_0, l7_0, e7_0, k7_0⟩ := Blk.facts b7_0
  obtain ⟨c8_0, f8_0, l8_0, e8_0, k8_0⟩ := Blk.facts b8_0
  obtain ⟨c9_0, f9_0, l9_0, e9_0, k9_0⟩ := Blk.facts b9_0
  go_wp2_with fail
  refine (R11.out _).mono ?_
  rintro e w10 ⟨rfl, hb10⟩
  have K10 : Below w.heap.size w w10 := kept_call hb10 (by (repeat' (first | (with_reducible exact K9) | (with_reducible refine Below.setCell ?_ ?_ _) | (with_reducible refine Below.alloc ?_ ?_ _) | (with_reducible refine Below.drew ?_) | (with_reducible refine below_drewN ?_ _))) <;> (first | omega | (simp <;> omega)))
  have Z10 : w.heap.size ≤ w10.heap.size := K10.size
  have b1_0' := Blk.keep (g := w.heap.size) hb10 (by (repeat' (first | (with_reducible refine' Blk.alloc ?_ _) | (with_reducible refine' Blk.drew ?_) | (with_reducible refine' Blk.drewN ?_ _) | (with_reducible refine' Blk.set_ ?_ _ _) | (with_reducible refine' Blk.far ?_ ?_ _) | exact b1_0)) <;> (first | omega | (simp <;> omega)))
  have b2_0' := Blk.keep (g := w1.heap.size) hb10 (by (repeat' (first | (with_reducible refine' Blk.alloc ?_ _) | (with_reducible refine' Blk.drew ?_) | (with_reducible refine' Blk.drewN ?_ _) | (with_reducible refine' Blk.set_ ?_ _ _) | (with_reducible refine' Blk.far ?_ ?_ _) | exact b2_0)) <;> (first | omega | (simp <;> omega)))
  have b3_0' := Blk.keep (g := w2.heap.size) hb10 (by (repeat' (first | (with_reducible refine' Blk.alloc ?_ _) | (with_reducible refine' Blk.drew ?_) | (with_reducible refine' Blk.drewN ?_ _) | (with_reducible refine' Blk.set_ ?_ _ _) | (with_reducible refine' Blk.far ?_ ?_ _) | exact b3_0)) <;> (first | omega | (simp <;> omega)))
  have b4_0' := Blk.keep (g := w3.heap.size) hb10 (by (repeat' (first | (with_reducible refine' Blk.alloc ?_ _) | (with_reducible refine' Blk.drew ?_) | (with_reducible refine' Blk.drewN ?_ _) | (with_reducible refine' Blk.set_ ?_ _ _) | (with_reducible refine' Blk.far ?_ ?_ _) | exact b4_0)) <;> (first | omega | (simp <;> omega)))
  have b5_0' := Blk.keep (g := w4.heap.size) hb10 (by (repeat' (first | (with_reducible refine' Blk.alloc ?_ _) | (with_reducible refine' Blk.drew ?_) | (with_reducible refine' Blk.drewN ?_ _) | (with_reducible refine' Blk.set_ ?_ _ _) | (with_reducible refine' Blk.far ?_ ?_ _) | exact b5_0)) <;> (first | omega | (simp <;> omega)))
  have b6_0' := Blk.keep (g := w5.heap.size) hb10 (by (repeat' (first | (with_reducible refine' Blk.alloc ?_ _) | (with_reducible refine' Blk.drew ?_) | (with_reducible refine' Blk.drewN ?_ _) | (with_reducible refine' Blk.set_ ?_ _ _) | (with_reducible refine' Blk.far ?_ ?_ _) | exact b6_0)) <;> (first | omega | (simp <;> omega)))
  have b7_0' := Blk.keep (g := w6.heap.size) hb10 (by (repeat' (first | (with_reducible refine' Blk.alloc ?_ _) | (with_reducible refine' Blk.drew ?_) | (with_reducible refine' Blk.drewN ?_ _) | (with_reducible refine' Blk.set_ ?_ _ _) | (with_reducible refine' Blk.far ?_ ?_ _) | exact b7_0)) <;> (first | omega | (simp <;> omega)))
  have b8_0' := Blk.keep (g := w7.heap.size) hb10 (by (repeat' (first | (with_reducible refine' Blk.alloc ?_ _) | (with_reducible refine' Blk.drew ?_) | (with_reducible refine' Blk.drewN ?_ _) | (with_reducible refine' Blk.set_ ?_ _ _) | (with_reducible refine' Blk.far ?_ ?_ _) | exact b8_0)) <;> (first | omega | (simp <;> omega)))
  have b9_0' := Blk.keep (g := w8.heap.size) hb10 (by (repeat' (first | (with_reducible refine' Blk.alloc ?_ _) | (with_reducible refine' Blk.drew ?_) | (with_reducible refine' Blk.drewN ?_ _) | (with_reducible refine' Blk.set_ ?_ _ _) | (with_reducible refine' Blk.far ?_ ?_ _) | exact b9_0)) <;> (first | omega | (simp <;> omega)))
  clear hb10 K9
  clear b1_0 c1_0 f1_0 l1_0 e1_0 k1_0; have b1_0 := b1_0'; clear b1_0'
  clear b2_0 c2_0 f2_0 l2_0 e2_0 k2_0; have b2_0 := b2_0'; clear b2_0'
  clear b3_0 c3_0 f3_0 l3_0 e3_0 k3_0; have b3_0 := b3_0'; clear b3_0'
  clear b4_0 c4_0 f4_0 l4_0 e4_0 k4_0; have b4_0 := b4_0'; clear b4_0'
  clear b5_0 c5_0 f5_0 l5_0 e5_0 k5_0; have b5_0 := b5_0'; clear b5_0'
  clear b6_0 c6_0 f6_0 l6_0 e6_0 k6_0; have b6_0 := b6_0'; clear b6_0'
  clear b7_0 c7_0 f7_0 l7_0 e7_0 k7_0; have b7_0 := b7_0'; clear b7_0'
  clear b8_0 c8_0 f8_0 l8_0 e8_0 k8_0; have b8_0 := b8_0'; clear b8_0'
  clear b9_0 c9_0 f9_0 l9_0 e9_0 k9_0; have b9_0 := b9_0'; clear b9_0'
  obtain ⟨c1_0, f1_0, l1_0, e1_0, k1_0⟩ := Blk.facts b1_0
  obtain ⟨c2_0, f2_0, l2_0, e2_0, k2_0⟩ := Blk.facts b2_0
  obtain ⟨c3_0, f3_0, l3_0, e3_0, k3_0⟩ := Blk.facts b3_0
  obtain ⟨c4_0, f4_0, l4_0, e4_0, k4_0⟩ := Blk.facts b4_0
  obtain ⟨c5_0, f5_0, l5_0, e5_0, k5_0⟩ := Blk.facts b5_0
  obtain ⟨c6_0, f6_0, l6_0, e6_0, k6_0⟩ := Blk.facts b6_0
  obtain ⟨c7_0, f7_0, l7_0, e7_0, k7_0⟩ := Blk.facts b7_0
  obtain ⟨c8_0, f8_0, l8_0, e8_0, k8_0⟩ := Blk.facts b8_0
  obtain ⟨c9_0, f9_0, l9_0, e9_0, k9_0⟩ := Blk.facts b9_0
  go_wp2_with fail
  refine (R12.out _).mono ?_
  rintro e wq3 ⟨rfl, rfl⟩
  go_wp2
  go_ret
  exact ⟨rfl, by (repeat' (first | (with_reducible exact K10) | (with_reducible refine Below.setCell ?_ ?_ _) | (with_reducible refine Below.alloc ?_ ?_ _) | (with_reducible refine Below.drew ?_) | (with_reducible refine below_drewN ?_ _))) <;> (first | omega | (simp <;> omega))⟩
theorem driftActs_walk (e : Int) (_ : IntIn e) (d : Int) (_ : IntIn d) (p : Int) (_ : IntIn p) (a b : Int) (_ : IntIn a) (_ : IntIn b) (w : World) :
    Walked 12 #[.int .i64 e, .int .i64 d, .int .i64 p, .agg #[.int .i64 a, .int .i64 b]] w := driftActs_core e d p a b w
end Go.Proofs.Ytfffhdcdkdaijaa
