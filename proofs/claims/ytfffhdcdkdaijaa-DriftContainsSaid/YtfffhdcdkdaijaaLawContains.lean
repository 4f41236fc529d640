/- The walk of the law DriftContains. -/
import Derived.Test.YtfffhdcdkdaijaaLawReturns
import Derived.Test.YtfffhdcdkdaijaaKit
import Derived.Deep.QuietTactic
import Derived.BigQuiet
namespace Go.Proofs.Ytfffhdcdkdaijaa
open Go.RowKit

theorem wwithin_q (v n : Int) (w : World) (hn : 1 ≤ n) (hn2 : n ≤ 9223372036854775807) :
    Calls Try.prog 18 #[.int .i64 v, .int .i64 n] w fun e w' => e = .returned (.int .i64 (v % n)) ∧ w' = w := (wwithin_any v n w hn hn2).mono fun _ _ h => ⟨h.1, h.2.symm⟩
theorem ad_hi {e p : Int} (h : 0 ≤ e) (hp : p ≤ 1000000) : adHi e p ≤ e + e / 1000 + 1 := by
  have : e * (1000000000 + p) ≤ e * 1001000000 := Int.mul_le_mul_of_nonneg_left (by omega) h
  show -(-(e * (1000000000 + p)) / 1000000000) ≤ _
  omega
theorem ad_holds {e d p : Int} (h : fitsP e d p) : adLo e p ≤ d ∧ d ≤ adHi e p := by
  obtain ⟨⟨h1, h2, h3, h4, h5, h6⟩, h7, h8⟩ := h
  constructor
  · show e * (1000000000 - p) / 1000000000 ≤ d
    omega
  · show d ≤ -(-(e * (1000000000 + p)) / 1000000000)
    omega

set_option maxRecDepth 100000 in
set_option maxHeartbeats 4000000 in
theorem driftContains_core (e ppb c a b u : Int) (w : World) :
    Calls Try.prog 13 #[.int .i64 e, .int .i64 ppb, .int .i64 c, .int .i64 a, .int .i64 b, .int .i64 u] w (RB w (.bool true)) := by
  obtain ⟨E, hE⟩ : ∃ E, e % 36028797018963968 = E := ⟨_, rfl⟩
  obtain ⟨P, hP⟩ : ∃ P, ppb % 1000001 = P := ⟨_, rfl⟩
  have E0 : 0 ≤ E ∧ E < 36028797018963968 := by omega
  have P0 : 0 ≤ P ∧ P ≤ 1000000 := by omega
  have HE := Lib.hid hE; clear hE
  have HP := Lib.hid hP; clear hP
  have hin : inD E P = true := inD_true.2 ⟨by omega, by omega, by omega, by omega⟩
  have hA := advN_fits E P c hin
  have r1 := fun w => adv_any E P c w hin
  have rad := advance_any E P
  rw [outV_ok hin] at rad
  have al := ad_le E P hin
  have al2 := ad_hi E0.1 P0.2
  generalize advN E P c = D at *
  have hD := fits_in_range hA
  have d0 : 0 ≤ D := hA.1.2.2.1
  have hinD : inD D P = true := inD_true.2 ⟨by omega, by omega, by omega, by omega⟩
  have rel := elapsed_any D P
  rw [outV_ok hinD] at rel
  have X1 := lo_pos d0 P0.1 P0.2
  have X2 := hi_two d0 P0.1 P0.2
  have X3 := le_hi d0 P0.1 P0.2
  have X4 := lo_le d0 P0.1 P0.2
  have fh := fits_holds hA
  have fa := ad_holds hA
  have rft := fits_any E D P
  rw [fitsB_yes hA] at rft
  have rs := wspan_any a b
  have hs : -1000 ≤ a % 2000 - 1000 ∧ a % 2000 - 1000 ≤ a % 2000 - 1000 + b % 500 ∧ a % 2000 - 1000 + b % 500 < 1500 := by omega
  generalize a % 2000 - 1000 + b % 500 = s1 at *
  generalize a % 2000 - 1000 = s0 at *
  have m1 := Int.emod_nonneg u (b := s1 - s0 + 1) (by omega)
  have m2 := Int.emod_lt_of_pos u (b := s1 - s0 + 1) (by omega)
  have rq0 := fun w => wwithin_q u (s1 - s0 + 1) w (by omega) (by omega)
  generalize u % (s1 - s0 + 1) = U at *
  have vs : vS s0 s1 = true := vS_true.2 ⟨by omega, by omega, by omega⟩
  have rp := fun w => proj_any s0 s1 D P w vs hinD
  have vp : vS (s0 + elLo D P) (s1 + elHi D P) = true := vS_true.2 ⟨by omega, by omega, by omega⟩
  have vq : vS (s0 + elLo D P - elHi D P) (s1 + elHi D P - elLo D P) = true := vS_true.2 ⟨by omega, by omega, by omega⟩
  have vx : vS (elLo D P) (elHi D P) = true := vS_true.2 ⟨by omega, by omega, by omega⟩
  have rq := fun w => back_any (s0 + elLo D P) (s1 + elHi D P) D P w vp hinD
  rw [mkV_ok vp] at rp
  rw [mkV_ok vq] at rq
  generalize elLo D P = lo at *
  generalize elHi D P = hi at *
  generalize adLo E P = ao at *
  generalize adHi E P = ah at *
  have vy : vS ao ah = true := vS_true.2 ⟨by omega, by omega, by omega⟩
  have i1 := fun w => holds_any lo hi E w vx (by omega) (by omega)
  have i2 := fun w => holds_any ao ah D w vy (by omega) (by omega)
  have i3 := fun w => holds_any (s0 + lo) (s1 + hi) (s0 + U + E) w vp (by omega) (by omega)
  have i4 := fun w => holds_any (s0 + lo - hi) (s1 + hi - lo) (s0 + U) w vq (by omega) (by omega)
  have ew1 : IntKind.i64.wrap (s1 - s0) = s1 - s0 := IntWalk.i64_in _ (by omega)
  have ew2 : IntKind.i64.wrap (s1 - s0 + 1) = s1 - s0 + 1 := IntWalk.i64_in _ (by omega)
  have ew3 : IntKind.i64.wrap (s0 + U) = s0 + U := IntWalk.i64_in _ (by omega)
  clear vs vp vx vq vy hin hinD hA
  have Hr1 := Lib.hid r1; clear r1
  have Hrad := Lib.hid rad; clear rad
  have Hrel := Lib.hid rel; clear rel
  have Hrft := Lib.hid rft; clear rft
  have Hrs := Lib.hid rs; clear rs
  have Hrq0 := Lib.hid rq0; clear rq0
  have Hrp := Lib.hid rp; clear rp
  have Hrq := Lib.hid rq; clear rq
  have Hi1 := Lib.hid i1; clear i1
  have Hi2 := Lib.hid i2; clear i2
  have Hi3 := Lib.hid i3; clear i3
  have Hi4 := Lib.hid i4; clear i4
  go_enter Try.func13, Try.ntmps13
  go_wp2_with fail
  refine (wwithin_eq HE.out _ (by omega) (by omega)).mono ?_
  rintro e wq1 ⟨rfl, rfl⟩
  go_wp2_with fail
  refine (wwithin_eq HP.out _ (by omega) (by omega)).mono ?_
  rintro e wq2 ⟨rfl, rfl⟩
  go_wp2_with fail
  refine (Hr1.out _).mono ?_
  rintro e w1 ⟨rfl, hb1⟩
  have K1 : Below w.heap.size w w1 := kept_call hb1 (by (repeat' (first | (with_reducible exact Below.refl _ _) | (with_reducible refine Below.setCell ?_ ?_ _) | (with_reducible refine Below.alloc ?_ ?_ _) | (with_reducible refine Below.drew ?_) | (with_reducible refine below_drewN ?_ _))) <;> (first | omega | (simp <;> omega)))
  have Z1 : w.heap.size ≤ w1.heap.size := K1.size
  clear hb1
  go_wp2_with fail
  refine (Hrs.out _).mono ?_
  rintro e w2 ⟨rfl, hb2⟩
  have K2 : Below w.heap.size w w2 := kept_call hb2 (by (repeat' (first | (with_reducible exact K1) | (with_reducible refine Below.setCell ?_ ?_ _) | (with_reducible refine Below.alloc ?_ ?_ _) | (with_reducible refine Below.drew ?_) | (with_reducible refine below_drewN ?_ _))) <;> (first | omega | (simp <;> omega)))
  have Z2 : w.heap.size ≤ w2.heap.size := K2.size
  clear hb2 K1
  go_wp2_with fail
  go_quiet ((go_at_call 18; exact Calls.quiet_of_same (Hrq0.out _)))
  go_wp2_with fail
  refine (Hrel.out _).mono ?_
  rintro e w3 ⟨rfl, hb3⟩
  have K3 : Below w.heap.size w w3 := kept_call hb3 (by (repeat' (first | (with_reducible exact K2) | (with_reducible refine Below.setCell ?_ ?_ _) | (with_reducible refine Below.alloc ?_ ?_ _) | (with_reducible refine Below.drew ?_) | (with_reducible refine below_drewN ?_ _))) <;> (first | omega | (simp <;> omega)))
  have Z3 : w.heap.size ≤ w3.heap.size := K3.size
  have b3_0 := Blk.keep (g := w2.heap.size) hb3 (by (repeat' (first | (with_reducible exact Blk.new _ _ _) | (with_reducible refine' Blk.alloc ?_ _) | (with_reducible refine' Blk.drew ?_) | (with_reducible refine' Blk.drewN ?_ _) | (with_reducible refine' Blk.set_ ?_ _ _) | (with_reducible refine' Blk.far ?_ ?_ _))) <;> (first | omega | (simp <;> omega)))
  clear hb3 K2
  obtain ⟨c3_0, f3_0, l3_0, e3_0, k3_0⟩ := Blk.facts b3_0
  go_wp2_with fail
  refine (Hrad.out _).mono ?_
  rintro e w4 ⟨rfl, hb4⟩
  have K4 : Below w.heap.size w w4 := kept_call hb4 (by (repeat' (first | (with_reducible exact K3) | (with_reducible refine Below.setCell ?_ ?_ _) | (with_reducible refine Below.alloc ?_ ?_ _) | (with_reducible refine Below.drew ?_) | (with_reducible refine below_drewN ?_ _))) <;> (first | omega | (simp <;> omega)))
  have Z4 : w.heap.size ≤ w4.heap.size := K4.size
  have b3_0' := Blk.keep (g := w2.heap.size) hb4 (by (repeat' (first | (with_reducible refine' Blk.alloc ?_ _) | (with_reducible refine' Blk.drew ?_) | (with_reducible refine' Blk.drewN ?_ _) | (with_reducible refine' Blk.set_ ?_ _ _) | (with_reducible refine' Blk.far ?_ ?_ _) | exact b3_0)) <;> (first | omega | (simp <;> omega)))
  have b4_0 := Blk.keep (g := w3.heap.size) hb4 (by (repeat' (first | (with_reducible exact Blk.new _ _ _) | (with_reducible refine' Blk.alloc ?_ _) | (with_reducible refine' Blk.drew ?_) | (with_reducible refine' Blk.drewN ?_ _) | (with_reducible refine' Blk.set_ ?_ _ _) | (with_reducible refine' Blk.far ?_ ?_ _))) <;> (first | omega | (simp <;> omega)))
  clear hb4 K3
  clear b3_0 c3_0 f3_0 l3_0 e3_0 k3_0; have b3_0 := b3_0'; clear b3_0'
  obtain ⟨c3_0, f3_0, l3_0, e3_0, k3_0⟩ := Blk.facts b3_0
  obtain ⟨c4_0, f4_0, l4_0, e4_0, k4_0⟩ := Blk.facts b4_0
  go_wp2_with fail
  refine (Hrp.out _).mono ?_
  rintro e w5 ⟨rfl, hb5⟩
  have K5 : Below w.heap.size w w5 := kept_call hb5 (by (repeat' (first | (with_reducible exact K4) | (with_reducible refine Below.setCell ?_ ?_ _) | (with_reducible refine Below.alloc ?_ ?_ _) | (with_reducible refine Below.drew ?_) | (with_reducible refine below_drewN ?_ _))) <;> (first | omega | (simp <;> omega)))
  have Z5 : w.heap.size ≤ w5.heap.size := K5.size
  have b3_0' := Blk.keep (g := w2.heap.size) hb5 (by (repeat' (first | (with_reducible refine' Blk.alloc ?_ _) | (with_reducible refine' Blk.drew ?_) | (with_reducible refine' Blk.drewN ?_ _) | (with_reducible refine' Blk.set_ ?_ _ _) | (with_reducible refine' Blk.far ?_ ?_ _) | exact b3_0)) <;> (first | omega | (simp <;> omega)))
  have b4_0' := Blk.keep (g := w3.heap.size) hb5 (by (repeat' (first | (with_reducible refine' Blk.alloc ?_ _) | (with_reducible refine' Blk.drew ?_) | (with_reducible refine' Blk.drewN ?_ _) | (with_reducible refine' Blk.set_ ?_ _ _) | (with_reducible refine' Blk.far ?_ ?_ _) | exact b4_0)) <;> (first | omega | (simp <;> omega)))
  have b5_0 := Blk.keep (g := w4.heap.size) hb5 (by (repeat' (first | (with_reducible exact Blk.new _ _ _) | (with_reducible refine' Blk.alloc ?_ _) | (with_reducible refine' Blk.drew ?_) | (with_reducible refine' Blk.drewN ?_ _) | (with_reducible refine' Blk.set_ ?_ _ _) | (with_reducible refine' Blk.far ?_ ?_ _))) <;> (first | omega | (simp <;> omega)))
  clear hb5 K4
  clear b3_0 c3_0 f3_0 l3_0 e3_0 k3_0; have b3_0 := b3_0'; clear b3_0'
  clear b4_0 c4_0 f4_0 l4_0 e4_0 k4_0; have b4_0 := b4_0'; clear b4_0'
  obtain ⟨c3_0, f3_0, l3_0, e3_0, k3_0⟩ := Blk.facts b3_0
  obtain ⟨c4_0, f4_0, l4_0, e4_0, k4_0⟩ := Blk.facts b4_0
  obtain ⟨c5_0, f5_0, l5_0, e5_0, k5_0⟩ := Blk.facts b5_0
  go_wp2_with fail
  refine (Hrq.out _).mono ?_
  rintro e w6 ⟨rfl, hb6⟩
  have K6 : Below w.heap.size w w6 := kept_call hb6 (by (repeat' (first | (with_reducible exact K5) | (with_reducible refine Below.setCell ?_ ?_ _) | (with_reducible refine Below.alloc ?_ ?_ _) | (with_reducible refine Below.drew ?_) | (with_reducible refine below_drewN ?_ _))) <;> (first | omega | (simp <;> omega)))
  have Z6 : w.heap.size ≤ w6.heap.size := K6.size
  have b3_0' := Blk.keep (g := w2.heap.size) hb6 (by (repeat' (first | (with_reducible refine' Blk.alloc ?_ _) | (with_reducible refine' Blk.drew ?_) | (with_reducible refine' Blk.drewN ?_ _) | (with_reducible refine' Blk.set_ ?_ _ _) | (with_reducible refine' Blk.far ?_ ?_ _) | exact b3_0)) <;> (first | omega | (simp <;> omega)))
  have b4_0' := Blk.keep (g := w3.heap.size) hb6 (by (repeat' (first | (with_reducible refine' Blk.alloc ?_ _) | (with_reducible refine' Blk.drew ?_) | (with_reducible refine' Blk.drewN ?_ _) | (with_reducible refine' Blk.set_ ?_ _ _) | (with_reducible refine' Blk.far ?_ ?_ _) | exact b4_0)) <;> (first | omega | (simp <;> omega)))
  have b5_0' := Blk.keep (g := w4.heap.size) hb6 (by (repeat' (first | (with_reducible refine' Blk.alloc ?_ _) | (with_reducible refine' Blk.drew ?_) | (with_reducible refine' Blk.drewN ?_ _) | (with_reducible refine' Blk.set_ ?_ _ _) | (with_reducible refine' Blk.far ?_ ?_ _) | exact b5_0)) <;> (first | omega | (simp <;> omega)))
  have b6_0 := Blk.keep (g := w5.heap.size) hb6 (by (repeat' (first | (with_reducible exact Blk.new _ _ _) | (with_reducible refine' Blk.alloc ?_ _) | (with_reducible refine' Blk.drew ?_) | (with_reducible refine' Blk.drewN ?_ _) | (with_reducible refine' Blk.set_ ?_ _ _) | (with_reducible refine' Blk.far ?_ ?_ _))) <;> (first | omega | (simp <;> omega)))
  clear hb6 K5
  clear b3_0 c3_0 f3_0 l3_0 e3_0 k3_0; have b3_0 := b3_0'; clear b3_0'
  clear b4_0 c4_0 f4_0 l4_0 e4_0 k4_0; have b4_0 := b4_0'; clear b4_0'
  clear b5_0 c5_0 f5_0 l5_0 e5_0 k5_0; have b5_0 := b5_0'; clear b5_0'
  obtain ⟨c3_0, f3_0, l3_0, e3_0, k3_0⟩ := Blk.facts b3_0
  obtain ⟨c4_0, f4_0, l4_0, e4_0, k4_0⟩ := Blk.facts b4_0
  obtain ⟨c5_0, f5_0, l5_0, e5_0, k5_0⟩ := Blk.facts b5_0
  obtain ⟨c6_0, f6_0, l6_0, e6_0, k6_0⟩ := Blk.facts b6_0
  go_wp2_with fail
  refine (known15_any _).mono ?_
  rintro e w7 ⟨rfl, hb7⟩
  have K7 : Below w.heap.size w w7 := kept_call hb7 (by (repeat' (first | (with_reducible exact K6) | (with_reducible refine Below.setCell ?_ ?_ _) | (with_reducible refine Below.alloc ?_ ?_ _) | (with_reducible refine Below.drew ?_) | (with_reducible refine below_drewN ?_ _))) <;> (first | omega | (simp <;> omega)))
  have Z7 : w.heap.size ≤ w7.heap.size := K7.size
  have b3_0' := Blk.keep (g := w2.heap.size) hb7 (by (repeat' (first | (with_reducible refine' Blk.alloc ?_ _) | (with_reducible refine' Blk.drew ?_) | (with_reducible refine' Blk.drewN ?_ _) | (with_reducible refine' Blk.set_ ?_ _ _) | (with_reducible refine' Blk.far ?_ ?_ _) | exact b3_0)) <;> (first | omega | (simp <;> omega)))
  have b4_0' := Blk.keep (g := w3.heap.size) hb7 (by (repeat' (first | (with_reducible refine' Blk.alloc ?_ _) | (with_reducible refine' Blk.drew ?_) | (with_reducible refine' Blk.drewN ?_ _) | (with_reducible refine' Blk.set_ ?_ _ _) | (with_reducible refine' Blk.far ?_ ?_ _) | exact b4_0)) <;> (first | omega | (simp <;> omega)))
  have b5_0' := Blk.keep (g := w4.heap.size) hb7 (by (repeat' (first | (with_reducible refine' Blk.alloc ?_ _) | (with_reducible refine' Blk.drew ?_) | (with_reducible refine' Blk.drewN ?_ _) | (with_reducible refine' Blk.set_ ?_ _ _) | (with_reducible refine' Blk.far ?_ ?_ _) | exact b5_0)) <;> (first | omega | (simp <;> omega)))
  have b6_0' := Blk.keep (g := w5.heap.size) hb7 (by (repeat' (first | (with_reducible refine' Blk.alloc ?_ _) | (with_reducible refine' Blk.drew ?_) | (with_reducible refine' Blk.drewN ?_ _) | (with_reducible refine' Blk.set_ ?_ _ _) | (with_reducible refine' Blk.far ?_ ?_ _) | exact b6_0)) <;> (first | omega | (simp <;> omega)))
  have b7_0 := Blk.keep (g := w6.heap.size) hb7 (by (repeat' (first | (with_reducible exact Blk.new _ _ _) | (with_reducible refine' Blk.alloc ?_ _) | (with_reducible refine' Blk.drew ?_) | (with_reducible refine' Blk.drewN ?_ _) | (with_reducible refine' Blk.set_ ?_ _ _) | (with_reducible refine' Blk.far ?_ ?_ _))) <;> (first | omega | (simp <;> omega)))
  clear hb7 K6
  clear b3_0 c3_0 f3_0 l3_0 e3_0 k3_0; have b3_0 := b3_0'; clear b3_0'
  clear b4_0 c4_0 f4_0 l4_0 e4_0 k4_0; have b4_0 := b4_0'; clear b4_0'
  clear b5_0 c5_0 f5_0 l5_0 e5_0 k5_0; have b5_0 := b5_0'; clear b5_0'
  clear b6_0 c6_0 f6_0 l6_0 e6_0 k6_0; have b6_0 := b6_0'; clear b6_0'
  obtain ⟨c3_0, f3_0, l3_0, e3_0, k3_0⟩ := Blk.facts b3_0
  obtain ⟨c4_0, f4_0, l4_0, e4_0, k4_0⟩ := Blk.facts b4_0
  obtain ⟨c5_0, f5_0, l5_0, e5_0, k5_0⟩ := Blk.facts b5_0
  obtain ⟨c6_0, f6_0, l6_0, e6_0, k6_0⟩ := Blk.facts b6_0
  obtain ⟨c7_0, f7_0, l7_0, e7_0, k7_0⟩ := Blk.facts b7_0
  go_wp2_with fail
  refine (Hrft.out _).mono ?_
  rintro e w8 ⟨rfl, hb8⟩
  have K8 : Below w.heap.size w w8 := kept_call hb8 (by (repeat' (first | (with_reducible exact K7) | (with_reducible refine Below.setCell ?_ ?_ _) | (with_reducible refine Below.alloc ?_ ?_ _) | (with_reducible refine Below.drew ?_) | (with_reducible refine below_drewN ?_ _))) <;> (first | omega | (simp <;> omega)))
  have Z8 : w.heap.size ≤ w8.heap.size := K8.size
  have b3_0' := Blk.keep (g := w2.heap.size) hb8 (by (repeat' (first | (with_reducible refine' Blk.alloc ?_ _) | (with_reducible refine' Blk.drew ?_) | (with_reducible refine' Blk.drewN ?_ _) | (with_reducible refine' Blk.set_ ?_ _ _) | (with_reducible refine' Blk.far ?_ ?_ _) | exact b3_0)) <;> (first | omega | (simp <;> omega)))
  have b4_0' := Blk.keep (g := w3.heap.size) hb8 (by (repeat' (first | (with_reducible refine' Blk.alloc ?_ _) | (with_reducible refine' Blk.drew ?_) | (with_reducible refine' Blk.drewN ?_ _) | (with_reducible refine' Blk.set_ ?_ _ _) | (with_reducible refine' Blk.far ?_ ?_ _) | exact b4_0)) <;> (first | omega | (simp <;> omega)))
  have b5_0' := Blk.keep (g := w4.heap.size) hb8 (by (repeat' (first | (with_reducible refine' Blk.alloc ?_ _) | (with_reducible refine' Blk.drew ?_) | (with_reducible refine' Blk.drewN ?_ _) | (with_reducible refine' Blk.set_ ?_ _ _) | (with_reducible refine' Blk.far ?_ ?_ _) | exact b5_0)) <;> (first | omega | (simp <;> omega)))
  have b6_0' := Blk.keep (g := w5.heap.size) hb8 (by (repeat' (first | (with_reducible refine' Blk.alloc ?_ _) | (with_reducible refine' Blk.drew ?_) | (with_reducible refine' Blk.drewN ?_ _) | (with_reducible refine' Blk.set_ ?_ _ _) | (with_reducible refine' Blk.far ?_ ?_ _) | exact b6_0)) <;> (first | omega | (simp <;> omega)))
  have b7_0' := Blk.keep (g := w6.heap.size) hb8 (by (repeat' (first | (with_reducible refine' Blk.alloc ?_ _) | (with_reducible refine' Blk.drew ?_) | (with_reducible refine' Blk.drewN ?_ _) | (with_reducible refine' Blk.set_ ?_ _ _) | (with_reducible refine' Blk.far ?_ ?_ _) | exact b7_0)) <;> (first | omega | (simp <;> omega)))
  clear hb8 K7
  clear b3_0 c3_0 f3_0 l3_0 e3_0 k3_0; have b3_0 := b3_0'; clear b3_0'
  clear b4_0 c4_0 f4_0 l4_0 e4_0 k4_0; have b4_0 := b4_0'; clear b4_0'
  clear b5_0 c5_0 f5_0 l5_0 e5_0 k5_0; have b5_0 := b5_0'; clear b5_0'
  clear b6_0 c6_0 f6_0 l6_0 e6_0 k6_0; have b6_0 := b6_0'; clear b6_0'
  clear b7_0 c7_0 f7_0 l7_0 e7_0 k7_0; have b7_0 := b7_0'; clear b7_0'
  obtain ⟨c3_0, f3_0, l3_0, e3_0, k3_0⟩ := Blk.facts b3_0
  obtain ⟨c4_0, f4_0, l4_0, e4_0, k4_0⟩ := Blk.facts b4_0
  obtain ⟨c5_0, f5_0, l5_0, e5_0, k5_0⟩ := Blk.facts b5_0
  obtain ⟨c6_0, f6_0, l6_0, e6_0, k6_0⟩ := Blk.facts b6_0
  obtain ⟨c7_0, f7_0, l7_0, e7_0, k7_0⟩ := Blk.facts b7_0
  go_wp2_with fail
  refine (Hi1.out _).mono ?_
  rintro e w9 ⟨rfl, hb9⟩
  have K9 : Below w.heap.size w w9 := kept_call hb9 (by (repeat' (first | (with_reducible exact K8) | (with_reducible refine Below.setCell ?_ ?_ _) | (with_reducible refine Below.alloc ?_ ?_ _) | (with_reducible refine Below.drew ?_) | (with_reducible refine below_drewN ?_ _))) <;> (first | omega | (simp <;> omega)))
  have Z9 : w.heap.size ≤ w9.heap.size := K9.size
  have b3_0' := Blk.keep (g := w2.heap.size) hb9 (by (repeat' (first | (with_reducible refine' Blk.alloc ?_ _) | (with_reducible refine' Blk.drew ?_) | (with_reducible refine' Blk.drewN ?_ _) | (with_reducible refine' Blk.set_ ?_ _ _) | (with_reducible refine' Blk.far ?_ ?_ _) | exact b3_0)) <;> (first | omega | (simp <;> omega)))
  have b4_0' := Blk.keep (g := w3.heap.size) hb9 (by (repeat' (first | (with_reducible refine' Blk.alloc ?_ _) | (with_reducible refine' Blk.drew ?_) | (with_reducible refine' Blk.drewN ?_ _) | (with_reducible refine' Blk.set_ ?_ _ _) | (with_reducible refine' Blk.far ?_ ?_ _) | exact b4_0)) <;> (first | omega | (simp <;> omega)))
  have b5_0' := Blk.keep (g := w4.heap.size) hb9 (by (repeat' (first | (with_reducible refine' Blk.alloc ?_ _) | (with_reducible refine' Blk.drew ?_) | (with_reducible refine' Blk.drewN ?_ _) | (with_reducible refine' Blk.set_ ?_ _ _) | (with_reducible refine' Blk.far ?_ ?_ _) | exact b5_0)) <;> (first | omega | (simp <;> omega)))
  have b6_0' := Blk.keep (g := w5.heap.size) hb9 (by (repeat' (first | (with_reducible refine' Blk.alloc ?_ _) | (with_reducible refine' Blk.drew ?_) | (with_reducible refine' Blk.drewN ?_ _) | (with_reducible refine' Blk.set_ ?_ _ _) | (with_reducible refine' Blk.far ?_ ?_ _) | exact b6_0)) <;> (first | omega | (simp <;> omega)))
  have b7_0' := Blk.keep (g := w6.heap.size) hb9 (by (repeat' (first | (with_reducible refine' Blk.alloc ?_ _) | (with_reducible refine' Blk.drew ?_) | (with_reducible refine' Blk.drewN ?_ _) | (with_reducible refine' Blk.set_ ?_ _ _) | (with_reducible refine' Blk.far ?_ ?_ _) | exact b7_0)) <;> (first | omega | (simp <;> omega)))
  clear hb9 K8
  clear b3_0 c3_0 f3_0 l3_0 e3_0 k3_0; have b3_0 := b3_0'; clear b3_0'
  clear b4_0 c4_0 f4_0 l4_0 e4_0 k4_0; have b4_0 := b4_0'; clear b4_0'
  clear b5_0 c5_0 f5_0 l5_0 e5_0 k5_0; have b5_0 := b5_0'; clear b5_0'
  clear b6_0 c6_0 f6_0 l6_0 e6_0 k6_0; have b6_0 := b6_0'; clear b6_0'
  clear b7_0 c7_0 f7_0 l7_0 e7_0 k7_0; have b7_0 := b7_0'; clear b7_0'
  obtain ⟨c3_0, f3_0, l3_0, e3_0, k3_0⟩ := Blk.facts b3_0
  obtain ⟨c4_0, f4_0, l4_0, e4_0, k4_0⟩ := Blk.facts b4_0
  obtain ⟨c5_0, f5_0, l5_0, e5_0, k5_0⟩ := Blk.facts b5_0
  obtain ⟨c6_0, f6_0, l6_0, e6_0, k6_0⟩ := Blk.facts b6_0
  obtain ⟨c7_0, f7_0, l7_0, e7_0, k7_0⟩ := Blk.facts b7_0
  go_wp2_with fail
  refine (Hi2.out _).mono ?_
  rintro e w10 ⟨rfl, hb10⟩
  have K10 : Below w.heap.size w w10 := kept_call hb10 (by (repeat' (first | (with_reducible exact K9) | (with_reducible refine Below.setCell ?_ ?_ _) | (with_reducible refine Below.alloc ?_ ?_ _) | (with_reducible refine Below.drew ?_) | (with_reducible refine below_drewN ?_ _))) <;> (first | omega | (simp <;> omega)))
  have Z10 : w.heap.size ≤ w10.heap.size := K10.size
  have b3_0' := Blk.keep (g := w2.heap.size) hb10 (by (repeat' (first | (with_reducible refine' Blk.alloc ?_ _) | (with_reducible refine' Blk.drew ?_) | (with_reducible refine' Blk.drewN ?_ _) | (with_reducible refine' Blk.set_ ?_ _ _) | (with_reducible refine' Blk.far ?_ ?_ _) | exact b3_0)) <;> (first | omega | (simp <;> omega)))
  have b4_0' := Blk.keep (g := w3.heap.size) hb10 (by (repeat' (first | (with_reducible refine' Blk.alloc ?_ _) | (with_reducible refine' Blk.drew ?_) | (with_reducible refine' Blk.drewN ?_ _) | (with_reducible refine' Blk.set_ ?_ _ _) | (with_reducible refine' Blk.far ?_ ?_ _) | exact b4_0)) <;> (first | omega | (simp <;> omega)))
  have b5_0' := Blk.keep (g := w4.heap.size) hb10 (by (repeat' (first | (with_reducible refine' Blk.alloc ?_ _) | (with_reducible refine' Blk.drew ?_) | (with_reducible refine' Blk.drewN ?_ _) | (with_reducible refine' Blk.set_ ?_ _ _) | (with_reducible refine' Blk.far ?_ ?_ _) | exact b5_0)) <;> (first | omega | (simp <;> omega)))
  have b6_0' := Blk.keep (g := w5.heap.size) hb10 (by (repeat' (first | (with_reducible refine' Blk.alloc ?_ _) | (with_reducible refine' Blk.drew ?_) | (with_reducible refine' Blk.drewN ?_ _) | (with_reducible refine' Blk.set_ ?_ _ _) | (with_reducible refine' Blk.far ?_ ?_ _) | exact b6_0)) <;> (first | omega | (simp <;> omega)))
  have b7_0' := Blk.keep (g := w6.heap.size) hb10 (by (repeat' (first | (with_reducible refine' Blk.alloc ?_ _) | (with_reducible refine' Blk.drew ?_) | (with_reducible refine' Blk.drewN ?_ _) | (with_reducible refine' Blk.set_ ?_ _ _) | (with_reducible refine' Blk.far ?_ ?_ _) | exact b7_0)) <;> (first | omega | (simp <;> omega)))
  clear hb10 K9
  clear b3_0 c3_0 f3_0 l3_0 e3_0 k3_0; have b3_0 := b3_0'; clear b3_0'
  clear b4_0 c4_0 f4_0 l4_0 e4_0 k4_0; have b4_0 := b4_0'; clear b4_0'
  clear b5_0 c5_0 f5_0 l5_0 e5_0 k5_0; have b5_0 := b5_0'; clear b5_0'
  clear b6_0 c6_0 f6_0 l6_0 e6_0 k6_0; have b6_0 := b6_0'; clear b6_0'
  clear b7_0 c7_0 f7_0 l7_0 e7_0 k7_0; have b7_0 := b7_0'; clear b7_0'
  obtain ⟨c3_0, f3_0, l3_0, e3_0, k3_0⟩ := Blk.facts b3_0
  obtain ⟨c4_0, f4_0, l4_0, e4_0, k4_0⟩ := Blk.facts b4_0
  obtain ⟨c5_0, f5_0, l5_0, e5_0, k5_0⟩ := Blk.facts b5_0
  obtain ⟨c6_0, f6_0, l6_0, e6_0, k6_0⟩ := Blk.facts b6_0
  obtain ⟨c7_0, f7_0, l7_0, e7_0, k7_0⟩ := Blk.facts b7_0
  go_wp2_with fail
  refine (Hi3.out _).mono ?_
  rintro e w11 ⟨rfl, hb11⟩
  have K11 : Below w.heap.size w w11 := kept_call hb11 (by (repeat' (first | (with_reducible exact K10) | (with_reducible refine Below.setCell ?_ ?_ _) | (with_reducible refine Below.alloc ?_ ?_ _) | (with_reducible refine Below.drew ?_) | (with_reducible refine below_drewN ?_ _))) <;> (first | omega | (simp <;> omega)))
  have Z11 : w.heap.size ≤ w11.heap.size := K11.size
  have b3_0' := Blk.keep (g := w2.heap.size) hb11 (by (repeat' (first | (with_reducible refine' Blk.alloc ?_ _) | (with_reducible refine' Blk.drew ?_) | (with_reducible refine' Blk.drewN ?_ _) | (with_reducible refine' Blk.set_ ?_ _ _) | (with_reducible refine' Blk.far ?_ ?_ _) | exact b3_0)) <;> (first | omega | (simp <;> omega)))
  have b4_0' := Blk.keep (g := w3.heap.size) hb11 (by (repeat' (first | (with_reducible refine' Blk.alloc ?_ _) | (with_reducible refine' Blk.drew ?_) | (with_reducible refine' Blk.drewN ?_ _) | (with_reducible refine' Blk.set_ ?_ _ _) | (with_reducible refine' Blk.far ?_ ?_ _) | exact b4_0)) <;> (first | omega | (simp <;> omega)))
  have b5_0' := Blk.keep (g := w4.heap.size) hb11 (by (repeat' (first | (with_reducible refine' Blk.alloc ?_ _) | (with_reducible refine' Blk.drew ?_) | (with_reducible refine' Blk.drewN ?_ _) | (with_reducible refine' Blk.set_ ?_ _ _) | (with_reducible refine' Blk.far ?_ ?_ _) | exact b5_0)) <;> (first | omega | (simp <;> omega)))
  have b6_0' := Blk.keep (g := w5.heap.size) hb11 (by (repeat' (first | (with_reducible refine' Blk.alloc ?_ _) | (with_reducible refine' Blk.drew ?_) | (with_reducible refine' Blk.drewN ?_ _) | (with_reducible refine' Blk.set_ ?_ _ _) | (with_reducible refine' Blk.far ?_ ?_ _) | exact b6_0)) <;> (first | omega | (simp <;> omega)))
  have b7_0' := Blk.keep (g := w6.heap.size) hb11 (by (repeat' (first | (with_reducible refine' Blk.alloc ?_ _) | (with_reducible refine' Blk.drew ?_) | (with_reducible refine' Blk.drewN ?_ _) | (with_reducible refine' Blk.set_ ?_ _ _) | (with_reducible refine' Blk.far ?_ ?_ _) | exact b7_0)) <;> (first | omega | (simp <;> omega)))
  clear hb11 K10
  clear b3_0 c3_0 f3_0 l3_0 e3_0 k3_0; have b3_0 := b3_0'; clear b3_0'
  clear b4_0 c4_0 f4_0 l4_0 e4_0 k4_0; have b4_0 := b4_0'; clear b4_0'
  clear b5_0 c5_0 f5_0 l5_0 e5_0 k5_0; have b5_0 := b5_0'; clear b5_0'
  clear b6_0 c6_0 f6_0 l6_0 e6_0 k6_0; have b6_0 := b6_0'; clear b6_0'
  clear b7_0 c7_0 f7_0 l7_0 e7_0 k7_0; have b7_0 := b7_0'; clear b7_0'
  obtain ⟨c3_0, f3_0, l3_0, e3_0, k3_0⟩ := Blk.facts b3_0
  obtain ⟨c4_0, f4_0, l4_0, e4_0, k4_0⟩ := Blk.facts b4_0
  obtain ⟨c5_0, f5_0, l5_0, e5_0, k5_0⟩ := Blk.facts b5_0
  obtain ⟨c6_0, f6_0, l6_0, e6_0, k6_0⟩ := Blk.facts b6_0
  obtain ⟨c7_0, f7_0, l7_0, e7_0, k7_0⟩ := Blk.facts b7_0
  go_wp2_with fail
  refine (Hi4.out _).mono ?_
  rintro e w12 ⟨rfl, hb12⟩
  have K12 : Below w.heap.size w w12 := kept_call hb12 (by (repeat' (first | (with_reducible exact K11) | (with_reducible refine Below.setCell ?_ ?_ _) | (with_reducible refine Below.alloc ?_ ?_ _) | (with_reducible refine Below.drew ?_) | (with_reducible refine below_drewN ?_ _))) <;> (first | omega | (simp <;> omega)))
  have Z12 : w.heap.size ≤ w12.heap.size := K12.size
  have b3_0' := Blk.keep (g := w2.heap.size) hb12 (by (repeat' (first | (with_reducible refine' Blk.alloc ?_ _) | (with_reducible refine' Blk.drew ?_) | (with_reducible refine' Blk.drewN ?_ _) | (with_reducible refine' Blk.set_ ?_ _ _) | (with_reducible refine' Blk.far ?_ ?_ _) | exact b3_0)) <;> (first | omega | (simp <;> omega)))
  have b4_0' := Blk.keep (g := w3.heap.size) hb12 (by (repeat' (first | (with_reducible refine' Blk.alloc ?_ _) | (with_reducible refine' Blk.drew ?_) | (with_reducible refine' Blk.drewN ?_ _) | (with_reducible refine' Blk.set_ ?_ _ _) | (with_reducible refine' Blk.far ?_ ?_ _) | exact b4_0)) <;> (first | omega | (simp <;> omega)))
  have b5_0' := Blk.keep (g := w4.heap.size) hb12 (by (repeat' (first | (with_reducible refine' Blk.alloc ?_ _) | (with_reducible refine' Blk.drew ?_) | (with_reducible refine' Blk.drewN ?_ _) | (with_reducible refine' Blk.set_ ?_ _ _) | (with_reducible refine' Blk.far ?_ ?_ _) | exact b5_0)) <;> (first | omega | (simp <;> omega)))
  have b6_0' := Blk.keep (g := w5.heap.size) hb12 (by (repeat' (first | (with_reducible refine' Blk.alloc ?_ _) | (with_reducible refine' Blk.drew ?_) | (with_reducible refine' Blk.drewN ?_ _) | (with_reducible refine' Blk.set_ ?_ _ _) | (with_reducible refine' Blk.far ?_ ?_ _) | exact b6_0)) <;> (first | omega | (simp <;> omega)))
  have b7_0' := Blk.keep (g := w6.heap.size) hb12 (by (repeat' (first | (with_reducible refine' Blk.alloc ?_ _) | (with_reducible refine' Blk.drew ?_) | (with_reducible refine' Blk.drewN ?_ _) | (with_reducible refine' Blk.set_ ?_ _ _) | (with_reducible refine' Blk.far ?_ ?_ _) | exact b7_0)) <;> (first | omega | (simp <;> omega)))
  clear hb12 K11
  clear b3_0 c3_0 f3_0 l3_0 e3_0 k3_0; have b3_0 := b3_0'; clear b3_0'
  clear b4_0 c4_0 f4_0 l4_0 e4_0 k4_0; have b4_0 := b4_0'; clear b4_0'
  clear b5_0 c5_0 f5_0 l5_0 e5_0 k5_0; have b5_0 := b5_0'; clear b5_0'
  clear b6_0 c6_0 f6_0 l6_0 e6_0 k6_0; have b6_0 := b6_0'; clear b6_0'
  clear b7_0 c7_0 f7_0 l7_0 e7_0 k7_0; have b7_0 := b7_0'; clear b7_0'
  obtain ⟨c3_0, f3_0, l3_0, e3_0, k3_0⟩ := Blk.facts b3_0
  obtain ⟨c4_0, f4_0, l4_0, e4_0, k4_0⟩ := Blk.facts b4_0
  obtain ⟨c5_0, f5_0, l5_0, e5_0, k5_0⟩ := Blk.facts b5_0
  obtain ⟨c6_0, f6_0, l6_0, e6_0, k6_0⟩ := Blk.facts b6_0
  obtain ⟨c7_0, f7_0, l7_0, e7_0, k7_0⟩ := Blk.facts b7_0
  go_wp2
  go_ret
  exact ⟨rfl, by (repeat' (first | (with_reducible exact K12) | (with_reducible refine Below.setCell ?_ ?_ _) | (with_reducible refine Below.alloc ?_ ?_ _) | (with_reducible refine Below.drew ?_) | (with_reducible refine below_drewN ?_ _))) <;> (first | omega | (simp <;> omega))⟩
theorem driftContains_walk (e : Int) (_ : IntIn e) (ppb : Int) (_ : IntIn ppb) (c : Int) (_ : IntIn c) (a : Int) (_ : IntIn a) (b : Int) (_ : IntIn b) (u : Int) (_ : IntIn u) (w : World) :
    Walked 13 #[.int .i64 e, .int .i64 ppb, .int .i64 c, .int .i64 a, .int .i64 b, .int .i64 u] w := driftContains_core e ppb c a b u w
end Go.Proofs.Ytfffhdcdkdaijaa
