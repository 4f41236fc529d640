/- The walk of the law DriftWidens. -/
import Derived.Test.YtfffhdcdkdaijaaElPlain
import Derived.Test.YtfffhdcdkdaijaaFrame
namespace Go.Proofs.Ytfffhdcdkdaijaa
open Go.RowKit

set_option maxRecDepth 100000 in
set_option maxHeartbeats 2000000 in
theorem driftWidens_core (d m ppb g : Int) (w : World) : Calls Try.prog 6 #[.int .i64 d, .int .i64 m, .int .i64 ppb, .int .i64 g] w (RB w (.bool true)) := by
  obtain ⟨D, hE⟩ : ∃ D, d % 18014398509481984 = D := ⟨_, rfl⟩
  obtain ⟨M, hF⟩ : ∃ M, m % 18014398509481984 = M := ⟨_, rfl⟩
  obtain ⟨P, hP⟩ : ∃ P, ppb % 1000001 = P := ⟨_, rfl⟩
  have D0 : 0 ≤ D ∧ D < 18014398509481984 := by omega
  have M0 : 0 ≤ M ∧ M < 18014398509481984 := by omega
  have P0 : 0 ≤ P ∧ P ≤ 1000000 := by omega
  have HE := Lib.hid hE; clear hE
  have HF := Lib.hid hF; clear hF
  have HP := Lib.hid hP; clear hP
  obtain ⟨G, hG⟩ : ∃ G, g % (1000000 - P + 1) = G := ⟨_, rfl⟩
  have G0 : 0 ≤ G ∧ G < 1000000 - P + 1 := by
    rw [← hG]; exact ⟨Int.emod_nonneg _ (by omega), Int.emod_lt_of_pos _ (by omega)⟩
  have HG := Lib.hid hG; clear hG
  have A5 := el_span (d := D) D0.1 P0.1 P0.2 (by omega)
  have B5 := el_span (d := D) (p := P + G) D0.1 (by omega) (by omega) (by omega)
  have A1 := lo_widens (q := P + G) D0.1 P0.1 P0.2 (by omega)
  have A2 := hi_widens (q := P + G) D0.1 P0.1 P0.2 (by omega) (by omega)
  have A3 := lo_longer (m := M) D0.1 P0.1 P0.2 M0.1
  have A4 := hi_longer (m := M) D0.1 P0.1 P0.2 M0.1
  have X3 := le_hi D0.1 P0.1 P0.2
  have X4 := lo_le D0.1 P0.1 P0.2
  have r1 := elapsed_any D P
  have r2 := elapsed_any D (P + G)
  have r3 := elapsed_any (D + M) P
  have r4 := elapsed_any D 0
  rw [outV_ok (inD_true.2 ⟨by omega, by omega, by omega, by omega⟩)] at r1 r2 r3 r4
  rw [el_none.1, el_none.2] at r4
  generalize elLo D P = a0 at *
  generalize elHi D P = a1 at *
  generalize elLo D (P + G) = b0 at *
  generalize elHi D (P + G) = b1 at *
  generalize elLo (D + M) P = c0 at *
  generalize elHi (D + M) P = c1 at *
  have r5 := fun w => inside_any a0 a1 b0 b1 w A5 B5 A1 A2
  have r6 := fun w => holds_any a0 a1 D w A5 X4 X3
  clear A5 B5
  have R1 := Lib.hid r1; clear r1
  have R2 := Lib.hid r2; clear r2
  have R3 := Lib.hid r3; clear r3
  have R4 := Lib.hid r4; clear r4
  have R5 := Lib.hid r5; clear r5
  have R6 := Lib.hid r6; clear r6
  go_enter Try.func6, Try.ntmps6
  go_wp2_with fail
  refine (wwithin_eq HE.out _ (by omega) (by omega)).mono ?_
  rintro x w1 ⟨rfl, rfl⟩
  go_wp2_with fail
  refine (wwithin_eq HF.out _ (by omega) (by omega)).mono ?_
  rintro x w1 ⟨rfl, rfl⟩
  go_wp2_with fail
  refine (wwithin_eq HP.out _ (by omega) (by omega)).mono ?_
  rintro x w1 ⟨rfl, rfl⟩
  go_wp2_with fail
  refine (wwithin_eq HG.out _ (by omega) (by omega)).mono ?_
  rintro x w1 ⟨rfl, rfl⟩
  go_wp2_with fail
  refine (R1.out _).mono ?_
  rintro x w3 ⟨rfl, hb3⟩
  have k3 := hb3.size
  have K3 := hb3.alloc k3 (.cells #[.int .i64 a0, .int .i64 a1] 36)
  go_wp2_with fail
  refine (R2.out _).mono ?_
  rintro x w4 ⟨rfl, hb4⟩
  obtain ⟨hc4, hf4⟩ := bcell hb4
  have K4 := kept_call hb4 K3
  have k4 := K4.size
  have z4 := hb4.size
  simp at z4
  replace K4 := K4.alloc k4 (.cells #[.int .i64 b0, .int .i64 b1] 36)
  go_wp2_with fail
  refine (R3.out _).mono ?_
  rintro x w5 ⟨rfl, hb5⟩
  obtain ⟨hc5, hf5⟩ := bcell hb5
  have K5 := kept_call hb5 K4
  have k5 := K5.size
  have z5 := hb5.size
  simp at z5
  replace K5 := K5.alloc k5 (.cells #[.int .i64 c0, .int .i64 c1] 36)
  go_wp2_with fail
  refine (R4.out _).mono ?_
  rintro x w6 ⟨rfl, hb6⟩
  obtain ⟨hc6, hf6⟩ := bcell hb6
  have K6 := kept_call hb6 K5
  have k6 := K6.size
  have z6 := hb6.size
  simp at z6
  replace K6 := K6.alloc k6 (.cells #[.int .i64 D, .int .i64 D] 36)
  go_wp2_with fail
  refine (known15_any _).mono ?_
  rintro x w7 ⟨rfl, hb7⟩
  obtain ⟨hc7, hf7⟩ := bcell hb7
  have K7 := kept_call hb7 K6
  have z7 := hb7.size
  simp at z7
  have cS : w7.cell? ⟨w3.heap.size, 0, none⟩ = some (.int .i64 a0) ∧ w7.cell? ⟨w3.heap.size, 1, none⟩ = some (.int .i64 a1) ∧ w7.cell? ⟨w4.heap.size, 0, none⟩ = some (.int .i64 b0) ∧ w7.cell? ⟨w4.heap.size, 1, none⟩ = some (.int .i64 b1) ∧ w7.cell? ⟨w5.heap.size, 0, none⟩ = some (.int .i64 c0) ∧ w7.cell? ⟨w5.heap.size, 1, none⟩ = some (.int .i64 c1) ∧ w7.cell? ⟨w6.heap.size, 0, none⟩ = some (.int .i64 D) ∧ w7.cell? ⟨w6.heap.size, 1, none⟩ = some (.int .i64 D) := by
    have a1 : w3.heap.size < w4.heap.size := by omega
    have a2 : w4.heap.size < w5.heap.size := by omega
    have a3 : w5.heap.size < w6.heap.size := by omega
    have a4 : w3.heap.size < w5.heap.size := by omega
    have a5 : w3.heap.size < w6.heap.size := by omega
    have a6 : w4.heap.size < w6.heap.size := by omega
    refine ⟨?_, ?_, ?_, ?_, ?_, ?_, ?_, ?_⟩ <;> simp [go_sem, hc4, hc5, hc6, hc7, a1, a2, a3, a4, a5, a6]
  have b3 : w3.heap.size < w7.heap.size := by omega
  have b4 : w4.heap.size < w7.heap.size := by omega
  have b5 : w5.heap.size < w7.heap.size := by omega
  have b6 : w6.heap.size < w7.heap.size := by omega
  clear hc4 hc5 hc6 hc7 hf4 hf5 hf6 hf7 hb3 hb4 hb5 hb6 hb7 K3 K4 K5 K6
  go_split_ands
  go_wp2_with fail
  refine (R5.out _).mono ?_
  rintro x w8 ⟨rfl, hb8⟩
  obtain ⟨hc8, hf8⟩ := bcell hb8
  have K8 := kept_call hb8 K7
  have z8 := hb8.size
  have c3 : w3.heap.size < w8.heap.size := by omega
  have c4 : w4.heap.size < w8.heap.size := by omega
  have c5 : w5.heap.size < w8.heap.size := by omega
  have c6 : w6.heap.size < w8.heap.size := by omega
  go_wp2_with fail
  refine (R6.out _).mono ?_
  rintro x w9 ⟨rfl, hb9⟩
  go_wp2
  go_ret
  exact ⟨rfl, kept_call hb9 (by (repeat' (first | (with_reducible exact K8) | (with_reducible refine Below.setCell ?_ ?_ _) | (with_reducible refine Below.alloc ?_ ?_ _))) <;> (first | omega | (have := K8.size; simp; omega)))⟩
theorem driftWidens_walk (d : Int) (_ : IntIn d) (m : Int) (_ : IntIn m) (ppb : Int) (_ : IntIn ppb) (g : Int) (_ : IntIn g) (w : World) :
    Walked 6 #[.int .i64 d, .int .i64 m, .int .i64 ppb, .int .i64 g] w := driftWidens_core d m ppb g w
end Go.Proofs.Ytfffhdcdkdaijaa
