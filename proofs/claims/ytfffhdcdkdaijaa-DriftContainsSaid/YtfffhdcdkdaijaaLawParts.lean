/- The walk of the law DriftInParts. -/
import Derived.Test.YtfffhdcdkdaijaaElPlain
import Derived.Test.YtfffhdcdkdaijaaFrame
namespace Go.Proofs.Ytfffhdcdkdaijaa
open Go.RowKit

set_option maxRecDepth 100000 in
set_option maxHeartbeats 2000000 in
theorem driftInParts_core (e f ppb c o : Int) (w : World) : Calls Try.prog 4 #[.int .i64 e, .int .i64 f, .int .i64 ppb, .int .i64 c, .int .i64 o] w (RB w (.bool true)) := by
  obtain ⟨E, hE⟩ : ∃ E, e % 18014398509481984 = E := ⟨_, rfl⟩
  obtain ⟨F, hF⟩ : ∃ F, f % 18014398509481984 = F := ⟨_, rfl⟩
  obtain ⟨P, hP⟩ : ∃ P, ppb % 1000001 = P := ⟨_, rfl⟩
  have E0 : 0 ≤ E ∧ E < 18014398509481984 := by omega
  have F0 : 0 ≤ F ∧ F < 18014398509481984 := by omega
  have P0 : 0 ≤ P ∧ P ≤ 1000000 := by omega
  have HE := Lib.hid hE; clear hE
  have HF := Lib.hid hF; clear hF
  have HP := Lib.hid hP; clear hP
  have hinE : inD E P = true := inD_true.2 ⟨by omega, by omega, by omega, by omega⟩
  have hinF : inD F P = true := inD_true.2 ⟨by omega, by omega, by omega, by omega⟩
  have hA := advN_fits E P c hinE
  have hB := advN_fits F P o hinF
  have r1 := fun w => adv_any E P c w hinE
  have r2 := fun w => adv_any F P o w hinF
  generalize advN E P c = C at *
  generalize advN F P o = D at *
  have kC := fits_in_range hA
  have kD := fits_in_range hB
  have C0 : 0 ≤ C ∧ C ≤ 72057594037927936 := ⟨hA.1.2.2.1, by omega⟩
  have D0 : 0 ≤ D ∧ D ≤ 72057594037927936 := ⟨hB.1.2.2.1, by omega⟩
  have hS := fits_sum hA hB (by omega) (by omega)
  obtain ⟨H1, H2⟩ := fits_holds hS
  have H3 := lo_sum D0.1 P0.1 P0.2 C
  have H4 := hi_sum D0.1 P0.1 P0.2 C
  have H5 := el_span (d := C + D) (by omega) P0.1 P0.2 (by omega)
  have X1 := lo_pos C0.1 P0.1 P0.2
  have X2 := hi_two C0.1 P0.1 P0.2
  have X3 := le_hi C0.1 P0.1 P0.2
  have X4 := lo_le C0.1 P0.1 P0.2
  have Y1 := lo_pos D0.1 P0.1 P0.2
  have Y2 := hi_two D0.1 P0.1 P0.2
  have Y3 := le_hi D0.1 P0.1 P0.2
  have Y4 := lo_le D0.1 P0.1 P0.2
  have r3 := elapsed_any C P
  have r4 := elapsed_any D P
  have r5 := elapsed_any (C + D) P
  rw [outV_ok (inD_true.2 ⟨by omega, by omega, by omega, by omega⟩)] at r3 r4 r5
  have r6 := fits_any (E + F) (C + D) P
  rw [fitsB_yes hS] at r6
  generalize elLo C P = x0 at *
  generalize elHi C P = x1 at *
  generalize elLo D P = y0 at *
  generalize elHi D P = y1 at *
  generalize elLo (C + D) P = z0 at *
  generalize elHi (C + D) P = z1 at *
  have r7 := fun w => holds_any z0 z1 (E + F) w H5 H1 H2
  clear hA hB hS H5 H1 H2 kC kD hinE hinF
  have R1 := Lib.hid r1; clear r1
  have R2 := Lib.hid r2; clear r2
  have R3 := Lib.hid r3; clear r3
  have R4 := Lib.hid r4; clear r4
  have R5 := Lib.hid r5; clear r5
  have R6 := Lib.hid r6; clear r6
  have R7 := Lib.hid r7; clear r7
  go_enter Try.func4, Try.ntmps4
  go_wp2_with fail
  refine (wwithin_eq HE.out _ (by omega) (by omega)).mono ?_
  rintro x w1 ⟨rfl, rfl⟩
  go_wp2_with fail
  refine (wwithin_eq HF.out _ (by omega) (by omega)).mono ?_
  rintro x w1 ⟨rfl, rfl⟩
  go_wp2_with fail
  refine (wwithin_eq HP.out _ (by omega) (by omega)).mono ?_
  rintro x w1 ⟨rfl, rfl⟩
  go_wp2_with fail
  refine (R1.out _).mono ?_
  rintro x w1 ⟨rfl, hb1⟩
  go_wp2_with fail
  refine (R2.out _).mono ?_
  rintro x w2 ⟨rfl, hb2⟩
  replace hb2 := kept_call hb2 hb1
  clear hb1
  go_wp2_with fail
  refine (R3.out _).mono ?_
  rintro x w3 ⟨rfl, hb3⟩
  replace hb3 := kept_call hb3 hb2
  clear hb2
  have k3 := hb3.size
  have K3 := hb3.alloc k3 (.cells #[.int .i64 x0, .int .i64 x1] 36)
  go_wp2_with fail
  refine (R4.out _).mono ?_
  rintro x w4 ⟨rfl, hb4⟩
  obtain ⟨hc4, hf4⟩ := bcell hb4
  have K4 := kept_call hb4 K3
  have k4 := K4.size
  have z4 := hb4.size
  simp at z4
  replace K4 := K4.alloc k4 (.cells #[.int .i64 y0, .int .i64 y1] 36)
  go_wp2_with fail
  refine (R5.out _).mono ?_
  rintro x w5 ⟨rfl, hb5⟩
  obtain ⟨hc5, hf5⟩ := bcell hb5
  have K5 := kept_call hb5 K4
  have k5 := K5.size
  have z5 := hb5.size
  simp at z5
  replace K5 := K5.alloc k5 (.cells #[.int .i64 z0, .int .i64 z1] 36)
  go_wp2_with fail
  refine (known15_any _).mono ?_
  rintro x w6 ⟨rfl, hb6⟩
  obtain ⟨hc6, hf6⟩ := bcell hb6
  have K6 := kept_call hb6 K5
  have z6 := hb6.size
  simp at z6
  go_wp2_with fail
  refine (R6.out _).mono ?_
  rintro x w7 ⟨rfl, hb7⟩
  obtain ⟨hc7, hf7⟩ := bcell hb7
  have K7 := kept_call hb7 K6
  have z7 := hb7.size
  have cS : w7.cell? ⟨w3.heap.size, 0, none⟩ = some (.int .i64 x0) ∧ w7.cell? ⟨w3.heap.size, 1, none⟩ = some (.int .i64 x1) ∧ w7.cell? ⟨w4.heap.size, 0, none⟩ = some (.int .i64 y0) ∧ w7.cell? ⟨w4.heap.size, 1, none⟩ = some (.int .i64 y1) ∧ w7.cell? ⟨w5.heap.size, 0, none⟩ = some (.int .i64 z0) ∧ w7.cell? ⟨w5.heap.size, 1, none⟩ = some (.int .i64 z1) := by
    have a1 : w3.heap.size < w4.heap.size := by omega
    have a2 : w4.heap.size < w5.heap.size := by omega
    have a3 : w5.heap.size < w6.heap.size := by omega
    have a4 : w3.heap.size < w5.heap.size := by omega
    have a5 : w3.heap.size < w6.heap.size := by omega
    have a6 : w4.heap.size < w6.heap.size := by omega
    refine ⟨?_, ?_, ?_, ?_, ?_, ?_⟩ <;> simp [go_sem, hc4, hc5, hc6, hc7, a1, a2, a3, a4, a5, a6]
  have b3 : w3.heap.size < w7.heap.size := by omega
  have b4 : w4.heap.size < w7.heap.size := by omega
  have b5 : w5.heap.size < w7.heap.size := by omega
  clear hc4 hc5 hc6 hc7 hf4 hf5 hf6 hf7 hb3 hb4 hb5 hb6 hb7 K3 K4 K5 K6
  go_split_ands
  go_wp2_with fail
  refine (R7.out _).mono ?_
  rintro x w8 ⟨rfl, hb8⟩
  obtain ⟨hc8, hf8⟩ := bcell hb8
  go_wp2
  go_ret
  exact ⟨rfl, kept_call hb8 K7⟩
theorem driftInParts_walk (e : Int) (_ : IntIn e) (f : Int) (_ : IntIn f) (ppb : Int) (_ : IntIn ppb) (c : Int) (_ : IntIn c) (o : Int) (_ : IntIn o) (w : World) :
    Walked 4 #[.int .i64 e, .int .i64 f, .int .i64 ppb, .int .i64 c, .int .i64 o] w := driftInParts_core e f ppb c o w
end Go.Proofs.Ytfffhdcdkdaijaa
