/- The walk of the law TicksOrder. -/
import Derived.Test.YtelmcglckkjmfaaDoorKnown10
import Derived.Test.YtelmcglckkjmfaaDoorWorld
namespace Go.Proofs.YtelmcglckkjmfaaDoor
open Go.RowKit
set_option linter.unusedSimpArgs false
set_option linter.unusedVariables false

theorem fmt_whole (s : Int) : fmtS (s * 1048576) = Lib.itoa s ++ [46, 48, 48, 48, 48, 48, 48, 48] := by
  unfold fmtS
  rw [show s * 1048576 / 1048576 = s by omega, show s * 1048576 % 1048576 = 0 by omega, show Lib.itoa 0 = [48] by decide +kernel]
  simp [Lib.repeatL]
theorem itoa_pos (n : Int) : 1 ≤ (Lib.itoa n).length := by
  have H : ∀ u, 1 ≤ (Lib.decDigits u).length := by
    intro u; unfold Lib.decDigits; split <;> simp
  unfold Lib.itoa; split
  · simp
  · exact H _
theorem tail_str (ss l : List UInt8) : ((({ data := (ss ++ l).toArray } : ByteArray).extract ss.length (ss.length + l.length)).toList == l) = true := by
  rw [ByteArray.toList_eq, beq_iff_eq]
  rw [ByteArray.data_extract]
  simp
theorem quo_zero (d : Int) : quo d 0 1000000000 true = 0 ∧ quo 0 d 1000000000 true = 0 := by simp [quo]

set_option maxHeartbeats 4000000 in
theorem ticksOrder_core (a b c : Int) (w : World) (hw : Pow10 w) :
    Calls Tryd.prog 4 #[.int .i64 a, .int .i64 b, .int .i64 c] w (RB w (.bool true)) := by
  have HW := Lib.hid hw; clear hw
  have rE := fun w => wwithinW a 7 w (by omega) (by omega)
  have E0 : 0 ≤ a % 7 := by omega
  have E1 : a % 7 < 7 := by omega
  generalize a % 7 = E at *
  have RE := Lib.hid rE; clear rE
  have rT := fun w => wwithinW a 4503599627370496 w (by omega) (by omega)
  have T0 : 0 ≤ a % 4503599627370496 := by omega
  have T1 : a % 4503599627370496 < 4503599627370496 := by omega
  generalize a % 4503599627370496 = T at *
  have RT := Lib.hid rT; clear rT
  have rU := fun w => wwithinW b 4503599627370496 w (by omega) (by omega)
  have U0 : 0 ≤ b % 4503599627370496 := by omega
  have U1 : b % 4503599627370496 < 4503599627370496 := by omega
  generalize b % 4503599627370496 = U at *
  have RU := Lib.hid rU; clear rU
  have rP := fun w => wwithinW c 1000001 w (by omega) (by omega)
  have P0 : 0 ≤ c % 1000001 := by omega
  have P1 : c % 1000001 < 1000001 := by omega
  generalize c % 1000001 = P at *
  have RP := Lib.hid rP; clear rP
  have v1 : vT (E * 4503599627370496 + T) = true := vT_true.2 (by omega)
  have v2 : vT (E * 4503599627370496 + U) = true := vT_true.2 (by omega)
  have q1 := wire_any (E * 4503599627370496 + T) v1
  have q2 := wire_any (E * 4503599627370496 + U) v2
  rw [show (E * 4503599627370496 + T) * 4096 % 18446744073709551616 = T * 4096 by omega] at q1
  rw [show (E * 4503599627370496 + U) * 4096 % 18446744073709551616 = U * 4096 by omega] at q2
  have q3 := scale_any (E * 4503599627370496 + T) 0 true
  have q4 := scale_any 0 P true
  rw [sclV_ok v1 (by omega) (by omega), (quo_zero _).1] at q3
  rw [sclV_ok rfl P0 (by omega), (quo_zero _).2] at q4
  have q5 := second_any (E * 4503599627370496 + T) (by omega) (by omega)
  have s0 : 0 ≤ (E * 4503599627370496 + T) / 1048576 := by omega
  have s1 : (E * 4503599627370496 + T) / 1048576 ≤ 68719476736 := by omega
  generalize (E * 4503599627370496 + T) / 1048576 = s at *
  have q6 := fun w => formatF (s * 1048576) (by omega) (by omega) w
  rw [fmt_whole] at q6
  have l0 := itoa_pos s
  have l1 := (itoa_len s 19 (by omega) (by omega) (by omega)).1
  generalize Lib.itoa s = ss at *
  have Q1 := Lib.hid q1; have Q2 := Lib.hid q2; have Q3 := Lib.hid q3; have Q4 := Lib.hid q4; have Q5 := Lib.hid q5; have Q6 := Lib.hid q6; clear q1 q2 q3 q4 q5 q6 v1 v2
  go_enter Tryd.func4, Tryd.ntmps4
  go_wp2_with fail
  refine (RE.out _).mono ?_
  rintro e wq1 ⟨rfl, rfl⟩
  go_wp2_with fail
  refine (RT.out _).mono ?_
  rintro e wq2 ⟨rfl, rfl⟩
  go_wp2_with fail
  refine (RU.out _).mono ?_
  rintro e wq3 ⟨rfl, rfl⟩
  go_wp2_with fail
  refine (Q1.out _).mono ?_
  rintro e wq4 ⟨rfl, rfl⟩
  go_wp2_with fail
  refine (Q2.out _).mono ?_
  rintro e wq5 ⟨rfl, rfl⟩
  go_wp2_with fail
  refine (Q3.out _).mono ?_
  rintro e wq6 ⟨rfl, nq6, rfl⟩
  go_wp2_with fail
  refine (RP.out _).mono ?_
  rintro e wq7 ⟨rfl, rfl⟩
  go_wp2_with fail
  refine (Q4.out _).mono ?_
  rintro e wq8 ⟨rfl, nq8, rfl⟩
  go_wp2_with fail
  refine (Q5.out _).mono ?_
  rintro e wq9 ⟨rfl, rfl⟩
  go_wp2_with fail
  refine (Q6.out _ (HW.out.below (by (repeat' (first | (with_reducible exact Below.refl _ _) | (with_reducible refine below_drewN ?_ _)))))).mono ?_
  rintro e w1 ⟨rfl, hb1⟩
  have K1 : Below w.heap.size w w1 := kept_call hb1 (by (repeat' (first | (with_reducible exact Below.refl _ _) | (with_reducible refine below_drewN ?_ _))))
  go_wp2_with fail
  refine (known10_any _ (HW.out.below K1)).mono ?_
  rintro e wk ⟨rfl, hbk⟩
  have K2 := kept_call hbk K1
  go_wp2
  go_ret
  have ht := tail_str ss [46, 48, 48, 48, 48, 48, 48, 48]
  exact ⟨by (simp; simpa using ht), K2⟩
theorem ticksOrder_walk (a : Int) (_ : IntIn a) (b : Int) (_ : IntIn b) (c : Int) (_ : IntIn c) (w : World) (hw : Pow10 w) :
    Walked 4 #[.int .i64 a, .int .i64 b, .int .i64 c] w := ticksOrder_core a b c w hw
end Go.Proofs.YtelmcglckkjmfaaDoor
