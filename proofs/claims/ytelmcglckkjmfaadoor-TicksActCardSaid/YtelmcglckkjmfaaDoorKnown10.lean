/- The walk of law10.known. -/
import Derived.Test.YtelmcglckkjmfaaDoorTicks1
import Derived.Test.YtelmcglckkjmfaaDoorBase
namespace Go.Proofs.YtelmcglckkjmfaaDoor
open Go.RowKit
set_option linter.unusedSimpArgs false
set_option linter.unusedVariables false

theorem itoa_len (n : Int) (k : Nat) (h0 : -(10 ^ k : Nat) < n) (h1 : n < (10 ^ k : Nat)) (hk : 1 ≤ k) : (Lib.itoa n).length ≤ k + 1 ∧ (0 ≤ n → (Lib.itoa n).length ≤ k) := by
  have H : ∀ (k u : Nat), 1 ≤ k → u < 10 ^ k → (Lib.decDigits u).length ≤ k := by
    intro k
    induction k with
    | zero => intro u h; omega
    | succ k ih =>
      intro u _ hu
      unfold Lib.decDigits
      split
      · simp
      · rename_i hge
        have : 1 ≤ k := by
          rcases Nat.eq_zero_or_pos k with h | h
          · subst h; simp at hu; omega
          · exact h
        have := ih (u / 10) this (by rw [Nat.pow_succ] at hu; omega)
        simp; omega
  unfold Lib.itoa
  split
  · have := H k n.natAbs hk (by omega)
    exact ⟨by simp; omega, fun h => by omega⟩
  · have := H k n.toNat hk (by omega)
    exact ⟨by omega, fun _ => this⟩
theorem fmt_len (t : Int) (h0 : -9223372036854775808 ≤ t) (h1 : t ≤ 9223372036854775807) : (Lib.itoa (t % 1048576)).length ≤ 7 ∧ (Lib.itoa (t / 1048576)).length ≤ 30 :=
  ⟨(itoa_len (t % 1048576) 7 (by omega) (by omega) (by omega)).2 (by omega), by have := (itoa_len (t / 1048576) 19 (by omega) (by omega) (by omega)).1; omega⟩
theorem formatF (t : Int) (h0 : -9223372036854775808 ≤ t) (h1 : t ≤ 9223372036854775807) (w : World) (hw : Pow10 w) : Calls Tryd.prog 14 #[.int .i64 t] w (RB w (.string ⟨(fmtS t).toArray⟩)) :=
  format_any t h0 h1 (fmt_len t h0 h1).1 (fmt_len t h0 h1).2 w hw

set_option maxHeartbeats 1000000 in
theorem known10_any (w : World) (hw : Pow10 w) :
    Calls Tryd.prog 12 #[] w (RB w (.bool true)) := by
  have r1 := wire_any 1572864 rfl
  rw [show (1572864 : Int) * 4096 % 18446744073709551616 = 6442450944 by decide] at r1
  have r2 := scale_any (-1) 1 false
  rw [show sclV (-1) 1 false = .tuple #[.int .i64 (-1), .int .i64 0] by kernel_rfl] at r2
  have r3 := fun w => formatF (-1) (by omega) (by omega) w
  rw [show fmtS (-1) = [45, 49, 46, 49, 48, 52, 56, 53, 55, 53] by decide +kernel] at r3
  have R1 := Lib.hid r1; have R2 := Lib.hid r2; have R3 := Lib.hid r3; have HW := Lib.hid hw; clear r1 r2 r3 hw
  go_enter Tryd.func12, Tryd.ntmps12
  go_wp2_with fail
  refine (R1.out _).mono ?_
  rintro e wq1 ⟨rfl, rfl⟩
  go_wp2_with fail
  refine (R2.out _).mono ?_
  rintro e wq2 ⟨rfl, nq2, rfl⟩
  go_wp2_with fail
  refine (R3.out _ (HW.out.below (below_drewN (Below.refl _ _) _))).mono ?_
  rintro e w3 ⟨rfl, hb3⟩
  go_wp2
  go_ret
  exact ⟨by simp, kept_call hb3 (below_drewN (Below.refl _ _) _)⟩
end Go.Proofs.YtelmcglckkjmfaaDoor
