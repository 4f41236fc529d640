/- PROVED: IntervalMeaning: for every input the call returns true, and each argument reads afterwards as it did. No condition. -/
import Derived.Test.YteodoehhkhacoaaFrameB
import Derived.Test.YteodoehhkhacoaaLaw11M
namespace Go.Proofs.Yteodoehhkhacoaa.intervalMeaning
open Go.ChangeShapes Go.WideShapes Go.ChangeAt Go.RowKit

set_option maxRecDepth 100000 in
theorem lifted (os : Os) (started : os.Started) (H : Type) (enc : TypeId × Value → H) :
    ReturnsInHanded {} Try.checked os 11 .any (Rows.intervalMeaningSpec.pre6 enc Try.prog Try.f11 Rows.intervalMeaningRow.domain false) (Rows.intervalMeaningSpec.post enc Try.prog Try.f11 false true false false) := by
  refine lift_law os started H enc _ _ _ Try.func11 (by kernel_rfl) rfl (of_decide_eq_true (by kernel_rfl)) rfl ?_
    (ChangeSpec.witness6 (enc := enc) (C := Try.checked) false ⟨#[], #[.int .i64 0, .int .i64 0, .int .i64 0, .int .i64 0, .int .i64 0, .int .i64 0], []⟩ 8 (by kernel_rfl) (by kernel_rfl) (by kernel_rfl) (by kernel_rfl)) ?_
  · intro ds hd
    match ds, hd with
    | [_, _, _, _, _, _], _ => rfl
  · intro W base args ds p hval hA
    rw [Try.params11] at hA hval
    have hsz := (trodAll_size hA).1
    obtain ⟨args⟩ := args
    match args, hsz with
    | [v0, v1, v2, v3, v4, v5], _ =>
      obtain ⟨a0, rfl, w0⟩ := come_int (hval 0 _ _ rfl rfl)
      obtain ⟨a1, rfl, w1⟩ := come_int (hval 1 _ _ rfl rfl)
      obtain ⟨a2, rfl, w2⟩ := come_int (hval 2 _ _ rfl rfl)
      obtain ⟨a3, rfl, w3⟩ := come_int (hval 3 _ _ rfl rfl)
      obtain ⟨a4, rfl, w4⟩ := come_int (hval 4 _ _ rfl rfl)
      obtain ⟨a5, rfl, w5⟩ := come_int (hval 5 _ _ rfl rfl)
      exact intervalMeaning_walk a0 w0 a1 w1 a2 w2 a3 w3 a4 w4 a5 w5 W

theorem proved : Rows.IntervalMeaningSaid :=
  OpenClaim.holds_of_wide 11 Try.f11 rfl rfl rfl rfl rfl rfl rfl ⟨rfl, rfl, rfl, rfl, rfl⟩ rfl rfl rfl rfl rfl (by kernel_rfl) Try.func11 (by kernel_rfl)
    (of_decide_eq_true (by kernel_rfl)) (by unfold Func.isWrapper; first | (rw [if_pos (by decide +kernel)]; kernel_rfl) | (rw [if_neg (by decide +kernel)]; exact ⟨rfl, rfl⟩))
    (fun os started H enc _ => lifted os started H enc)
end Go.Proofs.Yteodoehhkhacoaa.intervalMeaning
