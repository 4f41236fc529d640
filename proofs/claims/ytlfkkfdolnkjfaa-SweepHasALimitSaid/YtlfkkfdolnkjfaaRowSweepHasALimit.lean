/- PROVED: SweepHasALimit: for every input the call returns true, and each argument reads afterwards as it did. No condition. -/
import Derived.Test.YtlfkkfdolnkjfaaFrameU
import Derived.Test.YtlfkkfdolnkjfaaLawLimit
namespace Go.Proofs.Ytlfkkfdolnkjfaa.sweepHasALimit
open Go.ChangeShapes Go.WideShapes Go.ChangeAt Go.RowKit

set_option maxRecDepth 100000 in
theorem lifted (os : Os) (started : os.Started) (H : Type) (enc : TypeId × Value → H) :
    ReturnsInHanded {} Try.checked os 9 .any (Rows.sweepHasALimitSpec.pre6 enc Try.prog Try.f9 Rows.sweepHasALimitRow.domain false) (Rows.sweepHasALimitSpec.post enc Try.prog Try.f9 false true false false) := by
  refine lift_law os started H enc _ _ _ Try.func9 (by kernel_rfl) rfl (of_decide_eq_true (by kernel_rfl)) rfl ?_
    (ChangeSpec.witness6 (enc := enc) (C := Try.checked) false ⟨#[], #[.int .u8 0], []⟩ 8 (by kernel_rfl) (by kernel_rfl) (by kernel_rfl) (by kernel_rfl)) ?_
  · intro ds hd
    match ds, hd with
    | [_], _ => rfl
  · intro W base args ds p hval hA
    rw [Try.params9] at hA hval
    have hsz := (trodAll_size hA).1
    obtain ⟨args⟩ := args
    match args, hsz with
    | [v0], _ =>
      obtain ⟨a0, rfl, w0, x0⟩ := come_u8 (hval 0 _ _ rfl rfl)
      exact limit_walk a0 w0 x0 W

theorem proved : Rows.SweepHasALimitSaid :=
  OpenClaim.holds_of_wide 9 Try.f9 rfl rfl rfl rfl rfl rfl rfl ⟨rfl, rfl, rfl, rfl, rfl⟩ rfl rfl rfl rfl rfl (by kernel_rfl) Try.func9 (by kernel_rfl)
    (of_decide_eq_true (by kernel_rfl)) (by unfold Func.isWrapper; first | (rw [if_pos (by decide +kernel)]; kernel_rfl) | (rw [if_neg (by decide +kernel)]; exact ⟨rfl, rfl⟩))
    (fun os started H enc _ => lifted os started H enc)
end Go.Proofs.Ytlfkkfdolnkjfaa.sweepHasALimit
