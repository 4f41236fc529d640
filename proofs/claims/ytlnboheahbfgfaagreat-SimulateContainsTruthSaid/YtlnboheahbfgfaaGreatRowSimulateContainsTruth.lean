/- PROVED: SimulateContainsTruth: for every input the call returns true, and each argument reads afterwards as it did. No condition. -/
import Derived.Test.YtlnboheahbfgfaaGreatJ0
import Derived.Test.YtlnboheahbfgfaaGreatSim10R
namespace Go.Proofs.YtlnboheahbfgfaaGreat.simulateContainsTruth
open Go.ChangeShapes Go.WideShapes Go.ChangeAt Go.RowKit

set_option maxRecDepth 100000 in
theorem lifted (os : Os) (started : os.Started) (H : Type) (enc : TypeId × Value → H) :
    ReturnsInHanded {} Tryz.checked os 8 .any (Rows.simulateContainsTruthSpec.pre6 enc Tryz.prog Tryz.f8 Rows.simulateContainsTruthRow.domain false) (Rows.simulateContainsTruthSpec.post enc Tryz.prog Tryz.f8 false true false false) := by
  refine lift_law os started H enc _ _ _ Tryz.func8 (by kernel_rfl) rfl (of_decide_eq_true (by kernel_rfl)) rfl ?_
    (ChangeSpec.witness6 (enc := enc) (C := Tryz.checked) false ⟨#[], #[.slice none 0 0], []⟩ 8 (by kernel_rfl) (by kernel_rfl) (by kernel_rfl) (by kernel_rfl)) ?_
  · intro ds hd
    match ds, hd with
    | [_], _ => rfl
  · intro W base args ds p hval hA
    rw [Tryz.params8] at hA hval
    have hsz := (trodAll_size hA).1
    obtain ⟨args⟩ := args
    match args, hsz with
    | [v0], _ =>
      have T := hA
      obtain ⟨_, _, t0, _, _, T⟩ := trods_cons T
      obtain ⟨A0, len0, cap0, zs0, rfl, w0⟩ := come_ints (hval 0 _ _ rfl rfl) t0
      exact truth41_row A0 len0 cap0 zs0 w0 W rfl

theorem proved : Rows.SimulateContainsTruthSaid :=
  OpenClaim.holds_of_wide 8 Tryz.f8 rfl rfl rfl rfl rfl rfl rfl ⟨rfl, rfl, rfl, rfl, rfl⟩ rfl rfl rfl rfl rfl (by kernel_rfl) Tryz.func8 (by kernel_rfl)
    (of_decide_eq_true (by kernel_rfl)) (by unfold Func.isWrapper; first | (rw [if_pos (by decide +kernel)]; kernel_rfl) | (rw [if_neg (by decide +kernel)]; exact ⟨rfl, rfl⟩))
    (fun os started H enc _ => lifted os started H enc)
end Go.Proofs.YtlnboheahbfgfaaGreat.simulateContainsTruth
