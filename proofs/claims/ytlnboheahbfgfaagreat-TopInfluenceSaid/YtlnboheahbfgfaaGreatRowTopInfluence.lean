/- PROVED: TopInfluence: for every input the call returns true, and each argument reads afterwards as it did. No condition. -/
import Derived.Test.YtlnboheahbfgfaaGreatJ0
import Derived.Test.YtlnboheahbfgfaaGreatLawInflR
namespace Go.Proofs.YtlnboheahbfgfaaGreat.topInfluence
open Go.ChangeShapes Go.WideShapes Go.ChangeAt Go.RowKit

set_option maxRecDepth 100000 in
theorem lifted (os : Os) (started : os.Started) (H : Type) (enc : TypeId × Value → H) :
    ReturnsInHanded {} Tryz.checked os 3 .any (Rows.topInfluenceSpec.pre6 enc Tryz.prog Tryz.f3 Rows.topInfluenceRow.domain false) (Rows.topInfluenceSpec.post enc Tryz.prog Tryz.f3 false true false false) := by
  refine lift_law os started H enc _ _ _ Tryz.func3 (by kernel_rfl) rfl (of_decide_eq_true (by kernel_rfl)) rfl ?_
    (ChangeSpec.witness6 (enc := enc) (C := Tryz.checked) false ⟨#[], #[.slice none 0 0, .int .i64 0, .int .i64 0], []⟩ 8 (by kernel_rfl) (by kernel_rfl) (by kernel_rfl) (by kernel_rfl)) ?_
  · intro ds hd
    match ds, hd with
    | [_, _, _], _ => rfl
  · intro W base args ds p hval hA
    rw [Tryz.params3] at hA hval
    have hsz := (trodAll_size hA).1
    obtain ⟨args⟩ := args
    match args, hsz with
    | [v0, v1, v2], _ =>
      have T := hA
      obtain ⟨_, _, t0, _, _, T⟩ := trods_cons T
      obtain ⟨_, _, t1, _, _, T⟩ := trods_cons T
      obtain ⟨_, _, t2, _, _, T⟩ := trods_cons T
      obtain ⟨A0, len0, cap0, zs0, rfl, w0⟩ := come_ints (hval 0 _ _ rfl rfl) t0
      obtain ⟨a1, rfl, w1⟩ := come_int (hval 1 _ _ rfl rfl)
      obtain ⟨a2, rfl, w2⟩ := come_int (hval 2 _ _ rfl rfl)
      exact infl_row A0 len0 cap0 zs0 w0 a1 w1 a2 w2 W rfl

theorem proved : Rows.TopInfluenceSaid :=
  OpenClaim.holds_of_wide 3 Tryz.f3 rfl rfl rfl rfl rfl rfl rfl ⟨rfl, rfl, rfl, rfl, rfl⟩ rfl rfl rfl rfl rfl (by kernel_rfl) Tryz.func3 (by kernel_rfl)
    (of_decide_eq_true (by kernel_rfl)) (by unfold Func.isWrapper; first | (rw [if_pos (by decide +kernel)]; kernel_rfl) | (rw [if_neg (by decide +kernel)]; exact ⟨rfl, rfl⟩))
    (fun os started H enc _ => lifted os started H enc)
end Go.Proofs.YtlnboheahbfgfaaGreat.topInfluence
