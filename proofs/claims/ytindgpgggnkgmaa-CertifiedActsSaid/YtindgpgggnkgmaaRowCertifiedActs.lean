/- PROVED: CertifiedActs: for every input the call returns true, and each argument reads afterwards as it did. No condition. -/
import Derived.Test.YtindgpgggnkgmaaFrameB
import Derived.Test.YtindgpgggnkgmaaLawCert
namespace Go.Proofs.Ytindgpgggnkgmaa.certifiedActs
open Go.ChangeShapes Go.WideShapes Go.ChangeAt Go.RowKit

set_option maxRecDepth 100000 in
theorem lifted (os : Os) (started : os.Started) (H : Type) (enc : TypeId × Value → H) :
    ReturnsInHanded {} Try.checked os 9 .any (Rows.certifiedActsSpec.pre6 enc Try.prog Try.f9 Rows.certifiedActsRow.domain false) (Rows.certifiedActsSpec.post enc Try.prog Try.f9 false true false false) := by
  refine lift_law os started H enc _ _ _ Try.func9 (by kernel_rfl) rfl (of_decide_eq_true (by kernel_rfl)) rfl ?_
    (ChangeSpec.witness6 (enc := enc) (C := Try.checked) false ⟨#[], #[.agg #[.int .i64 0, .int .i64 0, .int .i64 0, .int .i64 0, .int .i64 0, .int .i64 0], .int .i64 0, .agg #[.int .i64 0, .int .i64 0]], []⟩ 8 (by kernel_rfl) (by kernel_rfl) (by kernel_rfl) (by kernel_rfl)) ?_
  · intro ds hd
    match ds, hd with
    | [_, _, _], _ => rfl
  · intro W base args ds p hval hA
    rw [Try.params9] at hA hval
    have hsz := (trodAll_size hA).1
    obtain ⟨args⟩ := args
    match args, hsz with
    | [v0, v1, v2], _ =>
      obtain ⟨a0_0, a0_1, a0_2, a0_3, a0_4, a0_5, rfl, w0_0, w0_1, w0_2, w0_3, w0_4, w0_5⟩ := come_known (hval 0 _ _ rfl rfl)
      obtain ⟨a1, rfl, w1⟩ := come_int (hval 1 _ _ rfl rfl)
      obtain ⟨a2_0, a2_1, rfl, w2_0, w2_1⟩ := come_span (hval 2 _ _ rfl rfl)
      exact certActs_walk a0_0 a0_1 a0_2 a0_3 a0_4 a0_5 w0_0 w0_1 w0_2 w0_3 w0_4 w0_5 a1 w1 a2_0 a2_1 w2_0 w2_1 W

theorem proved : Rows.CertifiedActsSaid :=
  OpenClaim.holds_of_wide 9 Try.f9 rfl rfl rfl rfl rfl rfl rfl ⟨rfl, rfl, rfl, rfl, rfl⟩ rfl rfl rfl rfl rfl (by kernel_rfl) Try.func9 (by kernel_rfl)
    (of_decide_eq_true (by kernel_rfl)) (by unfold Func.isWrapper; first | (rw [if_pos (by decide +kernel)]; kernel_rfl) | (rw [if_neg (by decide +kernel)]; exact ⟨rfl, rfl⟩))
    (fun os started H enc _ => lifted os started H enc)
end Go.Proofs.Ytindgpgggnkgmaa.certifiedActs
