/- PROVED: SimulateRuns: for every input the call returns true, and each argument reads afterwards as it did. No condition. -/
import Derived.Test.YtlnboheahbfgfaaGreatJ33
import Derived.Test.YtlnboheahbfgfaaGreatSim12R
namespace Go.Proofs.YtlnboheahbfgfaaGreat.simulateRuns
open Go.ChangeShapes Go.WideShapes Go.ChangeAt Go.RowKit

set_option maxRecDepth 100000 in
theorem lifted (os : Os) (started : os.Started) (H : Type) (enc : TypeId × Value → H) :
  ReturnsInHanded {} Tryz.checked os 6 .any (Rows.simulateRunsSpec.pre6 enc Tryz.prog Tryz.f6 Rows.simulateRunsRow.domain false) (Rows.simulateRunsSpec.post enc Tryz.prog Tryz.f6 false true false false) := by
 refine lift_law os started H enc _ _ _ Tryz.func6 (by kernel_rfl) rfl (of_decide_eq_true (by kernel_rfl)) rfl ?_
  (ChangeSpec.witness6 (enc := enc) (C := Tryz.checked) false ⟨#[], #[.agg #[.int .i64 0, .int .i64 0, .int .i64 0, .int .i64 0, .int .i64 0, .slice none 0 0, .slice none 0 0], .slice none 0 0], []⟩ 8 (by kernel_rfl) (by kernel_rfl) (by kernel_rfl) (by kernel_rfl)) ?_
 ·intro ds hd
  match ds, hd with
  | [_, _], _ => rfl
 ·intro W base args ds p hval hA
  rw [Tryz.params6] at hA hval
  have hsz := (trodAll_size hA).1
  obtain ⟨args⟩ := args
  match args, hsz with
  | [v0, v1], _ =>
   have T := hA
   obtain ⟨_, _, t0, _, _, T⟩ := trods_cons T
   obtain ⟨_, _, t1, _, _, T⟩ := trods_cons T
   obtain ⟨S0, A0, SA0, c0, sc0, rfl, w0⟩ := come_sched (hval 0 _ _ rfl rfl) t0
   obtain ⟨A1, len1, cap1, zs1, rfl, w1⟩ := come_ints (hval 1 _ _ rfl rfl) t1
   exact runs41_row S0 A0 SA0 c0 sc0 w0 A1 len1 cap1 zs1 w1 W rfl

theorem proved : Rows.SimulateRunsSaid :=
 OpenClaim.holds_of_wide 6 Tryz.f6 rfl rfl rfl rfl rfl rfl rfl ⟨rfl, rfl, rfl, rfl, rfl⟩ rfl rfl rfl rfl rfl (by kernel_rfl) Tryz.func6 (by kernel_rfl)
  (of_decide_eq_true (by kernel_rfl)) (by unfold Func.isWrapper; first | (rw [if_pos (by decide +kernel)]; kernel_rfl) | (rw [if_neg (by decide +kernel)]; exact ⟨rfl, rfl⟩))
  (fun os started H enc _ => lifted os started H enc)
end Go.Proofs.YtlnboheahbfgfaaGreat.simulateRuns
