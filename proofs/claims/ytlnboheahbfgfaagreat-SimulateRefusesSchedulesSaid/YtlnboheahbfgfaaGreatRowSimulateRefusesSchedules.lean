/- PROVED: SimulateRefusesSchedules: for every input the call returns true, and each argument reads afterwards as it did. No condition. -/
import Derived.Test.YtlnboheahbfgfaaGreatJ0
import Derived.Test.YtlnboheahbfgfaaGreatSim13R
namespace Go.Proofs.YtlnboheahbfgfaaGreat.simulateRefusesSchedules
open Go.ChangeShapes Go.WideShapes Go.ChangeAt Go.RowKit

set_option maxRecDepth 100000 in
theorem lifted (os : Os) (started : os.Started) (H : Type) (enc : TypeId × Value → H) :
  ReturnsInHanded {} Tryz.checked os 7 .any (Rows.simulateRefusesSchedulesSpec.pre6 enc Tryz.prog Tryz.f7 Rows.simulateRefusesSchedulesRow.domain false) (Rows.simulateRefusesSchedulesSpec.post enc Tryz.prog Tryz.f7 false true false false) := by
 refine lift_law os started H enc _ _ _ Tryz.func7 (by kernel_rfl) rfl (of_decide_eq_true (by kernel_rfl)) rfl ?_
  (ChangeSpec.witness6 (enc := enc) (C := Tryz.checked) false ⟨#[], #[.slice none 0 0, .int .i64 0, .int .i64 0, .int .i64 0], []⟩ 8 (by kernel_rfl) (by kernel_rfl) (by kernel_rfl) (by kernel_rfl)) ?_
 ·intro ds hd
  match ds, hd with
  | [_, _, _, _], _ => rfl
 ·intro W base args ds p hval hA
  rw [Tryz.params7] at hA hval
  have hsz := (trodAll_size hA).1
  obtain ⟨args⟩ := args
  match args, hsz with
  | [v0, v1, v2, v3], _ =>
   have T := hA
   obtain ⟨_, _, t0, _, _, T⟩ := trods_cons T
   obtain ⟨_, _, t1, _, _, T⟩ := trods_cons T
   obtain ⟨_, _, t2, _, _, T⟩ := trods_cons T
   obtain ⟨_, _, t3, _, _, T⟩ := trods_cons T
   obtain ⟨A0, len0, cap0, zs0, rfl, w0⟩ := come_ints (hval 0 _ _ rfl rfl) t0
   obtain ⟨a1, rfl, w1⟩ := come_int (hval 1 _ _ rfl rfl)
   obtain ⟨a2, rfl, w2⟩ := come_int (hval 2 _ _ rfl rfl)
   obtain ⟨a3, rfl, w3⟩ := come_int (hval 3 _ _ rfl rfl)
   exact refuses_row A0 len0 cap0 zs0 w0 a1 w1 a2 w2 a3 w3 W rfl

theorem proved : Rows.SimulateRefusesSchedulesSaid :=
 OpenClaim.holds_of_wide 7 Tryz.f7 rfl rfl rfl rfl rfl rfl rfl ⟨rfl, rfl, rfl, rfl, rfl⟩ rfl rfl rfl rfl rfl (by kernel_rfl) Tryz.func7 (by kernel_rfl)
  (of_decide_eq_true (by kernel_rfl)) (by unfold Func.isWrapper; first | (rw [if_pos (by decide +kernel)]; kernel_rfl) | (rw [if_neg (by decide +kernel)]; exact ⟨rfl, rfl⟩))
  (fun os started H enc _ => lifted os started H enc)
end Go.Proofs.YtlnboheahbfgfaaGreat.simulateRefusesSchedules
