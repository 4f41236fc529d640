/- Walks inside a fence: slices.Values over a slice of spans, slices.AppendSeq, slices.Collect of it. -/
import Derived.Deep.AppendLies
import Derived.LoopIn
import Derived.LoopNIn
import Derived.Maps.AppendAt
import Derived.OwnWalkIn
import Derived.RangeFuncBox
import Derived.RangeFuncLeaves
import Derived.RangeFuncNested
import Derived.Shelf.Abstract
import Derived.TacticsInMore
import Derived.Test.YtiinmhfolfgobaaGreatDoorJ11
set_option linter.unusedVariables false
set_option linter.unusedSimpArgs false
namespace Go.Proofs.YtiinmhfolfgobaaGreatDoor
open Go.RowKit Go.Shelf
attribute [local go_sem] Oper.semAt_some
def cellsS (zs : List (Int × Int)) : List Value := zs.flatMap fun z => [.int .i64 z.1, .int .i64 z.2]
theorem cellsS_length (zs : List (Int × Int)) : (cellsS zs).length = zs.length * 2 := by
 induction zs with
 | nil => rfl
 | cons z zs ih => simp only [cellsS, List.flatMap_cons, lla, List.length_cons, List.length_nil] at *; omega
theorem cellsS_snoc (zs : List (Int × Int)) (z : Int × Int) : cellsS (zs ++ [z]) = cellsS zs ++ [.int .i64 z.1, .int .i64 z.2] := by simp [cellsS]
theorem infoSpan : (Tryz.prog.info? 40).map (fun i => (i.zero, i.size, i.bytes)) = some (some (.agg #[.int .i64 0, .int .i64 0]), 2, 16) := by kernel_rfl
end Go.Proofs.YtiinmhfolfgobaaGreatDoor
