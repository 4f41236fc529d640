/- The common part of a list of spans (plain). -/
import Derived.Test.YtlfkkfdolnkjfaaI11L
namespace Go.Proofs.Ytlfkkfdolnkjfaa
open Go.RowKit

def stepC (c : (Int × Int) × Bool) (z : Int × Int) : (Int × Int) × Bool := if c.2 then ((mtLo c.1.1 c.1.2 z.1 z.2, mtHi c.1.1 c.1.2 z.1 z.2), mtB c.1.1 c.1.2 z.1 z.2) else c
def comS (ds : List (Int × Int)) (b : Bool) : (Int × Int) × Bool := ds.foldl stepC ((-1152921504606846976, 1152921504606846976), b)
theorem comS_snoc (ds : List (Int × Int)) (s : Int × Int) (b : Bool) : comS (ds ++ [s]) b = stepC (comS ds b) s := by simp [comS]
theorem take_snocC {α : Type} (d : α) (zs : List α) {k : Nat} (h : k < zs.length) : zs.take (k + 1) = zs.take k ++ [zs.getD k d] := by
  rw [List.take_succ_eq_append_getElem h, List.getD_eq_getElem?_getD, List.getElem?_eq_getElem h]; rfl
end Go.Proofs.Ytlfkkfdolnkjfaa
