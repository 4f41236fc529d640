/- Facts that are carried over calls of a tape. -/
import Derived.Test.YtlnboheahbfgfaaGreatJ6
import Derived.Test.YtlnboheahbfgfaaGreatKitG
namespace Go.Proofs.YtlnboheahbfgfaaGreat
open Go.RowKit
set_option linter.unusedSimpArgs false
set_option linter.unusedVariables false

theorem Kp.tap {w W W' : World} {b : Nat} (h : Kp w W) (hg : W.grownBy W' (some b)) (hb : w.heap.size ≤ b) : Kp w W' := below_grown h hg hb (Below.size h)
theorem Blk.tap {w w' : World} {g b : Nat} {t : TypeId} {cs : Array Value} (h : Blk w g t cs) (hg : w.grownBy w' (some b)) (hn : g ≠ b) : Blk w' g t cs := Blk.keepG hg h hn
end Go.Proofs.YtlnboheahbfgfaaGreat
