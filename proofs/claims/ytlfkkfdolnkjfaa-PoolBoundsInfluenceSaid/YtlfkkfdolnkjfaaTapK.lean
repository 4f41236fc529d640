/- Facts that are carried over calls of a tape. -/
import Derived.Test.YtlfkkfdolnkjfaaJ6
import Derived.Test.YtlfkkfdolnkjfaaKitG
namespace Go.Proofs.Ytlfkkfdolnkjfaa
open Go.RowKit
set_option linter.unusedSimpArgs false
set_option linter.unusedVariables false

theorem Kp.tap {w W W' : World} {b : Nat} (h : Kp w W) (hg : W.grownBy W' (some b)) (hb : w.heap.size ≤ b) : Kp w W' := below_grown h hg hb (Below.size h)
theorem Blk.tap {w w' : World} {g b : Nat} {t : TypeId} {cs : Array Value} (h : Blk w g t cs) (hg : w.grownBy w' (some b)) (hn : g ≠ b) : Blk w' g t cs := Blk.keepG hg h hn
theorem Past.tapg {b : Nat} {w w' : World} (h : Past [b] w w') : w.grownBy w' (some b) := Past.gb0 h (fun k hk => .inl (by simpa using hk))
end Go.Proofs.Ytlfkkfdolnkjfaa
