/- Facts that are carried from letter to letter of the world. -/
import Derived.Test.YtlnboheahbfgfaaKitT
namespace Go.Proofs.Ytlnboheahbfgfaa
open Go.RowKit
def Kp (w W : World) : Prop := Below w.heap.size w W
theorem Kp.below {w W W' : World} (h : Kp w W) (hb : Below W.heap.size W W') : Kp w W' := kept_call hb h
theorem Kp.b {w W : World} (h : Kp w W) : Below w.heap.size w W := h
theorem Blk.below {w w' : World} {g : Nat} {t : TypeId} {cs : Array Value} (h : Blk w g t cs) (hb : Below w.heap.size w w') : Blk w' g t cs := Blk.keep hb h
end Go.Proofs.Ytlnboheahbfgfaa
