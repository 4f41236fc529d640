/- Walks: the reference's quotients (below, Rounded), and plain laws of rounding. -/
import Derived.Test.YtlnboheahbfgfaaExact
namespace Go.Proofs.Ytlnboheahbfgfaa
open Go.RowKit

/-- What a call returns; nothing that was there is written. -/
def RB (w : World) (v : Value) (e : Ending) (w' : World) : Prop := e = .returned v ∧ Below w.heap.size w w'
end Go.Proofs.Ytlnboheahbfgfaa
