/- A drawn region, each operation shown once, where a slot is read and written by it. -/
import Derived.Test.YtlnboheahbfgfaaCalm
namespace Go.Proofs.Ytlnboheahbfgfaa
open Go
section
variable {P : Program} {ops : Array Oper}
variable {A : (Nat → Value) → Act}
end
end Go.Proofs.Ytlnboheahbfgfaa
