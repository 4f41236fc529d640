/- How small numbers come in. -/
import Derived.Test.YtlfkkfdolnkjfaaFrameC
namespace Go.Proofs.Ytlfkkfdolnkjfaa
open Go.ChangeShapes Go.WideShapes Go.ChangeAt Go.RowKit

section
variable {W : World} {base : Nat}
set_option maxRecDepth 100000 in
theorem come_u8 {v : Value} (h : Value.okWide Try.prog W .any base 5 v) : ∃ a, v = .int .u8 a ∧ 0 ≤ a ∧ a < 256 := by
  simp only [Value.okWide, Try.underlying5, Cell.okWide, Cell.ok] at h
  cases v <;> simp_all [IntKind.has, IntKind.min, IntKind.max, IntKind.bits, IntKind.signed]
  omega
end
end Go.Proofs.Ytlfkkfdolnkjfaa
