/- Walks: math/bits.Len64, LeadingZeros64, Mul64, Div64. -/
import Derived.Test.YtlnboheahbfgfaaBase
import Derived.Test.YtlnboheahbfgfaaPlainDiv
import Derived.Test.YtlnboheahbfgfaaLen
import Derived.Deep.QuietTactic
import Derived.BigQuiet
import Derived.Deep.DeepCutAuto
import Derived.Deep.CutBlock
import Derived.Lib.BitFns
import Derived.Lib.ItoaNum
import Derived.Lib.Mul64
import Derived.Laws.Bits64b
namespace Go.Proofs.Ytlnboheahbfgfaa
open Go.RowKit

theorem u64_mask (a : Nat) (ha : a < 18446744073709551616) : bits .and .u64 (a : Int) 4294967295 = ((a % 4294967296 : Nat) : Int) := by
  have h := bits_and_u64_nat a 4294967295 ha (by omega)
  rwa [show a &&& 4294967295 = a % 4294967296 from Nat.and_two_pow_sub_one_eq_mod a 32] at h
theorem nat_div (a : Nat) : (a : Int) / 4294967296 = ((a / 4294967296 : Nat) : Int) := by omega
theorem nat_mul (a b : Nat) : (a : Int) * (b : Int) = ((a * b : Nat) : Int) := (Int.natCast_mul a b).symm
theorem nat_add (a b : Nat) : (a : Int) + (b : Int) = ((a + b : Nat) : Int) := (Int.natCast_add a b).symm
theorem nat_wrap (a : Nat) (ha : a < 18446744073709551616) : IntKind.u64.wrap (a : Int) = (a : Int) := by rw [IntKind.wrap_u64]; omega
theorem nat_wrapM (a : Nat) : IntKind.u64.wrap (a : Int) = ((a % 18446744073709551616 : Nat) : Int) := by rw [IntKind.wrap_u64]; omega

/-- The rounds of a digit. -/
def DigRel (u c y1 y0 : Int) (qv rv : Value) : Prop := ∃ q r, qv = .int .u64 q ∧ rv = .int .u64 r ∧ DigitInv u c y1 y0 q r

end Go.Proofs.Ytlnboheahbfgfaa
